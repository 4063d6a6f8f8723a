import Derived.Test.YtlhlhpgjnjjhnaaGreatDoorProg
import Derived.Test.YtlhlhpgjnjjhnaaGreatDoorZ1
set_option maxHeartbeats 16000000
set_option maxRecDepth 20000
open Go Go.RowKit Go.Proofs.YtlhlhpgjnjjhnaaGreatDoor.K
set_option linter.unusedVariables false
set_option maxRecDepth 100000
namespace Go.Proofs.YtlhlhpgjnjjhnaaGreatDoor.T
section
variable (K:zae) (E:zb2) (k1 k2:Env -> Hp -> Prop) (x0 x1 x2 x3 x4 x5 x6 x7 x8 x9 x10 x11 x12 x13 x14 x15 x16 x17 x18 x19 x20 x21 x22 x23 x24 x25 x26 x27 x28 x29 x30 x31 x32 x33 x34 x35 x36 x37 x38 x39 x40 x41 x42 x43 x44 x45 x46 x47 x48 x49 x50 x51 x52 x53 x54 x55 x56 x57 x58 x59 x60 x61 x62 x63 x64 x65 x66 x67 x68 x69 x70 x71 x72 x73 x74 x75 x76 x77 x78 x79 x80 x81 x82 x83 v0 v3 v5 v6 v7 v8 v10 v30 v57:Value) (j:Nat -> Value)
abbrev yje:=cQ Tryz.f103 K E
abbrev zwq:=cD Tryz.f103
abbrev zvh:=za6 k1 (blk 0 (za6 (zwq [1,1,1] (yje K E)) (yje K E)))
def ze5 (j:Nat -> Value):Env:=#[x0,x1,x2,v3,x4,(j 5),x6,x7,v8,(j 9),(j 10),(j 11),(j 12),(j 13),(j 14),(j 15),(j 16),(j 17),(j 18),(j 19),(j 20),(j 21),x22]
theorem ybk:zwq [] (yje K E) #[x0,U,U,U,U,U,U,U,U,U,U,U,U,U,U,U,U,U,U,U,U,U,U] =
 pv (zab x0) λt1=>
 lp (λk1=>zwq [1,1,0,1,0,0] (zvh K E k1)) (ze5 x0 U (.slice none 0 0) U x0 t1 U (.slice none 0 0) (.int .i64 0) (jf #[])):=by kernel_rfl
theorem zt3:zwq [1,1,0,1,0,0] (zvh K E k1) (ze5 x0 x1 x2 x4 x6 x7 x22 v3 v8 j) =
 pv (za2 .none .lss v8 x7) λt1=>
 cnd t1 (
  pv (iaV none 2 x6 v8) λt2=>
  ld true 2 t2 λt3=>
  nw 110 [(.slice none 0 0),(.int .i64 0)] λt4=>
  st 2 t4 t3 λ_=>
  pv (faV 0 t4) λt5=>
  ld false 1 t5 λt6=>
  pv (faV 1 t4) λt7=>
  ld false 1 t7 λt8=>
  cF 122 #[t6] (λt9 h10=>(ldV h10 false 1 t7 t8)∧(
  pv (bdC #[(.slice none 0 0),(.int .i64 0)] [(0,1),(1,1)] #[(0,t9),(1,t8)]) λt11=>
  nws 110 1 (bsC #[(.slice none 0 0),(.int .i64 0)] 2 1 #[(0,t11)]) λt12=>
  zdl 110 2 32 v3 t12 λt13=>
  pv (za2 .none .add v8 (.int .i64 1)) λt14=>
  k1 (ze5 x0 x1 x2 x4 x6 x7 x22 t13 t14 (jf #[U,U,U,U,U,t4,U,U,U,t1,t2,t3,v3,t5,t6,t9,t7,t8,t11,t12,t13,t14]))) h10) E) (
  K v3):=by kernel_rfl
abbrev ywx:=cQ Tryz.f104 K E
abbrev yx0:=cD Tryz.f104
theorem zoc:yx0 [] (ywx K E) #[x0,x1,x2,U,U,U,U,U,U,U] =
 nw 110 (Value.cells x0).toList λt1=>
 ld false 1 x1 λt2=>
 ld true 2 t1 λt3=>
 ld false 1 x2 λt4=>
 zbs Tryz.prog t2 #[t3] (λt5 h6=>(ldV h6 false 1 x2 t4)∧(
  pv (za2 .bool .neq t5 t4) λt7=>
  K t7) h6) E:=by kernel_rfl
abbrev ytz:=cQ Tryz.f105 K E
abbrev yrz:=cD Tryz.f105
theorem znw:yrz [] (ytz K E) #[x0,x1,x2,U,U,U,U,U,U,U,U,U,U,U,U,U,U,U,U,U,U,U,U,U,U] =
 nw 110 (Value.cells x0).toList λt1=>
 pv (faV 0 t1) λt2=>
 ld false 1 t2 λt3=>
 pv (zab t3) λt4=>
 pv (za2 .none .gtr t4 (.int .i64 0)) λt5=>
 gdK t5 true (λk=>pv (faV 0 t1) k) λt6=>
 gdK t5 true (λk=>ld false 1 t6 k) λt7=>
 gdK t5 true (λk=>pv (iaV none 1 t7 (.int .i64 0)) k) λt8=>
 gdK t5 true (λk=>ld false 1 t8 k) λt9=>
 gdK t5 true (λk=>ld false 1 x1 k) λt10=>
 gdK t5 true (λk=>pv (za2 .none .geq t9 t10) k) λt11=>
 pv (zad t5 t11 (.bool false)) λt12=>
 gdK t12 true (λk=>pv (faV 0 t1) k) λt13=>
 gdK t12 true (λk=>ld false 1 t13 k) λt14=>
 gdK t12 true (λk=>pv (iaV none 1 t14 (.int .i64 0)) k) λt15=>
 gdK t12 true (λk=>ld false 1 t15 k) λt16=>
 gdK t12 true (λk=>ld false 1 x2 k) λt17=>
 gdK t12 true (λk=>pv (za2 .none .lss t16 t17) k) λt18=>
 pv (zad t12 t18 (.bool false)) λt19=>
 K t19:=by kernel_rfl
abbrev ykj:=cQ Tryz.f106 K E
abbrev zwz:=cD Tryz.f106
abbrev zub:=za6 k1 (blk 0 (za6 (zwz [1,1] (ykj K E)) (ykj K E)))
def zf6 (j:Nat -> Value):Env:=#[v0,x1,x2,x3,x4,x5,x6,v7,x8,x9,(j 10),(j 11),(j 12),(j 13),(j 14),(j 15),(j 16),(j 17),(j 18),(j 19),(j 20),(j 21),(j 22),x23]
theorem zgx:zwz [] (ykj K E) #[x0,x1,x2,U,U,U,U,U,U,U,U,U,U,U,U,U,U,U,U,U,U,U,U,U] =
 pv (za2 .none .sub x2 (.int .i64 1)) λt1=>
 lp (λk1=>zwz [1,0,1,0,0] (zub K E k1)) (zf6 x1 x2 U U U (.slice none 0 0) x2 t1 U x0 t1 (jf #[])):=by kernel_rfl
theorem zw5:zwz [1,0,1,0,0] (zub K E k1) (zf6 x1 x2 x3 x4 x5 x6 x8 x9 x23 v0 v7 j) =
 pv (za2 .none .geq v7 (.int .i64 0)) λt1=>
 cnd t1 (
  pv (cvV .u64 v7) λt2=>
  pv (za2 .none .mul (.int .u64 8) t2) λt3=>
  pv (za2 .none .shr x1 t3) λt4=>
  pv (cvV .u8 t4) λt5=>
  nws 5 1 (bsC #[(.int .u8 0)] 1 1 #[(0,t5)]) λt6=>
  zdl 5 1 1 v0 t6 λt7=>
  pv (za2 .none .sub v7 (.int .i64 1)) λt8=>
  k1 (zf6 x1 x2 x3 x4 x5 x6 x8 x9 x23 t7 t8 (jf #[U,U,U,U,U,U,U,U,U,U,v7,t1,v7,t8,v0,x1,v7,t2,t3,t4,t5,t6,t7]))) (
  K v0):=by kernel_rfl
abbrev zls:=cQ Tryz.f107 K E
abbrev zhn:=cD Tryz.f107
abbrev zu1:=za6 k2 (blk 2 (za6 (zhn [1,1,0,1,0,0,1,0,0,1,1] (blk 1 (za6 (zhn [1,1,0,1,0,0,1,1] (za6 k1 (blk 0 (za6 (zhn [1,1,1] (zls K E)) (zls K E))))) (za6 k1 (blk 0 (za6 (zhn [1,1,1] (zls K E)) (zls K E))))))) (blk 1 (za6 (zhn [1,1,0,1,0,0,1,1] (za6 k1 (blk 0 (za6 (zhn [1,1,1] (zls K E)) (zls K E))))) (za6 k1 (blk 0 (za6 (zhn [1,1,1] (zls K E)) (zls K E))))))))
abbrev zus:=za6 k1 (blk 0 (za6 (zhn [1,1,1] (zls K E)) (zls K E)))
def zea (j:Nat -> Value):Env:=#[v0,x1,x2,x3,x4,v5,(j 6),x7,x8,x9,x10,x11,(j 12),(j 13),(j 14),(j 15),(j 16),(j 17),(j 18),(j 19),(j 20),(j 21),(j 22),(j 23),(j 24),(j 25),(j 26),(j 27),(j 28),(j 29),(j 30),(j 31),(j 32),(j 33),(j 34),(j 35),(j 36),(j 37),(j 38),(j 39),(j 40),(j 41),(j 42),(j 43),(j 44),(j 45),(j 46),(j 47),(j 48),(j 49),(j 50),(j 51),(j 52),(j 53),(j 54),(j 55),x56]
def zbu (j:Nat -> Value):Env:=#[v0,x1,x2,x3,x4,x5,v6,x7,x8,x9,x10,x11,x12,x13,x14,x15,x16,x17,x18,x19,x20,x21,x22,x23,x24,x25,x26,(j 27),(j 28),(j 29),(j 30),(j 31),(j 32),(j 33),(j 34),(j 35),(j 36),(j 37),(j 38),(j 39),(j 40),(j 41),(j 42),(j 43),(j 44),(j 45),(j 46),(j 47),x48,x49,x50,x51,x52,x53,x54,x55,x56]
theorem zo9:zhn [] (zls K E) #[x0,x1,U,U,U,U,U,U,U,U,U,U,U,U,U,U,U,U,U,U,U,U,U,U,U,U,U,U,U,U,U,U,U,U,U,U,U,U,U,U,U,U,U,U,U,U,U,U,U,U,U,U,U,U,U,U,U] =
 pv (zab x1) λt1=>
 pv (cvV .u64 t1) λt2=>
 cF 106 #[x0,t2,(.int .i64 4)] (λt3=>
 lp (λk1=>zhn [1,1,0,1,0,0] (zus K E k1)) (zea x1 U U (.slice none 0 0) x0 x1 t1 t2 t3 U t3 (.int .i64 0) (jf #[]))) E:=by kernel_rfl
theorem zs8:zhn [1,1,0,1,0,0] (zus K E k1) (zea x1 x2 x3 x4 x7 x8 x9 x10 x11 x56 v0 v5 j) =
 pv (zab x1) λt1=>
 pv (za2 .none .lss v5 t1) λt2=>
 cnd t2 (
  pv (iaV none 2 x1 v5) λt3=>
  pv (faV 0 t3) λt4=>
  ld false 1 t4 λt5=>
  pv (zab t5) λt6=>
  pv (cvV .u64 t6) λt7=>
  cF 106 #[v0,t7,(.int .i64 1)] (λt8=>
  lp (λk2=>zhn [1,1,0,1,0,0,1,0,0,1,0,1,0,0] (zu1 K E k1 k2)) (zbu x1 x2 x3 x4 v5 x7 x8 x9 x10 x11 v5 x1 t1 t2 (j 16) (j 17) v0 x1 v5 t3 t4 t5 t6 t7 t8 (j 48) (j 49) (j 50) (j 51) (j 52) (j 53) (j 54) (j 55) x56 t8 (.int .i64 0) (jf #[U,U,U,U,U,U,U,U,U,U,U,U,U,U,U,U,U,U,U,U,U,U,U,U,U,U,U,(j 27),(j 28),(j 29),(j 30),(j 31),(j 32),(j 33),(j 34),(j 35),(j 36),(j 37),(j 38),(j 39),(j 40),(j 41),(j 42),(j 43),(j 44),(j 45),(j 46),(j 47)]))) E) (
  K v0):=by kernel_rfl
theorem zis:zhn [1,1,0,1,0,0,1,0,0,1,0,1,0,0] (zu1 K E k1 k2) (zbu x1 x2 x3 x4 x5 x7 x8 x9 x10 x11 x12 x13 x14 x15 x16 x17 x18 x19 x20 x21 x22 x23 x24 x25 x26 x48 x49 x50 x51 x52 x53 x54 x55 x56 v0 v6 j) =
 pv (iaV none 2 x1 x5) λt1=>
 pv (faV 0 t1) λt2=>
 ld false 1 t2 λt3=>
 pv (zab t3) λt4=>
 pv (za2 .none .lss v6 t4) λt5=>
 cnd t5 (
  pv (iaV none 2 x1 x5) λt6=>
  pv (faV 0 t6) λt7=>
  ld false 1 t7 λt8=>
  pv (iaV none 1 t8 v6) λt9=>
  ld false 1 t9 λt10=>
  pv (cvV .u64 t10) λt11=>
  cF 106 #[v0,t11,(.int .i64 4)] (λt12=>
  pv (za2 .none .add v6 (.int .i64 1)) λt13=>
  k2 (zbu x1 x2 x3 x4 x5 x7 x8 x9 x10 x11 x12 x13 x14 x15 x16 x17 x18 x19 x20 x21 x22 x23 x24 x25 x26 x48 x49 x50 x51 x52 x53 x54 x55 x56 t12 t13 (jf #[U,U,U,U,U,U,U,U,U,U,U,U,U,U,U,U,U,U,U,U,U,U,U,U,U,U,U,v6,x1,x5,t1,t2,t3,t4,t5,v6,t13,v0,x1,x5,t6,t7,t8,v6,t9,t10,t11,t12]))) E) (
  pv (iaV none 2 x1 x5) λt14=>
  pv (faV 1 t14) λt15=>
  ld false 1 t15 λt16=>
  pv (cvV .u64 t16) λt17=>
  cF 106 #[v0,t17,(.int .i64 8)] (λt18=>
  pv (za2 .none .add x5 (.int .i64 1)) λt19=>
  k1 (zea x1 x2 x3 x4 x7 x8 x9 x10 x11 x56 t18 t19 (jf #[U,U,U,U,U,U,v6,U,U,U,U,U,x12,x13,x14,x15,x5,t19,x18,x19,x20,x21,x22,x23,x24,x25,x26,v6,x1,x5,t1,t2,t3,t4,t5,(j 35),(j 36),(j 37),(j 38),(j 39),(j 40),(j 41),(j 42),(j 43),(j 44),(j 45),(j 46),(j 47),v0,x1,x5,t14,t15,t16,t17,t18]))) E):=by kernel_rfl
abbrev yve:=cQ Tryz.f122 K E
abbrev yt9:=cD Tryz.f122
theorem ye6:yt9 [] (yve K E) #[x0,U,U,U,U,U,U,U] =
 pv (za2 .slc .eql x0 (.slice none 0 0)) λt1=>
 cnd t1 (
  K (.slice none 0 0)) (
  nws 3 0 (bsC #[(.int .i64 0)] 1 0 #[]) λt2=>
  zdl 3 1 8 t2 x0 λt3=>
  K t3):=by kernel_rfl
abbrev ywf:=cQ Tryz.f129 K E
abbrev ysf:=cD Tryz.f129
theorem yiw:ysf [] (ywf K E) #[x0,U,U,U,U,U,U,U,U,U,U,U,U,U,U,U] =
 pv (zab x0) λt1=>
 pv (za2 .none .gtr t1 (.int .i64 0)) λt2=>
 gdK t2 true (λk=>k x0) λt3=>
 gdK t2 true (λk=>pv (zab t3) k) λt4=>
 gdK t2 true (λk=>pv (za2 .none .leq t4 (.int .i64 4)) k) λt5=>
 pv (zad t2 t5 (.bool false)) λt6=>
 gdK t6 true (λk=>k x0) λt7=>
 gdK t6 true (λk=>cF 180 #[t7,(.func (.func 181) #[] #[])] k E) λt8=>
 gdK t6 true (λk=>pv (unV .not t8) k) λt9=>
 pv (zad t6 t9 (.bool false)) λt10=>
 K t10:=by kernel_rfl
abbrev zs2:=cQ Tryz.f135 K E
abbrev zse:=cD Tryz.f135
theorem yv5:zse [] (zs2 K E) #[x0,x1,x2,U,U,U,U,U,U,U,U,U,U,U,U,U,U,U,U,U,U,U,U,U,U,U,U,U,U,U,U,U,U,U,U,U,U,U,U,U,U,U,U,U] =
 pv (zai x0) λt1=>
 pv (faV 0 t1) λt2=>
 ld false 1 t2 λt3=>
 cF 166 #[t3,x1] (λt4=>
 pv (exV 0 t4) λt5=>
 pv (exV 1 t4) λt6=>
 cF 98 #[x0,x2] (λt7=>
 pv (unV .not t7) λt8=>
 cnd t8 (
  K (.int .u16 1)) (
  pv (za2 .none .eql x1 (.int .u32 0)) λt9=>
  cnd t9 (
  zse [1,1,0,0,1,1,1] (blk 0 (za6 (zse [1,1,1] (zs2 K E)) (zs2 K E))) #[x0,x1,x2,U,U,U,(.int .u16 0),t5,t6,t4,x0,t1,t2,t3,x1,t4,t5,t6,t8,x0,x2,t7,t8,t9,x1,t9,U,U,U,U,U,U,U,U,U,U,U,U,U,U,U,U,U,U]) (
  zse [1,1,0,0,1,1,1] (blk 0 (za6 (zse [1,1,1] (zs2 K E)) (zs2 K E))) #[x0,x1,x2,U,U,U,(.int .u16 0),t5,t6,t4,x0,t1,t2,t3,x1,t4,t5,t6,t8,x0,x2,t7,t8,t6,x1,t9,t6,U,U,U,U,U,U,U,U,U,U,U,U,U,U,U,U,U]))) E) E:=by kernel_rfl
theorem zkl:zse [1,1,0,0,1,1,1] (blk 0 (za6 (zse [1,1,1] (zs2 K E)) (zs2 K E))) #[x0,x1,x2,x3,x4,x5,x6,x7,x8,x9,x10,x11,x12,x13,x14,x15,x16,x17,x18,x19,x20,x21,x22,x23,x24,x25,x26,x27,x28,x29,x30,x31,x32,x33,x34,x35,x36,x37,x38,x39,x40,x41,x42,x43] =
 cnd x23 (
  K (.int .u16 130)) (
  pv (zai x0) λt1=>
  pv (faV 0 t1) λt2=>
  ld false 1 t2 λt3=>
  pv (zab t3) λt4=>
  pv (za2 .none .geq t4 (.int .i64 5000)) λt5=>
  cnd t5 (
  K (.int .u16 3)) (
  pv (zai x0) λt6=>
  pv (faV 0 t6) λt7=>
  ld false 1 t7 λt8=>
  cF 186 #[t8,x1,x2] (λt9=>
  pv (zai x0) λt10=>
  pv (faV 0 t10) λt11=>
  st 1 t11 t9 λ_=>
  K (.int .u16 0)) E)):=by kernel_rfl
abbrev zzj:=cQ Tryz.f136 K E
abbrev zha:=cD Tryz.f136
abbrev zlp:=za6 k1 (blk 2 (za6 (zha [1,1,1,1,1,1] (zzj K E)) (zzj K E)))
abbrev zld:=za6 k1 (blk 0 (za6 (zha [1,1,1,1,1] (zzj K E)) (zzj K E)))
def zcq (j:Nat -> Value):Env:=#[x0,x1,x2,x3,x4,x5,x6,x7,x8,x9,v10,x11,(j 12),(j 13),x14,x15,x16,x17,x18,x19,x20,x21,x22,x23,x24,x25,x26,x27,x28,x29,v30,(j 31),(j 32),(j 33),(j 34),(j 35),(j 36),(j 37),(j 38),(j 39),(j 40),(j 41),(j 42),(j 43),(j 44),(j 45),(j 46),(j 47),(j 48),(j 49),(j 50),(j 51),(j 52),(j 53),(j 54),x55,x56,x57,x58,x59,x60,x61,x62,x63,x64,x65,x66,x67,x68,x69,x70,x71,x72,x73,x74,x75,x76,x77,x78,x79,x80,x81,x82,x83]
def zcf (j:Nat -> Value):Env:=#[x0,x1,x2,x3,x4,x5,x6,x7,x8,x9,v10,x11,x12,x13,x14,(j 15),x16,x17,x18,x19,x20,x21,x22,x23,x24,x25,x26,x27,x28,x29,x30,x31,x32,x33,x34,x35,x36,x37,x38,x39,x40,x41,x42,x43,x44,x45,x46,x47,x48,x49,x50,x51,x52,x53,x54,x55,x56,v57,(j 58),(j 59),(j 60),(j 61),(j 62),(j 63),(j 64),(j 65),(j 66),(j 67),(j 68),(j 69),(j 70),(j 71),x72,x73,x74,x75,x76,x77,x78,x79,x80,x81,x82,x83]
theorem yw0:zha [] (zzj K E) #[x0,x1,x2,x3,U,U,U,U,U,U,U,U,U,U,U,U,U,U,U,U,U,U,U,U,U,U,U,U,U,U,U,U,U,U,U,U,U,U,U,U,U,U,U,U,U,U,U,U,U,U,U,U,U,U,U,U,U,U,U,U,U,U,U,U,U,U,U,U,U,U,U,U,U,U,U,U,U,U,U,U,U,U,U,U] =
 cF 52 #[x1,x2] (λt1=>
 cF 187 #[x0,t1,x3] (λt2=>
 pv (unV .not t2) λt3=>
 cnd t3 (
  K (.int .u16 1)) (
  pv (zai x0) λt4=>
  pv (faV 0 t4) λt5=>
  ld false 1 t5 λt6=>
  pv (zab t6) λt7=>
  lp (λk1=>zha [1,1,1,1,0,1,0,0] (zld K E k1)) (zcq x0 x1 x2 x3 U U U U (.int .u16 0) t1 U U U U x1 x2 t1 x0 t1 x3 t2 t3 x0 t4 t5 t6 t7 U U U U U U U U U U U U U U U U U U U U U U U U U U U U U (.slice none 0 0) (.int .i64 0) (jf #[])))) E) E:=by kernel_rfl
theorem zou:zha [1,1,1,1,0,1,0,0] (zld K E k1) (zcq x0 x1 x2 x3 x4 x5 x6 x7 x8 x9 x11 x14 x15 x16 x17 x18 x19 x20 x21 x22 x23 x24 x25 x26 x27 x28 x29 x55 x56 x57 x58 x59 x60 x61 x62 x63 x64 x65 x66 x67 x68 x69 x70 x71 x72 x73 x74 x75 x76 x77 x78 x79 x80 x81 x82 x83 v10 v30 j) =
 pv (za2 .none .lss v30 x29) λt1=>
 cnd t1 (
  pv (iaV none 2 x28 v30) λt2=>
  ld true 2 t2 λt3=>
  nw 143 [(.int .u32 0),(.slice none 0 0)] λt4=>
  st 2 t4 t3 λ_=>
  pv (faV 1 t4) λt5=>
  ld false 1 t5 λt6=>
  cF 51 #[t6,x9,(.bool false)] (λt7=>
  pv (zab t7) λt8=>
  pv (za2 .none .gtr t8 (.int .i64 0)) λt9=>
  gdK t9 false (λk=>pv (faV 1 t4) k) λt10=>
  gdK t9 false (λk=>ld false 1 t10 k) λt11=>
  gdK t9 false (λk=>pv (zab t11) k) λt12=>
  gdK t9 false (λk=>pv (za2 .none .eql t12 (.int .i64 0)) k) λt13=>
  pv (zad t9 (.bool true) t13) λt14=>
  cnd t14 (
  pv (faV 0 t4) λt15=>
  ld false 1 t15 λt16=>
  pv (bdC #[(.int .u32 0),(.slice none 0 0)] [(0,1),(1,1)] #[(0,t16),(1,t7)]) λt17=>
  nws 143 1 (bsC #[(.int .u32 0),(.slice none 0 0)] 2 1 #[(0,t17)]) λt18=>
  zdl 143 2 32 v10 t18 λt19=>
  zha [1,1,1,1,0,1,0,0,1,1,1] (zld K E k1) #[x0,x1,x2,x3,x4,x5,x6,x7,x8,x9,t19,x11,t4,t7,x14,x15,x16,x17,x18,x19,x20,x21,x22,x23,x24,x25,x26,x27,x28,x29,v30,t1,t2,t3,t5,t6,x9,t7,t7,t8,t9,t9,t10,t11,t12,t13,t14,v10,t15,t16,t7,t17,t18,t19,(j 54),x55,x56,x57,x58,x59,x60,x61,x62,x63,x64,x65,x66,x67,x68,x69,x70,x71,x72,x73,x74,x75,x76,x77,x78,x79,x80,x81,x82,x83]) (
  zha [1,1,1,1,0,1,0,0,1,1,1] (zld K E k1) #[x0,x1,x2,x3,x4,x5,x6,x7,x8,x9,v10,x11,t4,t7,x14,x15,x16,x17,x18,x19,x20,x21,x22,x23,x24,x25,x26,x27,x28,x29,v30,t1,t2,t3,t5,t6,x9,t7,t7,t8,t9,t9,t10,t11,t12,t13,t14,(j 47),(j 48),(j 49),(j 50),(j 51),(j 52),(j 53),(j 54),x55,x56,x57,x58,x59,x60,x61,x62,x63,x64,x65,x66,x67,x68,x69,x70,x71,x72,x73,x74,x75,x76,x77,x78,x79,x80,x81,x82,x83])) E) (
  pv (zab x3) λt20=>
  lp (λk1=>zha [1,1,1,1,1,0,1,0,0] (zlp K E k1)) (zcf x0 x1 x2 x3 x4 x5 x6 x7 x8 x9 x11 (j 12) (j 13) x14 x16 x17 x18 x19 x20 x21 x22 x23 x24 x25 x26 x27 x28 x29 v30 t1 (j 32) (j 33) (j 34) (j 35) (j 36) (j 37) (j 38) (j 39) (j 40) (j 41) (j 42) (j 43) (j 44) (j 45) (j 46) (j 47) (j 48) (j 49) (j 50) (j 51) (j 52) (j 53) (j 54) x3 t20 x72 x73 x74 x75 x76 x77 x78 x79 x80 x81 x82 x83 v10 (.int .i64 0) (jf #[U,U,U,U,U,U,U,U,U,U,U,U,U,U,U,x15,U,U,U,U,U,U,U,U,U,U,U,U,U,U,U,U,U,U,U,U,U,U,U,U,U,U,U,U,U,U,U,U,U,U,U,U,U,U,U,U,U,U,x58,x59,x60,x61,x62,x63,x64,x65,x66,x67,x68,x69,x70,x71]))):=by kernel_rfl
theorem zh1:zha [1,1,1,1,0,1,0,0,1,1,1] (zld K E k1) #[x0,x1,x2,x3,x4,x5,x6,x7,x8,x9,x10,x11,x12,x13,x14,x15,x16,x17,x18,x19,x20,x21,x22,x23,x24,x25,x26,x27,x28,x29,x30,x31,x32,x33,x34,x35,x36,x37,x38,x39,x40,x41,x42,x43,x44,x45,x46,x47,x48,x49,x50,x51,x52,x53,x54,x55,x56,x57,x58,x59,x60,x61,x62,x63,x64,x65,x66,x67,x68,x69,x70,x71,x72,x73,x74,x75,x76,x77,x78,x79,x80,x81,x82,x83] =
 pv (za2 .none .add x30 (.int .i64 1)) λt1=>
 k1 (zcq x0 x1 x2 x3 x4 x5 x6 x7 x8 x9 x11 x14 x15 x16 x17 x18 x19 x20 x21 x22 x23 x24 x25 x26 x27 x28 x29 x55 x56 x57 x58 x59 x60 x61 x62 x63 x64 x65 x66 x67 x68 x69 x70 x71 x72 x73 x74 x75 x76 x77 x78 x79 x80 x81 x82 x83 x10 t1 (jf #[U,U,U,U,U,U,U,U,U,U,U,U,x12,x13,U,U,U,U,U,U,U,U,U,U,U,U,U,U,U,U,U,x31,x32,x33,x34,x35,x36,x37,x38,x39,x40,x41,x42,x43,x44,x45,x46,x47,x48,x49,x50,x51,x52,x53,t1])):=by kernel_rfl
theorem zmq:zha [1,1,1,1,1,0,1,0,0] (zlp K E k1) (zcf x0 x1 x2 x3 x4 x5 x6 x7 x8 x9 x11 x12 x13 x14 x16 x17 x18 x19 x20 x21 x22 x23 x24 x25 x26 x27 x28 x29 x30 x31 x32 x33 x34 x35 x36 x37 x38 x39 x40 x41 x42 x43 x44 x45 x46 x47 x48 x49 x50 x51 x52 x53 x54 x55 x56 x72 x73 x74 x75 x76 x77 x78 x79 x80 x81 x82 x83 v10 v57 j) =
 pv (za2 .none .lss v57 x56) λt1=>
 cnd t1 (
  pv (iaV none 2 x55 v57) λt2=>
  ld true 2 t2 λt3=>
  nw 143 [(.int .u32 0),(.slice none 0 0)] λt4=>
  st 2 t4 t3 λ_=>
  pv (faV 1 t4) λt5=>
  ld false 1 t5 λt6=>
  pv (zab t6) λt7=>
  pv (za2 .none .gtr t7 (.int .i64 0)) λt8=>
  cnd t8 (
  pv (faV 0 t4) λt9=>
  ld false 1 t9 λt10=>
  pv (faV 1 t4) λt11=>
  ld false 1 t11 λt12=>
  cF 186 #[v10,t10,t12] (λt13=>
  zha [1,1,1,1,1,0,1,0,0,1,1,1] (zlp K E k1) #[x0,x1,x2,x3,x4,x5,x6,x7,x8,x9,t13,x11,x12,x13,x14,t4,x16,x17,x18,x19,x20,x21,x22,x23,x24,x25,x26,x27,x28,x29,x30,x31,x32,x33,x34,x35,x36,x37,x38,x39,x40,x41,x42,x43,x44,x45,x46,x47,x48,x49,x50,x51,x52,x53,x54,x55,x56,v57,t1,t2,t3,t5,t6,t7,t8,v10,t9,t10,t11,t12,t13,(j 71),x72,x73,x74,x75,x76,x77,x78,x79,x80,x81,x82,x83]) E) (
  zha [1,1,1,1,1,0,1,0,0,1,1,1] (zlp K E k1) #[x0,x1,x2,x3,x4,x5,x6,x7,x8,x9,v10,x11,x12,x13,x14,t4,x16,x17,x18,x19,x20,x21,x22,x23,x24,x25,x26,x27,x28,x29,x30,x31,x32,x33,x34,x35,x36,x37,x38,x39,x40,x41,x42,x43,x44,x45,x46,x47,x48,x49,x50,x51,x52,x53,x54,x55,x56,v57,t1,t2,t3,t5,t6,t7,t8,(j 65),(j 66),(j 67),(j 68),(j 69),(j 70),(j 71),x72,x73,x74,x75,x76,x77,x78,x79,x80,x81,x82,x83])) (
  pv (zab v10) λt14=>
  pv (za2 .none .gtr t14 (.int .i64 5000)) λt15=>
  gdK t15 false (λk=>k v10) λt16=>
  gdK t15 false (λk=>k (.func (.func 188) #[] #[])) λt17=>
  gdK t15 false (λk=>cF 189 #[t16,t17] k E) λt18=>
  pv (zad t15 (.bool true) t18) λt19=>
  cnd t19 (
  K (.int .u16 3)) (
  pv (zai x0) λt20=>
  pv (faV 0 t20) λt21=>
  st 1 t21 v10 λ_=>
  K (.int .u16 0))):=by kernel_rfl
theorem zgh:zha [1,1,1,1,1,0,1,0,0,1,1,1] (zlp K E k1) #[x0,x1,x2,x3,x4,x5,x6,x7,x8,x9,x10,x11,x12,x13,x14,x15,x16,x17,x18,x19,x20,x21,x22,x23,x24,x25,x26,x27,x28,x29,x30,x31,x32,x33,x34,x35,x36,x37,x38,x39,x40,x41,x42,x43,x44,x45,x46,x47,x48,x49,x50,x51,x52,x53,x54,x55,x56,x57,x58,x59,x60,x61,x62,x63,x64,x65,x66,x67,x68,x69,x70,x71,x72,x73,x74,x75,x76,x77,x78,x79,x80,x81,x82,x83] =
 pv (za2 .none .add x57 (.int .i64 1)) λt1=>
 k1 (zcf x0 x1 x2 x3 x4 x5 x6 x7 x8 x9 x11 x12 x13 x14 x16 x17 x18 x19 x20 x21 x22 x23 x24 x25 x26 x27 x28 x29 x30 x31 x32 x33 x34 x35 x36 x37 x38 x39 x40 x41 x42 x43 x44 x45 x46 x47 x48 x49 x50 x51 x52 x53 x54 x55 x56 x72 x73 x74 x75 x76 x77 x78 x79 x80 x81 x82 x83 x10 t1 (jf #[U,U,U,U,U,U,U,U,U,U,U,U,U,U,U,x15,U,U,U,U,U,U,U,U,U,U,U,U,U,U,U,U,U,U,U,U,U,U,U,U,U,U,U,U,U,U,U,U,U,U,U,U,U,U,U,U,U,U,x58,x59,x60,x61,x62,x63,x64,x65,x66,x67,x68,x69,x70,t1])):=by kernel_rfl
abbrev ywo:=cQ Tryz.f142 K E
abbrev yur:=cD Tryz.f142
theorem yq9:yur [] (ywo K E) #[x0,x1,U,U,U,U,U,U,U] =
 cF 152 #[x0,x1] (λt1=>
 pv (za2 .none .geq t1 (.int .i64 0)) λt2=>
 K t2) E:=by kernel_rfl
abbrev yui:=cQ Tryz.f143 K E
abbrev ywy:=cD Tryz.f143
theorem ywd:ywy [] (yui K E) #[x0,x1,U,U,U,U,U,U,U,U,U,U] =
 nw 110 (Value.cells x0).toList λt1=>
 ld false 1 x1 λt2=>
 pv (zai t2) λt3=>
 pv (faV 1 t3) λt4=>
 ld false 1 t4 λt5=>
 pv (faV 0 t1) λt6=>
 ld false 1 t6 λt7=>
 cF 144 #[t5,t7] (λt8=>
 pv (unV .not t8) λt9=>
 K t9) E:=by kernel_rfl
abbrev ytc:=cQ Tryz.f144 K E
abbrev yww:=cD Tryz.f144
theorem yts:yww [] (ytc K E) #[x0,x1,U,U,U,U,U,U] =
 cF 201 #[x0,x1,(.func (.func 202) #[] #[])] (λt1=>
 K t1) E:=by kernel_rfl
end
section
variable {K:zae} {E:zb2} {k1 k2:Env -> Hp -> Prop} {σ:Type} {x0 x1 x2 x3 x4 x5 x6 x7 x8 x9 x10 x11 x12 x13 x14 x15 x16 x17 x18 x19 x20 x21 x22 x23 x24 x25 x26 x27 x28 x29 x30 x31 x32 x33 x34 x35 x36 x37 x38 x39 x40 x41 x42 x43 x44 x45 x46 x47 x48 x49 x50 x51 x52 x53 x54 x55 x56 x57 x58 x59 x60 x61 x62 x63 x64 x65 x66 x67 x68 x69 x70 x71 x72 x73 x74 x75 x76 x77 x78 x79 x80 x81 x82 x83 v0 v3 v5 v6 v7 v8 v10 v30 v57:Value} {h:Hp} {j:Nat -> Value}
theorem zsx (f3 f8:σ -> Value) (I:σ -> Hp -> Prop) (μ:σ -> Nat) (s0:σ) (e3:v3=f3 s0) (e8:v8=f8 s0) (h0:h.wf -> ∃ h',h.wk h'∧I s0 h')
 (round:∀ (k1:Env -> Hp -> Prop) (s:σ) (j:Nat -> Value) (h:Hp),I s h -> h.wf -> (∀ s' j' h',μ s'<μ s -> (h'.wf -> ∃ h'',h'.wk h''∧I s' h'') -> k1 (ze5 x0 x1 x2 x4 x6 x7 x22 (f3 s') (f8 s') j') h') -> zwq [1,1,0,1,0,0] (zvh K E k1) (ze5 x0 x1 x2 x4 x6 x7 x22 (f3 s) (f8 s) j) h) :
 lp (λk1=>zwq [1,1,0,1,0,0] (zvh K E k1)) (ze5 x0 x1 x2 x4 x6 x7 x22 v3 v8 j) h:=by
 subst e3;subst e8;exact zaw _ I μ round s0 j h0
theorem zwl (f0 f7:σ -> Value) (I:σ -> Hp -> Prop) (μ:σ -> Nat) (s0:σ) (e0:v0=f0 s0) (e7:v7=f7 s0) (h0:h.wf -> ∃ h',h.wk h'∧I s0 h')
 (round:∀ (k1:Env -> Hp -> Prop) (s:σ) (j:Nat -> Value) (h:Hp),I s h -> h.wf -> (∀ s' j' h',μ s'<μ s -> (h'.wf -> ∃ h'',h'.wk h''∧I s' h'') -> k1 (zf6 x1 x2 x3 x4 x5 x6 x8 x9 x23 (f0 s') (f7 s') j') h') -> zwz [1,0,1,0,0] (zub K E k1) (zf6 x1 x2 x3 x4 x5 x6 x8 x9 x23 (f0 s) (f7 s) j) h) :
 lp (λk1=>zwz [1,0,1,0,0] (zub K E k1)) (zf6 x1 x2 x3 x4 x5 x6 x8 x9 x23 v0 v7 j) h:=by
 subst e0;subst e7;exact zaw _ I μ round s0 j h0
theorem zsw (f0 f5:σ -> Value) (I:σ -> Hp -> Prop) (μ:σ -> Nat) (s0:σ) (e0:v0=f0 s0) (e5:v5=f5 s0) (h0:h.wf -> ∃ h',h.wk h'∧I s0 h')
 (round:∀ (k1:Env -> Hp -> Prop) (s:σ) (j:Nat -> Value) (h:Hp),I s h -> h.wf -> (∀ s' j' h',μ s'<μ s -> (h'.wf -> ∃ h'',h'.wk h''∧I s' h'') -> k1 (zea x1 x2 x3 x4 x7 x8 x9 x10 x11 x56 (f0 s') (f5 s') j') h') -> zhn [1,1,0,1,0,0] (zus K E k1) (zea x1 x2 x3 x4 x7 x8 x9 x10 x11 x56 (f0 s) (f5 s) j) h) :
 lp (λk1=>zhn [1,1,0,1,0,0] (zus K E k1)) (zea x1 x2 x3 x4 x7 x8 x9 x10 x11 x56 v0 v5 j) h:=by
 subst e0;subst e5;exact zaw _ I μ round s0 j h0
theorem zj1 (f0 f6:σ -> Value) (I:σ -> Hp -> Prop) (μ:σ -> Nat) (s0:σ) (e0:v0=f0 s0) (e6:v6=f6 s0) (h0:h.wf -> ∃ h',h.wk h'∧I s0 h')
 (round:∀ (k2:Env -> Hp -> Prop) (s:σ) (j:Nat -> Value) (h:Hp),I s h -> h.wf -> (∀ s' j' h',μ s'<μ s -> (h'.wf -> ∃ h'',h'.wk h''∧I s' h'') -> k2 (zbu x1 x2 x3 x4 x5 x7 x8 x9 x10 x11 x12 x13 x14 x15 x16 x17 x18 x19 x20 x21 x22 x23 x24 x25 x26 x48 x49 x50 x51 x52 x53 x54 x55 x56 (f0 s') (f6 s') j') h') -> zhn [1,1,0,1,0,0,1,0,0,1,0,1,0,0] (zu1 K E k1 k2) (zbu x1 x2 x3 x4 x5 x7 x8 x9 x10 x11 x12 x13 x14 x15 x16 x17 x18 x19 x20 x21 x22 x23 x24 x25 x26 x48 x49 x50 x51 x52 x53 x54 x55 x56 (f0 s) (f6 s) j) h) :
 lp (λk2=>zhn [1,1,0,1,0,0,1,0,0,1,0,1,0,0] (zu1 K E k1 k2)) (zbu x1 x2 x3 x4 x5 x7 x8 x9 x10 x11 x12 x13 x14 x15 x16 x17 x18 x19 x20 x21 x22 x23 x24 x25 x26 x48 x49 x50 x51 x52 x53 x54 x55 x56 v0 v6 j) h:=by
 subst e0;subst e6;exact zaw _ I μ round s0 j h0
theorem zo8 (f10 f30:σ -> Value) (I:σ -> Hp -> Prop) (μ:σ -> Nat) (s0:σ) (e10:v10=f10 s0) (e30:v30=f30 s0) (h0:h.wf -> ∃ h',h.wk h'∧I s0 h')
 (round:∀ (k1:Env -> Hp -> Prop) (s:σ) (j:Nat -> Value) (h:Hp),I s h -> h.wf -> (∀ s' j' h',μ s'<μ s -> (h'.wf -> ∃ h'',h'.wk h''∧I s' h'') -> k1 (zcq x0 x1 x2 x3 x4 x5 x6 x7 x8 x9 x11 x14 x15 x16 x17 x18 x19 x20 x21 x22 x23 x24 x25 x26 x27 x28 x29 x55 x56 x57 x58 x59 x60 x61 x62 x63 x64 x65 x66 x67 x68 x69 x70 x71 x72 x73 x74 x75 x76 x77 x78 x79 x80 x81 x82 x83 (f10 s') (f30 s') j') h') -> zha [1,1,1,1,0,1,0,0] (zld K E k1) (zcq x0 x1 x2 x3 x4 x5 x6 x7 x8 x9 x11 x14 x15 x16 x17 x18 x19 x20 x21 x22 x23 x24 x25 x26 x27 x28 x29 x55 x56 x57 x58 x59 x60 x61 x62 x63 x64 x65 x66 x67 x68 x69 x70 x71 x72 x73 x74 x75 x76 x77 x78 x79 x80 x81 x82 x83 (f10 s) (f30 s) j) h) :
 lp (λk1=>zha [1,1,1,1,0,1,0,0] (zld K E k1)) (zcq x0 x1 x2 x3 x4 x5 x6 x7 x8 x9 x11 x14 x15 x16 x17 x18 x19 x20 x21 x22 x23 x24 x25 x26 x27 x28 x29 x55 x56 x57 x58 x59 x60 x61 x62 x63 x64 x65 x66 x67 x68 x69 x70 x71 x72 x73 x74 x75 x76 x77 x78 x79 x80 x81 x82 x83 v10 v30 j) h:=by
 subst e10;subst e30;exact zaw _ I μ round s0 j h0
theorem zmt (f10 f57:σ -> Value) (I:σ -> Hp -> Prop) (μ:σ -> Nat) (s0:σ) (e10:v10=f10 s0) (e57:v57=f57 s0) (h0:h.wf -> ∃ h',h.wk h'∧I s0 h')
 (round:∀ (k1:Env -> Hp -> Prop) (s:σ) (j:Nat -> Value) (h:Hp),I s h -> h.wf -> (∀ s' j' h',μ s'<μ s -> (h'.wf -> ∃ h'',h'.wk h''∧I s' h'') -> k1 (zcf x0 x1 x2 x3 x4 x5 x6 x7 x8 x9 x11 x12 x13 x14 x16 x17 x18 x19 x20 x21 x22 x23 x24 x25 x26 x27 x28 x29 x30 x31 x32 x33 x34 x35 x36 x37 x38 x39 x40 x41 x42 x43 x44 x45 x46 x47 x48 x49 x50 x51 x52 x53 x54 x55 x56 x72 x73 x74 x75 x76 x77 x78 x79 x80 x81 x82 x83 (f10 s') (f57 s') j') h') -> zha [1,1,1,1,1,0,1,0,0] (zlp K E k1) (zcf x0 x1 x2 x3 x4 x5 x6 x7 x8 x9 x11 x12 x13 x14 x16 x17 x18 x19 x20 x21 x22 x23 x24 x25 x26 x27 x28 x29 x30 x31 x32 x33 x34 x35 x36 x37 x38 x39 x40 x41 x42 x43 x44 x45 x46 x47 x48 x49 x50 x51 x52 x53 x54 x55 x56 x72 x73 x74 x75 x76 x77 x78 x79 x80 x81 x82 x83 (f10 s) (f57 s) j) h) :
 lp (λk1=>zha [1,1,1,1,1,0,1,0,0] (zlp K E k1)) (zcf x0 x1 x2 x3 x4 x5 x6 x7 x8 x9 x11 x12 x13 x14 x16 x17 x18 x19 x20 x21 x22 x23 x24 x25 x26 x27 x28 x29 x30 x31 x32 x33 x34 x35 x36 x37 x38 x39 x40 x41 x42 x43 x44 x45 x46 x47 x48 x49 x50 x51 x52 x53 x54 x55 x56 x72 x73 x74 x75 x76 x77 x78 x79 x80 x81 x82 x83 v10 v57 j) h:=by
 subst e10;subst e57;exact zaw _ I μ round s0 j h0
end
section
variable (K:zae) (E:zb2) (k1:Env -> Hp -> Prop) (x0 x1 x2 x3 x4 x5 x6 x7 x8 x9 x10 x11 x12 x13 x14 x15 x16 x17 x18 x19 x20 x21 x22 v3 v7 v8 v12 v23:Value) (j:Nat -> Value)
abbrev yky:=cQ Tryz.f152 K E
abbrev zwx:=cD Tryz.f152
abbrev zu7:=za6 k1 (blk 0 (za6 (zwx [1,1] (yky K E)) (yky K E)))
def zez (j:Nat -> Value):Env:=#[x0,x1,x2,x3,(j 4),(j 5),x6,x7,v8,(j 9),(j 10),(j 11),(j 12),(j 13),(j 14),(j 15),(j 16),(j 17),(j 18)]
theorem yj4:zwx [] (yky K E) #[x0,x1,U,U,U,U,U,U,U,U,U,U,U,U,U,U,U,U,U] =
 pv (zab x0) λt1=>
 lp (λk1=>zwx [1,0,1,0,0] (zu7 K E k1)) (zez x0 x1 U U x0 t1 (.int .i64 0) (jf #[U,U,U,U,(.int .i64 0)])):=by kernel_rfl
theorem zjw:zwx [1,0,1,0,0] (zu7 K E k1) (zez x0 x1 x2 x3 x6 x7 v8 j) =
 pv (za2 .none .lss v8 x7) λt1=>
 cnd t1 (
  pv (iaV none 2 x0 v8) λt2=>
  ld true 2 t2 λt3=>
  zbs Tryz.prog x1 #[t3] (λt4=>
  cnd t4 (
  K v8) (
  pv (za2 .none .add v8 (.int .i64 1)) λt5=>
  k1 (zez x0 x1 x2 x3 x6 x7 t5 (jf #[U,U,U,U,(j 4),v8,U,U,U,t1,v8,x1,x0,v8,t2,t3,t4,(j 17),t5])))) E) (
  K (.int .i64 (-1))):=by kernel_rfl
abbrev yw3:=cQ Tryz.f166 K E
abbrev ytj:=cD Tryz.f166
theorem yw2:ytj [] (yw3 K E) #[x0,x1,U,U,U,U,U,U,U,U,U] =
 cF 218 #[x0,x1,(.func (.func 219) #[] #[])] (λt1=>
 pv (exV 0 t1) λt2=>
 pv (exV 1 t1) λt3=>
 K (.tuple #[t2,t3])) E:=by kernel_rfl
abbrev ywe:=cQ Tryz.f180 K E
abbrev yu8:=cD Tryz.f180
theorem yvd:yu8 [] (ywe K E) #[x0,x1,U,U,U,U,U,U,U] =
 cF 243 #[x0,x1] (λt1=>
 pv (za2 .none .geq t1 (.int .i64 0)) λt2=>
 K t2) E:=by kernel_rfl
abbrev yx7:=cQ Tryz.f181 K E
abbrev yu5:=cD Tryz.f181
theorem ys5:yu5 [] (yx7 K E) #[x0,U,U,U,U,U] =
 nw 108 (Value.cells x0).toList λt1=>
 ld true 2 t1 λt2=>
 cF 182 #[t2] (λt3=>
 pv (unV .not t3) λt4=>
 K t4) E:=by kernel_rfl
abbrev ylf:=cQ Tryz.f182 K E
abbrev zx7:=cD Tryz.f182
abbrev zvq:=za6 k1 (blk 0 (za6 (zx7 [1,1,1,1] (ylf K E)) (ylf K E)))
def zd6 (j:Nat -> Value):Env:=#[x0,x1,(j 2),v3,x4,(j 5),x6,x7,x8,x9,x10,x11,x12,x13,x14,x15,x16,x17,x18,x19,x20,x21,x22,v23,(j 24),(j 25),(j 26),(j 27),(j 28),(j 29),(j 30),(j 31),(j 32),(j 33),(j 34),(j 35),(j 36),(j 37),(j 38),(j 39),(j 40),(j 41)]
theorem ysl:zx7 [] (ylf K E) #[x0,U,U,U,U,U,U,U,U,U,U,U,U,U,U,U,U,U,U,U,U,U,U,U,U,U,U,U,U,U,U,U,U,U,U,U,U,U,U,U,U,U] =
 nw 108 (Value.cells x0).toList λt1=>
 pv (faV 0 t1) λt2=>
 ld false 1 t2 λt3=>
 pv (za2 .none .lss t3 (.int .i64 1)) λt4=>
 gdK t4 false (λk=>pv (faV 0 t1) k) λt5=>
 gdK t4 false (λk=>ld false 1 t5 k) λt6=>
 gdK t4 false (λk=>pv (za2 .none .gtr t6 (.int .i64 10000)) k) λt7=>
 pv (zad t4 (.bool true) t7) λt8=>
 gdK t8 false (λk=>pv (faV 1 t1) k) λt9=>
 gdK t8 false (λk=>ld false 1 t9 k) λt10=>
 gdK t8 false (λk=>pv (zab t10) k) λt11=>
 gdK t8 false (λk=>pv (za2 .none .gtr t11 (.int .i64 4)) k) λt12=>
 pv (zad t8 (.bool true) t12) λt13=>
 cnd t13 (
  K (.bool false)) (
  pv (faV 1 t1) λt14=>
  ld false 1 t14 λt15=>
  pv (zab t15) λt16=>
  lp (λk1=>zx7 [1,1,1,0,1,0,0] (zvq K E k1)) (zd6 x0 t1 U t2 t3 t4 t4 t5 t6 t7 t8 t8 t9 t10 t11 t12 t13 t14 t15 t16 (.int .i64 1) (.int .i64 0) (jf #[U,U,(.bool false)]))):=by kernel_rfl
theorem zpw:zx7 [1,1,1,0,1,0,0] (zvq K E k1) (zd6 x0 x1 x4 x6 x7 x8 x9 x10 x11 x12 x13 x14 x15 x16 x17 x18 x19 x20 x21 x22 v3 v23 j) =
 pv (za2 .none .lss v23 x22) λt1=>
 cnd t1 (
  pv (iaV none 1 x21 v23) λt2=>
  ld false 1 t2 λt3=>
  pv (za2 .none .leq t3 v3) λt4=>
  gdK t4 false (λk=>k t3) λt5=>
  gdK t4 false (λk=>pv (za2 .none .gtr t5 (.int .i64 10000)) k) λt6=>
  pv (zad t4 (.bool true) t6) λt7=>
  gdK t7 false (λk=>k t3) λt8=>
  gdK t7 false (λk=>k v3) λt9=>
  gdK t7 false (λk=>pv (za2 .none .rem t8 t9) k) λt10=>
  gdK t7 false (λk=>pv (za2 .none .neq t10 (.int .i64 0)) k) λt11=>
  pv (zad t7 (.bool true) t11) λt12=>
  cnd t12 (
  K (.bool false)) (
  pv (za2 .none .add v23 (.int .i64 1)) λt13=>
  k1 (zd6 x0 x1 x4 x6 x7 x8 x9 x10 x11 x12 x13 x14 x15 x16 x17 x18 x19 x20 x21 x22 t3 t13 (jf #[U,U,(j 2),U,U,t3,U,U,U,U,U,U,U,U,U,U,U,U,U,U,U,U,U,U,t1,t2,t3,t3,v3,t4,t4,t5,t6,t7,t7,t8,t9,t10,t11,t12,t3,t13])))) (
  K (.bool true)):=by kernel_rfl
abbrev yu7:=cQ Tryz.f186 K E
abbrev yv6:=cD Tryz.f186
theorem yqa:yv6 [] (yu7 K E) #[x0,x1,x2,U,U,U,U,U,U,U,U,U,U,U,U,U,U,U,U,U,U,U,U,U,U,U,U,U,U,U,U,U,U,U,U,U,U,U] =
 cF 166 #[x0,x1] (λt1=>
 pv (exV 0 t1) λt2=>
 pv (exV 1 t1) λt3=>
 cnd t3 (
  pv (iaV none 2 x0 t2) λt4=>
  pv (faV 1 t4) λt5=>
  ld false 1 t5 λt6=>
  cF 103 #[x2] (λt7 h8=>(ldV h8 false 1 t5 t6)∧(
  nws 39 2 (bsC #[(.slice none 0 0)] 1 2 #[(0,t6),(1,t7)]) λt9=>
  cF 247 #[t9] (λt10=>
  pv (iaV none 2 x0 t2) λt11=>
  pv (faV 1 t11) λt12=>
  st 1 t12 t10 λ_=>
  K x0) E) h8) E) (
  cF 103 #[x2] (λt13=>
  pv (bdC #[(.int .u32 0),(.slice none 0 0)] [(0,1),(1,1)] #[(0,x1),(1,t13)]) λt14=>
  nws 143 1 (bsC #[(.int .u32 0),(.slice none 0 0)] 2 1 #[(0,t14)]) λt15=>
  cF 248 #[x0,t2,t15] (λt16=>
  K t16) E) E)) E:=by kernel_rfl
abbrev yjd:=cQ Tryz.f187 K E
abbrev zx0:=cD Tryz.f187
abbrev zu8:=za6 k1 (blk 0 (za6 (zx0 [1,1,1] (yjd K E)) (yjd K E)))
def ze9 (j:Nat -> Value):Env:=#[x0,x1,x2,x3,x4,x5,(j 6),v7,x8,(j 9),x10,x11,v12,(j 13),(j 14),(j 15),(j 16),(j 17),(j 18),(j 19),(j 20),(j 21),(j 22),(j 23),(j 24),(j 25),(j 26),(j 27),(j 28),(j 29),(j 30),(j 31),(j 32),(j 33),(j 34),(j 35),(j 36),(j 37)]
theorem ywg:zx0 [] (yjd K E) #[x0,x1,x2,U,U,U,U,U,U,U,U,U,U,U,U,U,U,U,U,U,U,U,U,U,U,U,U,U,U,U,U,U,U,U,U,U,U,U] =
 pv (zab x2) λt1=>
 lp (λk1=>zx0 [1,1,0,1,0,0] (zu8 K E k1)) (ze9 x0 x1 x2 U U U U x2 t1 (.int .u32 0) (.int .i64 0) (jf #[U,U,U,U,U,U,(.bool false)])):=by kernel_rfl
theorem zth:zx0 [1,1,0,1,0,0] (zu8 K E k1) (ze9 x0 x1 x2 x3 x4 x5 x8 x10 x11 v7 v12 j) =
 pv (za2 .none .lss v12 x11) λt1=>
 cnd t1 (
  pv (iaV none 2 x10 v12) λt2=>
  ld true 2 t2 λt3=>
  nw 143 [(.int .u32 0),(.slice none 0 0)] λt4=>
  st 2 t4 t3 λ_=>
  pv (faV 0 t4) λt5=>
  ld false 1 t5 λt6=>
  pv (za2 .none .leq t6 v7) λt7=>
  gdK t7 false (λk=>k x0) λt8=>
  gdK t7 false (λk=>pv (faV 1 t4) k) λt9=>
  gdK t7 false (λk=>ld false 1 t9 k) λt10=>
  gdK t7 false (λk=>cF 98 #[t8,t10] k E) λt11=>
  gdK t7 false (λk=>pv (unV .not t11) k) λt12=>
  pv (zad t7 (.bool true) t12) λt13=>
  gdK t13 false (λk=>pv (faV 1 t4) k) λt14=>
  gdK t13 false (λk=>ld false 1 t14 k) λt15=>
  gdK t13 false (λk=>k x1) λt16=>
  gdK t13 false (λk=>cF 51 #[t15,t16,(.bool false)] k E) λt17=>
  gdK t13 false (λk=>pv (zab t17) k) λt18=>
  gdK t13 false (λk=>pv (za2 .none .gtr t18 (.int .i64 0)) k) λt19=>
  pv (zad t13 (.bool true) t19) λt20=>
  cnd t20 (
  K (.bool false)) (
  pv (faV 0 t4) λt21=>
  ld false 1 t21 λt22=>
  pv (za2 .none .add v12 (.int .i64 1)) λt23=>
  k1 (ze9 x0 x1 x2 x3 x4 x5 x8 x10 x11 t22 t23 (jf #[U,U,U,U,U,U,(j 6),U,U,t4,U,U,U,t1,t2,t3,t5,t6,v7,t7,t7,t8,t9,t10,t11,t12,t13,t13,t14,t15,t16,t17,t18,t19,t20,t21,t22,t23])))) (
  K (.bool true)):=by kernel_rfl
abbrev yuv:=cQ Tryz.f188 K E
abbrev yvl:=cD Tryz.f188
theorem ysj:yvl [] (yuv K E) #[x0,U,U,U,U,U,U] =
 nw 143 (Value.cells x0).toList λt1=>
 pv (faV 1 t1) λt2=>
 ld false 1 t2 λt3=>
 pv (zab t3) λt4=>
 pv (za2 .none .gtr t4 (.int .i64 200)) λt5=>
 K t5:=by kernel_rfl
abbrev ytq:=cQ Tryz.f189 K E
abbrev yt4:=cD Tryz.f189
theorem yvt:yt4 [] (ytq K E) #[x0,x1,U,U,U,U,U,U,U] =
 cF 249 #[x0,x1] (λt1=>
 pv (za2 .none .geq t1 (.int .i64 0)) λt2=>
 K t2) E:=by kernel_rfl
end
section
variable {K:zae} {E:zb2} {k1:Env -> Hp -> Prop} {σ:Type} {x0 x1 x2 x3 x4 x5 x6 x7 x8 x9 x10 x11 x12 x13 x14 x15 x16 x17 x18 x19 x20 x21 x22 v3 v7 v8 v12 v23:Value} {h:Hp} {j:Nat -> Value}
theorem zjx (f8:σ -> Value) (I:σ -> Hp -> Prop) (μ:σ -> Nat) (s0:σ) (e8:v8=f8 s0) (h0:h.wf -> ∃ h',h.wk h'∧I s0 h')
 (round:∀ (k1:Env -> Hp -> Prop) (s:σ) (j:Nat -> Value) (h:Hp),I s h -> h.wf -> (∀ s' j' h',μ s'<μ s -> (h'.wf -> ∃ h'',h'.wk h''∧I s' h'') -> k1 (zez x0 x1 x2 x3 x6 x7 (f8 s') j') h') -> zwx [1,0,1,0,0] (zu7 K E k1) (zez x0 x1 x2 x3 x6 x7 (f8 s) j) h) :
 lp (λk1=>zwx [1,0,1,0,0] (zu7 K E k1)) (zez x0 x1 x2 x3 x6 x7 v8 j) h:=by
 subst e8;exact zaw _ I μ round s0 j h0
theorem zpt (f3 f23:σ -> Value) (I:σ -> Hp -> Prop) (μ:σ -> Nat) (s0:σ) (e3:v3=f3 s0) (e23:v23=f23 s0) (h0:h.wf -> ∃ h',h.wk h'∧I s0 h')
 (round:∀ (k1:Env -> Hp -> Prop) (s:σ) (j:Nat -> Value) (h:Hp),I s h -> h.wf -> (∀ s' j' h',μ s'<μ s -> (h'.wf -> ∃ h'',h'.wk h''∧I s' h'') -> k1 (zd6 x0 x1 x4 x6 x7 x8 x9 x10 x11 x12 x13 x14 x15 x16 x17 x18 x19 x20 x21 x22 (f3 s') (f23 s') j') h') -> zx7 [1,1,1,0,1,0,0] (zvq K E k1) (zd6 x0 x1 x4 x6 x7 x8 x9 x10 x11 x12 x13 x14 x15 x16 x17 x18 x19 x20 x21 x22 (f3 s) (f23 s) j) h) :
 lp (λk1=>zx7 [1,1,1,0,1,0,0] (zvq K E k1)) (zd6 x0 x1 x4 x6 x7 x8 x9 x10 x11 x12 x13 x14 x15 x16 x17 x18 x19 x20 x21 x22 v3 v23 j) h:=by
 subst e3;subst e23;exact zaw _ I μ round s0 j h0
theorem zsl (f7 f12:σ -> Value) (I:σ -> Hp -> Prop) (μ:σ -> Nat) (s0:σ) (e7:v7=f7 s0) (e12:v12=f12 s0) (h0:h.wf -> ∃ h',h.wk h'∧I s0 h')
 (round:∀ (k1:Env -> Hp -> Prop) (s:σ) (j:Nat -> Value) (h:Hp),I s h -> h.wf -> (∀ s' j' h',μ s'<μ s -> (h'.wf -> ∃ h'',h'.wk h''∧I s' h'') -> k1 (ze9 x0 x1 x2 x3 x4 x5 x8 x10 x11 (f7 s') (f12 s') j') h') -> zx0 [1,1,0,1,0,0] (zu8 K E k1) (ze9 x0 x1 x2 x3 x4 x5 x8 x10 x11 (f7 s) (f12 s) j) h) :
 lp (λk1=>zx0 [1,1,0,1,0,0] (zu8 K E k1)) (ze9 x0 x1 x2 x3 x4 x5 x8 x10 x11 v7 v12 j) h:=by
 subst e7;subst e12;exact zaw _ I μ round s0 j h0
end
section
variable (K:zae) (E:zb2) (k1:Env -> Hp -> Prop) (x0 x1 x2 x3 x4 x5 x6 x7 x8 x10 x11 x12 x13 x14 x15 x16 x35 x36 x37 x38 x39 x40 x41 x42 x43 x44 x45 x46 x47 x48 v9 v10 v17:Value) (j:Nat -> Value)
abbrev yju:=cQ Tryz.f201 K E
abbrev zxd:=cD Tryz.f201
abbrev zv8:=za6 k1 (blk 0 (za6 (zxd [1,1,1] (yju K E)) (yju K E)))
def ze7 (j:Nat -> Value):Env:=#[x0,x1,x2,x3,x4,x5,(j 6),(j 7),(j 8),(j 9),x10,x11,x12,x13,x14,x15,x16,v17,(j 18),(j 19),(j 20),(j 21),(j 22),(j 23),(j 24),(j 25),(j 26),(j 27),(j 28),(j 29),(j 30),(j 31)]
theorem ywc:zxd [] (yju K E) #[x0,x1,x2,U,U,U,U,U,U,U,U,U,U,U,U,U,U,U,U,U,U,U,U,U,U,U,U,U,U,U,U,U] =
 pv (zab x0) λt1=>
 pv (zab x1) λt2=>
 pv (za2 .none .neq t1 t2) λt3=>
 cnd t3 (
  K (.bool false)) (
  pv (zab x0) λt4=>
  lp (λk1=>zxd [1,1,0,1,0,0] (zv8 K E k1)) (ze7 x0 x1 x2 U U U x0 t1 x1 t2 t3 x0 t4 (.int .i64 0) (jf #[U,U,U,U,U,U,(.bool false)]))):=by kernel_rfl
theorem zt5:zxd [1,1,0,1,0,0] (zv8 K E k1) (ze7 x0 x1 x2 x3 x4 x5 x10 x11 x12 x13 x14 x15 x16 v17 j) =
 pv (za2 .none .lss v17 x16) λt1=>
 cnd t1 (
  pv (iaV none 2 x15 v17) λt2=>
  ld true 2 t2 λt3=>
  nw 108 [(.int .i64 0),(.slice none 0 0)] λt4=>
  st 2 t4 t3 λ_=>
  pv (iaV none 1 x1 v17) λt5=>
  ld false 1 t5 λt6=>
  ld true 2 t4 λt7=>
  zbs Tryz.prog x2 #[t7,t6] (λt8=>
  pv (unV .not t8) λt9=>
  cnd t9 (
  K (.bool false)) (
  pv (za2 .none .add v17 (.int .i64 1)) λt10=>
  k1 (ze7 x0 x1 x2 x3 x4 x5 x10 x11 x12 x13 x14 x15 x16 t10 (jf #[U,U,U,U,U,U,(j 6),v17,t4,t6,U,U,U,U,U,U,U,U,t1,v17,t2,t3,x1,v17,t5,t6,x2,t7,t6,t8,t9,t10])))) E) (
  K (.bool true)):=by kernel_rfl
abbrev yvw:=cQ Tryz.f202 K E
abbrev ywl:=cD Tryz.f202
theorem yuq:ywl [] (yvw K E) #[x0,x1,U,U,U,U,U,U,U,U,U,U,U] =
 nw 108 (Value.cells x0).toList λt1=>
 pv (za2 .none .geq x1 (.int .i64 0)) λt2=>
 gdK t2 true (λk=>k x1) λt3=>
 gdK t2 true (λk=>pv (faV 0 t1) k) λt4=>
 gdK t2 true (λk=>ld false 1 t4 k) λt5=>
 gdK t2 true (λk=>pv (za2 .none .lss t3 t5) k) λt6=>
 pv (zad t2 t6 (.bool false)) λt7=>
 K t7:=by kernel_rfl
abbrev yin:=cQ Tryz.f218 K E
abbrev zx8:=cD Tryz.f218
abbrev zv9:=za6 k1 (blk 0 (za6 (zx8 [1,1,1,1] (yin K E)) (yin K E)))
def zd4 (j:Nat -> Value):Env:=#[x0,x1,x2,x3,x4,x5,x6,x7,x8,v9,v10,(j 11),x12,x13,x14,(j 15),(j 16),(j 17),(j 18),(j 19),(j 20),(j 21),(j 22),(j 23),(j 24),(j 25),(j 26),(j 27),(j 28),(j 29),(j 30),(j 31),(j 32),(j 33),(j 34),x35,x36,x37,x38,x39,x40,x41,x42,x43,x44,x45,x46,x47,x48]
theorem yu6:zx8 [] (yin K E) #[x0,x1,x2,U,U,U,U,U,U,U,U,U,U,U,U,U,U,U,U,U,U,U,U,U,U,U,U,U,U,U,U,U,U,U,U,U,U,U,U,U,U,U,U,U,U,U,U,U,U] =
 pv (zab x0) λt1=>
 lp (λk1=>zx8 [1,1,1,0,0,0] (zv9 K E k1)) (zd4 x0 x1 x2 U U U (.int .i64 0) (.bool false) t1 x0 t1 t1 U U U U U U U U U U U U U U (.int .i64 0) t1 (jf #[])):=by kernel_rfl
theorem zso:zx8 [1,1,1,0,0,0] (zv9 K E k1) (zd4 x0 x1 x2 x3 x4 x5 x6 x7 x8 x12 x13 x14 x35 x36 x37 x38 x39 x40 x41 x42 x43 x44 x45 x46 x47 x48 v9 v10 j) =
 pv (za2 .none .lss v9 v10) λt1=>
 cnd t1 (
  pv (za2 .none .add v9 v10) λt2=>
  pv (cvV .u64 t2) λt3=>
  pv (za2 .none .shr t3 (.int .u64 1)) λt4=>
  pv (cvV .i64 t4) λt5=>
  pv (iaV none 2 x0 t5) λt6=>
  ld true 2 t6 λt7=>
  zbs Tryz.prog x2 #[t7,x1] (λt8=>
  pv (za2 .none .lss t8 (.int .i64 0)) λt9=>
  cnd t9 (
  pv (za2 .none .add t5 (.int .i64 1)) λt10=>
  k1 (zd4 x0 x1 x2 x3 x4 x5 x6 x7 x8 x12 x13 x14 x35 x36 x37 x38 x39 x40 x41 x42 x43 x44 x45 x46 x47 x48 t10 v10 (jf #[U,U,U,U,U,U,U,U,U,U,U,t5,U,U,U,v9,v10,t1,v9,v10,t2,t3,t4,t5,x2,x0,t5,t6,t7,x1,t8,t9,t5,t10,(j 34)]))) (
  k1 (zd4 x0 x1 x2 x3 x4 x5 x6 x7 x8 x12 x13 x14 x35 x36 x37 x38 x39 x40 x41 x42 x43 x44 x45 x46 x47 x48 v9 t5 (jf #[U,U,U,U,U,U,U,U,U,U,U,t5,U,U,U,v9,v10,t1,v9,v10,t2,t3,t4,t5,x2,x0,t5,t6,t7,x1,t8,t9,(j 32),(j 33),t5])))) E) (
  pv (za2 .none .lss v9 x8) λt11=>
  gdK t11 true (λk=>k x2) λt12=>
  gdK t11 true (λk=>k x0) λt13=>
  gdK t11 true (λk=>k v9) λt14=>
  gdK t11 true (λk=>pv (iaV none 2 t13 t14) k) λt15=>
  gdK t11 true (λk=>ld true 2 t15 k) λt16=>
  gdK t11 true (λk=>k x1) λt17=>
  gdK t11 true (λk=>zbs Tryz.prog t12 #[t16,t17] k E) λt18=>
  gdK t11 true (λk=>pv (za2 .none .eql t18 (.int .i64 0)) k) λt19=>
  pv (zad t11 t19 (.bool false)) λt20=>
  K (.tuple #[v9,t20])):=by kernel_rfl
abbrev yuz:=cQ Tryz.f219 K E
abbrev yxc:=cD Tryz.f219
theorem yth:yxc [] (yuz K E) #[x0,x1,U,U,U,U,U,U,U] =
 nw 143 (Value.cells x0).toList λt1=>
 pv (faV 0 t1) λt2=>
 ld false 1 t2 λt3=>
 cF 220 #[t3,x1] (λt4=>
 K t4) E:=by kernel_rfl
abbrev yv8:=cQ Tryz.f220 K E
abbrev yvq:=cD Tryz.f220
theorem yx9:yvq [] (yv8 K E) #[x0,x1,U,U,U,U,U,U,U,U,U,U,U,U,U,U,U,U,U,U] =
 cF 271 #[x0] (λt1=>
 cF 271 #[x1] (λt2=>
 cnd t1 (
  cnd t2 (
  K (.int .i64 0)) (
  K (.int .i64 (-1)))) (
  cnd t2 (
  K (.int .i64 1)) (
  pv (za2 .none .lss x0 x1) λt3=>
  cnd t3 (
   K (.int .i64 (-1))) (
   pv (za2 .none .gtr x0 x1) λt4=>
   cnd t4 (
   K (.int .i64 1)) (
   K (.int .i64 0)))))) E) E:=by kernel_rfl
end
section
variable {K:zae} {E:zb2} {k1:Env -> Hp -> Prop} {σ:Type} {x0 x1 x2 x3 x4 x5 x6 x7 x8 x10 x11 x12 x13 x14 x15 x16 x35 x36 x37 x38 x39 x40 x41 x42 x43 x44 x45 x46 x47 x48 v9 v10 v17:Value} {h:Hp} {j:Nat -> Value}
theorem zt7 (f17:σ -> Value) (I:σ -> Hp -> Prop) (μ:σ -> Nat) (s0:σ) (e17:v17=f17 s0) (h0:h.wf -> ∃ h',h.wk h'∧I s0 h')
 (round:∀ (k1:Env -> Hp -> Prop) (s:σ) (j:Nat -> Value) (h:Hp),I s h -> h.wf -> (∀ s' j' h',μ s'<μ s -> (h'.wf -> ∃ h'',h'.wk h''∧I s' h'') -> k1 (ze7 x0 x1 x2 x3 x4 x5 x10 x11 x12 x13 x14 x15 x16 (f17 s') j') h') -> zxd [1,1,0,1,0,0] (zv8 K E k1) (ze7 x0 x1 x2 x3 x4 x5 x10 x11 x12 x13 x14 x15 x16 (f17 s) j) h) :
 lp (λk1=>zxd [1,1,0,1,0,0] (zv8 K E k1)) (ze7 x0 x1 x2 x3 x4 x5 x10 x11 x12 x13 x14 x15 x16 v17 j) h:=by
 subst e17;exact zaw _ I μ round s0 j h0
theorem zt4 (f9 f10:σ -> Value) (I:σ -> Hp -> Prop) (μ:σ -> Nat) (s0:σ) (e9:v9=f9 s0) (e10:v10=f10 s0) (h0:h.wf -> ∃ h',h.wk h'∧I s0 h')
 (round:∀ (k1:Env -> Hp -> Prop) (s:σ) (j:Nat -> Value) (h:Hp),I s h -> h.wf -> (∀ s' j' h',μ s'<μ s -> (h'.wf -> ∃ h'',h'.wk h''∧I s' h'') -> k1 (zd4 x0 x1 x2 x3 x4 x5 x6 x7 x8 x12 x13 x14 x35 x36 x37 x38 x39 x40 x41 x42 x43 x44 x45 x46 x47 x48 (f9 s') (f10 s') j') h') -> zx8 [1,1,1,0,0,0] (zv9 K E k1) (zd4 x0 x1 x2 x3 x4 x5 x6 x7 x8 x12 x13 x14 x35 x36 x37 x38 x39 x40 x41 x42 x43 x44 x45 x46 x47 x48 (f9 s) (f10 s) j) h) :
 lp (λk1=>zx8 [1,1,1,0,0,0] (zv9 K E k1)) (zd4 x0 x1 x2 x3 x4 x5 x6 x7 x8 x12 x13 x14 x35 x36 x37 x38 x39 x40 x41 x42 x43 x44 x45 x46 x47 x48 v9 v10 j) h:=by
 subst e9;subst e10;exact zaw _ I μ round s0 j h0
end
section
variable (K:zae) (E:zb2) (k1:Env -> Hp -> Prop) (x0 x1 x2 x3 x4 x5 x6 x7 x8 x9 x10 x11 x12 x13 x14 x15 x16 x17 x18 x19 x20 x21 x22 x23 x24 x25 x26 x27 x28 x29 x30 x31 x32 x33 x34 x35 v3 v6 v8 v11 v27:Value) (j:Nat -> Value)
abbrev yki:=cQ Tryz.f243 K E
abbrev zwf:=cD Tryz.f243
abbrev zvr:=za6 k1 (blk 0 (za6 (zwf [1,1] (yki K E)) (yki K E)))
def zf5 (j:Nat -> Value):Env:=#[x0,x1,x2,x3,(j 4),(j 5),x6,x7,v8,(j 9),(j 10),(j 11),(j 12),(j 13),(j 14),(j 15),(j 16),(j 17),(j 18)]
theorem yry:zwf [] (yki K E) #[x0,x1,U,U,U,U,U,U,U,U,U,U,U,U,U,U,U,U,U] =
 pv (zab x0) λt1=>
 lp (λk1=>zwf [1,0,1,0,0] (zvr K E k1)) (zf5 x0 x1 U U x0 t1 (.int .i64 0) (jf #[U,U,U,U,(.int .i64 0)])):=by kernel_rfl
theorem zvv:zwf [1,0,1,0,0] (zvr K E k1) (zf5 x0 x1 x2 x3 x6 x7 v8 j) =
 pv (za2 .none .lss v8 x7) λt1=>
 cnd t1 (
  pv (iaV none 2 x0 v8) λt2=>
  ld true 2 t2 λt3=>
  zbs Tryz.prog x1 #[t3] (λt4=>
  cnd t4 (
  K v8) (
  pv (za2 .none .add v8 (.int .i64 1)) λt5=>
  k1 (zf5 x0 x1 x2 x3 x6 x7 t5 (jf #[U,U,U,U,(j 4),v8,U,U,U,t1,v8,x1,x0,v8,t2,t3,t4,(j 17),t5])))) E) (
  K (.int .i64 (-1))):=by kernel_rfl
abbrev yaj:=cQ Tryz.f247 K E
abbrev zjs:=cD Tryz.f247
abbrev zto:=za6 k1 (blk 2 (za6 (zjs [1,1,1,1,1] (yaj K E)) (yaj K E)))
abbrev zlf:=za6 k1 (blk 0 (za6 (zjs [1,1,1] (yaj K E)) (yaj K E)))
def ze4 (j:Nat -> Value):Env:=#[x0,x1,x2,v3,x4,(j 5),x6,x7,x8,x9,x10,v11,(j 12),(j 13),(j 14),(j 15),(j 16),(j 17),(j 18),(j 19),(j 20),(j 21),(j 22),x23,x24,x25,x26,x27,x28,x29,x30,x31,x32,x33,x34,x35]
def zcv (j:Nat -> Value):Env:=#[x0,x1,x2,x3,x4,x5,v6,x7,(j 8),x9,x10,x11,x12,x13,x14,x15,x16,x17,x18,x19,x20,x21,x22,x23,x24,x25,x26,v27,(j 28),(j 29),(j 30),(j 31),(j 32),(j 33),(j 34),x35]
theorem ytd:zjs [] (yaj K E) #[x0,U,U,U,U,U,U,U,U,U,U,U,U,U,U,U,U,U,U,U,U,U,U,U,U,U,U,U,U,U,U,U,U,U,U,U] =
 pv (zab x0) λt1=>
 lp (λk1=>zjs [1,1,0,1,0,0] (zlf K E k1)) (ze4 x0 U (.slice none 0 0) U U U U x0 t1 U U U U U U U U U U U U U (.int .i64 0) (.int .i64 0) (jf #[])):=by kernel_rfl
theorem ztg:zjs [1,1,0,1,0,0] (zlf K E k1) (ze4 x0 x1 x2 x4 x6 x7 x8 x9 x10 x23 x24 x25 x26 x27 x28 x29 x30 x31 x32 x33 x34 x35 v3 v11 j) =
 pv (za2 .none .lss v11 x10) λt1=>
 cnd t1 (
  pv (iaV none 1 x9 v11) λt2=>
  ld false 1 t2 λt3=>
  pv (zab t3) λt4=>
  pv (za2 .none .add v3 t4) λt5=>
  pv (za2 .none .lss t5 (.int .i64 0)) λt6=>
  cnd t6 (
  pv (znt 9 (.string ⟨#[108,101,110,32,111,117,116,32,111,102,32,114,97,110,103,101]⟩)) λt7=>
  pnc t7 E λ_=>
  zjs [1,1,0,1,0,0,1,1,1] (zlf K E k1) #[x0,x1,x2,t5,x4,t3,x6,x7,x8,x9,x10,v11,t1,t2,t3,v3,t3,t4,t5,t5,t6,t7,(j 22),x23,x24,x25,x26,x27,x28,x29,x30,x31,x32,x33,x34,x35]) (
  zjs [1,1,0,1,0,0,1,1,1] (zlf K E k1) #[x0,x1,x2,t5,x4,t3,x6,x7,x8,x9,x10,v11,t1,t2,t3,v3,t3,t4,t5,t5,t6,(j 21),(j 22),x23,x24,x25,x26,x27,x28,x29,x30,x31,x32,x33,x34,x35])) (
  cF 296 #[(.slice none 0 0),v3] (λt8=>
  pv (zab x0) λt9=>
  lp (λk1=>zjs [1,1,1,1,0,1,0,0] (zto K E k1)) (zcv x0 x1 x2 v3 x4 (j 5) x7 x9 x10 v11 t1 (j 13) (j 14) (j 15) (j 16) (j 17) (j 18) (j 19) (j 20) (j 21) (j 22) v3 t8 x0 t9 x35 t8 (.int .i64 0) (jf #[U,U,U,U,U,U,U,U,x8,U,U,U,U,U,U,U,U,U,U,U,U,U,U,U,U,U,U,U,x28,x29,x30,x31,x32,x33,x34]))) E):=by kernel_rfl
theorem zmk:zjs [1,1,0,1,0,0,1,1,1] (zlf K E k1) #[x0,x1,x2,x3,x4,x5,x6,x7,x8,x9,x10,x11,x12,x13,x14,x15,x16,x17,x18,x19,x20,x21,x22,x23,x24,x25,x26,x27,x28,x29,x30,x31,x32,x33,x34,x35] =
 pv (za2 .none .add x11 (.int .i64 1)) λt1=>
 k1 (ze4 x0 x1 x2 x4 x6 x7 x8 x9 x10 x23 x24 x25 x26 x27 x28 x29 x30 x31 x32 x33 x34 x35 x3 t1 (jf #[U,U,U,U,U,x5,U,U,U,U,U,U,x12,x13,x14,x15,x16,x17,x18,x19,x20,x21,t1])):=by kernel_rfl
theorem znl:zjs [1,1,1,1,0,1,0,0] (zto K E k1) (zcv x0 x1 x2 x3 x4 x5 x7 x9 x10 x11 x12 x13 x14 x15 x16 x17 x18 x19 x20 x21 x22 x23 x24 x25 x26 x35 v6 v27 j) =
 pv (za2 .none .lss v27 x26) λt1=>
 cnd t1 (
  pv (iaV none 1 x25 v27) λt2=>
  ld false 1 t2 λt3=>
  zdl 110 2 32 v6 t3 λt4=>
  pv (za2 .none .add v27 (.int .i64 1)) λt5=>
  k1 (zcv x0 x1 x2 x3 x4 x5 x7 x9 x10 x11 x12 x13 x14 x15 x16 x17 x18 x19 x20 x21 x22 x23 x24 x25 x26 x35 t4 t5 (jf #[U,U,U,U,U,U,U,U,t3,U,U,U,U,U,U,U,U,U,U,U,U,U,U,U,U,U,U,U,t1,t2,t3,v6,t3,t4,t5]))) (
  K v6):=by kernel_rfl
abbrev yx1:=cQ Tryz.f248 K E
abbrev ysu:=cD Tryz.f248
theorem yoc:ysu [] (yx1 K E) #[x0,x1,x2,U,U,U,U,U,U,U,U,U,U,U,U,U,U,U,U,U,U,U,U,U,U,U,U,U,U,U,U,U,U,U,U,U,U,U,U,U,U,U,U,U,U,U,U,U,U,U,U,U,U,U,U,U,U,U,U,U,U,U,U,U,U,U,U,U,U,U,U,U,U,U,U,U,U,U,U,U,U,U,U,U,U,U,U,U,U,U,U,U,U,U,U] =
 pv (slV 2 x0 (some x1) none none) λt1=>
 pv (zab x2) λt2=>
 pv (za2 .none .eql t2 (.int .i64 0)) λt3=>
 cnd t3 (
  K x0) (
  pv (zab x0) λt4=>
  pv (za2 .none .eql x1 t4) λt5=>
  cnd t5 (
  zdl 143 2 32 x0 x2 λt6=>
  K t6) (
  pv (za2 .none .add t4 t2) λt7=>
  pv (zjv x0) λt8=>
  pv (za2 .none .gtr t7 t8) λt9=>
  cnd t9 (
   pv (slV 2 x0 none (some x1) none) λt10=>
   pv (za2 .none .add t4 t2) λt11=>
   pv (za2 .none .sub t11 x1) λt12=>
   zpj 143 [(.int .u32 0),(.slice none 0 0)] 2 32 t10 t12 λt13=>
   pv (slV 2 t13 (some x1) none none) λt14=>
   cpy 2 t14 x2 λt15=>
   pv (za2 .none .add x1 t2) λt16=>
   pv (slV 2 t13 (some t16) none none) λt17=>
   pv (slV 2 x0 (some x1) none none) λt18=>
   cpy 2 t17 t18 λt19=>
   K t13) (
   pv (za2 .none .add t4 t2) λt20=>
   pv (slV 2 x0 none (some t20) none) λt21=>
   pv (za2 .none .add x1 t2) λt22=>
   pv (slV 2 t21 (some t22) none none) λt23=>
   cF 297 #[x2,t23] (λt24=>
   pv (unV .not t24) λt25=>
   cnd t25 (
   pv (za2 .none .add x1 t2) λt26=>
   pv (slV 2 t21 (some t26) none none) λt27=>
   pv (slV 2 t21 (some x1) none none) λt28=>
   cpy 2 t27 t28 λt29=>
   pv (slV 2 t21 (some x1) none none) λt30=>
   cpy 2 t30 x2 λt31=>
   K t21) (
   pv (slV 2 t21 (some t4) none none) λt32=>
   cpy 2 t32 x2 λt33=>
   pv (slV 2 t21 (some x1) none none) λt34=>
   cF 298 #[t34,t2] (λt35=>
   K t21) E)) E))):=by kernel_rfl
abbrev yik:=cQ Tryz.f249 K E
abbrev zx4:=cD Tryz.f249
abbrev zvi:=za6 k1 (blk 0 (za6 (zx4 [1,1] (yik K E)) (yik K E)))
def zf3 (j:Nat -> Value):Env:=#[x0,x1,x2,x3,(j 4),(j 5),x6,x7,v8,(j 9),(j 10),(j 11),(j 12),(j 13),(j 14),(j 15),(j 16),(j 17),(j 18)]
theorem yty:zx4 [] (yik K E) #[x0,x1,U,U,U,U,U,U,U,U,U,U,U,U,U,U,U,U,U] =
 pv (zab x0) λt1=>
 lp (λk1=>zx4 [1,0,1,0,0] (zvi K E k1)) (zf3 x0 x1 U U x0 t1 (.int .i64 0) (jf #[U,U,U,U,(.int .i64 0)])):=by kernel_rfl
theorem zxh:zx4 [1,0,1,0,0] (zvi K E k1) (zf3 x0 x1 x2 x3 x6 x7 v8 j) =
 pv (za2 .none .lss v8 x7) λt1=>
 cnd t1 (
  pv (iaV none 2 x0 v8) λt2=>
  ld true 2 t2 λt3=>
  zbs Tryz.prog x1 #[t3] (λt4=>
  cnd t4 (
  K v8) (
  pv (za2 .none .add v8 (.int .i64 1)) λt5=>
  k1 (zf3 x0 x1 x2 x3 x6 x7 t5 (jf #[U,U,U,U,(j 4),v8,U,U,U,t1,v8,x1,x0,v8,t2,t3,t4,(j 17),t5])))) E) (
  K (.int .i64 (-1))):=by kernel_rfl
abbrev ysq:=cQ Tryz.f271 K E
abbrev yte:=cD Tryz.f271
theorem yop:yte [] (ysq K E) #[x0,U,U,U,U,U] =
 pv (za2 .none .neq x0 x0) λt1=>
 K t1:=by kernel_rfl
end
section
variable {K:zae} {E:zb2} {k1:Env -> Hp -> Prop} {σ:Type} {x0 x1 x2 x3 x4 x5 x6 x7 x8 x9 x10 x11 x12 x13 x14 x15 x16 x17 x18 x19 x20 x21 x22 x23 x24 x25 x26 x27 x28 x29 x30 x31 x32 x33 x34 x35 v3 v6 v8 v11 v27:Value} {h:Hp} {j:Nat -> Value}
theorem zxl (f8:σ -> Value) (I:σ -> Hp -> Prop) (μ:σ -> Nat) (s0:σ) (e8:v8=f8 s0) (h0:h.wf -> ∃ h',h.wk h'∧I s0 h')
 (round:∀ (k1:Env -> Hp -> Prop) (s:σ) (j:Nat -> Value) (h:Hp),I s h -> h.wf -> (∀ s' j' h',μ s'<μ s -> (h'.wf -> ∃ h'',h'.wk h''∧I s' h'') -> k1 (zf5 x0 x1 x2 x3 x6 x7 (f8 s') j') h') -> zwf [1,0,1,0,0] (zvr K E k1) (zf5 x0 x1 x2 x3 x6 x7 (f8 s) j) h) :
 lp (λk1=>zwf [1,0,1,0,0] (zvr K E k1)) (zf5 x0 x1 x2 x3 x6 x7 v8 j) h:=by
 subst e8;exact zaw _ I μ round s0 j h0
theorem zss (f3 f11:σ -> Value) (I:σ -> Hp -> Prop) (μ:σ -> Nat) (s0:σ) (e3:v3=f3 s0) (e11:v11=f11 s0) (h0:h.wf -> ∃ h',h.wk h'∧I s0 h')
 (round:∀ (k1:Env -> Hp -> Prop) (s:σ) (j:Nat -> Value) (h:Hp),I s h -> h.wf -> (∀ s' j' h',μ s'<μ s -> (h'.wf -> ∃ h'',h'.wk h''∧I s' h'') -> k1 (ze4 x0 x1 x2 x4 x6 x7 x8 x9 x10 x23 x24 x25 x26 x27 x28 x29 x30 x31 x32 x33 x34 x35 (f3 s') (f11 s') j') h') -> zjs [1,1,0,1,0,0] (zlf K E k1) (ze4 x0 x1 x2 x4 x6 x7 x8 x9 x10 x23 x24 x25 x26 x27 x28 x29 x30 x31 x32 x33 x34 x35 (f3 s) (f11 s) j) h) :
 lp (λk1=>zjs [1,1,0,1,0,0] (zlf K E k1)) (ze4 x0 x1 x2 x4 x6 x7 x8 x9 x10 x23 x24 x25 x26 x27 x28 x29 x30 x31 x32 x33 x34 x35 v3 v11 j) h:=by
 subst e3;subst e11;exact zaw _ I μ round s0 j h0
theorem zo6 (f6 f27:σ -> Value) (I:σ -> Hp -> Prop) (μ:σ -> Nat) (s0:σ) (e6:v6=f6 s0) (e27:v27=f27 s0) (h0:h.wf -> ∃ h',h.wk h'∧I s0 h')
 (round:∀ (k1:Env -> Hp -> Prop) (s:σ) (j:Nat -> Value) (h:Hp),I s h -> h.wf -> (∀ s' j' h',μ s'<μ s -> (h'.wf -> ∃ h'',h'.wk h''∧I s' h'') -> k1 (zcv x0 x1 x2 x3 x4 x5 x7 x9 x10 x11 x12 x13 x14 x15 x16 x17 x18 x19 x20 x21 x22 x23 x24 x25 x26 x35 (f6 s') (f27 s') j') h') -> zjs [1,1,1,1,0,1,0,0] (zto K E k1) (zcv x0 x1 x2 x3 x4 x5 x7 x9 x10 x11 x12 x13 x14 x15 x16 x17 x18 x19 x20 x21 x22 x23 x24 x25 x26 x35 (f6 s) (f27 s) j) h) :
 lp (λk1=>zjs [1,1,1,1,0,1,0,0] (zto K E k1)) (zcv x0 x1 x2 x3 x4 x5 x7 x9 x10 x11 x12 x13 x14 x15 x16 x17 x18 x19 x20 x21 x22 x23 x24 x25 x26 x35 v6 v27 j) h:=by
 subst e6;subst e27;exact zaw _ I μ round s0 j h0
theorem zwn (f8:σ -> Value) (I:σ -> Hp -> Prop) (μ:σ -> Nat) (s0:σ) (e8:v8=f8 s0) (h0:h.wf -> ∃ h',h.wk h'∧I s0 h')
 (round:∀ (k1:Env -> Hp -> Prop) (s:σ) (j:Nat -> Value) (h:Hp),I s h -> h.wf -> (∀ s' j' h',μ s'<μ s -> (h'.wf -> ∃ h'',h'.wk h''∧I s' h'') -> k1 (zf3 x0 x1 x2 x3 x6 x7 (f8 s') j') h') -> zx4 [1,0,1,0,0] (zvi K E k1) (zf3 x0 x1 x2 x3 x6 x7 (f8 s) j) h) :
 lp (λk1=>zx4 [1,0,1,0,0] (zvi K E k1)) (zf3 x0 x1 x2 x3 x6 x7 v8 j) h:=by
 subst e8;exact zaw _ I μ round s0 j h0
end
section
variable (K:zae) (E:zb2) (j:Nat -> Value)
end
section
variable {K:zae} {E:zb2} {σ:Type} {h:Hp} {j:Nat -> Value}
end
section
variable (K:zae) (E:zb2) (k1:Env -> Hp -> Prop) (x0 x1 x2 x3 x4 x5 x6 x7 x8 x9 x10 x11 x12 x13 x14 x15 x16 x17 x18 x19 x20 x21 x22 x23 x24 x25 x26 v8:Value) (j:Nat -> Value)
abbrev zsb:=cQ Tryz.f296 K E
abbrev zt6:=cD Tryz.f296
theorem yv2:zt6 [] (zsb K E) #[x0,x1,U,U,U,U,U,U,U,U,U,U,U,U,U,U,U,U,U,U,U,U,U,U,U,U,U] =
 pv (za2 .none .lss x1 (.int .i64 0)) λt1=>
 cnd t1 (
  pv (znt 9 (.string ⟨#[99,97,110,110,111,116,32,98,101,32,110,101,103,97,116,105,118,101]⟩)) λt2=>
  pnc t2 E λ_=>
  zt6 [1,1] (zsb K E) #[x0,x1,U,U,(.slice none 0 0),x1,t1,t2,U,U,U,U,U,U,U,U,U,U,U,U,U,U,U,U,U,U,U]) (
  zt6 [1,1] (zsb K E) #[x0,x1,U,U,(.slice none 0 0),x1,t1,U,U,U,U,U,U,U,U,U,U,U,U,U,U,U,U,U,U,U,U]):=by kernel_rfl
theorem ykt:zt6 [1,1] (zsb K E) #[x0,x1,x2,x3,x4,x5,x6,x7,x8,x9,x10,x11,x12,x13,x14,x15,x16,x17,x18,x19,x20,x21,x22,x23,x24,x25,x26] =
 pv (zjv x0) λt1=>
 pv (zab x0) λt2=>
 pv (za2 .none .sub t1 t2) λt3=>
 pv (za2 .none .sub x1 t3) λt4=>
 pv (za2 .none .gtr t4 (.int .i64 0)) λt5=>
 cnd t5 (
  pv (zjv x0) λt6=>
  pv (slV 2 x0 none (some t6) none) λt7=>
  zpj 110 [(.slice none 0 0),(.int .i64 0)] 2 32 t7 t4 λt8=>
  pv (zab x0) λt9=>
  pv (slV 2 t8 none (some t9) none) λt10=>
  zt6 [1,1,1] (zsb K E) #[t10,t4,x2,x3,x4,x5,x6,x7,x1,x0,t1,x0,t2,t3,t4,t4,t5,x0,x0,t6,t7,t4,t8,x0,t9,t10,x26]) (
  zt6 [1,1,1] (zsb K E) #[x0,t4,x2,x3,x4,x5,x6,x7,x1,x0,t1,x0,t2,t3,t4,t4,t5,x17,x18,x19,x20,x21,x22,x23,x24,x25,x26]):=by kernel_rfl
theorem zuj:zt6 [1,1,1] (zsb K E) #[x0,x1,x2,x3,x4,x5,x6,x7,x8,x9,x10,x11,x12,x13,x14,x15,x16,x17,x18,x19,x20,x21,x22,x23,x24,x25,x26] =
 K x0:=by kernel_rfl
abbrev ysx:=cQ Tryz.f310 K E
abbrev yun:=cD Tryz.f310
theorem yvz:yun [] (ysx K E) #[x0,x1,U,U,U,U,U,U,U] =
 cF 322 #[x0,x1] (λt1=>
 pv (za2 .none .geq t1 (.int .i64 0)) λt2=>
 K t2) E:=by kernel_rfl
abbrev yk2:=cQ Tryz.f322 K E
abbrev zwr:=cD Tryz.f322
abbrev zv6:=za6 k1 (blk 0 (za6 (zwr [1,1] (yk2 K E)) (yk2 K E)))
def zf4 (j:Nat -> Value):Env:=#[x0,x1,x2,x3,(j 4),(j 5),x6,x7,v8,(j 9),(j 10),(j 11),(j 12),(j 13),(j 14),(j 15),(j 16),(j 17),(j 18)]
theorem ytn:zwr [] (yk2 K E) #[x0,x1,U,U,U,U,U,U,U,U,U,U,U,U,U,U,U,U,U] =
 pv (zab x0) λt1=>
 lp (λk1=>zwr [1,0,1,0,0] (zv6 K E k1)) (zf4 x0 x1 U U x0 t1 (.int .i64 0) (jf #[U,U,U,U,(.int .i64 0)])):=by kernel_rfl
theorem zxe:zwr [1,0,1,0,0] (zv6 K E k1) (zf4 x0 x1 x2 x3 x6 x7 v8 j) =
 pv (za2 .none .lss v8 x7) λt1=>
 cnd t1 (
  pv (iaV none 1 x0 v8) λt2=>
  ld false 1 t2 λt3=>
  zbs Tryz.prog x1 #[t3] (λt4=>
  cnd t4 (
  K v8) (
  pv (za2 .none .add v8 (.int .i64 1)) λt5=>
  k1 (zf4 x0 x1 x2 x3 x6 x7 t5 (jf #[U,U,U,U,(j 4),v8,U,U,U,t1,v8,x1,x0,v8,t2,t3,t4,(j 17),t5])))) E) (
  K (.int .i64 (-1))):=by kernel_rfl
end
section
variable {K:zae} {E:zb2} {k1:Env -> Hp -> Prop} {σ:Type} {x0 x1 x2 x3 x6 x7 v8:Value} {h:Hp} {j:Nat -> Value}
theorem zxk (f8:σ -> Value) (I:σ -> Hp -> Prop) (μ:σ -> Nat) (s0:σ) (e8:v8=f8 s0) (h0:h.wf -> ∃ h',h.wk h'∧I s0 h')
 (round:∀ (k1:Env -> Hp -> Prop) (s:σ) (j:Nat -> Value) (h:Hp),I s h -> h.wf -> (∀ s' j' h',μ s'<μ s -> (h'.wf -> ∃ h'',h'.wk h''∧I s' h'') -> k1 (zf4 x0 x1 x2 x3 x6 x7 (f8 s') j') h') -> zwr [1,0,1,0,0] (zv6 K E k1) (zf4 x0 x1 x2 x3 x6 x7 (f8 s) j) h) :
 lp (λk1=>zwr [1,0,1,0,0] (zv6 K E k1)) (zf4 x0 x1 x2 x3 x6 x7 v8 j) h:=by
 subst e8;exact zaw _ I μ round s0 j h0
end
section
variable (K:zae) (E:zb2) (j:Nat -> Value)
end
section
variable {K:zae} {E:zb2} {σ:Type} {h:Hp} {j:Nat -> Value}
end
theorem q0 (Q:QD) (x0 x1 x2:Value):den Tryz.prog (sel (zaf Tryz.f123) [0]) Q #[x0,x1,x2,undef,undef,undef,undef,undef,undef,undef,undef,undef,undef,undef,undef,undef,undef,undef,undef,undef,undef,undef,undef,undef,undef,undef,undef,undef,undef,undef,undef,undef,undef,undef,undef,undef,undef,undef,undef,undef,undef,undef,undef,undef,undef,undef,undef,undef,undef,undef,undef]=nw 93 (Value.cells x1).toList λt1=>Q .normal #[x0,x1,x2,undef,t1,undef,(.slice none 0 0),(.int .u16 0),undef,undef,undef,undef,undef,undef,undef,undef,undef,undef,undef,undef,undef,undef,undef,undef,undef,undef,undef,undef,undef,undef,undef,undef,undef,undef,undef,undef,undef,undef,undef,undef,undef,undef,undef,undef,undef,undef,undef,undef,undef,undef,undef]:=by kernel_rfl
theorem q1 (Q:QD) (x0 x1 x2 t1:Value):den Tryz.prog (sel (zaf Tryz.f123) [1,0]) Q #[x0,x1,x2,undef,t1,undef,(.slice none 0 0),(.int .u16 0),undef,undef,undef,undef,undef,undef,undef,undef,undef,undef,undef,undef,undef,undef,undef,undef,undef,undef,undef,undef,undef,undef,undef,undef,undef,undef,undef,undef,undef,undef,undef,undef,undef,undef,undef,undef,undef,undef,undef,undef,undef,undef,undef]=pv (zai x0) λt2=>pv (faV 0 t2) λt3=>ld false 1 t3 λt4=>cF 166 #[t4,x2] (λt5=>pv (exV 0 t5) λt6=>pv (exV 1 t5) λt7=>Q .normal #[x0,x1,x2,undef,t1,undef,(.slice none 0 0),(.int .u16 0),t6,t7,undef,undef,undef,t5,x0,t2,t3,t4,x2,t5,t6,t7,undef,undef,undef,undef,undef,undef,undef,undef,undef,undef,undef,undef,undef,undef,undef,undef,undef,undef,undef,undef,undef,undef,undef,undef,undef,undef,undef,undef,undef]) (λc=>Q (.panic c) #[x0,x1,x2,undef,t1,undef,(.slice none 0 0),(.int .u16 0),undef,undef,undef,undef,undef,undef,x0,t2,t3,t4,x2,undef,undef,undef,undef,undef,undef,undef,undef,undef,undef,undef,undef,undef,undef,undef,undef,undef,undef,undef,undef,undef,undef,undef,undef,undef,undef,undef,undef,undef,undef,undef,undef]):=by kernel_rfl
theorem q2 (Q:QD) (x0 x1 x2 t1 t2 t3 t4 t5 t6 t7:Value):den Tryz.prog (sel (zaf Tryz.f123) [1,1,0]) Q #[x0,x1,x2,undef,t1,undef,(.slice none 0 0),(.int .u16 0),t6,t7,undef,undef,undef,t5,x0,t2,t3,t4,x2,t5,t6,t7,undef,undef,undef,undef,undef,undef,undef,undef,undef,undef,undef,undef,undef,undef,undef,undef,undef,undef,undef,undef,undef,undef,undef,undef,undef,undef,undef,undef,undef]=cnd t7 (pv (za2 .none .add t6 (.int .i64 1)) λt8=>Q .normal #[x0,x1,x2,undef,t1,undef,(.slice none 0 0),(.int .u16 0),t8,t7,undef,undef,undef,t5,x0,t2,t3,t4,x2,t5,t6,t7,t7,t6,t8,undef,undef,undef,undef,undef,undef,undef,undef,undef,undef,undef,undef,undef,undef,undef,undef,undef,undef,undef,undef,undef,undef,undef,undef,undef,undef]) (Q .normal #[x0,x1,x2,undef,t1,undef,(.slice none 0 0),(.int .u16 0),t6,t7,undef,undef,undef,t5,x0,t2,t3,t4,x2,t5,t6,t7,t7,undef,undef,undef,undef,undef,undef,undef,undef,undef,undef,undef,undef,undef,undef,undef,undef,undef,undef,undef,undef,undef,undef,undef,undef,undef,undef,undef,undef]):=by kernel_rfl
section
variable (K:zae) (E:zb2) (k1:Env -> Hp -> Prop) (x0 x1 x2 x3 x4 x5 x6 x7 x8 x9 x10 x11 x12 x13 x14 x15 x16 x17 x18 x19 x20 x21 x22 x23 x24 x25 x26 x27 x28 x29 x30 x31 x32 x33 x34 x35 x36 x37 x38 x39 x40 x41 x42 x43 x44 x45 x46 x47 x48 x49 x50 x51 x52 x53 x54 x55 x56 x57 x58 x59 x60 x61 x62 x63 x64 x65 x66 x67 x68 x69 x70 x71 x72 x73 x74 x75 x76 x77 x78 x79 x80 x81 x82 x83 x84 x85 x86 x87 x88 x89 x90 x91 x92 x93 x94 x95 x96 x97 x98 x99 x100 x101 x102 x103 x104 x105 x106 x107 x108 x109 v3 v6 v11 v27:Value) (j:Nat -> Value)
abbrev q65:=cQ Tryz.f65 K E
abbrev d65:=cD Tryz.f65
theorem t65:d65 [] (q65 K E) #[x0,U,U,U,U,U,U,U,U,U,U,U,U] =
 pv (zai x0) λt1=>
 pv (faV 0 t1) λt2=>
 ld false 1 t2 λt3=>
 pv (zab t3) λt4=>
 pv (zai x0) λt5=>
 pv (faV 1 t5) λt6=>
 ld false 1 t6 λt7=>
 pv (za2 .none .sub t4 t7) λt8=>
 K t8:=by kernel_rfl
abbrev q84:=cQ Tryz.f84 K E
abbrev d84:=cD Tryz.f84
theorem t84:d84 [] (q84 K E) #[x0,U,U,U,U,U,U,U] =
 pv (za2 .slc .eql x0 (.slice none 0 0)) λt1=>
 cnd t1 (
  K (.slice none 0 0)) (
  nws 5 0 (bsC #[(.int .u8 0)] 1 0 #[]) λt2=>
  zdl 5 1 1 t2 x0 λt3=>
  K t3):=by kernel_rfl
abbrev q85:=cQ Tryz.f85 K E
abbrev d85:=cD Tryz.f85
theorem t85:d85 [] (q85 K E) #[x0,U,U,U,U,U,U,U,U,U,U,U] =
 pv (zai x0) λt1=>
 pv (faV 0 t1) λt2=>
 ld false 1 t2 λt3=>
 pv (zai x0) λt4=>
 pv (faV 1 t4) λt5=>
 ld false 1 t5 λt6=>
 pv (slV 1 t3 (some t6) none none) λt7=>
 K t7:=by kernel_rfl
abbrev q97:=cQ Tryz.f97 K E
abbrev d97:=cD Tryz.f97
theorem t97:d97 [] (q97 K E) #[x0,x1,U,U,U,U,U,U,U,U] =
 bs x0 λt1=>
 bs x1 λt2=>
 pv (za2 .none .eql t1 t2) λt3=>
 K t3:=by kernel_rfl
abbrev yft:=cQ Tryz.f116 K E
abbrev yf0:=cD Tryz.f116
theorem ylo:yf0 [] (yft K E) #[x0,x1,U,U,U,U,U,U,U,U,U,U,U,U,U,U,U,U,U,U,U,U,U,U,U,U,U,U,U,U,U,U,U,U] =
 pv (za2 .none .eql x1 (.int .i64 0)) λt1=>
 cnd t1 (
  cF 162 #[x0] (λt2=>
  K (.tuple #[])) E) (
  pv (zai x0) λt3=>
  pv (faV 2 t3) λt4=>
  st 1 t4 (.int .i8 0) λ_=>
  pv (za2 .none .lss x1 (.int .i64 0)) λt5=>
  gdK t5 false (λk=>k x1) λt6=>
  gdK t5 false (λk=>k x0) λt7=>
  gdK t5 false (λk=>cF 65 #[t7] k E) λt8=>
  gdK t5 false (λk=>pv (za2 .none .gtr t6 t8) k) λt9=>
  pv (zad t5 (.bool true) t9) λt10=>
  cnd t10 (
  pv (znt 9 (.string ⟨#[98,121,116,101,115,46,66,117,102,102,101,114,58,32,116,114,117,110,99,97,116,105,111,110,32,111,117,116,32,111,102,32,114,97,110,103,101]⟩)) λt11=>
  pnc t11 E λ_=>
  yf0 [1,1,1] (yft K E) #[x0,x1,U,U,x1,t1,U,U,x0,t3,t4,x1,t5,t5,t6,t7,t8,t9,t10,t11,U,U,U,U,U,U,U,U,U,U,U,U,U,U]) (
  yf0 [1,1,1] (yft K E) #[x0,x1,U,U,x1,t1,U,U,x0,t3,t4,x1,t5,t5,t6,t7,t8,t9,t10,U,U,U,U,U,U,U,U,U,U,U,U,U,U,U])):=by kernel_rfl
theorem yew:yf0 [1,1,1] (yft K E) #[x0,x1,x2,x3,x4,x5,x6,x7,x8,x9,x10,x11,x12,x13,x14,x15,x16,x17,x18,x19,x20,x21,x22,x23,x24,x25,x26,x27,x28,x29,x30,x31,x32,x33] =
 pv (zai x0) λt1=>
 pv (faV 0 t1) λt2=>
 ld false 1 t2 λt3=>
 pv (zai x0) λt4=>
 pv (faV 1 t4) λt5=>
 ld false 1 t5 λt6=>
 pv (za2 .none .add t6 x1) λt7=>
 pv (slV 1 t3 none (some t7) none) λt8=>
 pv (zai x0) λt9=>
 pv (faV 0 t9) λt10=>
 st 1 t10 t8 λ_=>
 K (.tuple #[]):=by kernel_rfl
abbrev yvf:=cQ Tryz.f162 K E
abbrev ysy:=cD Tryz.f162
theorem yxb:ysy [] (yvf K E) #[x0,U,U,U,U,U,U,U,U,U,U,U,U,U,U,U] =
 pv (zai x0) λt1=>
 pv (faV 0 t1) λt2=>
 ld false 1 t2 λt3=>
 pv (slV 1 t3 none (some (.int .i64 0)) none) λt4=>
 pv (zai x0) λt5=>
 pv (faV 0 t5) λt6=>
 st 1 t6 t4 λ_=>
 pv (zai x0) λt7=>
 pv (faV 1 t7) λt8=>
 st 1 t8 (.int .i64 0) λ_=>
 pv (zai x0) λt9=>
 pv (faV 2 t9) λt10=>
 st 1 t10 (.int .i8 0) λ_=>
 K (.tuple #[]):=by kernel_rfl
abbrev zsd:=cQ Tryz.f200 K E
abbrev ztf:=cD Tryz.f200
theorem yvp:ztf [] (zsd K E) #[x0,x1,U,U,U,U,U,U,U,U,U,U,U,U,U,U,U,U,U,U,U,U,U,U,U,U,U] =
 pv (za2 .none .lss x1 (.int .i64 0)) λt1=>
 cnd t1 (
  pv (znt 9 (.string ⟨#[99,97,110,110,111,116,32,98,101,32,110,101,103,97,116,105,118,101]⟩)) λt2=>
  pnc t2 E λ_=>
  ztf [1,1] (zsd K E) #[x0,x1,U,U,(.slice none 0 0),x1,t1,t2,U,U,U,U,U,U,U,U,U,U,U,U,U,U,U,U,U,U,U]) (
  ztf [1,1] (zsd K E) #[x0,x1,U,U,(.slice none 0 0),x1,t1,U,U,U,U,U,U,U,U,U,U,U,U,U,U,U,U,U,U,U,U]):=by kernel_rfl
theorem yja:ztf [1,1] (zsd K E) #[x0,x1,x2,x3,x4,x5,x6,x7,x8,x9,x10,x11,x12,x13,x14,x15,x16,x17,x18,x19,x20,x21,x22,x23,x24,x25,x26] =
 pv (zjv x0) λt1=>
 pv (zab x0) λt2=>
 pv (za2 .none .sub t1 t2) λt3=>
 pv (za2 .none .sub x1 t3) λt4=>
 pv (za2 .none .gtr t4 (.int .i64 0)) λt5=>
 cnd t5 (
  pv (zjv x0) λt6=>
  pv (slV 1 x0 none (some t6) none) λt7=>
  zpj 5 [(.int .u8 0)] 1 1 t7 t4 λt8=>
  pv (zab x0) λt9=>
  pv (slV 1 t8 none (some t9) none) λt10=>
  ztf [1,1,1] (zsd K E) #[t10,t4,x2,x3,x4,x5,x6,x7,x1,x0,t1,x0,t2,t3,t4,t4,t5,x0,x0,t6,t7,t4,t8,x0,t9,t10,x26]) (
  ztf [1,1,1] (zsd K E) #[x0,t4,x2,x3,x4,x5,x6,x7,x1,x0,t1,x0,t2,t3,t4,t4,t5,x17,x18,x19,x20,x21,x22,x23,x24,x25,x26]):=by kernel_rfl
theorem zvp:ztf [1,1,1] (zsd K E) #[x0,x1,x2,x3,x4,x5,x6,x7,x8,x9,x10,x11,x12,x13,x14,x15,x16,x17,x18,x19,x20,x21,x22,x23,x24,x25,x26] =
 K x0:=by kernel_rfl
abbrev yfd:=cQ Tryz.f204 K E
abbrev yfk:=cD Tryz.f204
theorem ysv:yfk [] (yfd K E) #[x0,x1,U,U,U,U,U,U,U,U,U,U,U,U,U,U,U,U,U,U,U,U,U,U,U,U,U,U,U,U,U,U] =
 pv (zai x0) λt1=>
 pv (faV 2 t1) λt2=>
 st 1 t2 (.int .i8 0) λ_=>
 pv (zab x1) λt3=>
 cF 264 #[x0,t3] (λt4=>
 pv (exV 0 t4) λt5=>
 pv (exV 1 t4) λt6=>
 pv (unV .not t6) λt7=>
 cnd t7 (
  pv (zab x1) λt8=>
  cF 265 #[x0,t8] (λt9=>
  yfk [1,1,1,1] (yfd K E) #[x0,x1,U,U,(.int .i64 0),.nilIface,t9,t6,x0,t1,t2,t4,x0,x1,t3,t4,t5,t6,t6,t7,x0,x1,t8,t9,U,U,U,U,U,U,U,U]) E) (
  yfk [1,1,1,1] (yfd K E) #[x0,x1,U,U,(.int .i64 0),.nilIface,t5,t6,x0,t1,t2,t4,x0,x1,t3,t4,t5,t6,t6,t7,U,U,U,U,U,U,U,U,U,U,U,U])) E:=by kernel_rfl
theorem zpr:yfk [1,1,1,1] (yfd K E) #[x0,x1,x2,x3,x4,x5,x6,x7,x8,x9,x10,x11,x12,x13,x14,x15,x16,x17,x18,x19,x20,x21,x22,x23,x24,x25,x26,x27,x28,x29,x30,x31] =
 pv (zai x0) λt1=>
 pv (faV 0 t1) λt2=>
 ld false 1 t2 λt3=>
 pv (slV 1 t3 (some x6) none none) λt4=>
 cpy 1 t4 x1 λt5=>
 K (.tuple #[t5,.nilIface]):=by kernel_rfl
abbrev ys4:=cQ Tryz.f245 K E
abbrev yvm:=cD Tryz.f245
theorem yuj:yvm [] (ys4 K E) #[x0,U,U,U,U,U,U,U] =
 pv (za2 .slc .eql x0 (.slice none 0 0)) λt1=>
 cnd t1 (
  K (.slice none 0 0)) (
  nws 5 0 (bsC #[(.int .u8 0)] 1 0 #[]) λt2=>
  zdl 5 1 1 t2 x0 λt3=>
  K t3):=by kernel_rfl
abbrev ye9:=cQ Tryz.f262 K E
abbrev yf4:=cD Tryz.f262
theorem ysh:yf4 [] (ye9 K E) #[x0,x1,U,U,U,U,U,U,U,U,U,U,U,U,U,U,U,U,U,U,U,U,U,U,U,U] =
 pv (zai x0) λt1=>
 pv (faV 2 t1) λt2=>
 st 1 t2 (.int .i8 0) λ_=>
 cF 264 #[x0,(.int .i64 1)] (λt3=>
 pv (exV 0 t3) λt4=>
 pv (exV 1 t3) λt5=>
 pv (unV .not t5) λt6=>
 cnd t6 (
  cF 265 #[x0,(.int .i64 1)] (λt7=>
  yf4 [1,1,1,1] (ye9 K E) #[x0,x1,U,U,.nilIface,t7,t5,x0,t1,t2,t3,x0,t3,t4,t5,t5,t6,x0,t7,U,U,U,U,U,U,U]) E) (
  yf4 [1,1,1,1] (ye9 K E) #[x0,x1,U,U,.nilIface,t4,t5,x0,t1,t2,t3,x0,t3,t4,t5,t5,t6,U,U,U,U,U,U,U,U,U])) E:=by kernel_rfl
theorem zqg:yf4 [1,1,1,1] (ye9 K E) #[x0,x1,x2,x3,x4,x5,x6,x7,x8,x9,x10,x11,x12,x13,x14,x15,x16,x17,x18,x19,x20,x21,x22,x23,x24,x25] =
 pv (zai x0) λt1=>
 pv (faV 0 t1) λt2=>
 ld false 1 t2 λt3=>
 pv (iaV none 1 t3 x5) λt4=>
 st 1 t4 x1 λ_=>
 K .nilIface:=by kernel_rfl
abbrev ysb:=cQ Tryz.f264 K E
abbrev ys3:=cD Tryz.f264
theorem yqj:ys3 [] (ysb K E) #[x0,x1,U,U,U,U,U,U,U,U,U,U,U,U,U,U,U,U,U,U,U,U,U,U,U,U,U,U,U,U,U,U,U] =
 pv (zai x0) λt1=>
 pv (faV 0 t1) λt2=>
 ld false 1 t2 λt3=>
 pv (zab t3) λt4=>
 pv (zai x0) λt5=>
 pv (faV 0 t5) λt6=>
 ld false 1 t6 λt7=>
 pv (zjv t7) λt8=>
 pv (za2 .none .sub t8 t4) λt9=>
 pv (za2 .none .leq x1 t9) λt10=>
 cnd t10 (
  pv (zai x0) λt11=>
  pv (faV 0 t11) λt12=>
  ld false 1 t12 λt13=>
  pv (za2 .none .add t4 x1) λt14=>
  pv (slV 1 t13 none (some t14) none) λt15=>
  pv (zai x0) λt16=>
  pv (faV 0 t16) λt17=>
  st 1 t17 t15 λ_=>
  K (.tuple #[t4,(.bool true)])) (
  K (.tuple #[(.int .i64 0),(.bool false)])):=by kernel_rfl
abbrev zq0:=cQ Tryz.f265 K E
abbrev zpp:=cD Tryz.f265
theorem ysa:zpp [] (zq0 K E) #[x0,x1,U,U,U,U,U,U,U,U,U,U,U,U,U,U,U,U,U,U,U,U,U,U,U,U,U,U,U,U,U,U,U,U,U,U,U,U,U,U,U,U,U,U,U,U,U,U,U,U,U,U,U,U,U,U,U,U,U,U,U,U,U,U,U,U,U,U,U,U,U,U,U,U,U,U,U,U,U,U,U,U,U,U,U,U,U,U,U,U,U,U,U,U,U,U,U,U,U,U,U,U,U,U,U,U,U,U,U,U] =
 cF 65 #[x0] (λt1=>
 pv (za2 .none .eql t1 (.int .i64 0)) λt2=>
 gdK t2 true (λk=>k x0) λt3=>
 gdK t2 true (λk=>pv (zai t3) k) λt4=>
 gdK t2 true (λk=>pv (faV 1 t4) k) λt5=>
 gdK t2 true (λk=>ld false 1 t5 k) λt6=>
 gdK t2 true (λk=>pv (za2 .none .neq t6 (.int .i64 0)) k) λt7=>
 pv (zad t2 t7 (.bool false)) λt8=>
 cnd t8 (
  cF 162 #[x0] (λt9=>
  zpp [1,1,1] (zq0 K E) #[x0,x1,U,U,(.int .i64 0),t1,U,U,U,x0,t1,t1,t2,t2,t3,t4,t5,t6,t7,t8,x0,t9,U,U,U,U,U,U,U,U,U,U,U,U,U,U,U,U,U,U,U,U,U,U,U,U,U,U,U,U,U,U,U,U,U,U,U,U,U,U,U,U,U,U,U,U,U,U,U,U,U,U,U,U,U,U,U,U,U,U,U,U,U,U,U,U,U,U,U,U,U,U,U,U,U,U,U,U,U,U,U,U,U,U,U,U,U,U,U,U]) E) (
  zpp [1,1,1] (zq0 K E) #[x0,x1,U,U,(.int .i64 0),t1,U,U,U,x0,t1,t1,t2,t2,t3,t4,t5,t6,t7,t8,U,U,U,U,U,U,U,U,U,U,U,U,U,U,U,U,U,U,U,U,U,U,U,U,U,U,U,U,U,U,U,U,U,U,U,U,U,U,U,U,U,U,U,U,U,U,U,U,U,U,U,U,U,U,U,U,U,U,U,U,U,U,U,U,U,U,U,U,U,U,U,U,U,U,U,U,U,U,U,U,U,U,U,U,U,U,U,U,U,U])) E:=by kernel_rfl
theorem yf8:zpp [1,1,1] (zq0 K E) #[x0,x1,x2,x3,x4,x5,x6,x7,x8,x9,x10,x11,x12,x13,x14,x15,x16,x17,x18,x19,x20,x21,x22,x23,x24,x25,x26,x27,x28,x29,x30,x31,x32,x33,x34,x35,x36,x37,x38,x39,x40,x41,x42,x43,x44,x45,x46,x47,x48,x49,x50,x51,x52,x53,x54,x55,x56,x57,x58,x59,x60,x61,x62,x63,x64,x65,x66,x67,x68,x69,x70,x71,x72,x73,x74,x75,x76,x77,x78,x79,x80,x81,x82,x83,x84,x85,x86,x87,x88,x89,x90,x91,x92,x93,x94,x95,x96,x97,x98,x99,x100,x101,x102,x103,x104,x105,x106,x107,x108,x109] =
 cF 264 #[x0,x1] (λt1=>
 pv (exV 0 t1) λt2=>
 pv (exV 1 t1) λt3=>
 cnd t3 (
  K t2) (
  pv (zai x0) λt4=>
  pv (faV 0 t4) λt5=>
  ld false 1 t5 λt6=>
  pv (za2 .slc .eql t6 (.slice none 0 0)) λt7=>
  gdK t7 true (λk=>k x1) λt8=>
  gdK t7 true (λk=>pv (za2 .none .leq t8 (.int .i64 64)) k) λt9=>
  pv (zad t7 t9 (.bool false)) λt10=>
  cnd t10 (
  mks 5 [(.int .u8 0)] 1 1 x1 (.int .i64 64) λt11=>
  pv (zai x0) λt12=>
  pv (faV 0 t12) λt13=>
  st 1 t13 t11 λ_=>
  K (.int .i64 0)) (
  pv (zai x0) λt14=>
  pv (faV 0 t14) λt15=>
  ld false 1 t15 λt16=>
  pv (zjv t16) λt17=>
  pv (za2 .none .quo t17 (.int .i64 2)) λt18=>
  pv (za2 .none .sub t18 x5) λt19=>
  pv (za2 .none .leq x1 t19) λt20=>
  cnd t20 (
   pv (zai x0) λt21=>
   pv (faV 0 t21) λt22=>
   ld false 1 t22 λt23=>
   pv (zai x0) λt24=>
   pv (faV 0 t24) λt25=>
   ld false 1 t25 λt26=>
   pv (zai x0) λt27=>
   pv (faV 1 t27) λt28=>
   ld false 1 t28 λt29=>
   pv (slV 1 t26 (some t29) none none) λt30=>
   cpy 1 t23 t30 λt31=>
   zpp [1,1,1,1,1,1,1] (zq0 K E) #[x0,x1,x2,x3,x4,x5,t2,t3,t17,x9,x10,x11,x12,x13,x14,x15,x16,x17,x18,x19,x20,x21,t1,x0,x1,t1,t2,t3,t3,x29,x0,t4,t5,t6,t7,t7,t8,t9,t10,x39,x40,x41,x42,x43,x0,t14,t15,t16,t17,x1,t17,t18,x5,t19,t20,x0,t21,t22,t23,x0,t24,t25,t26,x0,t27,t28,t29,t30,t31,x69,x70,x71,x72,x73,x74,x75,x76,x77,x78,x79,x80,x81,x82,x83,x84,x85,x86,x87,x88,x89,x90,x91,x92,x93,x94,x95,x96,x97,x98,x99,x100,x101,x102,x103,x104,x105,x106,x107,x108,x109]) (
   pv (za2 .none .sub (.int .i64 9223372036854775807) t17) λt32=>
   pv (za2 .none .sub t32 x1) λt33=>
   pv (za2 .none .gtr t17 t33) λt34=>
   cnd t34 (
   ld false 1 (.pointer (some ⟨0,0,none⟩)) λt35=>
   pnc t35 E λ_=>
   zpp [1,1,1,1,1,1,1] (zq0 K E) #[x0,x1,x2,x3,x4,x5,t2,t3,t17,x9,x10,x11,x12,x13,x14,x15,x16,x17,x18,x19,x20,x21,t1,x0,x1,t1,t2,t3,t3,x29,x0,t4,t5,t6,t7,t7,t8,t9,t10,x39,x40,x41,x42,x43,x0,t14,t15,t16,t17,x1,t17,t18,x5,t19,t20,x55,x56,x57,x58,x59,x60,x61,x62,x63,x64,x65,x66,x67,x68,t17,t17,t32,x1,t33,t34,t35,x76,x77,x78,x79,x80,x81,x82,x83,x84,x85,x86,x87,x88,x89,x90,x91,x92,x93,x94,x95,x96,x97,x98,x99,x100,x101,x102,x103,x104,x105,x106,x107,x108,x109]) (
   pv (zai x0) λt36=>
   pv (faV 0 t36) λt37=>
   ld false 1 t37 λt38=>
   pv (zai x0) λt39=>
   pv (faV 1 t39) λt40=>
   ld false 1 t40 λt41=>
   pv (slV 1 t38 (some t41) none none) λt42=>
   pv (zai x0) λt43=>
   pv (faV 1 t43) λt44=>
   ld false 1 t44 λt45=>
   pv (za2 .none .add t45 x1) λt46=>
   cF 303 #[t42,t46] (λt47=>
   pv (zai x0) λt48=>
   pv (faV 0 t48) λt49=>
   st 1 t49 t47 λ_=>
   zpp [1,1,1,1,1,1,1] (zq0 K E) #[x0,x1,x2,x3,x4,x5,t2,t3,t17,x9,x10,x11,x12,x13,x14,x15,x16,x17,x18,x19,x20,x21,t1,x0,x1,t1,t2,t3,t3,x29,x0,t4,t5,t6,t7,t7,t8,t9,t10,x39,x40,x41,x42,x43,x0,t14,t15,t16,t17,x1,t17,t18,x5,t19,t20,x55,x56,x57,x58,x59,x60,x61,x62,x63,x64,x65,x66,x67,x68,t17,t17,t32,x1,t33,t34,x75,x0,x0,t36,t37,t38,x0,t39,t40,t41,t42,x0,t43,t44,t45,x1,t46,t47,t48,t49,x95,x96,x97,x98,x99,x100,x101,x102,x103,x104,x105,x106,x107,x108,x109]) E))))) E:=by kernel_rfl
theorem zpe:zpp [1,1,1,1,1,1,1] (zq0 K E) #[x0,x1,x2,x3,x4,x5,x6,x7,x8,x9,x10,x11,x12,x13,x14,x15,x16,x17,x18,x19,x20,x21,x22,x23,x24,x25,x26,x27,x28,x29,x30,x31,x32,x33,x34,x35,x36,x37,x38,x39,x40,x41,x42,x43,x44,x45,x46,x47,x48,x49,x50,x51,x52,x53,x54,x55,x56,x57,x58,x59,x60,x61,x62,x63,x64,x65,x66,x67,x68,x69,x70,x71,x72,x73,x74,x75,x76,x77,x78,x79,x80,x81,x82,x83,x84,x85,x86,x87,x88,x89,x90,x91,x92,x93,x94,x95,x96,x97,x98,x99,x100,x101,x102,x103,x104,x105,x106,x107,x108,x109] =
 pv (zai x0) λt1=>
 pv (faV 1 t1) λt2=>
 st 1 t2 (.int .i64 0) λ_=>
 pv (zai x0) λt3=>
 pv (faV 0 t3) λt4=>
 ld false 1 t4 λt5=>
 pv (za2 .none .add x5 x1) λt6=>
 pv (slV 1 t5 none (some t6) none) λt7=>
 pv (zai x0) λt8=>
 pv (faV 0 t8) λt9=>
 st 1 t9 t7 λ_=>
 K x5:=by kernel_rfl
abbrev ybt:=cQ Tryz.f141 K E
abbrev zjk:=cD Tryz.f141
abbrev zv5:=za6 k1 (blk 2 (za6 (zjk [1,1,1,1,1] (ybt K E)) (ybt K E)))
abbrev zlx:=za6 k1 (blk 0 (za6 (zjk [1,1,1] (ybt K E)) (ybt K E)))
def ze8 (j:Nat -> Value):Env:=#[x0,x1,x2,v3,x4,(j 5),x6,x7,x8,x9,x10,v11,(j 12),(j 13),(j 14),(j 15),(j 16),(j 17),(j 18),(j 19),(j 20),(j 21),(j 22),x23,x24,x25,x26,x27,x28,x29,x30,x31,x32,x33,x34,x35]
def zcs (j:Nat -> Value):Env:=#[x0,x1,x2,x3,x4,x5,v6,x7,(j 8),x9,x10,x11,x12,x13,x14,x15,x16,x17,x18,x19,x20,x21,x22,x23,x24,x25,x26,v27,(j 28),(j 29),(j 30),(j 31),(j 32),(j 33),(j 34),x35]
theorem yv7:zjk [] (ybt K E) #[x0,U,U,U,U,U,U,U,U,U,U,U,U,U,U,U,U,U,U,U,U,U,U,U,U,U,U,U,U,U,U,U,U,U,U,U] =
 pv (zab x0) λt1=>
 lp (λk1=>zjk [1,1,0,1,0,0] (zlx K E k1)) (ze8 x0 U (.slice none 0 0) U U U U x0 t1 U U U U U U U U U U U U U (.int .i64 0) (.int .i64 0) (jf #[])):=by kernel_rfl
theorem zt9:zjk [1,1,0,1,0,0] (zlx K E k1) (ze8 x0 x1 x2 x4 x6 x7 x8 x9 x10 x23 x24 x25 x26 x27 x28 x29 x30 x31 x32 x33 x34 x35 v3 v11 j) =
 pv (za2 .none .lss v11 x10) λt1=>
 cnd t1 (
  pv (iaV none 1 x9 v11) λt2=>
  ld false 1 t2 λt3=>
  pv (zab t3) λt4=>
  pv (za2 .none .add v3 t4) λt5=>
  pv (za2 .none .lss t5 (.int .i64 0)) λt6=>
  cnd t6 (
  pv (znt 9 (.string ⟨#[108,101,110,32,111,117,116,32,111,102,32,114,97,110,103,101]⟩)) λt7=>
  pnc t7 E λ_=>
  zjk [1,1,0,1,0,0,1,1,1] (zlx K E k1) #[x0,x1,x2,t5,x4,t3,x6,x7,x8,x9,x10,v11,t1,t2,t3,v3,t3,t4,t5,t5,t6,t7,(j 22),x23,x24,x25,x26,x27,x28,x29,x30,x31,x32,x33,x34,x35]) (
  zjk [1,1,0,1,0,0,1,1,1] (zlx K E k1) #[x0,x1,x2,t5,x4,t3,x6,x7,x8,x9,x10,v11,t1,t2,t3,v3,t3,t4,t5,t5,t6,(j 21),(j 22),x23,x24,x25,x26,x27,x28,x29,x30,x31,x32,x33,x34,x35])) (
  cF 200 #[(.slice none 0 0),v3] (λt8=>
  pv (zab x0) λt9=>
  lp (λk1=>zjk [1,1,1,1,0,1,0,0] (zv5 K E k1)) (zcs x0 x1 x2 v3 x4 (j 5) x7 x9 x10 v11 t1 (j 13) (j 14) (j 15) (j 16) (j 17) (j 18) (j 19) (j 20) (j 21) (j 22) v3 t8 x0 t9 x35 t8 (.int .i64 0) (jf #[U,U,U,U,U,U,U,U,x8,U,U,U,U,U,U,U,U,U,U,U,U,U,U,U,U,U,U,U,x28,x29,x30,x31,x32,x33,x34]))) E):=by kernel_rfl
theorem zmh:zjk [1,1,0,1,0,0,1,1,1] (zlx K E k1) #[x0,x1,x2,x3,x4,x5,x6,x7,x8,x9,x10,x11,x12,x13,x14,x15,x16,x17,x18,x19,x20,x21,x22,x23,x24,x25,x26,x27,x28,x29,x30,x31,x32,x33,x34,x35] =
 pv (za2 .none .add x11 (.int .i64 1)) λt1=>
 k1 (ze8 x0 x1 x2 x4 x6 x7 x8 x9 x10 x23 x24 x25 x26 x27 x28 x29 x30 x31 x32 x33 x34 x35 x3 t1 (jf #[U,U,U,U,U,x5,U,U,U,U,U,U,x12,x13,x14,x15,x16,x17,x18,x19,x20,x21,t1])):=by kernel_rfl
theorem zno:zjk [1,1,1,1,0,1,0,0] (zv5 K E k1) (zcs x0 x1 x2 x3 x4 x5 x7 x9 x10 x11 x12 x13 x14 x15 x16 x17 x18 x19 x20 x21 x22 x23 x24 x25 x26 x35 v6 v27 j) =
 pv (za2 .none .lss v27 x26) λt1=>
 cnd t1 (
  pv (iaV none 1 x25 v27) λt2=>
  ld false 1 t2 λt3=>
  zdl 5 1 1 v6 t3 λt4=>
  pv (za2 .none .add v27 (.int .i64 1)) λt5=>
  k1 (zcs x0 x1 x2 x3 x4 x5 x7 x9 x10 x11 x12 x13 x14 x15 x16 x17 x18 x19 x20 x21 x22 x23 x24 x25 x26 x35 t4 t5 (jf #[U,U,U,U,U,U,U,U,t3,U,U,U,U,U,U,U,U,U,U,U,U,U,U,U,U,U,U,U,t1,t2,t3,v6,t3,t4,t5]))) (
  K v6):=by kernel_rfl
end
section
variable {K:zae} {E:zb2} {k1:Env -> Hp -> Prop} {σ:Type} {x0 x1 x2 x3 x4 x5 x6 x7 x8 x9 x10 x11 x12 x13 x14 x15 x16 x17 x18 x19 x20 x21 x22 x23 x24 x25 x26 x27 x28 x29 x30 x31 x32 x33 x34 x35 v3 v6 v11 v27:Value} {h:Hp} {j:Nat -> Value}
theorem zsu (f3 f11:σ -> Value) (I:σ -> Hp -> Prop) (μ:σ -> Nat) (s0:σ) (e3:v3=f3 s0) (e11:v11=f11 s0) (h0:h.wf -> ∃ h',h.wk h'∧I s0 h')
 (round:∀ (k1:Env -> Hp -> Prop) (s:σ) (j:Nat -> Value) (h:Hp),I s h -> h.wf -> (∀ s' j' h',μ s'<μ s -> (h'.wf -> ∃ h'',h'.wk h''∧I s' h'') -> k1 (ze8 x0 x1 x2 x4 x6 x7 x8 x9 x10 x23 x24 x25 x26 x27 x28 x29 x30 x31 x32 x33 x34 x35 (f3 s') (f11 s') j') h') -> zjk [1,1,0,1,0,0] (zlx K E k1) (ze8 x0 x1 x2 x4 x6 x7 x8 x9 x10 x23 x24 x25 x26 x27 x28 x29 x30 x31 x32 x33 x34 x35 (f3 s) (f11 s) j) h) :
 lp (λk1=>zjk [1,1,0,1,0,0] (zlx K E k1)) (ze8 x0 x1 x2 x4 x6 x7 x8 x9 x10 x23 x24 x25 x26 x27 x28 x29 x30 x31 x32 x33 x34 x35 v3 v11 j) h:=by
 subst e3;subst e11;exact zaw _ I μ round s0 j h0
theorem zov (f6 f27:σ -> Value) (I:σ -> Hp -> Prop) (μ:σ -> Nat) (s0:σ) (e6:v6=f6 s0) (e27:v27=f27 s0) (h0:h.wf -> ∃ h',h.wk h'∧I s0 h')
 (round:∀ (k1:Env -> Hp -> Prop) (s:σ) (j:Nat -> Value) (h:Hp),I s h -> h.wf -> (∀ s' j' h',μ s'<μ s -> (h'.wf -> ∃ h'',h'.wk h''∧I s' h'') -> k1 (zcs x0 x1 x2 x3 x4 x5 x7 x9 x10 x11 x12 x13 x14 x15 x16 x17 x18 x19 x20 x21 x22 x23 x24 x25 x26 x35 (f6 s') (f27 s') j') h') -> zjk [1,1,1,1,0,1,0,0] (zv5 K E k1) (zcs x0 x1 x2 x3 x4 x5 x7 x9 x10 x11 x12 x13 x14 x15 x16 x17 x18 x19 x20 x21 x22 x23 x24 x25 x26 x35 (f6 s) (f27 s) j) h) :
 lp (λk1=>zjk [1,1,1,1,0,1,0,0] (zv5 K E k1)) (zcs x0 x1 x2 x3 x4 x5 x7 x9 x10 x11 x12 x13 x14 x15 x16 x17 x18 x19 x20 x21 x22 x23 x24 x25 x26 x35 v6 v27 j) h:=by
 subst e6;subst e27;exact zaw _ I μ round s0 j h0
end
theorem yq0 (Q:QD) (x0 x1 x2 x3 x4 x5 x6 x7 x8 x9 x10 x11 x12 x13 x14 x15 x16 x17 x18 x19 x20 x21 x22 x23 x24 x25 x26 x27:Value):den Tryz.prog (sel (zaf Tryz.f303) [0]) Q #[x0,x1,x2,x3,x4,x5,x6,x7,x8,x9,x10,x11,x12,x13,x14,x15,x16,x17,x18,x19,x20,x21,x22,x23,x24,x25,x26,x27] =
 Q .normal #[x0,x1,x2,x3,(.slice none 0 0),x5,x6,x7,x8,x9,x10,x11,x12,x13,x14,x15,x16,x17,x18,x19,x20,x21,x22,x23,x24,x25,x26,x27]:=by kernel_rfl
theorem yiz (R:FuncId -> Array Value -> Array Value -> Env -> Hp -> Prop) (E:Env -> zb2) (x0 x1 x2 x3 x4 x5 x6 x7 x8 x9 x10 x11 x12 x13 x14 x15 x16 x17 x18 x19 x20 x21 x22 x23 x24 x25 x26 x27:Value):zj9 Tryz.prog (zgs (sel (zaf Tryz.f303) [1,0])) R E (zgs (sel (zaf Tryz.f303) [1,0])).toList #[x0,x1,x2,x3,x4,x5,x6,x7,x8,x9,x10,x11,x12,x13,x14,x15,x16,x17,x18,x19,x20,x21,x22,x23,x24,x25,x26,x27] =
 dfr (.func (.func 321) #[] #[]) (λg f c=>R g f c #[x0,x1,x2,x3,x4,x5,x6,x7,x8,x9,x10,x11,x12,x13,x14,x15,x16,x17,x18,x19,x20,x21,x22,x23,x24,x25,x26,x27]):=by kernel_rfl
theorem ylu (Q:QD) (x0 x1 x2 x3 x4 x5 x6 x7 x8 x9 x10 x11 x12 x13 x14 x15 x16 x17 x18 x19 x20 x21 x22 x23 x24 x25 x26 x27:Value):den Tryz.prog (sel (zaf Tryz.f303) [1,1]) Q #[x0,x1,x2,x3,x4,x5,x6,x7,x8,x9,x10,x11,x12,x13,x14,x15,x16,x17,x18,x19,x20,x21,x22,x23,x24,x25,x26,x27] =
 pv (zab x0) λt1=>
 pv (za2 .none .add t1 x1) λt2=>
 pv (zjv x0) λt3=>
 pv (za2 .none .mul (.int .i64 2) t3) λt4=>
 pv (za2 .none .lss t2 t4) λt5=>
 cnd t5 (
  pv (zjv x0) λt6=>
  pv (za2 .none .mul (.int .i64 2) t6) λt7=>
  zpj 5 [(.int .u8 0)] 1 1 (.slice none 0 0) t7 λt8=>
  cpy 1 t8 x0 λt9=>
  pv (slV 1 t8 none (some t9) none) λt10=>
  Q .ret #[x0,x1,x2,x3,t10,t7,t8,t9,x0,t1,x1,t2,t2,x0,t3,t4,t5,x0,t6,t7,t7,t8,t8,x0,t9,t8,t9,t10]) (
  zpj 5 [(.int .u8 0)] 1 1 (.slice none 0 0) t2 λt11=>
  cpy 1 t11 x0 λt12=>
  pv (slV 1 t11 none (some t12) none) λt13=>
  Q .ret #[x0,x1,x2,x3,t13,t2,t11,t12,x0,t1,x1,t2,t2,x0,t3,t4,t5,x17,x18,x19,t2,t11,t11,x0,t12,t11,t12,t13]):=by kernel_rfl
theorem yok (Q:QD) (x0 x1 x2 x3 x4 x5 x6 x7 x8 x9 x10:Value):den Tryz.prog (sel (zaf Tryz.f137) [0]) Q #[x0,x1,x2,x3,x4,x5,x6,x7,x8,x9,x10] =
 nw 77 [(.int .u8 0),(.int .u32 0),(.int .u32 0),(.slice none 0 0),(.slice none 0 0),(.int .u32 0),(.slice none 0 0),(.int .i64 0),(.int .i64 0),(.slice none 0 0)] λt1=>
 nw 4 [(.bool false)] λt2=>
 Q .normal #[x0,x1,t1,t2,x4,x5,x6,x7,x8,x9,x10]:=by kernel_rfl
theorem yio (R:FuncId -> Array Value -> Array Value -> Env -> Hp -> Prop) (E:Env -> zb2) (x0 x1 x2 x3 x4 x5 x6 x7 x8 x9 x10:Value):zj9 Tryz.prog (zgs (sel (zaf Tryz.f137) [1,0])) R E (zgs (sel (zaf Tryz.f137) [1,0])).toList #[x0,x1,x2,x3,x4,x5,x6,x7,x8,x9,x10] =
 dfr (.func (.func 190) #[] #[x2,x3]) (λg f c=>R g f c #[x0,x1,x2,x3,x4,(.func (.func 190) #[] #[x2,x3]),x6,x7,x8,x9,x10]):=by kernel_rfl
theorem yke (Q:QD) (x0 x1 x2 x3 x4 x5 x6 x7 x8 x9 x10:Value):den Tryz.prog (sel (zaf Tryz.f137) [1,1]) Q #[x0,x1,x2,x3,x4,x5,x6,x7,x8,x9,x10] =
 pv (bdC #[(.slice none 0 0)] [(0,1)] #[(0,x0)]) λt1=>
 nw 289 (Value.cells t1).toList λt2=>
 cF 191 #[t2] (λt3=>
 st 10 x2 t3 λ_=>
 st 1 x3 (.bool true) λ_=>
 Q .ret #[x0,x1,x2,x3,t2,x5,x0,t1,t2,t2,t3]) (λc=>Q (.panic c) #[x0,x1,x2,x3,t2,x5,x0,t1,t2,t2,x10]):=by kernel_rfl
section
variable (K:zae) (E:zb2) (k1 k2:Env -> Hp -> Prop) (x0 x1 x2 x3 x4 x5 x6 x7 x8 x9 x10 x11 x12 x13 x14 x15 x16 x17 x18 x19 x20 x21 x22 x23 x24 x25 x26 x27 x28 x29 x30 x31 x32 x33 x34 x35 x36 x37 x38 x39 x40 x41 x42 x43 x44 x45 x46 x47 x48 x49 x50 x51 x52 x53 x54 x55 x56 x57 x58 x59 x60 x61 x62 x63 x64 x65 x66 x67 x68 x69 x70 x71 x72 x73 x74 x75 x76 x77 x78 x79 x80 x81 x82 x83 x84 x85 x86 x87 x88 x89 x90 v3 v5 v7 v8 v10 v11 v12 v14 v24 v26 v27 v59:Value) (j:Nat -> Value)
abbrev q95:=cQ Tryz.f95 K E
abbrev d95:=cD Tryz.f95
theorem t95:d95 [] (q95 K E) #[x0,U,U,U,U,U,U,U,U,U,U,U,U,U,U,U,U,U,U,U,U,U,U,U,U,U,U,U,U,U,U,U,U,U,U] =
 nw 77 [(.int .u8 0),(.int .u32 0),(.int .u32 0),(.slice none 0 0),(.slice none 0 0),(.int .u32 0),(.slice none 0 0),(.int .i64 0),(.int .i64 0),(.slice none 0 0)] λt1=>
 pv (zab x0) λt2=>
 pv (za2 .none .gtr t2 (.int .i64 60000)) λt3=>
 cnd t3 (
  pv (bdC #[(.int .u8 0),(.int .u32 0),(.int .u32 0),(.slice none 0 0),(.slice none 0 0),(.int .u32 0),(.slice none 0 0),(.int .i64 0),(.int .i64 0),(.slice none 0 0)] [(0,1),(1,1),(2,1),(3,1),(4,1),(5,2),(7,1),(8,1),(9,1)] #[]) λt4=>
  st 10 t1 t4 λ_=>
  ld true 10 t1 λt5=>
  K (.tuple #[t5,(.int .u16 3)])) (
  cF 137 #[x0] (λt6=>
  pv (exV 0 t6) λt7=>
  pv (exV 1 t6) λt8=>
  nw 77 [(.int .u8 0),(.int .u32 0),(.int .u32 0),(.slice none 0 0),(.slice none 0 0),(.int .u32 0),(.slice none 0 0),(.int .i64 0),(.int .i64 0),(.slice none 0 0)] λt9=>
  st 10 t9 t7 λ_=>
  pv (unV .not t8) λt10=>
  cnd t10 (
  pv (bdC #[(.int .u8 0),(.int .u32 0),(.int .u32 0),(.slice none 0 0),(.slice none 0 0),(.int .u32 0),(.slice none 0 0),(.int .i64 0),(.int .i64 0),(.slice none 0 0)] [(0,1),(1,1),(2,1),(3,1),(4,1),(5,2),(7,1),(8,1),(9,1)] #[]) λt11=>
  st 10 t1 t11 λ_=>
  ld true 10 t1 λt12=>
  K (.tuple #[t12,(.int .u16 70)])) (
  ld true 10 t9 λt13=>
  cF 138 #[t13] (λt14=>
  pv (exV 0 t14) λt15=>
  pv (exV 1 t14) λt16=>
  pv (za2 .none .neq t16 (.int .u16 0)) λt17=>
  gdK t17 false (λk=>k t15) λt18=>
  gdK t17 false (λk=>k x0) λt19=>
  gdK t17 false (λk=>cF 97 #[t18,t19] k E) λt20=>
  gdK t17 false (λk=>pv (unV .not t20) k) λt21=>
  pv (zad t17 (.bool true) t21) λt22=>
  cnd t22 (
   pv (bdC #[(.int .u8 0),(.int .u32 0),(.int .u32 0),(.slice none 0 0),(.slice none 0 0),(.int .u32 0),(.slice none 0 0),(.int .i64 0),(.int .i64 0),(.slice none 0 0)] [(0,1),(1,1),(2,1),(3,1),(4,1),(5,2),(7,1),(8,1),(9,1)] #[]) λt23=>
   st 10 t1 t23 λ_=>
   ld true 10 t1 λt24=>
   K (.tuple #[t24,(.int .u16 70)])) (
   ld true 10 t9 λt25=>
   st 10 t1 t25 λ_=>
   ld true 10 t1 λt26=>
   K (.tuple #[t26,(.int .u16 0)]))) E)) E):=by kernel_rfl
abbrev zqm:=cQ Tryz.f138 K E
abbrev zpl:=cD Tryz.f138
def zgm (j:Nat -> Value):Env:=#[x0,x1,x2,x3,x4,x5,(j 6),x7,x8,x9,x10,x11,x12,x13,x14,x15,x16,x17,x18,x19,x20,x21,x22,x23,x24,x25,x26,x27,x28,x29,x30,x31,x32,x33,x34,x35,x36,x37,x38,x39,x40,x41,x42,x43,x44,x45,x46,x47,x48,x49,x50,x51,x52,x53,x54,x55,x56,x57,x58,v59,(j 60),(j 61),(j 62),(j 63),(j 64),(j 65),(j 66),(j 67),(j 68),(j 69),(j 70),(j 71),x72,x73,x74,x75,x76,x77,x78,x79,x80,x81,x82,x83,x84,x85,x86,x87,x88,x89,x90]
theorem yuo:zpl [] (zqm K E) #[x0,U,U,U,U,U,U,U,U,U,U,U,U,U,U,U,U,U,U,U,U,U,U,U,U,U,U,U,U,U,U,U,U,U,U,U,U,U,U,U,U,U,U,U,U,U,U,U,U,U,U,U,U,U,U,U,U,U,U,U,U,U,U,U,U,U,U,U,U,U,U,U,U,U,U,U,U,U,U,U,U,U,U,U,U,U,U,U,U,U,U] =
 nw 77 (Value.cells x0).toList λt1=>
 ld true 10 t1 λt2=>
 cF 192 #[t2] (λt3=>
 pv (unV .not t3) λt4=>
 cnd t4 (
  K (.tuple #[(.slice none 0 0),(.int .u16 1)])) (
  pv (bdC #[(.slice none 0 0),(.int .i64 0),(.int .i8 0)] [(0,1),(1,1),(2,1)] #[]) λt5=>
  nw 116 (Value.cells t5).toList λt6=>
  pv (faV 0 t1) λt7=>
  ld false 1 t7 λt8=>
  cF 193 #[t6,t8,(.int .i64 1)] (λt9=>
  pv (faV 1 t1) λt10=>
  ld false 1 t10 λt11=>
  cF 194 #[t6,t11,(.int .i64 4)] (λt12=>
  pv (faV 0 t1) λt13=>
  ld false 1 t13 λt14=>
  pv (za2 .none .eql t14 (.int .u8 1)) λt15=>
  cnd t15 (
  pv (faV 3 t1) λt16=>
  ld false 1 t16 λt17=>
  cF 195 #[t6,t17] (λt18=>
  pv (faV 4 t1) λt19=>
  ld false 1 t19 λt20=>
  cF 196 #[t6,t20] (λt21=>
  zpl [1,1,1,1,1,1] (zqm K E) #[x0,t1,(.slice none 0 0),(.int .u16 0),t6,U,U,t2,t3,t4,t5,t6,t6,t7,t8,t9,t6,t10,t11,t12,t13,t14,t15,t15,t6,t16,t17,t18,t6,t19,t20,t21,U,U,U,U,U,U,U,U,U,U,U,U,U,U,U,U,U,U,U,U,U,U,U,U,U,U,U,U,U,U,U,U,U,U,U,U,U,U,U,U,U,U,U,U,U,U,U,U,U,U,U,U,U,U,U,U,U,U,U]) E) E) (
  pv (za2 .none .eql t14 (.int .u8 2)) λt22=>
  cnd t22 (
   pv (faV 2 t1) λt23=>
   ld false 1 t23 λt24=>
   cF 194 #[t6,t24,(.int .i64 4)] (λt25=>
   pv (faV 3 t1) λt26=>
   ld false 1 t26 λt27=>
   cF 195 #[t6,t27] (λt28=>
   zpl [1,1,1,1,1,1] (zqm K E) #[x0,t1,(.slice none 0 0),(.int .u16 0),t6,U,U,t2,t3,t4,t5,t6,t6,t7,t8,t9,t6,t10,t11,t12,t13,t14,t15,t15,U,U,U,U,U,U,U,U,t22,t22,t6,t23,t24,t25,t6,t26,t27,t28,U,U,U,U,U,U,U,U,U,U,U,U,U,U,U,U,U,U,U,U,U,U,U,U,U,U,U,U,U,U,U,U,U,U,U,U,U,U,U,U,U,U,U,U,U,U,U,U,U]) E) E) (
   pv (za2 .none .eql t14 (.int .u8 6)) λt29=>
   cnd t29 (
   pv (faV 5 t1) λt30=>
   pv (faV 0 t30) λt31=>
   ld false 1 t31 λt32=>
   cF 194 #[t6,t32,(.int .i64 4)] (λt33=>
   pv (faV 5 t1) λt34=>
   pv (faV 1 t34) λt35=>
   ld false 1 t35 λt36=>
   pv (zab t36) λt37=>
   cF 197 #[t6,t37,(.int .i64 1)] (λt38=>
   pv (faV 5 t1) λt39=>
   pv (faV 1 t39) λt40=>
   ld false 1 t40 λt41=>
   pv (zab t41) λt42=>
   lp (λk1=>zpl [1,1,1,1,1,0,1,0,1,1,1,1,1,0,1,1,1,0,0] (za6 k1 (blk 1 (blk 0 (za6 (zpl [1,1,1,1,1,1] (zqm K E)) (zqm K E)))))) (zgm x0 t1 (.slice none 0 0) (.int .u16 0) t6 U t2 t3 t4 t5 t6 t6 t7 t8 t9 t6 t10 t11 t12 t13 t14 t15 t15 U U U U U U U U t22 t22 U U U U U U U U t29 t29 t6 t30 t31 t32 t33 t6 t34 t35 t36 t37 t38 t39 t40 t41 t42 U U U U U U U U U U U U U U U U U U U (.int .i64 0) (jf #[]))) E) E) (
   pv (za2 .none .eql t14 (.int .u8 7)) λt43=>
   cnd t43 (
    pv (faV 7 t1) λt44=>
    ld false 1 t44 λt45=>
    cF 197 #[t6,t45,(.int .i64 4)] (λt46=>
    pv (faV 8 t1) λt47=>
    ld false 1 t47 λt48=>
    cF 197 #[t6,t48,(.int .i64 4)] (λt49=>
    pv (faV 9 t1) λt50=>
    ld false 1 t50 λt51=>
    cF 198 #[t6,t51] (λt52=>
    zpl [1,1,1,1,1,1] (zqm K E) #[x0,t1,(.slice none 0 0),(.int .u16 0),t6,U,U,t2,t3,t4,t5,t6,t6,t7,t8,t9,t6,t10,t11,t12,t13,t14,t15,t15,U,U,U,U,U,U,U,U,t22,t22,U,U,U,U,U,U,U,U,t29,t29,U,U,U,U,U,U,U,U,U,U,U,U,U,U,U,U,U,U,U,U,U,U,U,U,U,U,U,U,t43,t43,t6,t44,t45,t46,t6,t47,t48,t49,t6,t50,t51,t52,U,U,U,U,U]) E) E) E) (
    zpl [1,1,1,1,1,1] (zqm K E) #[x0,t1,(.slice none 0 0),(.int .u16 0),t6,U,U,t2,t3,t4,t5,t6,t6,t7,t8,t9,t6,t10,t11,t12,t13,t14,t15,t15,U,U,U,U,U,U,U,U,t22,t22,U,U,U,U,U,U,U,U,t29,t29,U,U,U,U,U,U,U,U,U,U,U,U,U,U,U,U,U,U,U,U,U,U,U,U,U,U,U,U,t43,t43,U,U,U,U,U,U,U,U,U,U,U,U,U,U,U,U,U]))))) E) E)) E:=by kernel_rfl
theorem zgr:zpl [1,1,1,1,1,1] (zqm K E) #[x0,x1,x2,x3,x4,x5,x6,x7,x8,x9,x10,x11,x12,x13,x14,x15,x16,x17,x18,x19,x20,x21,x22,x23,x24,x25,x26,x27,x28,x29,x30,x31,x32,x33,x34,x35,x36,x37,x38,x39,x40,x41,x42,x43,x44,x45,x46,x47,x48,x49,x50,x51,x52,x53,x54,x55,x56,x57,x58,x59,x60,x61,x62,x63,x64,x65,x66,x67,x68,x69,x70,x71,x72,x73,x74,x75,x76,x77,x78,x79,x80,x81,x82,x83,x84,x85,x86,x87,x88,x89,x90] =
 cF 65 #[x4] (λt1=>
 pv (za2 .none .gtr t1 (.int .i64 60000)) λt2=>
 cnd t2 (
  K (.tuple #[(.slice none 0 0),(.int .u16 3)])) (
  cF 85 #[x4] (λt3=>
  K (.tuple #[t3,(.int .u16 0)])) E)) E:=by kernel_rfl
abbrev zsq:=cQ Tryz.f191 K E
abbrev zs4:=cD Tryz.f191
theorem yvh:zs4 [] (zsq K E) #[x0,U,U,U,U,U,U,U,U,U,U,U,U,U,U,U,U,U,U,U,U,U,U,U,U,U,U,U,U,U,U,U,U,U,U,U,U,U,U,U,U,U,U,U,U,U,U,U,U,U,U,U,U,U,U] =
 nw 77 [(.int .u8 0),(.int .u32 0),(.int .u32 0),(.slice none 0 0),(.slice none 0 0),(.int .u32 0),(.slice none 0 0),(.int .i64 0),(.int .i64 0),(.slice none 0 0)] λt1=>
 cF 250 #[x0,(.int .i64 1)] (λt2=>
 pv (cvV .u8 t2) λt3=>
 cF 250 #[x0,(.int .i64 4)] (λt4=>
 pv (cvV .u32 t4) λt5=>
 pv (bdC #[(.int .u8 0),(.int .u32 0),(.int .u32 0),(.slice none 0 0),(.slice none 0 0),(.int .u32 0),(.slice none 0 0),(.int .i64 0),(.int .i64 0),(.slice none 0 0)] [(0,1),(1,1),(2,1),(3,1),(4,1),(5,2),(7,1),(8,1),(9,1)] #[(0,t3),(1,t5)]) λt6=>
 nw 77 [(.int .u8 0),(.int .u32 0),(.int .u32 0),(.slice none 0 0),(.slice none 0 0),(.int .u32 0),(.slice none 0 0),(.int .i64 0),(.int .i64 0),(.slice none 0 0)] λt7=>
 st 10 t7 t6 λ_=>
 pv (faV 0 t7) λt8=>
 ld false 1 t8 λt9=>
 pv (za2 .none .eql t9 (.int .u8 1)) λt10=>
 cnd t10 (
  cF 251 #[x0] (λt11=>
  pv (faV 3 t7) λt12=>
  st 1 t12 t11 λ_=>
  cF 252 #[x0] (λt13=>
  pv (faV 4 t7) λt14=>
  st 1 t14 t13 λ_=>
  zs4 [1,1,1] (zsq K E) #[x0,U,t1,t7,x0,t2,t3,x0,t4,t5,t6,t8,t9,t10,t10,x0,t11,t12,x0,t13,t14,U,U,U,U,U,U,U,U,U,U,U,U,U,U,U,U,U,U,U,U,U,U,U,U,U,U,U,U,U,U,U,U,U,U]) E) E) (
  pv (za2 .none .eql t9 (.int .u8 2)) λt15=>
  cnd t15 (
  cF 250 #[x0,(.int .i64 4)] (λt16=>
  pv (cvV .u32 t16) λt17=>
  pv (faV 2 t7) λt18=>
  st 1 t18 t17 λ_=>
  cF 251 #[x0] (λt19=>
  pv (faV 3 t7) λt20=>
  st 1 t20 t19 λ_=>
  zs4 [1,1,1] (zsq K E) #[x0,U,t1,t7,x0,t2,t3,x0,t4,t5,t6,t8,t9,t10,t10,U,U,U,U,U,U,t15,t15,x0,t16,t17,t18,x0,t19,t20,U,U,U,U,U,U,U,U,U,U,U,U,U,U,U,U,U,U,U,U,U,U,U,U,U]) E) E) (
  pv (za2 .none .eql t9 (.int .u8 6)) λt21=>
  cnd t21 (
   cF 250 #[x0,(.int .i64 4)] (λt22=>
   pv (cvV .u32 t22) λt23=>
   pv (faV 5 t7) λt24=>
   pv (faV 0 t24) λt25=>
   st 1 t25 t23 λ_=>
   cF 253 #[x0] (λt26=>
   pv (faV 5 t7) λt27=>
   pv (faV 1 t27) λt28=>
   st 1 t28 t26 λ_=>
   zs4 [1,1,1] (zsq K E) #[x0,U,t1,t7,x0,t2,t3,x0,t4,t5,t6,t8,t9,t10,t10,U,U,U,U,U,U,t15,t15,U,U,U,U,U,U,U,t21,t21,x0,t22,t23,t24,t25,x0,t26,t27,t28,U,U,U,U,U,U,U,U,U,U,U,U,U,U]) E) E) (
   pv (za2 .none .eql t9 (.int .u8 7)) λt29=>
   cnd t29 (
   cF 250 #[x0,(.int .i64 4)] (λt30=>
   pv (cvV .i64 t30) λt31=>
   pv (faV 7 t7) λt32=>
   st 1 t32 t31 λ_=>
   cF 250 #[x0,(.int .i64 4)] (λt33=>
   pv (cvV .i64 t33) λt34=>
   pv (faV 8 t7) λt35=>
   st 1 t35 t34 λ_=>
   cF 254 #[x0] (λt36=>
   pv (faV 9 t7) λt37=>
   st 1 t37 t36 λ_=>
   zs4 [1,1,1] (zsq K E) #[x0,U,t1,t7,x0,t2,t3,x0,t4,t5,t6,t8,t9,t10,t10,U,U,U,U,U,U,t15,t15,U,U,U,U,U,U,U,t21,t21,U,U,U,U,U,U,U,U,U,t29,t29,x0,t30,t31,t32,x0,t33,t34,t35,x0,t36,t37,U]) E) E) E) (
   zs4 [1,1,1] (zsq K E) #[x0,U,t1,t7,x0,t2,t3,x0,t4,t5,t6,t8,t9,t10,t10,U,U,U,U,U,U,t15,t15,U,U,U,U,U,U,U,t21,t21,U,U,U,U,U,U,U,U,U,t29,t29,U,U,U,U,U,U,U,U,U,U,U,U]))))) E) E:=by kernel_rfl
theorem zl1:zs4 [1,1,1] (zsq K E) #[x0,x1,x2,x3,x4,x5,x6,x7,x8,x9,x10,x11,x12,x13,x14,x15,x16,x17,x18,x19,x20,x21,x22,x23,x24,x25,x26,x27,x28,x29,x30,x31,x32,x33,x34,x35,x36,x37,x38,x39,x40,x41,x42,x43,x44,x45,x46,x47,x48,x49,x50,x51,x52,x53,x54] =
 ld true 10 x3 λt1=>
 st 10 x2 t1 λ_=>
 ld true 10 x2 λt2=>
 K t2:=by kernel_rfl
abbrev ziw:=cQ Tryz.f192 K E
abbrev ziu:=cD Tryz.f192
theorem yw4:ziu [] (ziw K E) #[x0,U,U,U,U,U,U,U,U,U,U,U,U,U,U,U,U,U,U,U,U,U,U,U,U,U,U,U,U,U,U,U,U,U,U,U,U,U,U,U,U,U,U,U,U,U,U,U,U,U,U,U,U,U,U,U,U,U,U,U,U,U,U,U,U,U,U,U,U,U,U,U,U,U,U,U,U,U,U,U,U,U,U,U,U] =
 nw 77 (Value.cells x0).toList λt1=>
 pv (faV 0 t1) λt2=>
 ld false 1 t2 λt3=>
 pv (za2 .none .eql t3 (.int .u8 1)) λt4=>
 cnd t4 (
  pv (faV 3 t1) λt5=>
  ld false 1 t5 λt6=>
  cF 255 #[t6] (λt7=>
  gdK t7 true (λk=>pv (faV 4 t1) k) λt8=>
  gdK t7 true (λk=>ld false 1 t8 k) λt9=>
  gdK t7 true (λk=>cF 256 #[t9] k E) λt10=>
  pv (zad t7 t10 (.bool false)) λt11=>
  pv (faV 3 t1) λt12=>
  st 1 t12 (.slice none 0 0) λ_=>
  pv (faV 4 t1) λt13=>
  st 1 t13 (.slice none 0 0) λ_=>
  ziu [1,1,1] (ziw K E) #[x0,t1,(.bool false),t11,t2,t3,t4,t4,t5,t6,t7,t7,t8,t9,t10,t11,t12,t13,U,U,U,U,U,U,U,U,U,U,U,U,U,U,U,U,U,U,U,U,U,U,U,U,U,U,U,U,U,U,U,U,U,U,U,U,U,U,U,U,U,U,U,U,U,U,U,U,U,U,U,U,U,U,U,U,U,U,U,U,U,U,U,U,U,U,U]) E) (
  pv (za2 .none .eql t3 (.int .u8 2)) λt14=>
  cnd t14 (
  pv (faV 3 t1) λt15=>
  ld false 1 t15 λt16=>
  cF 255 #[t16] (λt17=>
  pv (faV 2 t1) λt18=>
  st 1 t18 (.int .u32 0) λ_=>
  pv (faV 3 t1) λt19=>
  st 1 t19 (.slice none 0 0) λ_=>
  ziu [1,1,1] (ziw K E) #[x0,t1,(.bool false),t17,t2,t3,t4,t4,U,U,U,U,U,U,U,U,U,U,t14,t14,t15,t16,t17,t18,t19,U,U,U,U,U,U,U,U,U,U,U,U,U,U,U,U,U,U,U,U,U,U,U,U,U,U,U,U,U,U,U,U,U,U,U,U,U,U,U,U,U,U,U,U,U,U,U,U,U,U,U,U,U,U,U,U,U,U,U,U]) E) (
  pv (za2 .none .eql t3 (.int .u8 3)) λt20=>
  cnd t20 (
   ziu [1,1,0,1,0,1,1,1,1,1] (blk 0 (za6 (ziu [1,1,1] (ziw K E)) (ziw K E))) #[x0,t1,(.bool false),(.bool true),t2,t3,t4,t4,U,U,U,U,U,U,U,U,U,U,t14,t14,U,U,U,U,U,t20,t20,U,U,U,U,U,U,U,U,U,U,U,U,U,U,U,U,U,U,U,U,U,U,U,U,U,U,U,U,U,U,U,U,U,U,U,U,U,U,U,U,U,U,U,U,U,U,U,U,U,U,U,U,U,U,U,U,U,U]) (
   pv (za2 .none .eql t3 (.int .u8 4)) λt21=>
   cnd t21 (
   ziu [1,1,0,1,0,1,1,1,1,1] (blk 0 (za6 (ziu [1,1,1] (ziw K E)) (ziw K E))) #[x0,t1,(.bool false),(.bool true),t2,t3,t4,t4,U,U,U,U,U,U,U,U,U,U,t14,t14,U,U,U,U,U,t21,t20,t21,U,U,U,U,U,U,U,U,U,U,U,U,U,U,U,U,U,U,U,U,U,U,U,U,U,U,U,U,U,U,U,U,U,U,U,U,U,U,U,U,U,U,U,U,U,U,U,U,U,U,U,U,U,U,U,U,U]) (
   pv (za2 .none .eql t3 (.int .u8 5)) λt22=>
   ziu [1,1,0,1,0,1,1,1,1,1] (blk 0 (za6 (ziu [1,1,1] (ziw K E)) (ziw K E))) #[x0,t1,(.bool false),(.bool true),t2,t3,t4,t4,U,U,U,U,U,U,U,U,U,U,t14,t14,U,U,U,U,U,t22,t20,t21,t22,U,U,U,U,U,U,U,U,U,U,U,U,U,U,U,U,U,U,U,U,U,U,U,U,U,U,U,U,U,U,U,U,U,U,U,U,U,U,U,U,U,U,U,U,U,U,U,U,U,U,U,U,U,U,U,U])))):=by kernel_rfl
theorem zgu:ziu [1,1,1] (ziw K E) #[x0,x1,x2,x3,x4,x5,x6,x7,x8,x9,x10,x11,x12,x13,x14,x15,x16,x17,x18,x19,x20,x21,x22,x23,x24,x25,x26,x27,x28,x29,x30,x31,x32,x33,x34,x35,x36,x37,x38,x39,x40,x41,x42,x43,x44,x45,x46,x47,x48,x49,x50,x51,x52,x53,x54,x55,x56,x57,x58,x59,x60,x61,x62,x63,x64,x65,x66,x67,x68,x69,x70,x71,x72,x73,x74,x75,x76,x77,x78,x79,x80,x81,x82,x83,x84] =
 pv (faV 0 x1) λt1=>
 st 1 t1 (.int .u8 0) λ_=>
 pv (faV 1 x1) λt2=>
 st 1 t2 (.int .u32 0) λ_=>
 gdK x3 true (λk=>ld true 10 x1 k) λt3=>
 gdK x3 true (λk=>cF 261 #[t3] k E) λt4=>
 pv (zad x3 t4 (.bool false)) λt5=>
 K t5:=by kernel_rfl
theorem zdj:ziu [1,1,0,1,0,1,1,1,1,1] (blk 0 (za6 (ziu [1,1,1] (ziw K E)) (ziw K E))) #[x0,x1,x2,x3,x4,x5,x6,x7,x8,x9,x10,x11,x12,x13,x14,x15,x16,x17,x18,x19,x20,x21,x22,x23,x24,x25,x26,x27,x28,x29,x30,x31,x32,x33,x34,x35,x36,x37,x38,x39,x40,x41,x42,x43,x44,x45,x46,x47,x48,x49,x50,x51,x52,x53,x54,x55,x56,x57,x58,x59,x60,x61,x62,x63,x64,x65,x66,x67,x68,x69,x70,x71,x72,x73,x74,x75,x76,x77,x78,x79,x80,x81,x82,x83,x84] =
 cnd x25 (
  ziu [1,1,1] (ziw K E) #[x0,x1,x2,x3,x4,x5,x6,x7,x8,x9,x10,x11,x12,x13,x14,x15,x16,x17,x18,x19,x20,x21,x22,x23,x24,x25,x26,x27,x28,x29,x30,x31,x32,x33,x34,x35,x36,x37,x38,x39,x40,x41,x42,x43,x44,x45,x46,x47,x48,x49,x50,x51,x52,x53,x54,x55,x56,x57,x58,x59,x60,x61,x62,x63,x64,x65,x66,x67,x68,x69,x70,x71,x72,x73,x74,x75,x76,x77,x78,x79,x80,x81,x82,x83,x84]) (
  pv (za2 .none .eql x5 (.int .u8 6)) λt1=>
  cnd t1 (
  pv (faV 1 x1) λt2=>
  ld false 1 t2 λt3=>
  pv (za2 .none .eql t3 (.int .u32 0)) λt4=>
  gdK t4 true (λk=>pv (faV 5 x1) k) λt5=>
  gdK t4 true (λk=>pv (faV 1 t5) k) λt6=>
  gdK t4 true (λk=>ld false 1 t6 k) λt7=>
  gdK t4 true (λk=>pv (zab t7) k) λt8=>
  gdK t4 true (λk=>pv (za2 .none .leq t8 (.int .i64 40)) k) λt9=>
  pv (zad t4 t9 (.bool false)) λt10=>
  gdK t10 true (λk=>pv (faV 5 x1) k) λt11=>
  gdK t10 true (λk=>pv (faV 1 t11) k) λt12=>
  gdK t10 true (λk=>ld false 1 t12 k) λt13=>
  gdK t10 true (λk=>cF 257 #[t13,(.func (.func 258) #[] #[])] k E) λt14=>
  gdK t10 true (λk=>pv (unV .not t14) k) λt15=>
  pv (zad t10 t15 (.bool false)) λt16=>
  pv (bdC #[(.int .u32 0),(.slice none 0 0)] [(0,1),(1,1)] #[]) λt17=>
  pv (faV 5 x1) λt18=>
  st 2 t18 t17 λ_=>
  ziu [1,1,1] (ziw K E) #[x0,x1,x2,t16,x4,x5,x6,x7,x8,x9,x10,x11,x12,x13,x14,x15,x16,x17,x18,x19,x20,x21,x22,x23,x24,x25,x26,x27,x28,t1,t1,t2,t3,t4,t4,t5,t6,t7,t8,t9,t10,t10,t11,t12,t13,t14,t15,t16,t17,t18,x50,x51,x52,x53,x54,x55,x56,x57,x58,x59,x60,x61,x62,x63,x64,x65,x66,x67,x68,x69,x70,x71,x72,x73,x74,x75,x76,x77,x78,x79,x80,x81,x82,x83,x84]) (
  pv (za2 .none .eql x5 (.int .u8 7)) λt19=>
  cnd t19 (
   pv (faV 9 x1) λt20=>
   ld false 1 t20 λt21=>
   cF 260 #[t21] (λt22=>
   gdK t22 true (λk=>pv (faV 7 x1) k) λt23=>
   gdK t22 true (λk=>ld false 1 t23 k) λt24=>
   gdK t22 true (λk=>pv (za2 .none .geq t24 (.int .i64 0)) k) λt25=>
   pv (zad t22 t25 (.bool false)) λt26=>
   gdK t26 true (λk=>pv (faV 7 x1) k) λt27=>
   gdK t26 true (λk=>ld false 1 t27 k) λt28=>
   gdK t26 true (λk=>pv (za2 .none .leq t28 (.int .i64 10000)) k) λt29=>
   pv (zad t26 t29 (.bool false)) λt30=>
   gdK t30 true (λk=>pv (faV 8 x1) k) λt31=>
   gdK t30 true (λk=>ld false 1 t31 k) λt32=>
   gdK t30 true (λk=>pv (za2 .none .geq t32 (.int .i64 0)) k) λt33=>
   pv (zad t30 t33 (.bool false)) λt34=>
   gdK t34 true (λk=>pv (faV 8 x1) k) λt35=>
   gdK t34 true (λk=>ld false 1 t35 k) λt36=>
   gdK t34 true (λk=>pv (za2 .none .leq t36 (.int .i64 10000)) k) λt37=>
   pv (zad t34 t37 (.bool false)) λt38=>
   pv (faV 7 x1) λt39=>
   st 1 t39 (.int .i64 0) λ_=>
   pv (faV 8 x1) λt40=>
   st 1 t40 (.int .i64 0) λ_=>
   pv (faV 9 x1) λt41=>
   st 1 t41 (.slice none 0 0) λ_=>
   ziu [1,1,1] (ziw K E) #[x0,x1,x2,t38,x4,x5,x6,x7,x8,x9,x10,x11,x12,x13,x14,x15,x16,x17,x18,x19,x20,x21,x22,x23,x24,x25,x26,x27,x28,t1,t1,x31,x32,x33,x34,x35,x36,x37,x38,x39,x40,x41,x42,x43,x44,x45,x46,x47,x48,x49,t19,t19,t20,t21,t22,t22,t23,t24,t25,t26,t26,t27,t28,t29,t30,t30,t31,t32,t33,t34,t34,t35,t36,t37,t38,t39,t40,t41,x78,x79,x80,x81,x82,x83,x84]) E) (
   K (.bool false)))):=by kernel_rfl
abbrev yab:=cQ Tryz.f193 K E
abbrev ya9:=cD Tryz.f193
def zhx (j:Nat -> Value):Env:=#[x0,x1,x2,x3,x4,x5,(j 6),x7,v8,(j 9),(j 10),(j 11),(j 12),(j 13),(j 14),(j 15),(j 16),(j 17),(j 18),(j 19),(j 20),(j 21),(j 22)]
theorem yw5:ya9 [] (yab K E) #[x0,x1,x2,U,U,U,U,U,U,U,U,U,U,U,U,U,U,U,U,U,U,U,U] =
 lp (λk1=>ya9 [1,0,0] (za6 k1 (blk 0 (yab K E)))) (zhx x0 x1 x2 U U U x2 (.int .i64 0) (jf #[])):=by kernel_rfl
theorem yfl:ya9 [1,0,0] (za6 k1 (blk 0 (yab K E))) (zhx x0 x1 x2 x3 x4 x5 x7 v8 j) =
 pv (za2 .none .lss v8 x7) λt1=>
 cnd t1 (
  pv (cvV .u64 x1) λt2=>
  pv (za2 .none .sub x2 (.int .i64 1)) λt3=>
  pv (za2 .none .sub t3 v8) λt4=>
  pv (za2 .none .mul (.int .i64 8) t4) λt5=>
  pv (za2 .none .shr t2 t5) λt6=>
  pv (cvV .u8 t6) λt7=>
  cF 262 #[x0,t7] (λt8=>
  pv (za2 .none .add v8 (.int .i64 1)) λt9=>
  k1 (zhx x0 x1 x2 x3 x4 x5 x7 t9 (jf #[U,U,U,U,U,U,v8,U,U,t1,v8,x0,x1,t2,x2,t3,v8,t4,t5,t6,t7,t8,t9]))) E) (
  K (.tuple #[])):=by kernel_rfl
abbrev yar:=cQ Tryz.f194 K E
abbrev zzx:=cD Tryz.f194
def zi2 (j:Nat -> Value):Env:=#[x0,x1,x2,x3,x4,x5,(j 6),x7,v8,(j 9),(j 10),(j 11),(j 12),(j 13),(j 14),(j 15),(j 16),(j 17),(j 18),(j 19),(j 20),(j 21),(j 22)]
theorem ywr:zzx [] (yar K E) #[x0,x1,x2,U,U,U,U,U,U,U,U,U,U,U,U,U,U,U,U,U,U,U,U] =
 lp (λk1=>zzx [1,0,0] (za6 k1 (blk 0 (yar K E)))) (zi2 x0 x1 x2 U U U x2 (.int .i64 0) (jf #[])):=by kernel_rfl
theorem yel:zzx [1,0,0] (za6 k1 (blk 0 (yar K E))) (zi2 x0 x1 x2 x3 x4 x5 x7 v8 j) =
 pv (za2 .none .lss v8 x7) λt1=>
 cnd t1 (
  pv (cvV .u64 x1) λt2=>
  pv (za2 .none .sub x2 (.int .i64 1)) λt3=>
  pv (za2 .none .sub t3 v8) λt4=>
  pv (za2 .none .mul (.int .i64 8) t4) λt5=>
  pv (za2 .none .shr t2 t5) λt6=>
  pv (cvV .u8 t6) λt7=>
  cF 262 #[x0,t7] (λt8=>
  pv (za2 .none .add v8 (.int .i64 1)) λt9=>
  k1 (zi2 x0 x1 x2 x3 x4 x5 x7 t9 (jf #[U,U,U,U,U,U,v8,U,U,t1,v8,x0,x1,t2,x2,t3,v8,t4,t5,t6,t7,t8,t9]))) E) (
  K (.tuple #[])):=by kernel_rfl
abbrev yao:=cQ Tryz.f195 K E
abbrev yay:=cD Tryz.f195
def zgi (j:Nat -> Value):Env:=#[x0,x1,x2,x3,x4,(j 5),x6,x7,x8,x9,x10,x11,v12,(j 13),(j 14),(j 15),(j 16),(j 17),(j 18),(j 19)]
theorem ywm:yay [] (yao K E) #[x0,x1,U,U,U,U,U,U,U,U,U,U,U,U,U,U,U,U,U,U] =
 pv (zab x1) λt1=>
 cF 197 #[x0,t1,(.int .i64 1)] (λt2=>
 pv (zab x1) λt3=>
 lp (λk1=>yay [1,1,0,0] (za6 k1 (blk 0 (yao K E)))) (zgi x0 x1 U U U x0 x1 t1 t2 x1 t3 (.int .i64 0) (jf #[]))) E:=by kernel_rfl
theorem zzz:yay [1,1,0,0] (za6 k1 (blk 0 (yao K E))) (zgi x0 x1 x2 x3 x4 x6 x7 x8 x9 x10 x11 v12 j) =
 pv (za2 .none .lss v12 x11) λt1=>
 cnd t1 (
  pv (iaV none 1 x10 v12) λt2=>
  ld false 1 t2 λt3=>
  cF 197 #[x0,t3,(.int .i64 1)] (λt4=>
  pv (za2 .none .add v12 (.int .i64 1)) λt5=>
  k1 (zgi x0 x1 x2 x3 x4 x6 x7 x8 x9 x10 x11 t5 (jf #[U,U,U,U,U,t3,U,U,U,U,U,U,U,t1,t2,t3,x0,t3,t4,t5]))) E) (
  K (.tuple #[])):=by kernel_rfl
abbrev zo7:=cQ Tryz.f196 K E
abbrev zks:=cD Tryz.f196
abbrev zua:=za6 k2 (blk 2 (za6 (zks [1,1,0,0,1,1,0,0,1,1,1] (blk 1 (za6 (zks [1,1,0,0,1,1,1] (za6 k1 (blk 0 (zo7 K E)))) (za6 k1 (blk 0 (zo7 K E)))))) (blk 1 (za6 (zks [1,1,0,0,1,1,1] (za6 k1 (blk 0 (zo7 K E)))) (za6 k1 (blk 0 (zo7 K E)))))))
def zg9 (j:Nat -> Value):Env:=#[x0,x1,x2,x3,x4,(j 5),x6,(j 7),x8,x9,x10,x11,x12,x13,v14,(j 15),(j 16),(j 17),(j 18),(j 19),(j 20),(j 21),(j 22),(j 23),(j 24),(j 25),(j 26),(j 27),(j 28),(j 29),(j 30),(j 31),(j 32),(j 33),(j 34),(j 35),(j 36),(j 37),(j 38)]
def zbt (j:Nat -> Value):Env:=#[x0,x1,x2,x3,x4,x5,x6,(j 7),x8,x9,x10,x11,x12,x13,x14,x15,x16,x17,x18,x19,x20,x21,x22,x23,x24,x25,v26,(j 27),(j 28),(j 29),(j 30),(j 31),(j 32),(j 33),x34,x35,x36,x37,x38]
theorem ysk:zks [] (zo7 K E) #[x0,x1,U,U,U,U,U,U,U,U,U,U,U,U,U,U,U,U,U,U,U,U,U,U,U,U,U,U,U,U,U,U,U,U,U,U,U,U,U] =
 pv (zab x1) λt1=>
 cF 197 #[x0,t1,(.int .i64 4)] (λt2=>
 pv (zab x1) λt3=>
 lp (λk1=>zks [1,1,0,0] (za6 k1 (blk 0 (zo7 K E)))) (zg9 x0 x1 U U U U x0 x1 t1 t2 x1 t3 (.int .i64 0) (jf #[]))) E:=by kernel_rfl
theorem ya5:zks [1,1,0,0] (za6 k1 (blk 0 (zo7 K E))) (zg9 x0 x1 x2 x3 x4 x6 x8 x9 x10 x11 x12 x13 v14 j) =
 pv (za2 .none .lss v14 x13) λt1=>
 cnd t1 (
  pv (iaV none 2 x12 v14) λt2=>
  ld true 2 t2 λt3=>
  nw 110 [(.slice none 0 0),(.int .i64 0)] λt4=>
  st 2 t4 t3 λ_=>
  pv (faV 0 t4) λt5=>
  ld false 1 t5 λt6=>
  pv (zab t6) λt7=>
  cF 197 #[x0,t7,(.int .i64 1)] (λt8=>
  pv (faV 0 t4) λt9=>
  ld false 1 t9 λt10=>
  pv (zab t10) λt11=>
  lp (λk2=>zks [1,1,0,0,1,1,0,0,1,1,0,1,0,0] (zua K E k1 k2)) (zbt x0 x1 x2 x3 x4 t4 x6 x8 x9 x10 x11 x12 x13 v14 t1 t2 t3 x0 t5 t6 t7 t8 t9 t10 t11 (j 34) (j 35) (j 36) (j 37) (j 38) (.int .i64 0) (jf #[U,U,U,U,U,U,U,(j 7),U,U,U,U,U,U,U,U,U,U,U,U,U,U,U,U,U,U,U,(j 27),(j 28),(j 29),(j 30),(j 31),(j 32),(j 33)]))) E) (
  K (.tuple #[])):=by kernel_rfl
theorem ziq:zks [1,1,0,0,1,1,0,0,1,1,0,1,0,0] (zua K E k1 k2) (zbt x0 x1 x2 x3 x4 x5 x6 x8 x9 x10 x11 x12 x13 x14 x15 x16 x17 x18 x19 x20 x21 x22 x23 x24 x25 x34 x35 x36 x37 x38 v26 j) =
 pv (za2 .none .lss v26 x25) λt1=>
 cnd t1 (
  pv (iaV none 1 x24 v26) λt2=>
  ld false 1 t2 λt3=>
  cF 197 #[x0,t3,(.int .i64 4)] (λt4=>
  pv (za2 .none .add v26 (.int .i64 1)) λt5=>
  k2 (zbt x0 x1 x2 x3 x4 x5 x6 x8 x9 x10 x11 x12 x13 x14 x15 x16 x17 x18 x19 x20 x21 x22 x23 x24 x25 x34 x35 x36 x37 x38 t5 (jf #[U,U,U,U,U,U,U,t3,U,U,U,U,U,U,U,U,U,U,U,U,U,U,U,U,U,U,U,t1,t2,t3,x0,t3,t4,t5]))) E) (
  pv (faV 1 x5) λt6=>
  ld false 1 t6 λt7=>
  cF 263 #[x0,t7,(.int .i64 8)] (λt8=>
  pv (za2 .none .add x14 (.int .i64 1)) λt9=>
  k1 (zg9 x0 x1 x2 x3 x4 x6 x8 x9 x10 x11 x12 x13 t9 (jf #[U,U,U,U,U,x5,U,(j 7),U,U,U,U,U,U,U,x15,x16,x17,x18,x19,x20,x21,x22,x23,x24,x25,v26,t1,(j 28),(j 29),(j 30),(j 31),(j 32),(j 33),x0,t6,t7,t8,t9]))) E):=by kernel_rfl
abbrev yap:=cQ Tryz.f197 K E
abbrev zze:=cD Tryz.f197
def zi3 (j:Nat -> Value):Env:=#[x0,x1,x2,x3,x4,x5,(j 6),x7,v8,(j 9),(j 10),(j 11),(j 12),(j 13),(j 14),(j 15),(j 16),(j 17),(j 18),(j 19),(j 20),(j 21),(j 22)]
theorem ysc:zze [] (yap K E) #[x0,x1,x2,U,U,U,U,U,U,U,U,U,U,U,U,U,U,U,U,U,U,U,U] =
 lp (λk1=>zze [1,0,0] (za6 k1 (blk 0 (yap K E)))) (zi3 x0 x1 x2 U U U x2 (.int .i64 0) (jf #[])):=by kernel_rfl
theorem yfo:zze [1,0,0] (za6 k1 (blk 0 (yap K E))) (zi3 x0 x1 x2 x3 x4 x5 x7 v8 j) =
 pv (za2 .none .lss v8 x7) λt1=>
 cnd t1 (
  pv (cvV .u64 x1) λt2=>
  pv (za2 .none .sub x2 (.int .i64 1)) λt3=>
  pv (za2 .none .sub t3 v8) λt4=>
  pv (za2 .none .mul (.int .i64 8) t4) λt5=>
  pv (za2 .none .shr t2 t5) λt6=>
  pv (cvV .u8 t6) λt7=>
  cF 262 #[x0,t7] (λt8=>
  pv (za2 .none .add v8 (.int .i64 1)) λt9=>
  k1 (zi3 x0 x1 x2 x3 x4 x5 x7 t9 (jf #[U,U,U,U,U,U,v8,U,U,t1,v8,x0,x1,t2,x2,t3,v8,t4,t5,t6,t7,t8,t9]))) E) (
  K (.tuple #[])):=by kernel_rfl
abbrev zzk:=cQ Tryz.f198 K E
abbrev ybe:=cD Tryz.f198
def zgl (j:Nat -> Value):Env:=#[x0,x1,x2,x3,x4,(j 5),x6,x7,x8,x9,x10,x11,v12,(j 13),(j 14),(j 15),(j 16),(j 17),(j 18),(j 19),(j 20),(j 21),(j 22),(j 23),(j 24)]
theorem yu0:ybe [] (zzk K E) #[x0,x1,U,U,U,U,U,U,U,U,U,U,U,U,U,U,U,U,U,U,U,U,U,U,U] =
 pv (zab x1) λt1=>
 cF 197 #[x0,t1,(.int .i64 4)] (λt2=>
 pv (zab x1) λt3=>
 lp (λk1=>ybe [1,1,0,0] (za6 k1 (blk 0 (zzk K E)))) (zgl x0 x1 U U U x0 x1 t1 t2 x1 t3 (.int .i64 0) (jf #[]))) E:=by kernel_rfl
theorem zzb:ybe [1,1,0,0] (za6 k1 (blk 0 (zzk K E))) (zgl x0 x1 x2 x3 x4 x6 x7 x8 x9 x10 x11 v12 j) =
 pv (za2 .none .lss v12 x11) λt1=>
 cnd t1 (
  pv (iaV none 2 x10 v12) λt2=>
  ld true 2 t2 λt3=>
  nw 143 [(.int .u32 0),(.slice none 0 0)] λt4=>
  st 2 t4 t3 λ_=>
  pv (faV 0 t4) λt5=>
  ld false 1 t5 λt6=>
  cF 194 #[x0,t6,(.int .i64 4)] (λt7=>
  pv (faV 1 t4) λt8=>
  ld false 1 t8 λt9=>
  cF 196 #[x0,t9] (λt10=>
  pv (za2 .none .add v12 (.int .i64 1)) λt11=>
  k1 (zgl x0 x1 x2 x3 x4 x6 x7 x8 x9 x10 x11 t11 (jf #[U,U,U,U,U,t4,U,U,U,U,U,U,U,t1,t2,t3,x0,t5,t6,t7,x0,t8,t9,t10,t11]))) E) E) (
  K (.tuple #[])):=by kernel_rfl
abbrev zxj:=cQ Tryz.f250 K E
abbrev znn:=cD Tryz.f250
abbrev zvt:=za6 k1 (blk 0 (za6 (znn [1,1,1,1] (zxj K E)) (zxj K E)))
def zd8 (j:Nat -> Value):Env:=#[x0,x1,x2,x3,x4,v5,x6,(j 7),x8,x9,x10,x11,x12,x13,x14,x15,x16,x17,x18,x19,x20,x21,x22,x23,v24,(j 25),(j 26),(j 27),(j 28),(j 29),(j 30),(j 31),(j 32),(j 33),x34,x35,x36,x37,x38,x39,x40,x41,x42,x43]
theorem ytk:znn [] (zxj K E) #[x0,x1,U,U,U,U,U,U,U,U,U,U,U,U,U,U,U,U,U,U,U,U,U,U,U,U,U,U,U,U,U,U,U,U,U,U,U,U,U,U,U,U,U,U] =
 pv (zai x0) λt1=>
 pv (faV 0 t1) λt2=>
 ld false 1 t2 λt3=>
 pv (zab t3) λt4=>
 pv (za2 .none .lss t4 x1) λt5=>
 cnd t5 (
  pv (bdC #[] [] #[]) λt6=>
  pv (znt 286 t6) λt7=>
  pnc t7 E λ_=>
  znn [1,1] (zxj K E) #[x0,x1,U,U,(.int .u64 0),U,U,U,x0,t1,t2,t3,t4,x1,t5,t6,t7,U,U,U,U,U,U,U,U,U,U,U,U,U,U,U,U,U,U,U,U,U,U,U,U,U,U,U]) (
  znn [1,1] (zxj K E) #[x0,x1,U,U,(.int .u64 0),U,U,U,x0,t1,t2,t3,t4,x1,t5,U,U,U,U,U,U,U,U,U,U,U,U,U,U,U,U,U,U,U,U,U,U,U,U,U,U,U,U,U]):=by kernel_rfl
theorem ylk:znn [1,1] (zxj K E) #[x0,x1,x2,x3,x4,x5,x6,x7,x8,x9,x10,x11,x12,x13,x14,x15,x16,x17,x18,x19,x20,x21,x22,x23,x24,x25,x26,x27,x28,x29,x30,x31,x32,x33,x34,x35,x36,x37,x38,x39,x40,x41,x42,x43] =
 pv (zai x0) λt1=>
 pv (faV 0 t1) λt2=>
 ld false 1 t2 λt3=>
 pv (slV 1 t3 none (some x1) none) λt4=>
 pv (zab t4) λt5=>
 lp (λk1=>znn [1,1,1,0,1,0,0] (zvt K E k1)) (zd8 x0 x1 x2 x3 x4 x6 x8 x9 x10 x11 x12 x13 x14 x15 x16 x0 t1 t2 t3 x1 t4 t5 x34 x35 x36 x37 x38 x39 x40 x41 x42 x43 (.int .u64 0) (.int .i64 0) (jf #[U,U,U,U,U,U,U,x7,U,U,U,U,U,U,U,U,U,U,U,U,U,U,U,U,U,x25,x26,x27,x28,x29,x30,x31,x32,x33])):=by kernel_rfl
theorem zpa:znn [1,1,1,0,1,0,0] (zvt K E k1) (zd8 x0 x1 x2 x3 x4 x6 x8 x9 x10 x11 x12 x13 x14 x15 x16 x17 x18 x19 x20 x21 x22 x23 x34 x35 x36 x37 x38 x39 x40 x41 x42 x43 v5 v24 j) =
 pv (za2 .none .lss v24 x23) λt1=>
 cnd t1 (
  pv (iaV none 1 x22 v24) λt2=>
  ld false 1 t2 λt3=>
  pv (za2 .none .shl v5 (.int .u64 8)) λt4=>
  pv (cvV .u64 t3) λt5=>
  pv (za2 .none .or t4 t5) λt6=>
  pv (za2 .none .add v24 (.int .i64 1)) λt7=>
  k1 (zd8 x0 x1 x2 x3 x4 x6 x8 x9 x10 x11 x12 x13 x14 x15 x16 x17 x18 x19 x20 x21 x22 x23 x34 x35 x36 x37 x38 x39 x40 x41 x42 x43 t6 t7 (jf #[U,U,U,U,U,U,U,t3,U,U,U,U,U,U,U,U,U,U,U,U,U,U,U,U,U,t1,t2,t3,v5,t4,t3,t5,t6,t7]))) (
  pv (zai x0) λt8=>
  pv (faV 0 t8) λt9=>
  ld false 1 t9 λt10=>
  pv (slV 1 t10 (some x1) none none) λt11=>
  pv (zai x0) λt12=>
  pv (faV 0 t12) λt13=>
  st 1 t13 t11 λ_=>
  K v5):=by kernel_rfl
abbrev ykv:=cQ Tryz.f251 K E
abbrev zwg:=cD Tryz.f251
abbrev ztl:=za6 k1 (blk 0 (za6 (zwg [1,1,1] (ykv K E)) (ykv K E)))
def ze6 (j:Nat -> Value):Env:=#[x0,x1,x2,x3,(j 4),x5,x6,x7,x8,x9,v10,(j 11),(j 12),(j 13),(j 14),(j 15),(j 16),(j 17),(j 18),(j 19),x20]
theorem ys6:zwg [] (ykv K E) #[x0,U,U,U,U,U,U,U,U,U,U,U,U,U,U,U,U,U,U,U,U] =
 cF 299 #[x0,(.int .i64 1),(.int .i64 1)] (λt1=>
 mks 3 [(.int .i64 0)] 1 8 t1 t1 λt2=>
 pv (zab t2) λt3=>
 lp (λk1=>zwg [1,1,0,1,0,0] (ztl K E k1)) (ze6 x0 U (.slice none 0 0) t2 x0 t1 t2 t2 t3 U (.int .i64 0) (jf #[]))) E:=by kernel_rfl
theorem ztj:zwg [1,1,0,1,0,0] (ztl K E k1) (ze6 x0 x1 x2 x3 x5 x6 x7 x8 x9 x20 v10 j) =
 pv (za2 .none .lss v10 x9) λt1=>
 cnd t1 (
  cF 250 #[x0,(.int .i64 1)] (λt2=>
  pv (cvV .i64 t2) λt3=>
  pv (iaV none 1 x3 v10) λt4=>
  st 1 t4 t3 λ_=>
  pv (za2 .none .add v10 (.int .i64 1)) λt5=>
  k1 (ze6 x0 x1 x2 x3 x5 x6 x7 x8 x9 x20 t5 (jf #[U,U,U,U,v10,U,U,U,U,U,U,t1,v10,x3,v10,x0,t2,t3,t4,t5]))) E) (
  K x3):=by kernel_rfl
abbrev zlt:=cQ Tryz.f252 K E
abbrev zhs:=cD Tryz.f252
abbrev ztw:=za6 k2 (blk 2 (za6 (zhs [1,1,0,1,0,0,1,1,0,0,1,1,1] (blk 1 (za6 (zhs [1,1,0,1,0,0,1,1,1] (za6 k1 (blk 0 (za6 (zhs [1,1,1] (zlt K E)) (zlt K E))))) (za6 k1 (blk 0 (za6 (zhs [1,1,1] (zlt K E)) (zlt K E))))))) (blk 1 (za6 (zhs [1,1,0,1,0,0,1,1,1] (za6 k1 (blk 0 (za6 (zhs [1,1,1] (zlt K E)) (zlt K E))))) (za6 k1 (blk 0 (za6 (zhs [1,1,1] (zlt K E)) (zlt K E))))))))
abbrev ztq:=za6 k1 (blk 0 (za6 (zhs [1,1,1] (zlt K E)) (zlt K E)))
def ze0 (j:Nat -> Value):Env:=#[x0,x1,x2,x3,(j 4),(j 5),x6,x7,x8,x9,x10,v11,(j 12),(j 13),(j 14),(j 15),(j 16),(j 17),(j 18),(j 19),(j 20),(j 21),(j 22),(j 23),(j 24),(j 25),(j 26),(j 27),(j 28),(j 29),(j 30),(j 31),(j 32),(j 33),(j 34),(j 35),(j 36),(j 37),(j 38),(j 39),(j 40),(j 41),(j 42),(j 43),(j 44),(j 45),(j 46),(j 47),(j 48),x49]
def zbf (j:Nat -> Value):Env:=#[x0,x1,x2,x3,x4,(j 5),x6,x7,x8,x9,x10,x11,x12,x13,x14,x15,x16,x17,x18,x19,x20,x21,x22,x23,x24,x25,x26,v27,(j 28),(j 29),(j 30),(j 31),(j 32),(j 33),(j 34),(j 35),(j 36),(j 37),(j 38),(j 39),(j 40),x41,x42,x43,x44,x45,x46,x47,x48,x49]
theorem yvc:zhs [] (zlt K E) #[x0,U,U,U,U,U,U,U,U,U,U,U,U,U,U,U,U,U,U,U,U,U,U,U,U,U,U,U,U,U,U,U,U,U,U,U,U,U,U,U,U,U,U,U,U,U,U,U,U,U] =
 cF 299 #[x0,(.int .i64 4),(.int .i64 9)] (λt1=>
 mks 110 [(.slice none 0 0),(.int .i64 0)] 2 32 t1 t1 λt2=>
 pv (zab t2) λt3=>
 lp (λk1=>zhs [1,1,0,1,0,0] (ztq K E k1)) (ze0 x0 U (.slice none 0 0) t2 x0 t1 t2 t2 t3 U (.int .i64 0) (jf #[]))) E:=by kernel_rfl
theorem zt1:zhs [1,1,0,1,0,0] (ztq K E k1) (ze0 x0 x1 x2 x3 x6 x7 x8 x9 x10 x49 v11 j) =
 pv (za2 .none .lss v11 x10) λt1=>
 cnd t1 (
  cF 299 #[x0,(.int .i64 1),(.int .i64 4)] (λt2=>
  mks 3 [(.int .i64 0)] 1 8 t2 t2 λt3=>
  pv (iaV none 2 x3 v11) λt4=>
  pv (faV 0 t4) λt5=>
  st 1 t5 t3 λ_=>
  pv (iaV none 2 x3 v11) λt6=>
  pv (faV 0 t6) λt7=>
  ld false 1 t7 λt8=>
  pv (zab t8) λt9=>
  lp (λk2=>zhs [1,1,0,1,0,0,1,1,0,0,1,1,0,1,0,0] (ztw K E k1 k2)) (zbf x0 x1 x2 x3 v11 x6 x7 x8 x9 x10 v11 t1 v11 x3 v11 x0 t2 t3 t4 t5 x3 v11 t6 t7 t8 t9 (j 41) (j 42) (j 43) (j 44) (j 45) (j 46) (j 47) (j 48) x49 (.int .i64 0) (jf #[U,U,U,U,U,(j 5),U,U,U,U,U,U,U,U,U,U,U,U,U,U,U,U,U,U,U,U,U,U,(j 28),(j 29),(j 30),(j 31),(j 32),(j 33),(j 34),(j 35),(j 36),(j 37),(j 38),(j 39),(j 40)]))) E) (
  K x3):=by kernel_rfl
theorem zht:zhs [1,1,0,1,0,0,1,1,0,0,1,1,0,1,0,0] (ztw K E k1 k2) (zbf x0 x1 x2 x3 x4 x6 x7 x8 x9 x10 x11 x12 x13 x14 x15 x16 x17 x18 x19 x20 x21 x22 x23 x24 x25 x26 x41 x42 x43 x44 x45 x46 x47 x48 x49 v27 j) =
 pv (za2 .none .lss v27 x26) λt1=>
 cnd t1 (
  pv (iaV none 2 x3 x4) λt2=>
  pv (faV 0 t2) λt3=>
  ld false 1 t3 λt4=>
  cF 250 #[x0,(.int .i64 4)] (λt5 h6=>(ldV h6 false 1 t3 t4)∧(
  pv (cvV .i64 t5) λt7=>
  pv (iaV none 1 t4 v27) λt8=>
  st 1 t8 t7 λ_=>
  pv (za2 .none .add v27 (.int .i64 1)) λt9=>
  k2 (zbf x0 x1 x2 x3 x4 x6 x7 x8 x9 x10 x11 x12 x13 x14 x15 x16 x17 x18 x19 x20 x21 x22 x23 x24 x25 x26 x41 x42 x43 x44 x45 x46 x47 x48 x49 t9 (jf #[U,U,U,U,U,v27,U,U,U,U,U,U,U,U,U,U,U,U,U,U,U,U,U,U,U,U,U,U,t1,v27,x3,x4,t2,t3,t4,v27,x0,t5,t7,t8,t9]))) h6) E) (
  cF 250 #[x0,(.int .i64 8)] (λt10=>
  pv (cvV .i64 t10) λt11=>
  pv (iaV none 2 x3 x4) λt12=>
  pv (faV 1 t12) λt13=>
  st 1 t13 t11 λ_=>
  pv (za2 .none .add x11 (.int .i64 1)) λt14=>
  k1 (ze0 x0 x1 x2 x3 x6 x7 x8 x9 x10 x49 t14 (jf #[U,U,U,U,x4,(j 5),U,U,U,U,U,U,x12,x13,x14,x15,x16,x17,x18,x19,x20,x21,x22,x23,x24,x25,x26,v27,t1,(j 29),(j 30),(j 31),(j 32),(j 33),(j 34),(j 35),(j 36),(j 37),(j 38),(j 39),(j 40),x3,x4,x0,t10,t11,t12,t13,t14]))) E):=by kernel_rfl
abbrev yir:=cQ Tryz.f254 K E
abbrev zwb:=cD Tryz.f254
abbrev zuu:=za6 k1 (blk 0 (za6 (zwb [1,1,1] (yir K E)) (yir K E)))
def zdz (j:Nat -> Value):Env:=#[x0,x1,x2,x3,(j 4),x5,x6,x7,x8,x9,v10,(j 11),(j 12),(j 13),(j 14),(j 15),(j 16),(j 17),(j 18),(j 19),(j 20),(j 21),(j 22),(j 23),(j 24),(j 25),(j 26),x27]
theorem yvb:zwb [] (yir K E) #[x0,U,U,U,U,U,U,U,U,U,U,U,U,U,U,U,U,U,U,U,U,U,U,U,U,U,U,U] =
 cF 299 #[x0,(.int .i64 4),(.int .i64 8)] (λt1=>
 mks 143 [(.int .u32 0),(.slice none 0 0)] 2 32 t1 t1 λt2=>
 pv (zab t2) λt3=>
 lp (λk1=>zwb [1,1,0,1,0,0] (zuu K E k1)) (zdz x0 U (.slice none 0 0) t2 x0 t1 t2 t2 t3 U (.int .i64 0) (jf #[]))) E:=by kernel_rfl
theorem ztk:zwb [1,1,0,1,0,0] (zuu K E k1) (zdz x0 x1 x2 x3 x5 x6 x7 x8 x9 x27 v10 j) =
 pv (za2 .none .lss v10 x9) λt1=>
 cnd t1 (
  cF 250 #[x0,(.int .i64 4)] (λt2=>
  pv (cvV .u32 t2) λt3=>
  pv (iaV none 2 x3 v10) λt4=>
  pv (faV 0 t4) λt5=>
  st 1 t5 t3 λ_=>
  cF 252 #[x0] (λt6=>
  pv (iaV none 2 x3 v10) λt7=>
  pv (faV 1 t7) λt8=>
  st 1 t8 t6 λ_=>
  pv (za2 .none .add v10 (.int .i64 1)) λt9=>
  k1 (zdz x0 x1 x2 x3 x5 x6 x7 x8 x9 x27 t9 (jf #[U,U,U,U,v10,U,U,U,U,U,U,t1,v10,x3,v10,x0,t2,t3,t4,t5,x3,v10,x0,t6,t7,t8,t9]))) E) E) (
  K x3):=by kernel_rfl
abbrev yjx:=cQ Tryz.f255 K E
abbrev zw0:=cD Tryz.f255
abbrev zu4:=za6 k1 (blk 0 (za6 (zw0 [1,1,1] (yjx K E)) (yjx K E)))
def ze3 (j:Nat -> Value):Env:=#[x0,x1,(j 2),v3,x4,(j 5),x6,x7,v8,(j 9),(j 10),(j 11),(j 12),(j 13),(j 14),(j 15),(j 16),(j 17),(j 18),(j 19),(j 20)]
theorem ytu:zw0 [] (yjx K E) #[x0,U,U,U,U,U,U,U,U,U,U,U,U,U,U,U,U,U,U,U,U] =
 pv (zab x0) λt1=>
 lp (λk1=>zw0 [1,1,0,1,0,0] (zu4 K E k1)) (ze3 x0 U U x0 t1 (.int .i64 (-1)) (.int .i64 0) (jf #[U,U,(.bool false)])):=by kernel_rfl
theorem zsr:zw0 [1,1,0,1,0,0] (zu4 K E k1) (ze3 x0 x1 x4 x6 x7 v3 v8 j) =
 pv (za2 .none .lss v8 x7) λt1=>
 cnd t1 (
  pv (iaV none 1 x6 v8) λt2=>
  ld false 1 t2 λt3=>
  pv (za2 .none .leq t3 v3) λt4=>
  gdK t4 false (λk=>k t3) λt5=>
  gdK t4 false (λk=>pv (za2 .none .geq t5 (.int .i64 6)) k) λt6=>
  pv (zad t4 (.bool true) t6) λt7=>
  cnd t7 (
  K (.bool false)) (
  pv (za2 .none .add v8 (.int .i64 1)) λt8=>
  k1 (ze3 x0 x1 x4 x6 x7 t3 t8 (jf #[U,U,(j 2),U,U,t3,U,U,U,t1,t2,t3,t3,v3,t4,t4,t5,t6,t7,t3,t8])))) (
  K (.bool true)):=by kernel_rfl
abbrev yt1:=cQ Tryz.f256 K E
abbrev yux:=cD Tryz.f256
theorem yss:yux [] (yt1 K E) #[x0,U,U,U,U,U,U,U,U,U,U] =
 pv (zab x0) λt1=>
 pv (za2 .none .leq t1 (.int .i64 200)) λt2=>
 gdK t2 true (λk=>k x0) λt3=>
 gdK t2 true (λk=>cF 142 #[t3,(.func (.func 300) #[] #[])] k E) λt4=>
 gdK t2 true (λk=>pv (unV .not t4) k) λt5=>
 pv (zad t2 t5 (.bool false)) λt6=>
 K t6:=by kernel_rfl
abbrev ykm:=cQ Tryz.f260 K E
abbrev zwm:=cD Tryz.f260
abbrev zuq:=za6 k1 (blk 0 (za6 (zwm [1,1] (ykm K E)) (ykm K E)))
def zey (j:Nat -> Value):Env:=#[x0,x1,(j 2),(j 3),(j 4),x5,x6,v7,(j 8),(j 9),(j 10),(j 11),(j 12),(j 13),(j 14),(j 15),(j 16),(j 17),(j 18),(j 19),(j 20),(j 21),(j 22),(j 23),(j 24),(j 25),(j 26),(j 27),(j 28),(j 29),(j 30),(j 31),x32,x33,x34]
theorem ywt:zwm [] (ykm K E) #[x0,U,U,U,U,U,U,U,U,U,U,U,U,U,U,U,U,U,U,U,U,U,U,U,U,U,U,U,U,U,U,U,U,U,U] =
 pv (zab x0) λt1=>
 lp (λk1=>zwm [1,0,1,0,0] (zuq K E k1)) (zey x0 U x0 t1 U U U (.int .i64 0) (jf #[U,U,(.bool false)])):=by kernel_rfl
theorem zww:zwm [1,0,1,0,0] (zuq K E k1) (zey x0 x1 x5 x6 x32 x33 x34 v7 j) =
 pv (za2 .none .lss v7 x6) λt1=>
 cnd t1 (
  pv (iaV none 2 x5 v7) λt2=>
  ld true 2 t2 λt3=>
  nw 143 [(.int .u32 0),(.slice none 0 0)] λt4=>
  st 2 t4 t3 λ_=>
  pv (faV 1 t4) λt5=>
  ld false 1 t5 λt6=>
  cF 256 #[t6] (λt7=>
  pv (unV .not t7) λt8=>
  gdK t8 false (λk=>k v7) λt9=>
  gdK t8 false (λk=>pv (za2 .none .gtr t9 (.int .i64 0)) k) λt10=>
  gdK t8 false (λk=>k t10) λt11=>
  gdK t11 true (λk=>pv (faV 0 t4) k) λt12=>
  gdK t11 true (λk=>ld false 1 t12 k) λt13=>
  gdK t11 true (λk=>k x0) λt14=>
  gdK t11 true (λk=>k v7) λt15=>
  gdK t11 true (λk=>pv (za2 .none .sub t15 (.int .i64 1)) k) λt16=>
  gdK t11 true (λk=>pv (iaV none 2 t14 t16) k) λt17=>
  gdK t11 true (λk=>pv (faV 0 t17) k) λt18=>
  gdK t11 true (λk=>ld false 1 t18 k) λt19=>
  gdK t11 true (λk=>pv (za2 .none .leq t13 t19) k) λt20=>
  gdK t8 false (λk=>pv (zad t11 t20 (.bool false)) k) λt21=>
  pv (zad t8 (.bool true) t21) λt22=>
  cnd t22 (
  K (.bool false)) (
  pv (za2 .none .add v7 (.int .i64 1)) λt23=>
  k1 (zey x0 x1 x5 x6 x32 x33 x34 t23 (jf #[U,U,(j 2),v7,t4,U,U,U,t1,v7,t2,t3,t5,t6,t7,t8,t8,t9,t10,t11,t12,t13,t14,t15,t16,t17,t18,t19,t20,t21,t22,t23])))) E) (
  pv (zab x0) λt24=>
  pv (za2 .none .leq t24 (.int .i64 5000)) λt25=>
  K t25):=by kernel_rfl
abbrev yue:=cQ Tryz.f261 K E
abbrev ytg:=cD Tryz.f261
theorem yvr:ytg [] (yue K E) #[x0,U,U,U,U,U,U,U,U,U,U,U,U,U,U,U,U,U,U,U,U,U,U,U,U,U,U,U,U,U,U,U,U,U,U,U,U,U,U,U,U,U,U,U,U,U,U,U,U,U,U,U,U,U,U,U,U] =
 nw 77 (Value.cells x0).toList λt1=>
 pv (faV 0 t1) λt2=>
 ld false 1 t2 λt3=>
 pv (za2 .none .eql t3 (.int .u8 0)) λt4=>
 gdK t4 true (λk=>pv (faV 1 t1) k) λt5=>
 gdK t4 true (λk=>ld false 1 t5 k) λt6=>
 gdK t4 true (λk=>pv (za2 .none .eql t6 (.int .u32 0)) k) λt7=>
 pv (zad t4 t7 (.bool false)) λt8=>
 gdK t8 true (λk=>pv (faV 2 t1) k) λt9=>
 gdK t8 true (λk=>ld false 1 t9 k) λt10=>
 gdK t8 true (λk=>pv (za2 .none .eql t10 (.int .u32 0)) k) λt11=>
 pv (zad t8 t11 (.bool false)) λt12=>
 gdK t12 true (λk=>pv (faV 3 t1) k) λt13=>
 gdK t12 true (λk=>ld false 1 t13 k) λt14=>
 gdK t12 true (λk=>pv (zab t14) k) λt15=>
 gdK t12 true (λk=>pv (za2 .none .eql t15 (.int .i64 0)) k) λt16=>
 pv (zad t12 t16 (.bool false)) λt17=>
 gdK t17 true (λk=>pv (faV 4 t1) k) λt18=>
 gdK t17 true (λk=>ld false 1 t18 k) λt19=>
 gdK t17 true (λk=>pv (zab t19) k) λt20=>
 gdK t17 true (λk=>pv (za2 .none .eql t20 (.int .i64 0)) k) λt21=>
 pv (zad t17 t21 (.bool false)) λt22=>
 gdK t22 true (λk=>pv (faV 5 t1) k) λt23=>
 gdK t22 true (λk=>pv (faV 0 t23) k) λt24=>
 gdK t22 true (λk=>ld false 1 t24 k) λt25=>
 gdK t22 true (λk=>pv (za2 .none .eql t25 (.int .u32 0)) k) λt26=>
 pv (zad t22 t26 (.bool false)) λt27=>
 gdK t27 true (λk=>pv (faV 5 t1) k) λt28=>
 gdK t27 true (λk=>pv (faV 1 t28) k) λt29=>
 gdK t27 true (λk=>ld false 1 t29 k) λt30=>
 gdK t27 true (λk=>pv (zab t30) k) λt31=>
 gdK t27 true (λk=>pv (za2 .none .eql t31 (.int .i64 0)) k) λt32=>
 pv (zad t27 t32 (.bool false)) λt33=>
 gdK t33 true (λk=>pv (faV 7 t1) k) λt34=>
 gdK t33 true (λk=>ld false 1 t34 k) λt35=>
 gdK t33 true (λk=>pv (za2 .none .eql t35 (.int .i64 0)) k) λt36=>
 pv (zad t33 t36 (.bool false)) λt37=>
 gdK t37 true (λk=>pv (faV 8 t1) k) λt38=>
 gdK t37 true (λk=>ld false 1 t38 k) λt39=>
 gdK t37 true (λk=>pv (za2 .none .eql t39 (.int .i64 0)) k) λt40=>
 pv (zad t37 t40 (.bool false)) λt41=>
 gdK t41 true (λk=>pv (faV 9 t1) k) λt42=>
 gdK t41 true (λk=>ld false 1 t42 k) λt43=>
 gdK t41 true (λk=>pv (zab t43) k) λt44=>
 gdK t41 true (λk=>pv (za2 .none .eql t44 (.int .i64 0)) k) λt45=>
 pv (zad t41 t45 (.bool false)) λt46=>
 K t46:=by kernel_rfl
abbrev yby:=cQ Tryz.f263 K E
abbrev yal:=cD Tryz.f263
def zhv (j:Nat -> Value):Env:=#[x0,x1,x2,x3,x4,x5,(j 6),x7,v8,(j 9),(j 10),(j 11),(j 12),(j 13),(j 14),(j 15),(j 16),(j 17),(j 18),(j 19),(j 20),(j 21),(j 22)]
theorem yt6:yal [] (yby K E) #[x0,x1,x2,U,U,U,U,U,U,U,U,U,U,U,U,U,U,U,U,U,U,U,U] =
 lp (λk1=>yal [1,0,0] (za6 k1 (blk 0 (yby K E)))) (zhv x0 x1 x2 U U U x2 (.int .i64 0) (jf #[])):=by kernel_rfl
theorem yed:yal [1,0,0] (za6 k1 (blk 0 (yby K E))) (zhv x0 x1 x2 x3 x4 x5 x7 v8 j) =
 pv (za2 .none .lss v8 x7) λt1=>
 cnd t1 (
  pv (cvV .u64 x1) λt2=>
  pv (za2 .none .sub x2 (.int .i64 1)) λt3=>
  pv (za2 .none .sub t3 v8) λt4=>
  pv (za2 .none .mul (.int .i64 8) t4) λt5=>
  pv (za2 .none .shr t2 t5) λt6=>
  pv (cvV .u8 t6) λt7=>
  cF 262 #[x0,t7] (λt8=>
  pv (za2 .none .add v8 (.int .i64 1)) λt9=>
  k1 (zhv x0 x1 x2 x3 x4 x5 x7 t9 (jf #[U,U,U,U,U,U,v8,U,U,t1,v8,x0,x1,t2,x2,t3,v8,t4,t5,t6,t7,t8,t9]))) E) (
  K (.tuple #[])):=by kernel_rfl
abbrev yev:=cQ Tryz.f299 K E
abbrev yfi:=cD Tryz.f299
theorem yuc:yfi [] (yev K E) #[x0,x1,x2,U,U,U,U,U,U,U,U,U,U,U,U,U,U,U,U,U,U,U,U,U,U] =
 cF 250 #[x0,x1] (λt1=>
 pv (zai x0) λt2=>
 pv (faV 0 t2) λt3=>
 ld false 1 t3 λt4=>
 pv (zab t4) λt5=>
 pv (za2 .none .quo t5 x2) λt6=>
 pv (cvV .u64 t6) λt7=>
 pv (za2 .none .gtr t1 t7) λt8=>
 cnd t8 (
  pv (bdC #[] [] #[]) λt9=>
  pv (znt 286 t9) λt10=>
  pnc t10 E λ_=>
  yfi [1,1,1] (yev K E) #[x0,x1,x2,U,U,U,(.int .i64 0),t1,x0,x1,t1,t1,x0,t2,t3,t4,t5,x2,t6,t7,t8,t9,t10,U,U]) (
  yfi [1,1,1] (yev K E) #[x0,x1,x2,U,U,U,(.int .i64 0),t1,x0,x1,t1,t1,x0,t2,t3,t4,t5,x2,t6,t7,t8,U,U,U,U])) E:=by kernel_rfl
theorem yfu:yfi [1,1,1] (yev K E) #[x0,x1,x2,x3,x4,x5,x6,x7,x8,x9,x10,x11,x12,x13,x14,x15,x16,x17,x18,x19,x20,x21,x22,x23,x24] =
 pv (cvV .i64 x7) λt1=>
 K t1:=by kernel_rfl
abbrev ytp:=cQ Tryz.f300 K E
abbrev yv4:=cD Tryz.f300
theorem yx2:yv4 [] (ytp K E) #[x0,U,U,U,U,U] =
 nw 110 (Value.cells x0).toList λt1=>
 ld true 2 t1 λt2=>
 cF 301 #[t2] (λt3=>
 pv (unV .not t3) λt4=>
 K t4) E:=by kernel_rfl
abbrev ywq:=cQ Tryz.f301 K E
abbrev ytx:=cD Tryz.f301
theorem yx3:ytx [] (ywq K E) #[x0,U,U,U,U,U,U,U,U,U,U,U,U] =
 nw 110 (Value.cells x0).toList λt1=>
 pv (faV 0 t1) λt2=>
 ld false 1 t2 λt3=>
 pv (zab t3) λt4=>
 pv (za2 .none .leq t4 (.int .i64 4)) λt5=>
 gdK t5 true (λk=>pv (faV 0 t1) k) λt6=>
 gdK t5 true (λk=>ld false 1 t6 k) λt7=>
 gdK t5 true (λk=>cF 310 #[t7,(.func (.func 320) #[] #[])] k E) λt8=>
 gdK t5 true (λk=>pv (unV .not t8) k) λt9=>
 pv (zad t5 t9 (.bool false)) λt10=>
 K t10:=by kernel_rfl
abbrev yx6:=cQ Tryz.f320 K E
abbrev yv9:=cD Tryz.f320
theorem yx4:yv9 [] (yx6 K E) #[x0,U,U,U,U,U,U,U,U] =
 pv (za2 .none .lss x0 (.int .i64 0)) λt1=>
 gdK t1 false (λk=>k x0) λt2=>
 gdK t1 false (λk=>pv (za2 .none .gtr t2 (.int .i64 9999)) k) λt3=>
 pv (zad t1 (.bool true) t3) λt4=>
 K t4:=by kernel_rfl
end
section
variable {K:zae} {E:zb2} {k1 k2:Env -> Hp -> Prop} {σ:Type} {x0 x1 x2 x3 x4 x5 x6 x7 x8 x9 x10 x11 x12 x13 x14 x15 x16 x17 x18 x19 x20 x21 x22 x23 x24 x25 x26 x27 x32 x33 x34 x35 x36 x37 x38 x39 x40 x41 x42 x43 x44 x45 x46 x47 x48 x49 v3 v5 v7 v8 v10 v11 v12 v14 v24 v26 v27:Value} {h:Hp} {j:Nat -> Value}
theorem yea (f8:σ -> Value) (I:σ -> Hp -> Prop) (μ:σ -> Nat) (s0:σ) (e8:v8=f8 s0) (h0:h.wf -> ∃ h',h.wk h'∧I s0 h')
 (round:∀ (k1:Env -> Hp -> Prop) (s:σ) (j:Nat -> Value) (h:Hp),I s h -> h.wf -> (∀ s' j' h',μ s'<μ s -> (h'.wf -> ∃ h'',h'.wk h''∧I s' h'') -> k1 (zhx x0 x1 x2 x3 x4 x5 x7 (f8 s') j') h') -> ya9 [1,0,0] (za6 k1 (blk 0 (yab K E))) (zhx x0 x1 x2 x3 x4 x5 x7 (f8 s) j) h) :
 lp (λk1=>ya9 [1,0,0] (za6 k1 (blk 0 (yab K E)))) (zhx x0 x1 x2 x3 x4 x5 x7 v8 j) h:=by
 subst e8;exact zaw _ I μ round s0 j h0
theorem ye0 (f8:σ -> Value) (I:σ -> Hp -> Prop) (μ:σ -> Nat) (s0:σ) (e8:v8=f8 s0) (h0:h.wf -> ∃ h',h.wk h'∧I s0 h')
 (round:∀ (k1:Env -> Hp -> Prop) (s:σ) (j:Nat -> Value) (h:Hp),I s h -> h.wf -> (∀ s' j' h',μ s'<μ s -> (h'.wf -> ∃ h'',h'.wk h''∧I s' h'') -> k1 (zi2 x0 x1 x2 x3 x4 x5 x7 (f8 s') j') h') -> zzx [1,0,0] (za6 k1 (blk 0 (yar K E))) (zi2 x0 x1 x2 x3 x4 x5 x7 (f8 s) j) h) :
 lp (λk1=>zzx [1,0,0] (za6 k1 (blk 0 (yar K E)))) (zi2 x0 x1 x2 x3 x4 x5 x7 v8 j) h:=by
 subst e8;exact zaw _ I μ round s0 j h0
theorem ybb (f12:σ -> Value) (I:σ -> Hp -> Prop) (μ:σ -> Nat) (s0:σ) (e12:v12=f12 s0) (h0:h.wf -> ∃ h',h.wk h'∧I s0 h')
 (round:∀ (k1:Env -> Hp -> Prop) (s:σ) (j:Nat -> Value) (h:Hp),I s h -> h.wf -> (∀ s' j' h',μ s'<μ s -> (h'.wf -> ∃ h'',h'.wk h''∧I s' h'') -> k1 (zgi x0 x1 x2 x3 x4 x6 x7 x8 x9 x10 x11 (f12 s') j') h') -> yay [1,1,0,0] (za6 k1 (blk 0 (yao K E))) (zgi x0 x1 x2 x3 x4 x6 x7 x8 x9 x10 x11 (f12 s) j) h) :
 lp (λk1=>yay [1,1,0,0] (za6 k1 (blk 0 (yao K E)))) (zgi x0 x1 x2 x3 x4 x6 x7 x8 x9 x10 x11 v12 j) h:=by
 subst e12;exact zaw _ I μ round s0 j h0
theorem ybf (f14:σ -> Value) (I:σ -> Hp -> Prop) (μ:σ -> Nat) (s0:σ) (e14:v14=f14 s0) (h0:h.wf -> ∃ h',h.wk h'∧I s0 h')
 (round:∀ (k1:Env -> Hp -> Prop) (s:σ) (j:Nat -> Value) (h:Hp),I s h -> h.wf -> (∀ s' j' h',μ s'<μ s -> (h'.wf -> ∃ h'',h'.wk h''∧I s' h'') -> k1 (zg9 x0 x1 x2 x3 x4 x6 x8 x9 x10 x11 x12 x13 (f14 s') j') h') -> zks [1,1,0,0] (za6 k1 (blk 0 (zo7 K E))) (zg9 x0 x1 x2 x3 x4 x6 x8 x9 x10 x11 x12 x13 (f14 s) j) h) :
 lp (λk1=>zks [1,1,0,0] (za6 k1 (blk 0 (zo7 K E)))) (zg9 x0 x1 x2 x3 x4 x6 x8 x9 x10 x11 x12 x13 v14 j) h:=by
 subst e14;exact zaw _ I μ round s0 j h0
theorem zir (f26:σ -> Value) (I:σ -> Hp -> Prop) (μ:σ -> Nat) (s0:σ) (e26:v26=f26 s0) (h0:h.wf -> ∃ h',h.wk h'∧I s0 h')
 (round:∀ (k2:Env -> Hp -> Prop) (s:σ) (j:Nat -> Value) (h:Hp),I s h -> h.wf -> (∀ s' j' h',μ s'<μ s -> (h'.wf -> ∃ h'',h'.wk h''∧I s' h'') -> k2 (zbt x0 x1 x2 x3 x4 x5 x6 x8 x9 x10 x11 x12 x13 x14 x15 x16 x17 x18 x19 x20 x21 x22 x23 x24 x25 x34 x35 x36 x37 x38 (f26 s') j') h') -> zks [1,1,0,0,1,1,0,0,1,1,0,1,0,0] (zua K E k1 k2) (zbt x0 x1 x2 x3 x4 x5 x6 x8 x9 x10 x11 x12 x13 x14 x15 x16 x17 x18 x19 x20 x21 x22 x23 x24 x25 x34 x35 x36 x37 x38 (f26 s) j) h) :
 lp (λk2=>zks [1,1,0,0,1,1,0,0,1,1,0,1,0,0] (zua K E k1 k2)) (zbt x0 x1 x2 x3 x4 x5 x6 x8 x9 x10 x11 x12 x13 x14 x15 x16 x17 x18 x19 x20 x21 x22 x23 x24 x25 x34 x35 x36 x37 x38 v26 j) h:=by
 subst e26;exact zaw _ I μ round s0 j h0
theorem ye5 (f8:σ -> Value) (I:σ -> Hp -> Prop) (μ:σ -> Nat) (s0:σ) (e8:v8=f8 s0) (h0:h.wf -> ∃ h',h.wk h'∧I s0 h')
 (round:∀ (k1:Env -> Hp -> Prop) (s:σ) (j:Nat -> Value) (h:Hp),I s h -> h.wf -> (∀ s' j' h',μ s'<μ s -> (h'.wf -> ∃ h'',h'.wk h''∧I s' h'') -> k1 (zi3 x0 x1 x2 x3 x4 x5 x7 (f8 s') j') h') -> zze [1,0,0] (za6 k1 (blk 0 (yap K E))) (zi3 x0 x1 x2 x3 x4 x5 x7 (f8 s) j) h) :
 lp (λk1=>zze [1,0,0] (za6 k1 (blk 0 (yap K E)))) (zi3 x0 x1 x2 x3 x4 x5 x7 v8 j) h:=by
 subst e8;exact zaw _ I μ round s0 j h0
theorem yai (f12:σ -> Value) (I:σ -> Hp -> Prop) (μ:σ -> Nat) (s0:σ) (e12:v12=f12 s0) (h0:h.wf -> ∃ h',h.wk h'∧I s0 h')
 (round:∀ (k1:Env -> Hp -> Prop) (s:σ) (j:Nat -> Value) (h:Hp),I s h -> h.wf -> (∀ s' j' h',μ s'<μ s -> (h'.wf -> ∃ h'',h'.wk h''∧I s' h'') -> k1 (zgl x0 x1 x2 x3 x4 x6 x7 x8 x9 x10 x11 (f12 s') j') h') -> ybe [1,1,0,0] (za6 k1 (blk 0 (zzk K E))) (zgl x0 x1 x2 x3 x4 x6 x7 x8 x9 x10 x11 (f12 s) j) h) :
 lp (λk1=>ybe [1,1,0,0] (za6 k1 (blk 0 (zzk K E)))) (zgl x0 x1 x2 x3 x4 x6 x7 x8 x9 x10 x11 v12 j) h:=by
 subst e12;exact zaw _ I μ round s0 j h0
theorem zqe (f5 f24:σ -> Value) (I:σ -> Hp -> Prop) (μ:σ -> Nat) (s0:σ) (e5:v5=f5 s0) (e24:v24=f24 s0) (h0:h.wf -> ∃ h',h.wk h'∧I s0 h')
 (round:∀ (k1:Env -> Hp -> Prop) (s:σ) (j:Nat -> Value) (h:Hp),I s h -> h.wf -> (∀ s' j' h',μ s'<μ s -> (h'.wf -> ∃ h'',h'.wk h''∧I s' h'') -> k1 (zd8 x0 x1 x2 x3 x4 x6 x8 x9 x10 x11 x12 x13 x14 x15 x16 x17 x18 x19 x20 x21 x22 x23 x34 x35 x36 x37 x38 x39 x40 x41 x42 x43 (f5 s') (f24 s') j') h') -> znn [1,1,1,0,1,0,0] (zvt K E k1) (zd8 x0 x1 x2 x3 x4 x6 x8 x9 x10 x11 x12 x13 x14 x15 x16 x17 x18 x19 x20 x21 x22 x23 x34 x35 x36 x37 x38 x39 x40 x41 x42 x43 (f5 s) (f24 s) j) h) :
 lp (λk1=>znn [1,1,1,0,1,0,0] (zvt K E k1)) (zd8 x0 x1 x2 x3 x4 x6 x8 x9 x10 x11 x12 x13 x14 x15 x16 x17 x18 x19 x20 x21 x22 x23 x34 x35 x36 x37 x38 x39 x40 x41 x42 x43 v5 v24 j) h:=by
 subst e5;subst e24;exact zaw _ I μ round s0 j h0
theorem zs5 (f10:σ -> Value) (I:σ -> Hp -> Prop) (μ:σ -> Nat) (s0:σ) (e10:v10=f10 s0) (h0:h.wf -> ∃ h',h.wk h'∧I s0 h')
 (round:∀ (k1:Env -> Hp -> Prop) (s:σ) (j:Nat -> Value) (h:Hp),I s h -> h.wf -> (∀ s' j' h',μ s'<μ s -> (h'.wf -> ∃ h'',h'.wk h''∧I s' h'') -> k1 (ze6 x0 x1 x2 x3 x5 x6 x7 x8 x9 x20 (f10 s') j') h') -> zwg [1,1,0,1,0,0] (ztl K E k1) (ze6 x0 x1 x2 x3 x5 x6 x7 x8 x9 x20 (f10 s) j) h) :
 lp (λk1=>zwg [1,1,0,1,0,0] (ztl K E k1)) (ze6 x0 x1 x2 x3 x5 x6 x7 x8 x9 x20 v10 j) h:=by
 subst e10;exact zaw _ I μ round s0 j h0
theorem zt8 (f11:σ -> Value) (I:σ -> Hp -> Prop) (μ:σ -> Nat) (s0:σ) (e11:v11=f11 s0) (h0:h.wf -> ∃ h',h.wk h'∧I s0 h')
 (round:∀ (k1:Env -> Hp -> Prop) (s:σ) (j:Nat -> Value) (h:Hp),I s h -> h.wf -> (∀ s' j' h',μ s'<μ s -> (h'.wf -> ∃ h'',h'.wk h''∧I s' h'') -> k1 (ze0 x0 x1 x2 x3 x6 x7 x8 x9 x10 x49 (f11 s') j') h') -> zhs [1,1,0,1,0,0] (ztq K E k1) (ze0 x0 x1 x2 x3 x6 x7 x8 x9 x10 x49 (f11 s) j) h) :
 lp (λk1=>zhs [1,1,0,1,0,0] (ztq K E k1)) (ze0 x0 x1 x2 x3 x6 x7 x8 x9 x10 x49 v11 j) h:=by
 subst e11;exact zaw _ I μ round s0 j h0
theorem zho (f27:σ -> Value) (I:σ -> Hp -> Prop) (μ:σ -> Nat) (s0:σ) (e27:v27=f27 s0) (h0:h.wf -> ∃ h',h.wk h'∧I s0 h')
 (round:∀ (k2:Env -> Hp -> Prop) (s:σ) (j:Nat -> Value) (h:Hp),I s h -> h.wf -> (∀ s' j' h',μ s'<μ s -> (h'.wf -> ∃ h'',h'.wk h''∧I s' h'') -> k2 (zbf x0 x1 x2 x3 x4 x6 x7 x8 x9 x10 x11 x12 x13 x14 x15 x16 x17 x18 x19 x20 x21 x22 x23 x24 x25 x26 x41 x42 x43 x44 x45 x46 x47 x48 x49 (f27 s') j') h') -> zhs [1,1,0,1,0,0,1,1,0,0,1,1,0,1,0,0] (ztw K E k1 k2) (zbf x0 x1 x2 x3 x4 x6 x7 x8 x9 x10 x11 x12 x13 x14 x15 x16 x17 x18 x19 x20 x21 x22 x23 x24 x25 x26 x41 x42 x43 x44 x45 x46 x47 x48 x49 (f27 s) j) h) :
 lp (λk2=>zhs [1,1,0,1,0,0,1,1,0,0,1,1,0,1,0,0] (ztw K E k1 k2)) (zbf x0 x1 x2 x3 x4 x6 x7 x8 x9 x10 x11 x12 x13 x14 x15 x16 x17 x18 x19 x20 x21 x22 x23 x24 x25 x26 x41 x42 x43 x44 x45 x46 x47 x48 x49 v27 j) h:=by
 subst e27;exact zaw _ I μ round s0 j h0
theorem zt2 (f10:σ -> Value) (I:σ -> Hp -> Prop) (μ:σ -> Nat) (s0:σ) (e10:v10=f10 s0) (h0:h.wf -> ∃ h',h.wk h'∧I s0 h')
 (round:∀ (k1:Env -> Hp -> Prop) (s:σ) (j:Nat -> Value) (h:Hp),I s h -> h.wf -> (∀ s' j' h',μ s'<μ s -> (h'.wf -> ∃ h'',h'.wk h''∧I s' h'') -> k1 (zdz x0 x1 x2 x3 x5 x6 x7 x8 x9 x27 (f10 s') j') h') -> zwb [1,1,0,1,0,0] (zuu K E k1) (zdz x0 x1 x2 x3 x5 x6 x7 x8 x9 x27 (f10 s) j) h) :
 lp (λk1=>zwb [1,1,0,1,0,0] (zuu K E k1)) (zdz x0 x1 x2 x3 x5 x6 x7 x8 x9 x27 v10 j) h:=by
 subst e10;exact zaw _ I μ round s0 j h0
theorem zsc (f3 f8:σ -> Value) (I:σ -> Hp -> Prop) (μ:σ -> Nat) (s0:σ) (e3:v3=f3 s0) (e8:v8=f8 s0) (h0:h.wf -> ∃ h',h.wk h'∧I s0 h')
 (round:∀ (k1:Env -> Hp -> Prop) (s:σ) (j:Nat -> Value) (h:Hp),I s h -> h.wf -> (∀ s' j' h',μ s'<μ s -> (h'.wf -> ∃ h'',h'.wk h''∧I s' h'') -> k1 (ze3 x0 x1 x4 x6 x7 (f3 s') (f8 s') j') h') -> zw0 [1,1,0,1,0,0] (zu4 K E k1) (ze3 x0 x1 x4 x6 x7 (f3 s) (f8 s) j) h) :
 lp (λk1=>zw0 [1,1,0,1,0,0] (zu4 K E k1)) (ze3 x0 x1 x4 x6 x7 v3 v8 j) h:=by
 subst e3;subst e8;exact zaw _ I μ round s0 j h0
theorem zvz (f7:σ -> Value) (I:σ -> Hp -> Prop) (μ:σ -> Nat) (s0:σ) (e7:v7=f7 s0) (h0:h.wf -> ∃ h',h.wk h'∧I s0 h')
 (round:∀ (k1:Env -> Hp -> Prop) (s:σ) (j:Nat -> Value) (h:Hp),I s h -> h.wf -> (∀ s' j' h',μ s'<μ s -> (h'.wf -> ∃ h'',h'.wk h''∧I s' h'') -> k1 (zey x0 x1 x5 x6 x32 x33 x34 (f7 s') j') h') -> zwm [1,0,1,0,0] (zuq K E k1) (zey x0 x1 x5 x6 x32 x33 x34 (f7 s) j) h) :
 lp (λk1=>zwm [1,0,1,0,0] (zuq K E k1)) (zey x0 x1 x5 x6 x32 x33 x34 v7 j) h:=by
 subst e7;exact zaw _ I μ round s0 j h0
theorem yfg (f8:σ -> Value) (I:σ -> Hp -> Prop) (μ:σ -> Nat) (s0:σ) (e8:v8=f8 s0) (h0:h.wf -> ∃ h',h.wk h'∧I s0 h')
 (round:∀ (k1:Env -> Hp -> Prop) (s:σ) (j:Nat -> Value) (h:Hp),I s h -> h.wf -> (∀ s' j' h',μ s'<μ s -> (h'.wf -> ∃ h'',h'.wk h''∧I s' h'') -> k1 (zhv x0 x1 x2 x3 x4 x5 x7 (f8 s') j') h') -> yal [1,0,0] (za6 k1 (blk 0 (yby K E))) (zhv x0 x1 x2 x3 x4 x5 x7 (f8 s) j) h) :
 lp (λk1=>yal [1,0,0] (za6 k1 (blk 0 (yby K E)))) (zhv x0 x1 x2 x3 x4 x5 x7 v8 j) h:=by
 subst e8;exact zaw _ I μ round s0 j h0
end
section
variable (K:zae) (E:zb2) (k1 k2:Env -> Hp -> Prop) (x0 x1 x2 x3 x4 x5 x6 x7 x8 x9 x10 x11 x12 x13 x14 x15 x16 x17 x18 x19 x20 x21 x22 x23 x24 x25 x26 x27 x28 x29 x30 x31 x32 x33 x34 x35 x36 x37 x38 x39 x40 x41 v1 v2 v3 v5 v6 v7 v8 v9:Value) (j:Nat -> Value)
abbrev q55:=cQ Tryz.f55 K E
abbrev d55:=cD Tryz.f55
theorem t55:d55 [] (q55 K E) #[x0,U,U,U,U,U,U,U,U] =
 cF 109 #[x0] (λt1=>
 cF 110 #[t1] (λt2=>
 K t1) E) E:=by kernel_rfl
abbrev q56:=cQ Tryz.f56 K E
abbrev d56:=cD Tryz.f56
theorem t56:d56 [] (q56 K E) #[x0,U,U,U] =
 nw 56 (Value.cells x0).toList λt1=>
 K (.func (.func 111) #[] #[t1]):=by kernel_rfl
abbrev q57:=cQ Tryz.f57 K E
abbrev d57:=cD Tryz.f57
theorem t57:d57 [] (q57 K E) #[x0,x1,U,U,U,U,U,U] =
 ld false 1 x1 λt1=>
 cF 58 #[t1,x0] (λt2=>
 pv (unV .not t2) λt3=>
 K t3) E:=by kernel_rfl
abbrev q58:=cQ Tryz.f58 K E
abbrev d58:=cD Tryz.f58
theorem t58:d58 [] (q58 K E) #[x0,x1,U,U,U,U,U,U,U,U,U,U,U,U] =
 pv (zai x0) λt1=>
 pv (faV 1 t1) λt2=>
 ld false 1 t2 λt3=>
 lkp Tryz.prog 56 t3 x1 false λt4=>
 pv (fdV true 0 2 t4) λt5=>
 pv (fdV false 0 1 t5) λt6=>
 pv (za2 .none .eql t6 (.int .u8 1)) λt7=>
 K t7:=by kernel_rfl
abbrev yug:=cQ Tryz.f110 K E
abbrev ys1:=cD Tryz.f110
theorem zm1:ys1 [] (yug K E) #[x0,U,U,U,U,U,U,U,U,U,U] =
 pv (zab x0) λt1=>
 pv (cvV .u64 t1) λt2=>
 cF 155 #[t2] (λt3=>
 cF 154 #[x0,(.int .i64 0),t1,t3] (λt4=>
 K (.tuple #[])) E) E:=by kernel_rfl
abbrev ztb:=cQ Tryz.f154 K E
abbrev zs7:=cD Tryz.f154
def zhf (j:Nat -> Value):Env:=#[x0,v1,v2,v3,x4,x5,x6,x7,v8,v9,(j 10),(j 11),(j 12),(j 13),(j 14),(j 15),(j 16),(j 17),(j 18),(j 19),(j 20),(j 21),(j 22),(j 23),(j 24),(j 25),(j 26),(j 27),(j 28),(j 29),(j 30),(j 31),(j 32),(j 33),(j 34),(j 35),(j 36),(j 37),(j 38),(j 39),(j 40),(j 41),(j 42),(j 43),(j 44),(j 45),(j 46),(j 47),(j 48),(j 49),(j 50),(j 51),(j 52),(j 53),(j 54),(j 55),(j 56),(j 57),(j 58),(j 59),(j 60),(j 61),(j 62),(j 63),(j 64),(j 65),(j 66),(j 67),(j 68),(j 69),(j 70),(j 71),(j 72),(j 73),(j 74),(j 75),(j 76),(j 77),(j 78),(j 79),(j 80),(j 81),(j 82),(j 83),(j 84),(j 85),(j 86),(j 87),(j 88),(j 89),(j 90),(j 91),(j 92),(j 93),(j 94),(j 95),(j 96),(j 97),(j 98),(j 99),(j 100),(j 101),(j 102),(j 103),(j 104),(j 105),(j 106),(j 107),(j 108),(j 109),(j 110),(j 111),(j 112),(j 113),(j 114),(j 115),(j 116),(j 117),(j 118),(j 119),(j 120),(j 121),(j 122),(j 123),(j 124),(j 125),(j 126),(j 127),(j 128),(j 129),(j 130),(j 131),(j 132),(j 133)]
theorem yus:zs7 [] (ztb K E) #[x0,x1,x2,x3,U,U,U,U,U,U,U,U,U,U,U,U,U,U,U,U,U,U,U,U,U,U,U,U,U,U,U,U,U,U,U,U,U,U,U,U,U,U,U,U,U,U,U,U,U,U,U,U,U,U,U,U,U,U,U,U,U,U,U,U,U,U,U,U,U,U,U,U,U,U,U,U,U,U,U,U,U,U,U,U,U,U,U,U,U,U,U,U,U,U,U,U,U,U,U,U,U,U,U,U,U,U,U,U,U,U,U,U,U,U,U,U,U,U,U,U,U,U,U,U,U,U,U,U,U,U,U,U,U,U] =
 lp (λk1=>zs7 [1,1,0,0] (za6 k1 (blk 0 (ztb K E)))) (zhf x0 U U U U x1 x2 x3 (.bool true) (.bool true) (jf #[])):=by kernel_rfl
theorem ya4:zs7 [1,1,0,0] (za6 k1 (blk 0 (ztb K E))) (zhf x0 x4 x5 x6 x7 v1 v2 v3 v8 v9 j) =
 pv (za2 .none .sub v2 v1) λt1=>
 pv (za2 .none .leq t1 (.int .i64 12)) λt2=>
 cnd t2 (
  cF 205 #[x0,v1,v2] (λt3=>
  K (.tuple #[])) E) (
  pv (za2 .none .eql v3 (.int .i64 0)) λt4=>
  cnd t4 (
  cF 206 #[x0,v1,v2] (λt5=>
  K (.tuple #[])) E) (
  pv (unV .not v8) λt6=>
  cnd t6 (
   cF 207 #[x0,v1,v2] (λt7=>
   pv (za2 .none .sub v3 (.int .i64 1)) λt8=>
   zs7 [1,1,0,0,0,1,1,1,1] (blk 1 (za6 k1 (blk 0 (ztb K E)))) #[x0,v1,v2,t8,x4,x5,x6,x7,v8,v9,t1,(j 11),(j 12),(j 13),(j 14),(j 15),(j 16),(j 17),(j 18),v2,v1,t1,t1,t2,(j 24),(j 25),(j 26),(j 27),v3,t4,(j 30),(j 31),(j 32),(j 33),v8,t6,x0,v1,v2,t7,v3,t8,(j 42),(j 43),(j 44),(j 45),(j 46),(j 47),(j 48),(j 49),(j 50),(j 51),(j 52),(j 53),(j 54),(j 55),(j 56),(j 57),(j 58),(j 59),(j 60),(j 61),(j 62),(j 63),(j 64),(j 65),(j 66),(j 67),(j 68),(j 69),(j 70),(j 71),(j 72),(j 73),(j 74),(j 75),(j 76),(j 77),(j 78),(j 79),(j 80),(j 81),(j 82),(j 83),(j 84),(j 85),(j 86),(j 87),(j 88),(j 89),(j 90),(j 91),(j 92),(j 93),(j 94),(j 95),(j 96),(j 97),(j 98),(j 99),(j 100),(j 101),(j 102),(j 103),(j 104),(j 105),(j 106),(j 107),(j 108),(j 109),(j 110),(j 111),(j 112),(j 113),(j 114),(j 115),(j 116),(j 117),(j 118),(j 119),(j 120),(j 121),(j 122),(j 123),(j 124),(j 125),(j 126),(j 127),(j 128),(j 129),(j 130),(j 131),(j 132),(j 133)]) E) (
   zs7 [1,1,0,0,0,1,1,1,1] (blk 1 (za6 k1 (blk 0 (ztb K E)))) #[x0,v1,v2,v3,x4,x5,x6,x7,v8,v9,t1,(j 11),(j 12),(j 13),(j 14),(j 15),(j 16),(j 17),(j 18),v2,v1,t1,t1,t2,(j 24),(j 25),(j 26),(j 27),v3,t4,(j 30),(j 31),(j 32),(j 33),v8,t6,(j 36),(j 37),(j 38),(j 39),(j 40),(j 41),(j 42),(j 43),(j 44),(j 45),(j 46),(j 47),(j 48),(j 49),(j 50),(j 51),(j 52),(j 53),(j 54),(j 55),(j 56),(j 57),(j 58),(j 59),(j 60),(j 61),(j 62),(j 63),(j 64),(j 65),(j 66),(j 67),(j 68),(j 69),(j 70),(j 71),(j 72),(j 73),(j 74),(j 75),(j 76),(j 77),(j 78),(j 79),(j 80),(j 81),(j 82),(j 83),(j 84),(j 85),(j 86),(j 87),(j 88),(j 89),(j 90),(j 91),(j 92),(j 93),(j 94),(j 95),(j 96),(j 97),(j 98),(j 99),(j 100),(j 101),(j 102),(j 103),(j 104),(j 105),(j 106),(j 107),(j 108),(j 109),(j 110),(j 111),(j 112),(j 113),(j 114),(j 115),(j 116),(j 117),(j 118),(j 119),(j 120),(j 121),(j 122),(j 123),(j 124),(j 125),(j 126),(j 127),(j 128),(j 129),(j 130),(j 131),(j 132),(j 133)]))):=by kernel_rfl
abbrev ysg:=cQ Tryz.f155 K E
abbrev ysz:=cD Tryz.f155
theorem ysw:ysz [] (ysg K E) #[x0,U,U,U,U,U,U,U] =
 cnd (.bool false) (
  pv (cvV .u32 x0) λt1=>
  cF 214 #[t1] (λt2=>
  K t2) E) (
  cF 215 #[x0] (λt3=>
  K t3) E):=by kernel_rfl
abbrev zsa:=cQ Tryz.f205 K E
abbrev zmp:=cD Tryz.f205
abbrev zuy:=za6 k2 (blk 2 (blk 1 (za6 (zmp [1,0,0,1,1] (za6 k1 (blk 0 (zsa K E)))) (za6 k1 (blk 0 (zsa K E))))))
def zhz (j:Nat -> Value):Env:=#[x0,x1,x2,x3,x4,x5,v6,(j 7),x8,x9,(j 10),(j 11),(j 12),(j 13),(j 14),(j 15),(j 16),(j 17),(j 18),(j 19),(j 20),(j 21),(j 22),(j 23),(j 24),(j 25),(j 26),(j 27),(j 28),(j 29),(j 30),(j 31),(j 32),(j 33),(j 34),(j 35),(j 36),(j 37),(j 38),(j 39),(j 40),(j 41),(j 42),(j 43),(j 44),(j 45),(j 46),(j 47),(j 48)]
def zcg (j:Nat -> Value):Env:=#[x0,x1,x2,x3,x4,x5,x6,v7,x8,x9,x10,x11,x12,x13,x14,x15,(j 16),(j 17),(j 18),(j 19),(j 20),(j 21),(j 22),(j 23),(j 24),(j 25),(j 26),(j 27),(j 28),(j 29),(j 30),(j 31),(j 32),(j 33),(j 34),(j 35),(j 36),(j 37),(j 38),(j 39),(j 40),(j 41),(j 42),(j 43),(j 44),(j 45),(j 46),(j 47),(j 48)]
theorem ypb:zmp [] (zsa K E) #[x0,x1,x2,U,U,U,U,U,U,U,U,U,U,U,U,U,U,U,U,U,U,U,U,U,U,U,U,U,U,U,U,U,U,U,U,U,U,U,U,U,U,U,U,U,U,U,U,U,U] =
 pv (za2 .none .add x1 (.int .i64 1)) λt1=>
 lp (λk1=>zmp [1,0,0] (za6 k1 (blk 0 (zsa K E)))) (zhz x0 x1 x2 U U U x1 t1 t1 (jf #[])):=by kernel_rfl
theorem ztt:zmp [1,0,0] (za6 k1 (blk 0 (zsa K E))) (zhz x0 x1 x2 x3 x4 x5 x8 x9 v6 j) =
 pv (za2 .none .lss v6 x2) λt1=>
 cnd t1 (
  lp (λk2=>zmp [1,0,0,1,0,0,1,0,0] (zuy K E k1 k2)) (zcg x0 x1 x2 x3 x4 x5 v6 x8 x9 v6 x2 t1 (j 13) (j 14) v6 v6 (jf #[U,U,U,U,U,U,U,U,U,U,U,U,U,U,U,U,(j 16),(j 17),(j 18),(j 19),(j 20),(j 21),(j 22),(j 23),(j 24),(j 25),(j 26),(j 27),(j 28),(j 29),(j 30),(j 31),(j 32),(j 33),(j 34),(j 35),(j 36),(j 37),(j 38),(j 39),(j 40),(j 41),(j 42),(j 43),(j 44),(j 45),(j 46),(j 47),(j 48)]))) (
  K (.tuple #[])):=by kernel_rfl
theorem zmr:zmp [1,0,0,1,0,0,1,0,0] (zuy K E k1 k2) (zcg x0 x1 x2 x3 x4 x5 x6 x8 x9 x10 x11 x12 x13 x14 x15 v7 j) =
 pv (za2 .none .gtr v7 x1) λt1=>
 gdK t1 true (λk=>k x0) λt2=>
 gdK t1 true (λk=>k v7) λt3=>
 gdK t1 true (λk=>pv (iaV none 1 t2 t3) k) λt4=>
 gdK t1 true (λk=>ld false 1 t4 k) λt5=>
 gdK t1 true (λk=>k x0) λt6=>
 gdK t1 true (λk=>k v7) λt7=>
 gdK t1 true (λk=>pv (za2 .none .sub t7 (.int .i64 1)) k) λt8=>
 gdK t1 true (λk=>pv (iaV none 1 t6 t8) k) λt9=>
 gdK t1 true (λk=>ld false 1 t9 k) λt10=>
 gdK t1 true (λk=>cF 211 #[t5,t10] k E) λt11=>
 pv (zad t1 t11 (.bool false)) λt12=>
 cnd t12 (
  pv (za2 .none .sub v7 (.int .i64 1)) λt13=>
  pv (za2 .none .sub v7 (.int .i64 1)) λt14=>
  pv (iaV none 1 x0 t14) λt15=>
  ld false 1 t15 λt16=>
  pv (iaV none 1 x0 v7) λt17=>
  ld false 1 t17 λt18=>
  pv (iaV none 1 x0 v7) λt19=>
  st 1 t19 t16 λ_=>
  pv (iaV none 1 x0 t13) λt20=>
  st 1 t20 t18 λ_=>
  pv (za2 .none .sub v7 (.int .i64 1)) λt21=>
  k2 (zcg x0 x1 x2 x3 x4 x5 x6 x8 x9 x10 x11 x12 x13 x14 x15 t21 (jf #[U,U,U,U,U,U,U,U,U,U,U,U,U,U,U,U,v7,x1,t1,t1,t2,t3,t4,t5,t6,t7,t8,t9,t10,t11,t12,v7,t21,x0,v7,x0,v7,t13,x0,v7,t14,t15,t16,x0,v7,t17,t18,t19,t20]))) (
  pv (za2 .none .add x6 (.int .i64 1)) λt22=>
  k1 (zhz x0 x1 x2 x3 x4 x5 x8 x9 t22 (jf #[U,U,U,U,U,U,U,v7,U,U,x10,x11,x12,x6,t22,x15,v7,x1,t1,t1,t2,t3,t4,t5,t6,t7,t8,t9,t10,t11,t12,(j 31),(j 32),(j 33),(j 34),(j 35),(j 36),(j 37),(j 38),(j 39),(j 40),(j 41),(j 42),(j 43),(j 44),(j 45),(j 46),(j 47),(j 48)]))):=by kernel_rfl
abbrev ytr:=cQ Tryz.f211 K E
abbrev yt5:=cD Tryz.f211
theorem yv1:yt5 [] (ytr K E) #[x0,x1,U,U,U,U,U,U,U,U,U,U,U,U,U,U,U] =
 cF 271 #[x0] (λt1=>
 gdK t1 true (λk=>k x1) λt2=>
 gdK t1 true (λk=>cF 271 #[t2] k E) λt3=>
 gdK t1 true (λk=>pv (unV .not t3) k) λt4=>
 pv (zad t1 t4 (.bool false)) λt5=>
 gdK t5 false (λk=>k x0) λt6=>
 gdK t5 false (λk=>k x1) λt7=>
 gdK t5 false (λk=>pv (za2 .none .lss t6 t7) k) λt8=>
 pv (zad t5 (.bool true) t8) λt9=>
 K t9) E:=by kernel_rfl
abbrev zmm:=cQ Tryz.f215 K E
abbrev zmo:=cD Tryz.f215
theorem ys9:zmo [] (zmm K E) #[x0,U,U,U,U,U,U,U,U,U,U,U,U,U,U,U,U,U,U,U,U,U,U,U,U] =
 pv (za2 .none .geq x0 (.int .u64 4294967296)) λt1=>
 cnd t1 (
  pv (za2 .none .shr x0 (.int .u64 32)) λt2=>
  zmo [1,1] (zmm K E) #[t2,U,(.int .i64 32),x0,t1,x0,t2,U,U,U,U,U,U,U,U,U,U,U,U,U,U,U,U,U,U]) (
  zmo [1,1] (zmm K E) #[x0,U,(.int .i64 0),x0,t1,U,U,U,U,U,U,U,U,U,U,U,U,U,U,U,U,U,U,U,U]):=by kernel_rfl
theorem yjo:zmo [1,1] (zmm K E) #[x0,x1,x2,x3,x4,x5,x6,x7,x8,x9,x10,x11,x12,x13,x14,x15,x16,x17,x18,x19,x20,x21,x22,x23,x24] =
 pv (za2 .none .geq x0 (.int .u64 65536)) λt1=>
 cnd t1 (
  pv (za2 .none .shr x0 (.int .u64 16)) λt2=>
  pv (za2 .none .add x2 (.int .i64 16)) λt3=>
  zmo [1,1,1] (zmm K E) #[t2,x1,t3,x3,x4,x5,x6,x0,t1,x0,t2,x2,t3,x13,x14,x15,x16,x17,x18,x19,x20,x21,x22,x23,x24]) (
  zmo [1,1,1] (zmm K E) #[x0,x1,x2,x3,x4,x5,x6,x0,t1,x9,x10,x11,x12,x13,x14,x15,x16,x17,x18,x19,x20,x21,x22,x23,x24]):=by kernel_rfl
theorem yfb:zmo [1,1,1] (zmm K E) #[x0,x1,x2,x3,x4,x5,x6,x7,x8,x9,x10,x11,x12,x13,x14,x15,x16,x17,x18,x19,x20,x21,x22,x23,x24] =
 pv (za2 .none .geq x0 (.int .u64 256)) λt1=>
 cnd t1 (
  pv (za2 .none .shr x0 (.int .u64 8)) λt2=>
  pv (za2 .none .add x2 (.int .i64 8)) λt3=>
  zmo [1,1,1,1] (zmm K E) #[t2,x1,t3,x3,x4,x5,x6,x7,x8,x9,x10,x11,x12,x0,t1,x0,t2,x2,t3,x19,x20,x21,x22,x23,x24]) (
  zmo [1,1,1,1] (zmm K E) #[x0,x1,x2,x3,x4,x5,x6,x7,x8,x9,x10,x11,x12,x0,t1,x15,x16,x17,x18,x19,x20,x21,x22,x23,x24]):=by kernel_rfl
theorem yaz:zmo [1,1,1,1] (zmm K E) #[x0,x1,x2,x3,x4,x5,x6,x7,x8,x9,x10,x11,x12,x13,x14,x15,x16,x17,x18,x19,x20,x21,x22,x23,x24] =
 pv (cvV .u8 x0) λt1=>
 pv (ixV (.string ⟨#[0,1,2,2,3,3,3,3,4,4,4,4,4,4,4,4,5,5,5,5,5,5,5,5,5,5,5,5,5,5,5,5,6,6,6,6,6,6,6,6,6,6,6,6,6,6,6,6,6,6,6,6,6,6,6,6,6,6,6,6,6,6,6,6,7,7,7,7,7,7,7,7,7,7,7,7,7,7,7,7,7,7,7,7,7,7,7,7,7,7,7,7,7,7,7,7,7,7,7,7,7,7,7,7,7,7,7,7,7,7,7,7,7,7,7,7,7,7,7,7,7,7,7,7,7,7,7,7,8,8,8,8,8,8,8,8,8,8,8,8,8,8,8,8,8,8,8,8,8,8,8,8,8,8,8,8,8,8,8,8,8,8,8,8,8,8,8,8,8,8,8,8,8,8,8,8,8,8,8,8,8,8,8,8,8,8,8,8,8,8,8,8,8,8,8,8,8,8,8,8,8,8,8,8,8,8,8,8,8,8,8,8,8,8,8,8,8,8,8,8,8,8,8,8,8,8,8,8,8,8,8,8,8,8,8,8,8,8,8,8,8,8,8,8,8,8,8,8,8,8,8,8,8,8,8,8]⟩) t1) λt2=>
 pv (cvV .i64 t2) λt3=>
 pv (za2 .none .add x2 t3) λt4=>
 K t4:=by kernel_rfl
abbrev q54:=cQ Tryz.f54 K E
abbrev d54:=cD Tryz.f54
abbrev zom:=za6 k1 (blk 0 (za6 (d54 [1,1,1,1] (q54 K E)) (q54 K E)))
def zdo (j:Nat -> Value):Env:=#[x0,x1,x2,x3,x4,v5,v6,(j 7),x8,x9,x10,x11,x12,x13,x14,x15,(j 16),(j 17),(j 18),(j 19),(j 20),(j 21),(j 22),(j 23),(j 24),(j 25),(j 26),(j 27),(j 28),(j 29),(j 30),(j 31),(j 32),(j 33),(j 34),(j 35),x36,x37,x38,x39,x40,x41]
theorem t54:d54 [] (q54 K E) #[x0,x1,U,U,U,U,U,U,U,U,U,U,U,U,U,U,U,U,U,U,U,U,U,U,U,U,U,U,U,U,U,U,U,U,U,U,U,U,U,U,U,U] =
 cF 108 #[x0,x1] (λt1=>
 pv (za2 .none .eql t1 (.int .i64 (-1))) λt2=>
 cnd t2 (
  K x0) (
  pv (za2 .none .add t1 (.int .i64 1)) λt3=>
  lp (λk1=>d54 [1,1,1,0,1,0,0] (zom K E k1)) (zdo x0 x1 U U (.slice none 0 0) x0 x1 t1 t1 t2 U t1 t3 U U U U U U t1 t3 (jf #[])))) E:=by kernel_rfl
theorem zrk:d54 [1,1,1,0,1,0,0] (zom K E k1) (zdo x0 x1 x2 x3 x4 x8 x9 x10 x11 x12 x13 x14 x15 x36 x37 x38 x39 x40 x41 v5 v6 j) =
 pv (zab x0) λt1=>
 pv (za2 .none .lss v6 t1) λt2=>
 cnd t2 (
  pv (iaV none 1 x0 v6) λt3=>
  ld false 1 t3 λt4=>
  zbs Tryz.prog x1 #[t4] (λt5=>
  pv (unV .not t5) λt6=>
  cnd t6 (
  pv (iaV none 1 x0 v5) λt7=>
  st 1 t7 t4 λ_=>
  pv (za2 .none .add v5 (.int .i64 1)) λt8=>
  d54 [1,1,1,0,1,0,0,1,1] (zom K E k1) #[x0,x1,x2,x3,x4,t8,v6,t4,x8,x9,x10,x11,x12,x13,x14,x15,v6,x0,t1,t2,(j 20),(j 21),x0,v6,t3,t4,x1,t4,t5,t6,x0,v5,t4,t7,v5,t8,x36,x37,x38,x39,x40,x41]) (
  d54 [1,1,1,0,1,0,0,1,1] (zom K E k1) #[x0,x1,x2,x3,x4,v5,v6,t4,x8,x9,x10,x11,x12,x13,x14,x15,v6,x0,t1,t2,(j 20),(j 21),x0,v6,t3,t4,x1,t4,t5,t6,(j 30),(j 31),(j 32),(j 33),(j 34),(j 35),x36,x37,x38,x39,x40,x41])) E) (
  pv (slV 1 x0 (some v5) none none) λt9=>
  clr 38 [(.int .u32 0)] 1 t9 λ_=>
  pv (slV 1 x0 none (some v5) none) λt10=>
  K t10):=by kernel_rfl
theorem zj7:d54 [1,1,1,0,1,0,0,1,1] (zom K E k1) #[x0,x1,x2,x3,x4,x5,x6,x7,x8,x9,x10,x11,x12,x13,x14,x15,x16,x17,x18,x19,x20,x21,x22,x23,x24,x25,x26,x27,x28,x29,x30,x31,x32,x33,x34,x35,x36,x37,x38,x39,x40,x41] =
 pv (za2 .none .add x6 (.int .i64 1)) λt1=>
 k1 (zdo x0 x1 x2 x3 x4 x8 x9 x10 x11 x12 x13 x14 x15 x36 x37 x38 x39 x40 x41 x5 t1 (jf #[U,U,U,U,U,U,U,x7,U,U,U,U,U,U,U,U,x16,x17,x18,x19,x6,t1,x22,x23,x24,x25,x26,x27,x28,x29,x30,x31,x32,x33,x34,x35])):=by kernel_rfl
abbrev yix:=cQ Tryz.f108 K E
abbrev zw1:=cD Tryz.f108
abbrev zuf:=za6 k1 (blk 0 (za6 (zw1 [1,1] (yix K E)) (yix K E)))
def zf8 (j:Nat -> Value):Env:=#[x0,x1,x2,x3,(j 4),(j 5),x6,x7,v8,(j 9),(j 10),(j 11),(j 12),(j 13),(j 14),(j 15),(j 16),(j 17),(j 18)]
theorem zny:zw1 [] (yix K E) #[x0,x1,U,U,U,U,U,U,U,U,U,U,U,U,U,U,U,U,U] =
 pv (zab x0) λt1=>
 lp (λk1=>zw1 [1,0,1,0,0] (zuf K E k1)) (zf8 x0 x1 U U x0 t1 (.int .i64 0) (jf #[U,U,U,U,(.int .i64 0)])):=by kernel_rfl
theorem zwu:zw1 [1,0,1,0,0] (zuf K E k1) (zf8 x0 x1 x2 x3 x6 x7 v8 j) =
 pv (za2 .none .lss v8 x7) λt1=>
 cnd t1 (
  pv (iaV none 1 x0 v8) λt2=>
  ld false 1 t2 λt3=>
  zbs Tryz.prog x1 #[t3] (λt4=>
  cnd t4 (
  K v8) (
  pv (za2 .none .add v8 (.int .i64 1)) λt5=>
  k1 (zf8 x0 x1 x2 x3 x6 x7 t5 (jf #[U,U,U,U,(j 4),v8,U,U,U,t1,v8,x1,x0,v8,t2,t3,t4,(j 17),t5])))) E) (
  K (.int .i64 (-1))):=by kernel_rfl
end
section
variable {K:zae} {E:zb2} {k1 k2:Env -> Hp -> Prop} {σ:Type} {x0 x1 x2 x3 x4 x5 x6 x7 x8 x9 x10 x11 x12 x13 x14 x15 x36 x37 x38 x39 x40 x41 v1 v2 v3 v5 v6 v7 v8 v9:Value} {h:Hp} {j:Nat -> Value}
theorem ya2 (f1 f2 f3 f8 f9:σ -> Value) (I:σ -> Hp -> Prop) (μ:σ -> Nat) (s0:σ) (e1:v1=f1 s0) (e2:v2=f2 s0) (e3:v3=f3 s0) (e8:v8=f8 s0) (e9:v9=f9 s0) (h0:h.wf -> ∃ h',h.wk h'∧I s0 h')
 (round:∀ (k1:Env -> Hp -> Prop) (s:σ) (j:Nat -> Value) (h:Hp),I s h -> h.wf -> (∀ s' j' h',μ s'<μ s -> (h'.wf -> ∃ h'',h'.wk h''∧I s' h'') -> k1 (zhf x0 x4 x5 x6 x7 (f1 s') (f2 s') (f3 s') (f8 s') (f9 s') j') h') -> zs7 [1,1,0,0] (za6 k1 (blk 0 (ztb K E))) (zhf x0 x4 x5 x6 x7 (f1 s) (f2 s) (f3 s) (f8 s) (f9 s) j) h) :
 lp (λk1=>zs7 [1,1,0,0] (za6 k1 (blk 0 (ztb K E)))) (zhf x0 x4 x5 x6 x7 v1 v2 v3 v8 v9 j) h:=by
 subst e1;subst e2;subst e3;subst e8;subst e9;exact zaw _ I μ round s0 j h0
theorem zur (f6:σ -> Value) (I:σ -> Hp -> Prop) (μ:σ -> Nat) (s0:σ) (e6:v6=f6 s0) (h0:h.wf -> ∃ h',h.wk h'∧I s0 h')
 (round:∀ (k1:Env -> Hp -> Prop) (s:σ) (j:Nat -> Value) (h:Hp),I s h -> h.wf -> (∀ s' j' h',μ s'<μ s -> (h'.wf -> ∃ h'',h'.wk h''∧I s' h'') -> k1 (zhz x0 x1 x2 x3 x4 x5 x8 x9 (f6 s') j') h') -> zmp [1,0,0] (za6 k1 (blk 0 (zsa K E))) (zhz x0 x1 x2 x3 x4 x5 x8 x9 (f6 s) j) h) :
 lp (λk1=>zmp [1,0,0] (za6 k1 (blk 0 (zsa K E)))) (zhz x0 x1 x2 x3 x4 x5 x8 x9 v6 j) h:=by
 subst e6;exact zaw _ I μ round s0 j h0
theorem zmg (f7:σ -> Value) (I:σ -> Hp -> Prop) (μ:σ -> Nat) (s0:σ) (e7:v7=f7 s0) (h0:h.wf -> ∃ h',h.wk h'∧I s0 h')
 (round:∀ (k2:Env -> Hp -> Prop) (s:σ) (j:Nat -> Value) (h:Hp),I s h -> h.wf -> (∀ s' j' h',μ s'<μ s -> (h'.wf -> ∃ h'',h'.wk h''∧I s' h'') -> k2 (zcg x0 x1 x2 x3 x4 x5 x6 x8 x9 x10 x11 x12 x13 x14 x15 (f7 s') j') h') -> zmp [1,0,0,1,0,0,1,0,0] (zuy K E k1 k2) (zcg x0 x1 x2 x3 x4 x5 x6 x8 x9 x10 x11 x12 x13 x14 x15 (f7 s) j) h) :
 lp (λk2=>zmp [1,0,0,1,0,0,1,0,0] (zuy K E k1 k2)) (zcg x0 x1 x2 x3 x4 x5 x6 x8 x9 x10 x11 x12 x13 x14 x15 v7 j) h:=by
 subst e7;exact zaw _ I μ round s0 j h0
theorem zrf (f5 f6:σ -> Value) (I:σ -> Hp -> Prop) (μ:σ -> Nat) (s0:σ) (e5:v5=f5 s0) (e6:v6=f6 s0) (h0:h.wf -> ∃ h',h.wk h'∧I s0 h')
 (round:∀ (k1:Env -> Hp -> Prop) (s:σ) (j:Nat -> Value) (h:Hp),I s h -> h.wf -> (∀ s' j' h',μ s'<μ s -> (h'.wf -> ∃ h'',h'.wk h''∧I s' h'') -> k1 (zdo x0 x1 x2 x3 x4 x8 x9 x10 x11 x12 x13 x14 x15 x36 x37 x38 x39 x40 x41 (f5 s') (f6 s') j') h') -> d54 [1,1,1,0,1,0,0] (zom K E k1) (zdo x0 x1 x2 x3 x4 x8 x9 x10 x11 x12 x13 x14 x15 x36 x37 x38 x39 x40 x41 (f5 s) (f6 s) j) h) :
 lp (λk1=>d54 [1,1,1,0,1,0,0] (zom K E k1)) (zdo x0 x1 x2 x3 x4 x8 x9 x10 x11 x12 x13 x14 x15 x36 x37 x38 x39 x40 x41 v5 v6 j) h:=by
 subst e5;subst e6;exact zaw _ I μ round s0 j h0
theorem zwo (f8:σ -> Value) (I:σ -> Hp -> Prop) (μ:σ -> Nat) (s0:σ) (e8:v8=f8 s0) (h0:h.wf -> ∃ h',h.wk h'∧I s0 h')
 (round:∀ (k1:Env -> Hp -> Prop) (s:σ) (j:Nat -> Value) (h:Hp),I s h -> h.wf -> (∀ s' j' h',μ s'<μ s -> (h'.wf -> ∃ h'',h'.wk h''∧I s' h'') -> k1 (zf8 x0 x1 x2 x3 x6 x7 (f8 s') j') h') -> zw1 [1,0,1,0,0] (zuf K E k1) (zf8 x0 x1 x2 x3 x6 x7 (f8 s) j) h) :
 lp (λk1=>zw1 [1,0,1,0,0] (zuf K E k1)) (zf8 x0 x1 x2 x3 x6 x7 v8 j) h:=by
 subst e8;exact zaw _ I μ round s0 j h0
end
section
variable (K:zae) (E:zb2) (k1:Env -> Hp -> Prop) (x0 x1 x2 x3 x4 x5 x6 x7 x8 x9 x10 x11 x12 x13 x14 x15 x16 x17 x18 x19 x20 x21 x22 x23 x24 x25 x26 x27 x28 x29 x30 x31 x32 x33 x34 x35 x52 x53 x54 x55 x56 x57 x58 v36:Value) (j:Nat -> Value)
abbrev q38:=cQ Tryz.f38 K E
abbrev d38:=cD Tryz.f38
theorem t38:d38 [] (q38 K E) #[x0,U,U,U,U,U,U,U,U,U,U,U] =
 cF 87 #[x0] (λt1=>
 pv (za2 .ptr .eql t1 (.pointer none)) λt2=>
 cnd t2 (
  K (.pointer none)) (
  mkm λt3=>
  pv (bdC #[(.pointer none),(.map none),(.int .u32 0)] [(0,1),(1,1),(2,1)] #[(0,t1),(1,t3)]) λt4=>
  nw 58 (Value.cells t4).toList λt5=>
  K t5)) E:=by kernel_rfl
abbrev q40:=cQ Tryz.f40 K E
abbrev d40:=cD Tryz.f40
theorem t40:d40 [] (q40 K E) #[x0,x1,U,U,U,U,U,U,U,U,U,U,U,U,U,U,U,U,U,U,U,U,U,U,U,U,U] =
 nw 77 (Value.cells x1).toList λt1=>
 pv (faV 0 t1) λt2=>
 ld false 1 t2 λt3=>
 pv (za2 .none .eql t3 (.int .u8 1)) λt4=>
 cnd t4 (
  ld true 10 t1 λt5=>
  cF 91 #[x0,t5] (λt6=>
  K t6) E) (
  pv (za2 .none .eql t3 (.int .u8 2)) λt7=>
  cnd t7 (
  ld true 10 t1 λt8=>
  cF 92 #[x0,t8] (λt9=>
  K t9) E) (
  pv (za2 .none .eql t3 (.int .u8 3)) λt10=>
  cnd t10 (
   ld true 10 t1 λt11=>
   cF 93 #[x0,t11] (λt12=>
   K t12) E) (
   pv (za2 .none .eql t3 (.int .u8 7)) λt13=>
   cnd t13 (
   ld true 10 t1 λt14=>
   cF 94 #[x0,t14] (λt15=>
   K t15) E) (
   K (.int .u16 1))))):=by kernel_rfl
abbrev q28:=cQ Tryz.f28 K E
abbrev d28:=cD Tryz.f28
theorem t28:d28 [] (q28 K E) #[x0,x1,U,U,U,U,U,U,U,U,U,U] =
 nw 85 [(.int .u8 0),(.int .u32 0)] λt1=>
 pv (zai x0) λt2=>
 pv (faV 1 t2) λt3=>
 ld false 1 t3 λt4=>
 lkp Tryz.prog 56 t4 x1 false λt5=>
 pv (fdV true 0 2 t5) λt6=>
 st 2 t1 t6 λ_=>
 ld true 2 t1 λt7=>
 K t7:=by kernel_rfl
abbrev q21:=cQ Tryz.f21 K E
abbrev d21:=cD Tryz.f21
theorem t21:d21 [] (q21 K E) #[x0,U,U,U,U,U,U,U,U,U,U] =
 nw 35 (Value.cells x0).toList λt1=>
 ld false 1 t1 λt2=>
 pv (zai t2) λt3=>
 pv (faV 1 t3) λt4=>
 ld false 1 t4 λt5=>
 cF 56 #[t5] (λt6=>
 cF 55 #[t6] (λt7=>
 cF 54 #[t7,(.func (.func 57) #[] #[t1])] (λt8=>
 K t8) E) E) E:=by kernel_rfl
abbrev q75:=cQ Tryz.f75 K E
abbrev d75:=cD Tryz.f75
theorem t75:d75 [] (q75 K E) #[x0,U,U,U,U,U,U] =
 pv (zai x0) λt1=>
 pv (faV 2 t1) λt2=>
 ld false 1 t2 λt3=>
 K t3:=by kernel_rfl
abbrev q91:=cQ Tryz.f91 K E
abbrev d91:=cD Tryz.f91
abbrev zyr:=za6 k1 (blk 1 (za6 (d91 [1,1,1,1] (q91 K E)) (q91 K E)))
def zdm (j:Nat -> Value):Env:=#[x0,x1,x2,x3,x4,x5,x6,(j 7),x8,x9,x10,x11,x12,x13,x14,x15,x16,x17,x18,x19,x20,x21,x22,x23,x24,x25,x26,x27,x28,x29,x30,x31,x32,x33,x34,x35,v36,(j 37),(j 38),(j 39),(j 40),(j 41),(j 42),(j 43),(j 44),(j 45),(j 46),(j 47),(j 48),(j 49),(j 50),(j 51),x52,x53,x54,x55,x56,x57,x58]
theorem t91:d91 [] (q91 K E) #[x0,x1,U,U,U,U,U,U,U,U,U,U,U,U,U,U,U,U,U,U,U,U,U,U,U,U,U,U,U,U,U,U,U,U,U,U,U,U,U,U,U,U,U,U,U,U,U,U,U,U,U,U,U,U,U,U,U,U,U] =
 nw 77 (Value.cells x1).toList λt1=>
 pv (zai x0) λt2=>
 pv (faV 1 t2) λt3=>
 ld false 1 t3 λt4=>
 pv (faV 1 t1) λt5=>
 ld false 1 t5 λt6=>
 lkp Tryz.prog 56 t4 t6 false λt7=>
 pv (fdV true 0 2 t7) λt8=>
 pv (fdV false 0 1 t8) λt9=>
 pv (za2 .none .neq t9 (.int .u8 0)) λt10=>
 cnd t10 (
  K (.int .u16 140)) (
  pv (zai x0) λt11=>
  pv (faV 0 t11) λt12=>
  ld false 1 t12 λt13=>
  pv (faV 4 t1) λt14=>
  ld false 1 t14 λt15=>
  cF 98 #[t13,t15] (λt16=>
  pv (unV .not t16) λt17=>
  cnd t17 (
  K (.int .u16 1)) (
  pv (bdC #[(.int .u8 0),(.int .u32 0)] [(0,1),(1,1)] #[(0,(.int .u8 1))]) λt18=>
  pv (faV 3 t1) λt19=>
  ld false 1 t19 λt20=>
  cF 122 #[t20] (λt21=>
  pv (bdC #[(.int .u8 0),(.int .u32 0),(.slice none 0 0),(.slice none 0 0)] [(0,2),(2,1),(3,1)] #[(0,t18),(1,t21)]) λt22=>
  nw 154 [(.int .u8 0),(.int .u32 0),(.slice none 0 0),(.slice none 0 0)] λt23=>
  st 4 t23 t22 λ_=>
  pv (faV 4 t1) λt24=>
  ld false 1 t24 λt25=>
  pv (zab t25) λt26=>
  lp (λk1=>d91 [1,1,1,0,1,0,0] (zyr K E k1)) (zdm x0 x1 U t1 (.int .u16 0) t23 U t10 x0 t2 t3 t4 t5 t6 t7 t8 t9 t10 t17 x0 t11 t12 t13 t14 t15 t16 t17 t18 t19 t20 t21 t22 t24 t25 t26 U U U U U U U (.int .i64 0) (jf #[]))) E)) E):=by kernel_rfl
theorem zrj:d91 [1,1,1,0,1,0,0] (zyr K E k1) (zdm x0 x1 x2 x3 x4 x5 x6 x8 x9 x10 x11 x12 x13 x14 x15 x16 x17 x18 x19 x20 x21 x22 x23 x24 x25 x26 x27 x28 x29 x30 x31 x32 x33 x34 x35 x52 x53 x54 x55 x56 x57 x58 v36 j) =
 pv (za2 .none .lss v36 x35) λt1=>
 cnd t1 (
  pv (iaV none 2 x34 v36) λt2=>
  ld true 2 t2 λt3=>
  nw 110 [(.slice none 0 0),(.int .i64 0)] λt4=>
  st 2 t4 t3 λ_=>
  pv (faV 3 x5) λt5=>
  ld false 1 t5 λt6=>
  pv (faV 0 t4) λt7=>
  ld false 1 t7 λt8=>
  pv (faV 1 t4) λt9=>
  ld false 1 t9 λt10=>
  cF 122 #[t8] (λt11 h12=>(ldV h12 false 1 t9 t10)∧(ldV h12 false 1 t5 t6)∧(
  pv (bdC #[(.slice none 0 0),(.int .i64 0)] [(0,1),(1,1)] #[(0,t11),(1,t10)]) λt13=>
  nws 110 1 (bsC #[(.slice none 0 0),(.int .i64 0)] 2 1 #[(0,t13)]) (λt14 h15=>(ldV h15 false 1 t5 t6)∧(
   zdl 110 2 32 t6 t14 λt16=>
   pv (faV 3 x5) λt17=>
   st 1 t17 t16 λ_=>
   pv (za2 .none .add v36 (.int .i64 1)) λt18=>
   k1 (zdm x0 x1 x2 x3 x4 x5 x6 x8 x9 x10 x11 x12 x13 x14 x15 x16 x17 x18 x19 x20 x21 x22 x23 x24 x25 x26 x27 x28 x29 x30 x31 x32 x33 x34 x35 x52 x53 x54 x55 x56 x57 x58 t18 (jf #[U,U,U,U,U,U,U,t4,U,U,U,U,U,U,U,U,U,U,U,U,U,U,U,U,U,U,U,U,U,U,U,U,U,U,U,U,U,t1,t2,t3,t5,t6,t7,t8,t11,t9,t10,t13,t14,t16,t17,t18]))) h15)) h12) E) (
  pv (zai x0) λt19=>
  pv (faV 1 t19) λt20=>
  ld false 1 t20 λt21=>
  pv (faV 1 x3) λt22=>
  ld false 1 t22 λt23=>
  ld true 4 x5 λt24=>
  mup Tryz.prog 56 t21 t23 t24 λ_=>
  K (.int .u16 0)):=by kernel_rfl
abbrev q92:=cQ Tryz.f92 K E
abbrev d92:=cD Tryz.f92
theorem t92:d92 [] (q92 K E) #[x0,x1,U,U,U,U,U,U,U,U,U,U,U,U,U,U,U,U,U,U,U,U,U,U,U,U,U,U,U,U,U,U,U,U,U,U,U,U,U] =
 nw 77 (Value.cells x1).toList λt1=>
 pv (faV 1 t1) λt2=>
 ld false 1 t2 λt3=>
 cF 58 #[x0,t3] (λt4=>
 pv (unV .not t4) λt5=>
 cnd t5 (
  K (.int .u16 140)) (
  pv (zai x0) λt6=>
  pv (faV 0 t6) λt7=>
  ld false 1 t7 λt8=>
  pv (faV 2 t1) λt9=>
  ld false 1 t9 λt10=>
  pv (zai x0) λt11=>
  pv (faV 1 t11) λt12=>
  ld false 1 t12 λt13=>
  pv (faV 1 t1) λt14=>
  ld false 1 t14 λt15=>
  lkp Tryz.prog 56 t13 t15 false (λt16 h17=>(ldV h17 false 1 t9 t10)∧(ldV h17 false 1 t7 t8)∧(
  pv (fdV false 3 1 t16) λt18=>
  cF 135 #[t8,t10,t18] (λt19=>
  pv (za2 .none .neq t19 (.int .u16 0)) λt20=>
  cnd t20 (
   K t19) (
   pv (zai x0) λt21=>
   pv (faV 1 t21) λt22=>
   ld false 1 t22 λt23=>
   pv (faV 1 t1) λt24=>
   ld false 1 t24 λt25=>
   pv (faV 2 t1) λt26=>
   ld false 1 t26 λt27=>
   pv (bdC #[(.int .u8 0),(.int .u32 0)] [(0,1),(1,1)] #[(0,(.int .u8 2)),(1,t27)]) λt28=>
   pv (bdC #[(.int .u8 0),(.int .u32 0),(.slice none 0 0),(.slice none 0 0)] [(0,2),(2,1),(3,1)] #[(0,t28)]) λt29=>
   mup Tryz.prog 56 t23 t25 t29 λ_=>
   K (.int .u16 0))) E) h17))) E:=by kernel_rfl
abbrev q93:=cQ Tryz.f93 K E
abbrev d93:=cD Tryz.f93
theorem t93:d93 [] (q93 K E) #[x0,x1,U,U,U,U,U,U,U,U,U,U,U,U,U,U,U,U,U,U,U,U,U] =
 nw 77 (Value.cells x1).toList λt1=>
 pv (zai x0) λt2=>
 pv (faV 1 t2) λt3=>
 ld false 1 t3 λt4=>
 pv (faV 1 t1) λt5=>
 ld false 1 t5 λt6=>
 lkp Tryz.prog 56 t4 t6 false λt7=>
 pv (fdV true 0 2 t7) λt8=>
 pv (fdV false 0 1 t8) λt9=>
 pv (za2 .none .gtr t9 (.int .u8 1)) λt10=>
 cnd t10 (
  K (.int .u16 140)) (
  pv (zai x0) λt11=>
  pv (faV 1 t11) λt12=>
  ld false 1 t12 λt13=>
  pv (faV 1 t1) λt14=>
  ld false 1 t14 λt15=>
  pv (bdC #[(.int .u8 0),(.int .u32 0)] [(0,1),(1,1)] #[(0,(.int .u8 3))]) λt16=>
  pv (bdC #[(.int .u8 0),(.int .u32 0),(.slice none 0 0),(.slice none 0 0)] [(0,2),(2,1),(3,1)] #[(0,t16)]) λt17=>
  mup Tryz.prog 56 t13 t15 t17 λ_=>
  K (.int .u16 0)):=by kernel_rfl
abbrev q94:=cQ Tryz.f94 K E
abbrev d94:=cD Tryz.f94
theorem t94:d94 [] (q94 K E) #[x0,x1,U,U,U,U,U,U,U,U,U,U,U,U,U,U,U,U,U,U,U,U,U,U,U,U,U,U,U,U,U,U] =
 nw 77 (Value.cells x1).toList λt1=>
 pv (faV 1 t1) λt2=>
 ld false 1 t2 λt3=>
 pv (zai x0) λt4=>
 pv (faV 2 t4) λt5=>
 ld false 1 t5 λt6=>
 pv (za2 .none .leq t3 t6) λt7=>
 cnd t7 (
  K (.int .u16 140)) (
  pv (zai x0) λt8=>
  pv (faV 0 t8) λt9=>
  ld false 1 t9 λt10=>
  pv (faV 7 t1) λt11=>
  ld false 1 t11 λt12=>
  pv (faV 8 t1) λt13=>
  ld false 1 t13 λt14=>
  pv (faV 9 t1) λt15=>
  ld false 1 t15 λt16=>
  cF 136 #[t10,t12,t14,t16] (λt17=>
  pv (za2 .none .eql t17 (.int .u16 0)) λt18=>
  cnd t18 (
  pv (faV 1 t1) λt19=>
  ld false 1 t19 λt20=>
  pv (zai x0) λt21=>
  pv (faV 2 t21) λt22=>
  st 1 t22 t20 λ_=>
  d94 [1,1,1,1] (q94 K E) #[x0,x1,U,t1,(.int .u16 0),t17,t2,t3,x0,t4,t5,t6,t7,x0,t8,t9,t10,t11,t12,t13,t14,t15,t16,t17,t17,t18,x0,t19,t20,t21,t22,U]) (
  d94 [1,1,1,1] (q94 K E) #[x0,x1,U,t1,(.int .u16 0),t17,t2,t3,x0,t4,t5,t6,t7,x0,t8,t9,t10,t11,t12,t13,t14,t15,t16,t17,t17,t18,U,U,U,U,U,U])) E):=by kernel_rfl
theorem zry:d94 [1,1,1,1] (q94 K E) #[x0,x1,x2,x3,x4,x5,x6,x7,x8,x9,x10,x11,x12,x13,x14,x15,x16,x17,x18,x19,x20,x21,x22,x23,x24,x25,x26,x27,x28,x29,x30,x31] =
 K x5:=by kernel_rfl
abbrev q79:=cQ Tryz.f79 K E
abbrev d79:=cD Tryz.f79
theorem t79:d79 [] (q79 K E) #[x0,x1,U,U,U,U,U,U,U,U,U,U,U] =
 pv (zai x0) λt1=>
 pv (faV 1 t1) λt2=>
 ld false 1 t2 λt3=>
 lkp Tryz.prog 56 t3 x1 false λt4=>
 pv (fdV false 2 1 t4) λt5=>
 cF 122 #[t5] (λt6=>
 K t6) E:=by kernel_rfl
end
section
variable {K:zae} {E:zb2} {k1:Env -> Hp -> Prop} {σ:Type} {x0 x1 x2 x3 x4 x5 x6 x8 x9 x10 x11 x12 x13 x14 x15 x16 x17 x18 x19 x20 x21 x22 x23 x24 x25 x26 x27 x28 x29 x30 x31 x32 x33 x34 x35 x52 x53 x54 x55 x56 x57 x58 v36:Value} {h:Hp} {j:Nat -> Value}
theorem zre (f36:σ -> Value) (I:σ -> Hp -> Prop) (μ:σ -> Nat) (s0:σ) (e36:v36=f36 s0) (h0:h.wf -> ∃ h',h.wk h'∧I s0 h')
 (round:∀ (k1:Env -> Hp -> Prop) (s:σ) (j:Nat -> Value) (h:Hp),I s h -> h.wf -> (∀ s' j' h',μ s'<μ s -> (h'.wf -> ∃ h'',h'.wk h''∧I s' h'') -> k1 (zdm x0 x1 x2 x3 x4 x5 x6 x8 x9 x10 x11 x12 x13 x14 x15 x16 x17 x18 x19 x20 x21 x22 x23 x24 x25 x26 x27 x28 x29 x30 x31 x32 x33 x34 x35 x52 x53 x54 x55 x56 x57 x58 (f36 s') j') h') -> d91 [1,1,1,0,1,0,0] (zyr K E k1) (zdm x0 x1 x2 x3 x4 x5 x6 x8 x9 x10 x11 x12 x13 x14 x15 x16 x17 x18 x19 x20 x21 x22 x23 x24 x25 x26 x27 x28 x29 x30 x31 x32 x33 x34 x35 x52 x53 x54 x55 x56 x57 x58 (f36 s) j) h) :
 lp (λk1=>d91 [1,1,1,0,1,0,0] (zyr K E k1)) (zdm x0 x1 x2 x3 x4 x5 x6 x8 x9 x10 x11 x12 x13 x14 x15 x16 x17 x18 x19 x20 x21 x22 x23 x24 x25 x26 x27 x28 x29 x30 x31 x32 x33 x34 x35 x52 x53 x54 x55 x56 x57 x58 v36 j) h:=by
 subst e36;exact zaw _ I μ round s0 j h0
end
section
variable (K:zae) (E:zb2) (k1 k2:Env -> Hp -> Prop) (x0 x1 x2 x3 x4 x5 x6 x7 x8 x9 x10 x11 x12 x13 x14 x15 x16 x17 x18 x19 x20 x21 x22 x23 x24 x25 x26 x27 x28 x29 x30 x31 x32 x33 x34 x35 x36 x37 x38 x39 x40 x41 x42 x43 x44 x45 x46 x47 v3 v13 v19:Value) (j:Nat -> Value)
abbrev q42:=cQ Tryz.f42 K E
abbrev d42:=cD Tryz.f42
theorem t42:d42 [] (q42 K E) #[x0,U,U,U,U,U,U,U,U,U,U,U,U,U,U,U,U,U,U,U,U,U,U,U,U,U,U,U,U,U,U,U,U,U,U,U,U,U,U,U,U,U,U,U,U,U,U,U,U,U,U,U,U,U] =
 nw 49 [(.int .u8 0),(.int .u32 0),(.int .u32 0),(.slice none 0 0),(.slice none 0 0),(.int .i64 0),(.int .i64 0),(.slice none 0 0)] λt1=>
 pv (zab x0) λt2=>
 pv (za2 .none .eql t2 (.int .i64 0)) λt3=>
 cnd t3 (
  pv (bdC #[(.int .u8 0),(.int .u32 0),(.int .u32 0),(.slice none 0 0),(.slice none 0 0),(.int .i64 0),(.int .i64 0),(.slice none 0 0)] [(0,1),(1,1),(2,1),(3,1),(4,1),(5,1),(6,1),(7,1)] #[]) λt4=>
  st 8 t1 t4 λ_=>
  ld true 8 t1 λt5=>
  K (.tuple #[t5,(.int .u16 160)])) (
  pv (slV 1 x0 (some (.int .i64 1)) none none) λt6=>
  cF 95 #[t6] (λt7=>
  pv (exV 0 t7) λt8=>
  pv (exV 1 t7) λt9=>
  nw 77 [(.int .u8 0),(.int .u32 0),(.int .u32 0),(.slice none 0 0),(.slice none 0 0),(.int .u32 0),(.slice none 0 0),(.int .i64 0),(.int .i64 0),(.slice none 0 0)] λt10=>
  st 10 t10 t8 λ_=>
  pv (za2 .none .neq t9 (.int .u16 0)) λt11=>
  cnd t11 (
  pv (bdC #[(.int .u8 0),(.int .u32 0),(.int .u32 0),(.slice none 0 0),(.slice none 0 0),(.int .i64 0),(.int .i64 0),(.slice none 0 0)] [(0,1),(1,1),(2,1),(3,1),(4,1),(5,1),(6,1),(7,1)] #[]) λt12=>
  st 8 t1 t12 λ_=>
  ld true 8 t1 λt13=>
  K (.tuple #[t13,(.int .u16 160)])) (
  pv (iaV none 1 x0 (.int .i64 0)) λt14=>
  ld false 1 t14 λt15=>
  pv (faV 1 t10) λt16=>
  ld false 1 t16 λt17=>
  pv (faV 2 t10) λt18=>
  ld false 1 t18 λt19=>
  pv (faV 3 t10) λt20=>
  ld false 1 t20 λt21=>
  pv (faV 4 t10) λt22=>
  ld false 1 t22 λt23=>
  pv (faV 7 t10) λt24=>
  ld false 1 t24 λt25=>
  pv (faV 8 t10) λt26=>
  ld false 1 t26 λt27=>
  pv (faV 9 t10) λt28=>
  ld false 1 t28 λt29=>
  pv (bdC #[(.int .u8 0),(.int .u32 0),(.int .u32 0),(.slice none 0 0),(.slice none 0 0),(.int .i64 0),(.int .i64 0),(.slice none 0 0)] [(0,1),(1,1),(2,1),(3,1),(4,1),(5,1),(6,1),(7,1)] #[(0,t15),(1,t17),(2,t19),(3,t21),(4,t23),(5,t25),(6,t27),(7,t29)]) λt30=>
  nw 49 [(.int .u8 0),(.int .u32 0),(.int .u32 0),(.slice none 0 0),(.slice none 0 0),(.int .i64 0),(.int .i64 0),(.slice none 0 0)] (λt31 h32=>(ldV h32 false 1 t28 t29)∧(ldV h32 false 1 t26 t27)∧(ldV h32 false 1 t24 t25)∧(ldV h32 false 1 t22 t23)∧(ldV h32 false 1 t20 t21)∧(ldV h32 false 1 t18 t19)∧(ldV h32 false 1 t16 t17)∧(ldV h32 false 1 t14 t15)∧(
   st 8 t31 t30 λ_=>
   ld true 8 t31 λt33=>
   cF 96 #[t33] (λt34=>
   pv (exV 0 t34) λt35=>
   pv (exV 1 t34) λt36=>
   pv (za2 .none .neq t36 (.int .u16 0)) λt37=>
   gdK t37 false (λk=>k t35) λt38=>
   gdK t37 false (λk=>k x0) λt39=>
   gdK t37 false (λk=>cF 97 #[t38,t39] k E) λt40=>
   gdK t37 false (λk=>pv (unV .not t40) k) λt41=>
   pv (zad t37 (.bool true) t41) λt42=>
   cnd t42 (
   pv (bdC #[(.int .u8 0),(.int .u32 0),(.int .u32 0),(.slice none 0 0),(.slice none 0 0),(.int .i64 0),(.int .i64 0),(.slice none 0 0)] [(0,1),(1,1),(2,1),(3,1),(4,1),(5,1),(6,1),(7,1)] #[]) λt43=>
   st 8 t1 t43 λ_=>
   ld true 8 t1 λt44=>
   K (.tuple #[t44,(.int .u16 160)])) (
   ld true 8 t31 λt45=>
   st 8 t1 t45 λ_=>
   ld true 8 t1 λt46=>
   K (.tuple #[t46,(.int .u16 0)]))) E) h32))) E):=by kernel_rfl
abbrev q96:=cQ Tryz.f96 K E
abbrev d96:=cD Tryz.f96
theorem t96:d96 [] (q96 K E) #[x0,U,U,U,U,U,U,U,U,U,U,U,U,U,U,U,U,U,U,U,U,U,U,U] =
 nw 49 (Value.cells x0).toList λt1=>
 ld true 8 t1 λt2=>
 cF 139 #[t2] (λt3=>
 pv (unV .not t3) λt4=>
 cnd t4 (
  K (.tuple #[(.slice none 0 0),(.int .u16 1)])) (
  ld true 8 t1 λt5=>
  cF 140 #[t5] (λt6=>
  cF 138 #[t6] (λt7=>
  pv (exV 0 t7) λt8=>
  pv (exV 1 t7) λt9=>
  pv (za2 .none .neq t9 (.int .u16 0)) λt10=>
  cnd t10 (
  K (.tuple #[(.slice none 0 0),t9])) (
  pv (faV 0 t1) λt11=>
  ld false 1 t11 λt12=>
  nws 5 1 (bsC #[(.int .u8 0)] 1 1 #[(0,t12)]) λt13=>
  nws 44 2 (bsC #[(.slice none 0 0)] 1 2 #[(0,t13),(1,t8)]) λt14=>
  cF 141 #[t14] (λt15=>
  K (.tuple #[t15,(.int .u16 0)])) E)) E) E)) E:=by kernel_rfl
abbrev zsy:=cQ Tryz.f139 K E
abbrev ztc:=cD Tryz.f139
theorem yta:ztc [] (zsy K E) #[x0,U,U,U,U,U,U,U,U,U,U,U,U,U,U,U,U,U,U,U,U,U,U,U,U,U,U,U,U,U,U,U,U,U,U,U,U,U,U] =
 nw 49 (Value.cells x0).toList λt1=>
 pv (faV 0 t1) λt2=>
 ld false 1 t2 λt3=>
 pv (za2 .none .eql t3 (.int .u8 4)) λt4=>
 gdK t4 true (λk=>pv (faV 3 t1) k) λt5=>
 gdK t4 true (λk=>ld false 1 t5 k) λt6=>
 gdK t4 true (λk=>pv (zab t6) k) λt7=>
 gdK t4 true (λk=>pv (za2 .none .gtr t7 (.int .i64 0)) k) λt8=>
 pv (zad t4 t8 (.bool false)) λt9=>
 cnd t9 (
  ztc [1,0,0,1] (blk 0 (za6 (ztc [1,1] (zsy K E)) (zsy K E))) #[x0,t1,(.bool false),t9,t2,t3,t4,t4,t5,t6,t7,t8,t9,U,U,U,U,U,U,U,U,U,U,U,U,U,U,U,U,U,U,U,U,U,U,U,U,U,U]) (
  pv (faV 0 t1) λt10=>
  ld false 1 t10 λt11=>
  pv (za2 .none .eql t11 (.int .u8 8)) λt12=>
  gdK t12 true (λk=>pv (faV 7 t1) k) λt13=>
  gdK t12 true (λk=>ld false 1 t13 k) λt14=>
  gdK t12 true (λk=>pv (zab t14) k) λt15=>
  gdK t12 true (λk=>pv (za2 .none .gtr t15 (.int .i64 0)) k) λt16=>
  pv (zad t12 t16 (.bool false)) λt17=>
  ztc [1,0,0,1] (blk 0 (za6 (ztc [1,1] (zsy K E)) (zsy K E))) #[x0,t1,(.bool false),t17,t2,t3,t4,t4,t5,t6,t7,t8,t9,t10,t11,t12,t12,t13,t14,t15,t16,t17,U,U,U,U,U,U,U,U,U,U,U,U,U,U,U,U,U]):=by kernel_rfl
theorem zhh:ztc [1,0,0,1] (blk 0 (za6 (ztc [1,1] (zsy K E)) (zsy K E))) #[x0,x1,x2,x3,x4,x5,x6,x7,x8,x9,x10,x11,x12,x13,x14,x15,x16,x17,x18,x19,x20,x21,x22,x23,x24,x25,x26,x27,x28,x29,x30,x31,x32,x33,x34,x35,x36,x37,x38] =
 cnd x3 (
  K (.bool false)) (
  pv (faV 0 x1) λt1=>
  ld false 1 t1 λt2=>
  pv (za2 .none .eql t2 (.int .u8 9)) λt3=>
  gdK t3 true (λk=>pv (faV 5 x1) k) λt4=>
  gdK t3 true (λk=>ld false 1 t4 k) λt5=>
  gdK t3 true (λk=>pv (za2 .none .neq t5 (.int .i64 0)) k) λt6=>
  gdK t3 true (λk=>k t6) λt7=>
  gdK t7 false (λk=>pv (faV 6 x1) k) λt8=>
  gdK t7 false (λk=>ld false 1 t8 k) λt9=>
  gdK t7 false (λk=>pv (za2 .none .neq t9 (.int .i64 0)) k) λt10=>
  gdK t3 true (λk=>pv (zad t7 (.bool true) t10) k) λt11=>
  pv (zad t3 t11 (.bool false)) λt12=>
  cnd t12 (
  K (.bool false)) (
  ld true 8 x1 λt13=>
  cF 140 #[t13] (λt14=>
  cF 192 #[t14] (λt15=>
  K t15) E) E)):=by kernel_rfl
abbrev yvs:=cQ Tryz.f140 K E
abbrev yu9:=cD Tryz.f140
theorem ytm:yu9 [] (yvs K E) #[x0,U,U,U,U,U,U,U,U,U,U,U,U,U,U,U,U,U,U,U,U] =
 nw 49 (Value.cells x0).toList λt1=>
 nw 77 [(.int .u8 0),(.int .u32 0),(.int .u32 0),(.slice none 0 0),(.slice none 0 0),(.int .u32 0),(.slice none 0 0),(.int .i64 0),(.int .i64 0),(.slice none 0 0)] λt2=>
 pv (faV 0 t1) λt3=>
 ld false 1 t3 λt4=>
 pv (faV 1 t1) λt5=>
 ld false 1 t5 λt6=>
 pv (faV 2 t1) λt7=>
 ld false 1 t7 λt8=>
 pv (faV 3 t1) λt9=>
 ld false 1 t9 λt10=>
 pv (faV 4 t1) λt11=>
 ld false 1 t11 λt12=>
 pv (faV 5 t1) λt13=>
 ld false 1 t13 λt14=>
 pv (faV 6 t1) λt15=>
 ld false 1 t15 λt16=>
 pv (faV 7 t1) λt17=>
 ld false 1 t17 λt18=>
 cF 199 #[t4] (λt19 h20=>(ldV h20 false 1 t17 t18)∧(ldV h20 false 1 t15 t16)∧(ldV h20 false 1 t13 t14)∧(ldV h20 false 1 t11 t12)∧(ldV h20 false 1 t9 t10)∧(ldV h20 false 1 t7 t8)∧(ldV h20 false 1 t5 t6)∧(
  pv (bdC #[(.int .u8 0),(.int .u32 0),(.int .u32 0),(.slice none 0 0),(.slice none 0 0),(.int .u32 0),(.slice none 0 0),(.int .i64 0),(.int .i64 0),(.slice none 0 0)] [(0,1),(1,1),(2,1),(3,1),(4,1),(5,2),(7,1),(8,1),(9,1)] #[(0,t19),(1,t6),(2,t8),(3,t10),(4,t12),(6,t14),(7,t16),(8,t18)]) λt21=>
  st 10 t2 t21 λ_=>
  ld true 10 t2 λt22=>
  K t22) h20) E:=by kernel_rfl
abbrev zfc:=cQ Tryz.f199 K E
abbrev zfd:=cD Tryz.f199
theorem yxa:zfd [] (zfc K E) #[x0,U,U,U,U,U,U,U,U,U,U,U,U,U,U,U,U,U,U] =
 pv (za2 .none .eql x0 (.int .u8 1)) λt1=>
 cnd t1 (
  K (.int .u8 1)) (
  pv (za2 .none .eql x0 (.int .u8 4)) λt2=>
  cnd t2 (
  K (.int .u8 2)) (
  pv (za2 .none .eql x0 (.int .u8 8)) λt3=>
  cnd t3 (
   zfd [1,0,1,0,1,1,1,1,1] (blk 0 (za6 (zfd [1,1] (zfc K E)) (zfc K E))) #[x0,U,(.int .u8 0),x0,t1,t1,t2,t2,t3,t3,U,U,U,U,U,U,U,U,U]) (
   pv (za2 .none .eql x0 (.int .u8 9)) λt4=>
   cnd t4 (
   zfd [1,0,1,0,1,1,1,1,1] (blk 0 (za6 (zfd [1,1] (zfc K E)) (zfc K E))) #[x0,U,(.int .u8 0),x0,t1,t1,t2,t2,t4,t3,t4,U,U,U,U,U,U,U,U]) (
   pv (za2 .none .eql x0 (.int .u8 10)) λt5=>
   zfd [1,0,1,0,1,1,1,1,1] (blk 0 (za6 (zfd [1,1] (zfc K E)) (zfc K E))) #[x0,U,(.int .u8 0),x0,t1,t1,t2,t2,t5,t3,t4,t5,U,U,U,U,U,U,U])))):=by kernel_rfl
theorem zec:zfd [1,0,1,0,1,1,1,1,1] (blk 0 (za6 (zfd [1,1] (zfc K E)) (zfc K E))) #[x0,x1,x2,x3,x4,x5,x6,x7,x8,x9,x10,x11,x12,x13,x14,x15,x16,x17,x18] =
 cnd x8 (
  K (.int .u8 7)) (
  pv (za2 .none .eql x3 (.int .u8 2)) λt1=>
  cnd t1 (
  zfd [1,0,1,0,1,1,1,1,1,1,1] (blk 0 (za6 (zfd [1,1] (zfc K E)) (zfc K E))) #[x0,x1,x2,x3,x4,x5,x6,x7,x8,x9,x10,x11,t1,t1,x14,x15,x16,x17,x18]) (
  pv (za2 .none .eql x3 (.int .u8 3)) λt2=>
  cnd t2 (
   zfd [1,0,1,0,1,1,1,1,1,1,1] (blk 0 (za6 (zfd [1,1] (zfc K E)) (zfc K E))) #[x0,x1,x2,x3,x4,x5,x6,x7,x8,x9,x10,x11,t2,t1,t2,x15,x16,x17,x18]) (
   pv (za2 .none .eql x3 (.int .u8 5)) λt3=>
   cnd t3 (
   zfd [1,0,1,0,1,1,1,1,1,1,1] (blk 0 (za6 (zfd [1,1] (zfc K E)) (zfc K E))) #[x0,x1,x2,x3,x4,x5,x6,x7,x8,x9,x10,x11,t3,t1,t2,t3,x16,x17,x18]) (
   pv (za2 .none .eql x3 (.int .u8 6)) λt4=>
   cnd t4 (
    zfd [1,0,1,0,1,1,1,1,1,1,1] (blk 0 (za6 (zfd [1,1] (zfc K E)) (zfc K E))) #[x0,x1,x2,x3,x4,x5,x6,x7,x8,x9,x10,x11,t4,t1,t2,t3,t4,x17,x18]) (
    pv (za2 .none .eql x3 (.int .u8 7)) λt5=>
    cnd t5 (
    zfd [1,0,1,0,1,1,1,1,1,1,1] (blk 0 (za6 (zfd [1,1] (zfc K E)) (zfc K E))) #[x0,x1,x2,x3,x4,x5,x6,x7,x8,x9,x10,x11,t5,t1,t2,t3,t4,t5,x18]) (
    pv (za2 .none .eql x3 (.int .u8 11)) λt6=>
    zfd [1,0,1,0,1,1,1,1,1,1,1] (blk 0 (za6 (zfd [1,1] (zfc K E)) (zfc K E))) #[x0,x1,x2,x3,x4,x5,x6,x7,x8,x9,x10,x11,t6,t1,t2,t3,t4,t5,t6])))))):=by kernel_rfl
theorem zby:zfd [1,0,1,0,1,1,1,1,1,1,1] (blk 0 (za6 (zfd [1,1] (zfc K E)) (zfc K E))) #[x0,x1,x2,x3,x4,x5,x6,x7,x8,x9,x10,x11,x12,x13,x14,x15,x16,x17,x18] =
 cnd x12 (
  K (.int .u8 4)) (
  K (.int .u8 0)):=by kernel_rfl
abbrev ytv:=cQ Tryz.f131 K E
abbrev ywv:=cD Tryz.f131
theorem ywh:ywv [] (ytv K E) #[x0,U,U,U,U,U,U,U,U,U,U,U,U,U,U,U,U,U,U,U,U] =
 pv (zab x0) λt1=>
 pv (za2 .none .gtr t1 (.int .i64 60000)) λt2=>
 cnd t2 (
  K (.tuple #[(.slice none 0 0),(.int .u16 3)])) (
  pv (zab x0) λt3=>
  pv (cvV .u32 t3) λt4=>
  cF 184 #[t4,(.int .i64 3)] (λt5=>
  nws 44 2 (bsC #[(.slice none 0 0)] 1 2 #[(0,t5),(1,x0)]) λt6=>
  cF 185 #[t6] (λt7=>
  cF 184 #[t7,(.int .i64 4)] (λt8=>
  nws 44 3 (bsC #[(.slice none 0 0)] 1 3 #[(0,t5),(1,x0),(2,t8)]) λt9=>
  cF 141 #[t9] (λt10=>
  K (.tuple #[t10,(.int .u16 0)])) E) E) E) E):=by kernel_rfl
abbrev yw7:=cQ Tryz.f183 K E
abbrev yt8:=cD Tryz.f183
theorem ytw:yt8 [] (yw7 K E) #[x0,U,U,U] =
 nw 44 (Value.cells x0).toList λt1=>
 K (.func (.func 244) #[] #[t1]):=by kernel_rfl
abbrev yw9:=cQ Tryz.f184 K E
abbrev yws:=cD Tryz.f184
theorem ywn:yws [] (yw9 K E) #[x0,x1,U,U,U,U,U,U,U,U,U,U,U,U,U,U,U,U,U,U,U,U] =
 pv (za2 .none .shr x0 (.int .u64 24)) λt1=>
 pv (cvV .u8 t1) λt2=>
 pv (za2 .none .shr x0 (.int .u64 16)) λt3=>
 pv (cvV .u8 t3) λt4=>
 pv (za2 .none .shr x0 (.int .u64 8)) λt5=>
 pv (cvV .u8 t5) λt6=>
 pv (cvV .u8 x0) λt7=>
 pv (bsA #[(.int .u8 0),(.int .u8 0),(.int .u8 0),(.int .u8 0)] 1 #[(0,t2),(1,t4),(2,t6),(3,t7)]) λt8=>
 nw 335 [(.int .u8 0),(.int .u8 0),(.int .u8 0),(.int .u8 0)] λt9=>
 st 4 t9 t8 λ_=>
 pv (za2 .none .sub (.int .i64 4) x1) λt10=>
 pv (slV 1 (yfa 4 t9) (some t10) none none) λt11=>
 cF 245 #[t11] (λt12=>
 K t12) E:=by kernel_rfl
abbrev zsk:=cQ Tryz.f185 K E
abbrev zjy:=cD Tryz.f185
abbrev ztr:=za6 k2 (blk 2 (blk 1 (za6 (zjy [1,1,1,0,1,0,0,1,1,1] (za6 k1 (blk 0 (za6 (zjy [1,1,1,1] (zsk K E)) (zsk K E))))) (za6 k1 (blk 0 (za6 (zjy [1,1,1,1] (zsk K E)) (zsk K E)))))))
abbrev zve:=za6 k1 (blk 0 (za6 (zjy [1,1,1,1] (zsk K E)) (zsk K E)))
def zdc (j:Nat -> Value):Env:=#[x0,x1,x2,x3,x4,x5,(j 6),x7,(j 8),x9,x10,x11,x12,v13,(j 14),(j 15),(j 16),(j 17),(j 18),(j 19),(j 20),(j 21),(j 22),(j 23),(j 24),(j 25),(j 26),(j 27),x28,x29,x30,x31,x32,x33]
def zbq (j:Nat -> Value):Env:=#[x0,x1,x2,x3,x4,x5,x6,x7,(j 8),x9,x10,x11,x12,x13,x14,x15,x16,x17,x18,v19,(j 20),(j 21),(j 22),(j 23),(j 24),(j 25),(j 26),x27,x28,x29,x30,x31,x32,x33]
theorem yva:zjy [] (zsk K E) #[x0,U,U,U,U,U,U,U,U,U,U,U,U,U,U,U,U,U,U,U,U,U,U,U,U,U,U,U,U,U,U,U,U,U] =
 pv (bdC #[(.int .u32 0),(.int .u32 0)] [(0,1),(1,1)] #[(0,(.int .u32 1))]) λt1=>
 nw 337 [(.int .u32 0),(.int .u32 0)] λt2=>
 st 2 t2 t1 λ_=>
 pv (zab x0) λt3=>
 lp (λk1=>zjy [1,1,1,0,1,0,0] (zve K E k1)) (zdc x0 U (.int .u32 0) t2 (.func (.func 246) #[t2] #[]) U U t1 (.func (.func 246) #[t2] #[]) x0 t3 U U U U U U (.int .i64 0) (jf #[])):=by kernel_rfl
theorem zq6:zjy [1,1,1,0,1,0,0] (zve K E k1) (zdc x0 x1 x2 x3 x4 x5 x7 x9 x10 x11 x12 x28 x29 x30 x31 x32 x33 v13 j) =
 pv (za2 .none .lss v13 x12) λt1=>
 cnd t1 (
  pv (iaV none 1 x11 v13) λt2=>
  ld false 1 t2 λt3=>
  pv (zab t3) λt4=>
  lp (λk2=>zjy [1,1,1,0,1,0,0,1,1,0,0,1,1,0,0] (ztr K E k1 k2)) (zbq x0 x1 x2 x3 x4 x5 t3 x7 x9 x10 x11 x12 v13 t1 t2 t3 t3 t4 (j 27) x28 x29 x30 x31 x32 x33 (.int .i64 0) (jf #[U,U,U,U,U,U,U,U,(j 8),U,U,U,U,U,U,U,U,U,U,U,(j 20),(j 21),(j 22),(j 23),(j 24),(j 25),(j 26)]))) (
  pv (faV 1 x3) λt5=>
  ld false 1 t5 λt6=>
  pv (za2 .none .shl t6 (.int .u64 16)) λt7=>
  pv (faV 0 x3) λt8=>
  ld false 1 t8 λt9=>
  pv (za2 .none .or t7 t9) λt10=>
  K t10):=by kernel_rfl
theorem zi5:zjy [1,1,1,0,1,0,0,1,1,0,0,1,1,0,0] (ztr K E k1 k2) (zbq x0 x1 x2 x3 x4 x5 x6 x7 x9 x10 x11 x12 x13 x14 x15 x16 x17 x18 x27 x28 x29 x30 x31 x32 x33 v19 j) =
 pv (za2 .none .lss v19 x18) λt1=>
 cnd t1 (
  pv (iaV none 1 x17 v19) λt2=>
  ld false 1 t2 λt3=>
  zbs Tryz.prog x4 #[t3] (λt4=>
  pv (za2 .none .add v19 (.int .i64 1)) λt5=>
  k2 (zbq x0 x1 x2 x3 x4 x5 x6 x7 x9 x10 x11 x12 x13 x14 x15 x16 x17 x18 x27 x28 x29 x30 x31 x32 x33 t5 (jf #[U,U,U,U,U,U,U,U,t3,U,U,U,U,U,U,U,U,U,U,U,t1,t2,t3,x4,t3,t4,t5]))) E) (
  pv (za2 .none .add x13 (.int .i64 1)) λt6=>
  k1 (zdc x0 x1 x2 x3 x4 x5 x7 x9 x10 x11 x12 x28 x29 x30 x31 x32 x33 t6 (jf #[U,U,U,U,U,U,x6,U,(j 8),U,U,U,U,U,x14,x15,x16,x17,x18,v19,t1,(j 21),(j 22),(j 23),(j 24),(j 25),(j 26),t6]))):=by kernel_rfl
abbrev yyc:=cQ Tryz.f244 K E
abbrev yyd:=cD Tryz.f244
def zv4 (j:Nat -> Value):Env:=#[x0,x1,x2,v3,(j 4),(j 5),(j 6),(j 7),(j 8),(j 9),(j 10),(j 11),(j 12),(j 13),(j 14),(j 15),(j 16),(j 17),(j 18),(j 19),(j 20),(j 21),(j 22),(j 23),(j 24),(j 25),(j 26),(j 27),(j 28),(j 29),(j 30),(j 31),(j 32),(j 33),(j 34),(j 35),(j 36),(j 37),(j 38),(j 39),(j 40),(j 41),(j 42),(j 43),(j 44),(j 45),(j 46),(j 47),(j 48),(j 49),(j 50),(j 51),(j 52),(j 53),(j 54),(j 55),(j 56),(j 57),(j 58),(j 59),(j 60),(j 61),(j 62),(j 63),(j 64),(j 65)]
abbrev yej:=cQ Tryz.f246 K E
abbrev yeh:=cD Tryz.f246
theorem yu4:yeh [] (yej K E) #[x0,x1,U,U,U,U,U,U,U,U,U,U,U,U,U,U,U,U,U,U,U,U,U,U,U,U,U,U,U,U,U,U,U,U,U,U,U,U,U,U,U,U,U,U,U,U,U,U] =
 pv (zai x0) λt1=>
 pv (faV 0 t1) λt2=>
 ld false 1 t2 λt3=>
 pv (cvV .u32 x1) λt4=>
 pv (za2 .none .add t3 t4) λt5=>
 pv (zai x0) λt6=>
 pv (faV 0 t6) λt7=>
 st 1 t7 t5 λ_=>
 pv (zai x0) λt8=>
 pv (faV 0 t8) λt9=>
 ld false 1 t9 λt10=>
 pv (za2 .none .geq t10 (.int .u32 65521)) λt11=>
 cnd t11 (
  pv (zai x0) λt12=>
  pv (faV 0 t12) λt13=>
  ld false 1 t13 λt14=>
  pv (za2 .none .sub t14 (.int .u32 65521)) λt15=>
  pv (zai x0) λt16=>
  pv (faV 0 t16) λt17=>
  st 1 t17 t15 λ_=>
  yeh [1] (yej K E) #[x0,x1,U,U,x0,t1,t2,t3,x1,t4,t5,t6,t7,x0,t8,t9,t10,t11,x0,t12,t13,t14,t15,t16,t17,U,U,U,U,U,U,U,U,U,U,U,U,U,U,U,U,U,U,U,U,U,U,U]) (
  yeh [1] (yej K E) #[x0,x1,U,U,x0,t1,t2,t3,x1,t4,t5,t6,t7,x0,t8,t9,t10,t11,U,U,U,U,U,U,U,U,U,U,U,U,U,U,U,U,U,U,U,U,U,U,U,U,U,U,U,U,U,U]):=by kernel_rfl
theorem yg7:yeh [1] (yej K E) #[x0,x1,x2,x3,x4,x5,x6,x7,x8,x9,x10,x11,x12,x13,x14,x15,x16,x17,x18,x19,x20,x21,x22,x23,x24,x25,x26,x27,x28,x29,x30,x31,x32,x33,x34,x35,x36,x37,x38,x39,x40,x41,x42,x43,x44,x45,x46,x47] =
 pv (zai x0) λt1=>
 pv (faV 1 t1) λt2=>
 ld false 1 t2 λt3=>
 pv (zai x0) λt4=>
 pv (faV 0 t4) λt5=>
 ld false 1 t5 λt6=>
 pv (za2 .none .add t3 t6) λt7=>
 pv (zai x0) λt8=>
 pv (faV 1 t8) λt9=>
 st 1 t9 t7 λ_=>
 pv (zai x0) λt10=>
 pv (faV 1 t10) λt11=>
 ld false 1 t11 λt12=>
 pv (za2 .none .geq t12 (.int .u32 65521)) λt13=>
 cnd t13 (
  pv (zai x0) λt14=>
  pv (faV 1 t14) λt15=>
  ld false 1 t15 λt16=>
  pv (za2 .none .sub t16 (.int .u32 65521)) λt17=>
  pv (zai x0) λt18=>
  pv (faV 1 t18) λt19=>
  st 1 t19 t17 λ_=>
  K (.tuple #[])) (
  K (.tuple #[])):=by kernel_rfl
end
section
variable {K:zae} {E:zb2} {k1 k2:Env -> Hp -> Prop} {σ:Type} {x0 x1 x2 x3 x4 x5 x6 x7 x9 x10 x11 x12 x13 x14 x15 x16 x17 x18 x27 x28 x29 x30 x31 x32 x33 v13 v19:Value} {h:Hp} {j:Nat -> Value}
theorem zq5 (f13:σ -> Value) (I:σ -> Hp -> Prop) (μ:σ -> Nat) (s0:σ) (e13:v13=f13 s0) (h0:h.wf -> ∃ h',h.wk h'∧I s0 h')
 (round:∀ (k1:Env -> Hp -> Prop) (s:σ) (j:Nat -> Value) (h:Hp),I s h -> h.wf -> (∀ s' j' h',μ s'<μ s -> (h'.wf -> ∃ h'',h'.wk h''∧I s' h'') -> k1 (zdc x0 x1 x2 x3 x4 x5 x7 x9 x10 x11 x12 x28 x29 x30 x31 x32 x33 (f13 s') j') h') -> zjy [1,1,1,0,1,0,0] (zve K E k1) (zdc x0 x1 x2 x3 x4 x5 x7 x9 x10 x11 x12 x28 x29 x30 x31 x32 x33 (f13 s) j) h) :
 lp (λk1=>zjy [1,1,1,0,1,0,0] (zve K E k1)) (zdc x0 x1 x2 x3 x4 x5 x7 x9 x10 x11 x12 x28 x29 x30 x31 x32 x33 v13 j) h:=by
 subst e13;exact zaw _ I μ round s0 j h0
theorem zi8 (f19:σ -> Value) (I:σ -> Hp -> Prop) (μ:σ -> Nat) (s0:σ) (e19:v19=f19 s0) (h0:h.wf -> ∃ h',h.wk h'∧I s0 h')
 (round:∀ (k2:Env -> Hp -> Prop) (s:σ) (j:Nat -> Value) (h:Hp),I s h -> h.wf -> (∀ s' j' h',μ s'<μ s -> (h'.wf -> ∃ h'',h'.wk h''∧I s' h'') -> k2 (zbq x0 x1 x2 x3 x4 x5 x6 x7 x9 x10 x11 x12 x13 x14 x15 x16 x17 x18 x27 x28 x29 x30 x31 x32 x33 (f19 s') j') h') -> zjy [1,1,1,0,1,0,0,1,1,0,0,1,1,0,0] (ztr K E k1 k2) (zbq x0 x1 x2 x3 x4 x5 x6 x7 x9 x10 x11 x12 x13 x14 x15 x16 x17 x18 x27 x28 x29 x30 x31 x32 x33 (f19 s) j) h) :
 lp (λk2=>zjy [1,1,1,0,1,0,0,1,1,0,0,1,1,0,0] (ztr K E k1 k2)) (zbq x0 x1 x2 x3 x4 x5 x6 x7 x9 x10 x11 x12 x13 x14 x15 x16 x17 x18 x27 x28 x29 x30 x31 x32 x33 v19 j) h:=by
 subst e19;exact zaw _ I μ round s0 j h0
end
theorem yqc (Q:QD) (x0 x1 x2 x3 x4 x5 x6 x7 x8 x9 x10 x11 x12 x13 x14 x15 x16 x17 x18:Value):den Tryz.prog (sel (zaf Tryz.f130) [0]) Q #[x0,x1,x2,x3,x4,x5,x6,x7,x8,x9,x10,x11,x12,x13,x14,x15,x16,x17,x18] =
 Q .normal #[x0,x1,(.slice none 0 0),(.int .i64 0),x4,x5,x6,x7,x8,x9,x10,x11,x12,x13,x14,x15,x16,x17,x18]:=by kernel_rfl
theorem ykn (Q:QD) (x0 x1 x2 x3 x4 x5 x6 x7 x8 x9 x10 x11 x12 x13 x14 x15 x16 x17 x18:Value):den Tryz.prog (sel (zaf Tryz.f130) [1,0]) Q #[x0,x1,x2,x3,x4,x5,x6,x7,x8,x9,x10,x11,x12,x13,x14,x15,x16,x17,x18] =
 nw 233 [(.slice none 0 0)] λt1=>
 Q .normal #[x0,x1,x2,x3,t1,x5,x6,x7,x8,x9,x10,x11,x12,x13,x14,x15,x16,x17,x18]:=by kernel_rfl
theorem yec (Q:QD) (x0 x1 x2 x3 x4 x5 x6 x7 x8 x9 x10 x11 x12 x13 x14 x15 x16 x17 x18:Value):den Tryz.prog (sel (zaf Tryz.f130) [1,1,0]) Q #[x0,x1,x2,x3,x4,x5,x6,x7,x8,x9,x10,x11,x12,x13,x14,x15,x16,x17,x18] =
 nw 3 [(.int .i64 0)] λt1=>
 st 1 t1 (.int .i64 0) λ_=>
 Q .normal #[x0,x1,x2,x3,x4,t1,x6,x7,x8,x9,x10,x11,x12,x13,x14,x15,x16,x17,x18]:=by kernel_rfl
theorem zxi (Q:QD) (x0 x1 x2 x3 x4 x5 x6 x7 x8 x9 x10 x11 x12 x13 x14 x15 x16 x17 x18:Value):den Tryz.prog (sel (zaf Tryz.f130) [1,1,1,0,0]) Q #[x0,x1,x2,x3,x4,x5,x6,x7,x8,x9,x10,x11,x12,x13,x14,x15,x16,x17,x18] =
 cF 183 #[x0] (λt1=>
 Q .normal #[x0,x1,x2,x3,x4,x5,x6,x7,x0,t1,x10,x11,x12,x13,x14,x15,x16,x17,x18]) (λc=>Q (.panic c) #[x0,x1,x2,x3,x4,x5,x6,x7,x0,x9,x10,x11,x12,x13,x14,x15,x16,x17,x18]):=by kernel_rfl
theorem zq8 (Q:QD) (x0 x1 x2 x3 x4 x5 x6 x7 x8 x9 x10 x11 x12 x13 x14 x15 x16 x17 x18:Value):den Tryz.prog (sel (asg ((sel (zaf Tryz.f130) [1,1,1,0,1,0]))) []) Q #[x0,x1,x2,x3,x4,x5,x6,x7,x8,x9,x10,x11,x12,x13,x14,x15,x16,x17,x18] =
 Q .normal #[x0,x1,x2,x3,x4,x5,x10,x11,x8,x9,x10,x11,x12,x13,x14,x15,x16,x17,x18]:=by kernel_rfl
theorem zq7 (Q:QD) (x0 x1 x2 x3 x4 x5 x6 x7 x8 x9 x10 x11 x12 x13 x14 x15 x16 x17 x18:Value):den Tryz.prog (sel (bod ((sel (zaf Tryz.f130) [1,1,1,0,1,0]))) []) Q #[x0,x1,x2,x3,x4,x5,x6,x7,x8,x9,x10,x11,x12,x13,x14,x15,x16,x17,x18] =
 ld false 1 x4 λt1=>
 nws 44 1 (bsC #[(.slice none 0 0)] 1 1 #[(0,x7)]) λt2=>
 zdl 44 1 24 t1 t2 λt3=>
 st 1 x4 t3 λ_=>
 st 1 x5 x6 λ_=>
 Q .normal #[x0,x1,x2,x3,x4,x5,x6,x7,x8,x9,x10,x11,t1,x7,t2,t3,x6,x17,x18]:=by kernel_rfl
theorem ybj (Q:QD) (x0 x1 x2 x3 x4 x5 x6 x7 x8 x9 x10 x11 x12 x13 x14 x15 x16 x17 x18:Value):den Tryz.prog (sel (zaf Tryz.f130) [1,1,1,1]) Q #[x0,x1,x2,x3,x4,x5,x6,x7,x8,x9,x10,x11,x12,x13,x14,x15,x16,x17,x18] =
 ld false 1 x4 λt1=>
 ld false 1 x5 λt2=>
 Q .ret #[x0,x1,t1,t2,x4,x5,x6,x7,x8,x9,x10,x11,x12,x13,x14,x15,x16,t1,t2]:=by kernel_rfl
theorem yoh (Q:QD) (x0 x1 x2 x3 x4 x5 x6 x7 x8 x9 x10 x11 x12 x13 x14 x15 x16 x17 x18 x19 x20 x21 x22 x23 x24 x25 x26 x27 x28 x29 x30 x31 x32 x33 x34 x35 x36 x37 x38 x39 x40 x41 x42 x43 x44 x45 x46 x47 x48 x49 x50 x51 x52 x53 x54 x55 x56 x57 x58 x59 x60 x61 x62 x63 x64 x65:Value):den Tryz.prog (sel (zaf Tryz.f244) [0]) Q #[x0,x1,x2,x3,x4,x5,x6,x7,x8,x9,x10,x11,x12,x13,x14,x15,x16,x17,x18,x19,x20,x21,x22,x23,x24,x25,x26,x27,x28,x29,x30,x31,x32,x33,x34,x35,x36,x37,x38,x39,x40,x41,x42,x43,x44,x45,x46,x47,x48,x49,x50,x51,x52,x53,x54,x55,x56,x57,x58,x59,x60,x61,x62,x63,x64,x65] =
 Q .normal #[x0,x1,x2,(.int .i64 0),x4,x5,x6,x7,x8,x9,x10,x11,x12,x13,x14,x15,x16,x17,x18,x19,x20,x21,x22,x23,x24,x25,x26,x27,x28,x29,x30,x31,x32,x33,x34,x35,x36,x37,x38,x39,x40,x41,x42,x43,x44,x45,x46,x47,x48,x49,x50,x51,x52,x53,x54,x55,x56,x57,x58,x59,x60,x61,x62,x63,x64,x65]:=by kernel_rfl
theorem zz9 (Q:QD) (x0 x1 x2 x3 x4 x5 x6 x7 x8 x9 x10 x11 x12 x13 x14 x15 x16 x17 x18 x19 x20 x21 x22 x23 x24 x25 x26 x27 x28 x29 x30 x31 x32 x33 x34 x35 x36 x37 x38 x39 x40 x41 x42 x43 x44 x45 x46 x47 x48 x49 x50 x51 x52 x53 x54 x55 x56 x57 x58 x59 x60 x61 x62 x63 x64 x65:Value):den Tryz.prog (sel (zaf Tryz.f244) [1,0,0,0]) Q #[x0,x1,x2,x3,x4,x5,x6,x7,x8,x9,x10,x11,x12,x13,x14,x15,x16,x17,x18,x19,x20,x21,x22,x23,x24,x25,x26,x27,x28,x29,x30,x31,x32,x33,x34,x35,x36,x37,x38,x39,x40,x41,x42,x43,x44,x45,x46,x47,x48,x49,x50,x51,x52,x53,x54,x55,x56,x57,x58,x59,x60,x61,x62,x63,x64,x65] =
 ld false 1 x1 λt1=>
 pv (zab t1) λt2=>
 pv (za2 .none .sub t2 x3) λt3=>
 pv (za2 .none .geq t3 (.int .i64 7)) λt4=>
 cnd t4 (
  Q .normal #[x0,x1,x2,x3,x4,x5,x6,t1,t2,x3,t3,t4,x12,x13,x14,x15,x16,x17,x18,x19,x20,x21,x22,x23,x24,x25,x26,x27,x28,x29,x30,x31,x32,x33,x34,x35,x36,x37,x38,x39,x40,x41,x42,x43,x44,x45,x46,x47,x48,x49,x50,x51,x52,x53,x54,x55,x56,x57,x58,x59,x60,x61,x62,x63,x64,x65]) (
  Q (.exit 0) #[x0,x1,x2,x3,x4,x5,x6,t1,t2,x3,t3,t4,x12,x13,x14,x15,x16,x17,x18,x19,x20,x21,x22,x23,x24,x25,x26,x27,x28,x29,x30,x31,x32,x33,x34,x35,x36,x37,x38,x39,x40,x41,x42,x43,x44,x45,x46,x47,x48,x49,x50,x51,x52,x53,x54,x55,x56,x57,x58,x59,x60,x61,x62,x63,x64,x65]):=by kernel_rfl
theorem zta (Q:QD) (x0 x1 x2 x3 x4 x5 x6 x7 x8 x9 x10 x11 x12 x13 x14 x15 x16 x17 x18 x19 x20 x21 x22 x23 x24 x25 x26 x27 x28 x29 x30 x31 x32 x33 x34 x35 x36 x37 x38 x39 x40 x41 x42 x43 x44 x45 x46 x47 x48 x49 x50 x51 x52 x53 x54 x55 x56 x57 x58 x59 x60 x61 x62 x63 x64 x65:Value):den Tryz.prog (sel (zaf Tryz.f244) [1,0,0,1,0,0]) Q #[x0,x1,x2,x3,x4,x5,x6,x7,x8,x9,x10,x11,x12,x13,x14,x15,x16,x17,x18,x19,x20,x21,x22,x23,x24,x25,x26,x27,x28,x29,x30,x31,x32,x33,x34,x35,x36,x37,x38,x39,x40,x41,x42,x43,x44,x45,x46,x47,x48,x49,x50,x51,x52,x53,x54,x55,x56,x57,x58,x59,x60,x61,x62,x63,x64,x65] =
 ld false 1 x1 λt1=>
 pv (slV 1 t1 (some x3) none none) λt2=>
 Q .normal #[x0,x1,x2,x3,t2,x5,x6,x7,x8,x9,x10,x11,t1,x3,t2,x15,x16,x17,x18,x19,x20,x21,x22,x23,x24,x25,x26,x27,x28,x29,x30,x31,x32,x33,x34,x35,x36,x37,x38,x39,x40,x41,x42,x43,x44,x45,x46,x47,x48,x49,x50,x51,x52,x53,x54,x55,x56,x57,x58,x59,x60,x61,x62,x63,x64,x65]:=by kernel_rfl
theorem zqk (Q:QD) (x0 x1 x2 x3 x4 x5 x6 x7 x8 x9 x10 x11 x12 x13 x14 x15 x16 x17 x18 x19 x20 x21 x22 x23 x24 x25 x26 x27 x28 x29 x30 x31 x32 x33 x34 x35 x36 x37 x38 x39 x40 x41 x42 x43 x44 x45 x46 x47 x48 x49 x50 x51 x52 x53 x54 x55 x56 x57 x58 x59 x60 x61 x62 x63 x64 x65:Value):den Tryz.prog (sel (zaf Tryz.f244) [1,0,0,1,0,1,0]) Q #[x0,x1,x2,x3,x4,x5,x6,x7,x8,x9,x10,x11,x12,x13,x14,x15,x16,x17,x18,x19,x20,x21,x22,x23,x24,x25,x26,x27,x28,x29,x30,x31,x32,x33,x34,x35,x36,x37,x38,x39,x40,x41,x42,x43,x44,x45,x46,x47,x48,x49,x50,x51,x52,x53,x54,x55,x56,x57,x58,x59,x60,x61,x62,x63,x64,x65] =
 pv (iaV none 1 x4 (.int .i64 0)) λt1=>
 ld false 1 t1 λt2=>
 pv (cvV .i64 t2) λt3=>
 pv (za2 .none .shl t3 (.int .u64 16)) λt4=>
 pv (iaV none 1 x4 (.int .i64 1)) λt5=>
 ld false 1 t5 λt6=>
 pv (cvV .i64 t6) λt7=>
 pv (za2 .none .shl t7 (.int .u64 8)) λt8=>
 pv (za2 .none .or t4 t8) λt9=>
 pv (iaV none 1 x4 (.int .i64 2)) λt10=>
 ld false 1 t10 λt11=>
 pv (cvV .i64 t11) λt12=>
 pv (za2 .none .or t9 t12) λt13=>
 Q .normal #[x0,x1,x2,x3,x4,t13,x6,x7,x8,x9,x10,x11,x12,x13,x14,x4,t1,t2,t3,t4,x4,t5,t6,t7,t8,t9,x4,t10,t11,t12,t13,x31,x32,x33,x34,x35,x36,x37,x38,x39,x40,x41,x42,x43,x44,x45,x46,x47,x48,x49,x50,x51,x52,x53,x54,x55,x56,x57,x58,x59,x60,x61,x62,x63,x64,x65]:=by kernel_rfl
theorem zod (Q:QD) (x0 x1 x2 x3 x4 x5 x6 x7 x8 x9 x10 x11 x12 x13 x14 x15 x16 x17 x18 x19 x20 x21 x22 x23 x24 x25 x26 x27 x28 x29 x30 x31 x32 x33 x34 x35 x36 x37 x38 x39 x40 x41 x42 x43 x44 x45 x46 x47 x48 x49 x50 x51 x52 x53 x54 x55 x56 x57 x58 x59 x60 x61 x62 x63 x64 x65:Value):den Tryz.prog (sel (zaf Tryz.f244) [1,0,0,1,0,1,1,0]) Q #[x0,x1,x2,x3,x4,x5,x6,x7,x8,x9,x10,x11,x12,x13,x14,x15,x16,x17,x18,x19,x20,x21,x22,x23,x24,x25,x26,x27,x28,x29,x30,x31,x32,x33,x34,x35,x36,x37,x38,x39,x40,x41,x42,x43,x44,x45,x46,x47,x48,x49,x50,x51,x52,x53,x54,x55,x56,x57,x58,x59,x60,x61,x62,x63,x64,x65] =
 pv (zab x4) λt1=>
 pv (za2 .none .sub t1 (.int .i64 3)) λt2=>
 pv (za2 .none .sub t2 (.int .i64 4)) λt3=>
 pv (mm false (.int .i64 60000) t3) λt4=>
 pv (za2 .none .gtr x5 t4) λt5=>
 cnd t5 (
  Q .ret #[x0,x1,x2,x3,x4,x5,x6,x7,x8,x9,x10,x11,x12,x13,x14,x15,x16,x17,x18,x19,x20,x21,x22,x23,x24,x25,x26,x27,x28,x29,x30,x5,x4,t1,t2,t3,t4,t5,x38,x39,x40,x41,x42,x43,x44,x45,x46,x47,x48,x49,x50,x51,x52,x53,x54,x55,x56,x57,x58,x59,x60,x61,x62,x63,x64,x65]) (
  Q .normal #[x0,x1,x2,x3,x4,x5,x6,x7,x8,x9,x10,x11,x12,x13,x14,x15,x16,x17,x18,x19,x20,x21,x22,x23,x24,x25,x26,x27,x28,x29,x30,x5,x4,t1,t2,t3,t4,t5,x38,x39,x40,x41,x42,x43,x44,x45,x46,x47,x48,x49,x50,x51,x52,x53,x54,x55,x56,x57,x58,x59,x60,x61,x62,x63,x64,x65]):=by kernel_rfl
theorem zmi (Q:QD) (x0 x1 x2 x3 x4 x5 x6 x7 x8 x9 x10 x11 x12 x13 x14 x15 x16 x17 x18 x19 x20 x21 x22 x23 x24 x25 x26 x27 x28 x29 x30 x31 x32 x33 x34 x35 x36 x37 x38 x39 x40 x41 x42 x43 x44 x45 x46 x47 x48 x49 x50 x51 x52 x53 x54 x55 x56 x57 x58 x59 x60 x61 x62 x63 x64 x65:Value):den Tryz.prog (sel (zaf Tryz.f244) [1,0,0,1,0,1,1,1,0]) Q #[x0,x1,x2,x3,x4,x5,x6,x7,x8,x9,x10,x11,x12,x13,x14,x15,x16,x17,x18,x19,x20,x21,x22,x23,x24,x25,x26,x27,x28,x29,x30,x31,x32,x33,x34,x35,x36,x37,x38,x39,x40,x41,x42,x43,x44,x45,x46,x47,x48,x49,x50,x51,x52,x53,x54,x55,x56,x57,x58,x59,x60,x61,x62,x63,x64,x65] =
 pv (za2 .none .add (.int .i64 3) x5) λt1=>
 Q .normal #[x0,x1,x2,x3,x4,x5,t1,x7,x8,x9,x10,x11,x12,x13,x14,x15,x16,x17,x18,x19,x20,x21,x22,x23,x24,x25,x26,x27,x28,x29,x30,x31,x32,x33,x34,x35,x36,x37,x5,t1,x40,x41,x42,x43,x44,x45,x46,x47,x48,x49,x50,x51,x52,x53,x54,x55,x56,x57,x58,x59,x60,x61,x62,x63,x64,x65]:=by kernel_rfl
theorem zlv (Q:QD) (x0 x1 x2 x3 x4 x5 x6 x7 x8 x9 x10 x11 x12 x13 x14 x15 x16 x17 x18 x19 x20 x21 x22 x23 x24 x25 x26 x27 x28 x29 x30 x31 x32 x33 x34 x35 x36 x37 x38 x39 x40 x41 x42 x43 x44 x45 x46 x47 x48 x49 x50 x51 x52 x53 x54 x55 x56 x57 x58 x59 x60 x61 x62 x63 x64 x65:Value):den Tryz.prog (sel (zaf Tryz.f244) [1,0,0,1,0,1,1,1,1,0]) Q #[x0,x1,x2,x3,x4,x5,x6,x7,x8,x9,x10,x11,x12,x13,x14,x15,x16,x17,x18,x19,x20,x21,x22,x23,x24,x25,x26,x27,x28,x29,x30,x31,x32,x33,x34,x35,x36,x37,x38,x39,x40,x41,x42,x43,x44,x45,x46,x47,x48,x49,x50,x51,x52,x53,x54,x55,x56,x57,x58,x59,x60,x61,x62,x63,x64,x65] =
 pv (slV 1 x4 none (some x6) (some x6)) λt1=>
 pv (za2 .none .add x6 (.int .i64 4)) λt2=>
 pv (slV 1 x4 (some x6) (some t2) none) λt3=>
 nws 44 1 (bsC #[(.slice none 0 0)] 1 1 #[(0,t1)]) λt4=>
 cF 185 #[t4] (λt5=>
 cF 184 #[t5,(.int .i64 4)] (λt6=>
 cF 97 #[t6,t3] (λt7=>
 pv (unV .not t7) λt8=>
 cnd t8 (
  Q .ret #[x0,x1,x2,x3,x4,x5,x6,x7,x8,x9,x10,x11,x12,x13,x14,x15,x16,x17,x18,x19,x20,x21,x22,x23,x24,x25,x26,x27,x28,x29,x30,x31,x32,x33,x34,x35,x36,x37,x38,x39,x4,x6,x6,t1,t4,t5,t6,x4,x6,x6,t2,t3,t7,t8,x54,x55,x56,x57,x58,x59,x60,x61,x62,x63,x64,x65]) (
  Q .normal #[x0,x1,x2,x3,x4,x5,x6,x7,x8,x9,x10,x11,x12,x13,x14,x15,x16,x17,x18,x19,x20,x21,x22,x23,x24,x25,x26,x27,x28,x29,x30,x31,x32,x33,x34,x35,x36,x37,x38,x39,x4,x6,x6,t1,t4,t5,t6,x4,x6,x6,t2,t3,t7,t8,x54,x55,x56,x57,x58,x59,x60,x61,x62,x63,x64,x65])) (λc=>Q (.panic c) #[x0,x1,x2,x3,x4,x5,x6,x7,x8,x9,x10,x11,x12,x13,x14,x15,x16,x17,x18,x19,x20,x21,x22,x23,x24,x25,x26,x27,x28,x29,x30,x31,x32,x33,x34,x35,x36,x37,x38,x39,x4,x6,x6,t1,t4,t5,t6,x4,x6,x6,t2,t3,x52,x53,x54,x55,x56,x57,x58,x59,x60,x61,x62,x63,x64,x65])) (λc=>Q (.panic c) #[x0,x1,x2,x3,x4,x5,x6,x7,x8,x9,x10,x11,x12,x13,x14,x15,x16,x17,x18,x19,x20,x21,x22,x23,x24,x25,x26,x27,x28,x29,x30,x31,x32,x33,x34,x35,x36,x37,x38,x39,x4,x6,x6,t1,t4,t5,x46,x4,x6,x6,t2,t3,x52,x53,x54,x55,x56,x57,x58,x59,x60,x61,x62,x63,x64,x65])) (λc=>Q (.panic c) #[x0,x1,x2,x3,x4,x5,x6,x7,x8,x9,x10,x11,x12,x13,x14,x15,x16,x17,x18,x19,x20,x21,x22,x23,x24,x25,x26,x27,x28,x29,x30,x31,x32,x33,x34,x35,x36,x37,x38,x39,x4,x6,x6,t1,t4,x45,x46,x4,x6,x6,t2,t3,x52,x53,x54,x55,x56,x57,x58,x59,x60,x61,x62,x63,x64,x65]):=by kernel_rfl
theorem zkr (Q:QD) (x0 x1 x2 x3 x4 x5 x6 x7 x8 x9 x10 x11 x12 x13 x14 x15 x16 x17 x18 x19 x20 x21 x22 x23 x24 x25 x26 x27 x28 x29 x30 x31 x32 x33 x34 x35 x36 x37 x38 x39 x40 x41 x42 x43 x44 x45 x46 x47 x48 x49 x50 x51 x52 x53 x54 x55 x56 x57 x58 x59 x60 x61 x62 x63 x64 x65:Value):den Tryz.prog (sel (zaf Tryz.f244) [1,0,0,1,0,1,1,1,1,1,0]) Q #[x0,x1,x2,x3,x4,x5,x6,x7,x8,x9,x10,x11,x12,x13,x14,x15,x16,x17,x18,x19,x20,x21,x22,x23,x24,x25,x26,x27,x28,x29,x30,x31,x32,x33,x34,x35,x36,x37,x38,x39,x40,x41,x42,x43,x44,x45,x46,x47,x48,x49,x50,x51,x52,x53,x54,x55,x56,x57,x58,x59,x60,x61,x62,x63,x64,x65] =
 pv (za2 .none .add x6 (.int .i64 4)) λt1=>
 pv (za2 .none .add x3 t1) λt2=>
 Q .normal #[x0,x1,x2,t2,x4,x5,x6,x7,x8,x9,x10,x11,x12,x13,x14,x15,x16,x17,x18,x19,x20,x21,x22,x23,x24,x25,x26,x27,x28,x29,x30,x31,x32,x33,x34,x35,x36,x37,x38,x39,x40,x41,x42,x43,x44,x45,x46,x47,x48,x49,x50,x51,x52,x53,x3,x6,t1,t2,x58,x59,x60,x61,x62,x63,x64,x65]:=by kernel_rfl
theorem zk2 (Q:QD) (x0 x1 x2 x3 x4 x5 x6 x7 x8 x9 x10 x11 x12 x13 x14 x15 x16 x17 x18 x19 x20 x21 x22 x23 x24 x25 x26 x27 x28 x29 x30 x31 x32 x33 x34 x35 x36 x37 x38 x39 x40 x41 x42 x43 x44 x45 x46 x47 x48 x49 x50 x51 x52 x53 x54 x55 x56 x57 x58 x59 x60 x61 x62 x63 x64 x65:Value):den Tryz.prog (sel (zaf Tryz.f244) [1,0,0,1,0,1,1,1,1,1,1,1]) Q #[x0,x1,x2,x3,x4,x5,x6,x7,x8,x9,x10,x11,x12,x13,x14,x15,x16,x17,x18,x19,x20,x21,x22,x23,x24,x25,x26,x27,x28,x29,x30,x31,x32,x33,x34,x35,x36,x37,x38,x39,x40,x41,x42,x43,x44,x45,x46,x47,x48,x49,x50,x51,x52,x53,x54,x55,x56,x57,x58,x59,x60,x61,x62,x63,x64,x65] =
 cnd x65 (
  Q .ret #[x0,x1,x2,x3,x4,x5,x6,x7,x8,x9,x10,x11,x12,x13,x14,x15,x16,x17,x18,x19,x20,x21,x22,x23,x24,x25,x26,x27,x28,x29,x30,x31,x32,x33,x34,x35,x36,x37,x38,x39,x40,x41,x42,x43,x44,x45,x46,x47,x48,x49,x50,x51,x52,x53,x54,x55,x56,x57,x58,x59,x60,x61,x62,x63,x64,x65]) (
  Q .normal #[x0,x1,x2,x3,x4,x5,x6,x7,x8,x9,x10,x11,x12,x13,x14,x15,x16,x17,x18,x19,x20,x21,x22,x23,x24,x25,x26,x27,x28,x29,x30,x31,x32,x33,x34,x35,x36,x37,x38,x39,x40,x41,x42,x43,x44,x45,x46,x47,x48,x49,x50,x51,x52,x53,x54,x55,x56,x57,x58,x59,x60,x61,x62,x63,x64,x65]):=by kernel_rfl
theorem zju (Q:QD) (x1 x2 x3 x4 x5 x6 x7 x8 x9 x10 x11 x12 x13 x14 x15 x16 x17 x18 x19 x20 x21 x22 x23 x24 x25 x26 x27 x28 x29 x30 x31 x32 x33 x34 x35 x36 x37 x38 x39 x40 x41 x42 x43 x44 x45 x46 x47 x48 x49 x50 x51 x52 x53 x54 x55 x56 x57 x58 x59 x60 x61 x62 x63 x64 x65:Value) (y:Nat):zk6 Tryz.prog (zgs (sel (zaf Tryz.f244) [1,0,0,1,0,1,1,1,1,1,1,0])) Q (zgs (sel (zaf Tryz.f244) [1,0,0,1,0,1,1,1,1,1,1,0])).toList #[(.func (.yield y) #[] #[]),x1,x2,x3,x4,x5,x6,x7,x8,x9,x10,x11,x12,x13,x14,x15,x16,x17,x18,x19,x20,x21,x22,x23,x24,x25,x26,x27,x28,x29,x30,x31,x32,x33,x34,x35,x36,x37,x38,x39,x40,x41,x42,x43,x44,x45,x46,x47,x48,x49,x50,x51,x52,x53,x54,x55,x56,x57,x58,x59,x60,x61,x62,x63,x64,x65] =
 pv (slV 1 x4 (some (.int .i64 3)) (some x6) none) λt1=>
 cF 84 #[t1] (λt2=>
 zvd Tryz.prog y #[x3,t2] λt3=>
 pv (unV .not t3) λt4=>
 Q .normal #[(.func (.yield y) #[] #[]),x1,x2,x3,x4,x5,x6,x7,x8,x9,x10,x11,x12,x13,x14,x15,x16,x17,x18,x19,x20,x21,x22,x23,x24,x25,x26,x27,x28,x29,x30,x31,x32,x33,x34,x35,x36,x37,x38,x39,x40,x41,x42,x43,x44,x45,x46,x47,x48,x49,x50,x51,x52,x53,x54,x55,x56,x57,(.func (.yield y) #[] #[]),x3,x4,x6,t1,t2,t3,t4]) (λc=>Q (.panic c) #[(.func (.yield y) #[] #[]),x1,x2,x3,x4,x5,x6,x7,x8,x9,x10,x11,x12,x13,x14,x15,x16,x17,x18,x19,x20,x21,x22,x23,x24,x25,x26,x27,x28,x29,x30,x31,x32,x33,x34,x35,x36,x37,x38,x39,x40,x41,x42,x43,x44,x45,x46,x47,x48,x49,x50,x51,x52,x53,x54,x55,x56,x57,(.func (.yield y) #[] #[]),x3,x4,x6,t1,x63,x64,x65]):=by kernel_rfl
section
variable (K:zae) (E:zb2) (k1:Env -> Hp -> Prop) (x0 x1 x2 x3 x4 x5 x6 x7 x8 x9 x10 x11 x12 x13 x14 x15 x16 x17 x18 x19 x20 x21 x22 x23 x24 x25 x26 x27 x28 x29 x30 x31 x32 x33 x34 x35 x36 x37 x38 x39 x40 x41 x42 x43 x44 x45 x46 x47 v6 v7 v21:Value) (j:Nat -> Value)
abbrev q11:=cQ Tryz.f11 K E
abbrev d11:=cD Tryz.f11
theorem t11:d11 [] (q11 K E) #[x0,U,U,U,U,U,U,U,U,U,U,U] =
 pv (za2 .none .lss x0 (.int .i64 0)) λt1=>
 gdK t1 false (λk=>k x0) λt2=>
 gdK t1 false (λk=>pv (za2 .none .gtr t2 (.int .i64 1048576)) k) λt3=>
 pv (zad t1 (.bool true) t3) λt4=>
 cnd t4 (
  K (.pointer none)) (
  pv (bdC #[(.slice none 0 0),(.int .i64 0),(.int .i8 0),(.int .i64 0),(.int .i64 0),(.int .i64 0)] [(0,3),(3,1),(4,1),(5,1)] #[(2,x0),(3,(.int .i64 (-1)))]) λt5=>
  nw 118 (Value.cells t5).toList λt6=>
  K t6):=by kernel_rfl
abbrev q27:=cQ Tryz.f27 K E
abbrev d27:=cD Tryz.f27
theorem t27:d27 [] (q27 K E) #[x0,x1,U,U,U,U,U,U,U,U,U,U,U,U,U,U,U,U,U,U,U,U,U,U,U,U,U,U,U,U,U,U,U,U,U] =
 pv (mm true x1 (.int .i64 0)) λt1=>
 pv (zai x0) λt2=>
 pv (faV 0 t2) λt3=>
 pv (zai x0) λt4=>
 pv (faV 3 t4) λt5=>
 ld false 1 t5 λt6=>
 cF 65 #[t3] (λt7 h8=>(ldV h8 false 1 t5 t6)∧(
  pv (za2 .none .sub t7 t6) λt9=>
  pv (mm false t1 t9) λt10=>
  pv (zai x0) λt11=>
  pv (faV 3 t11) λt12=>
  ld false 1 t12 λt13=>
  pv (za2 .none .add t13 t10) λt14=>
  cF 66 #[x0,t14] (λt15=>
  pv (zai x0) λt16=>
  pv (faV 0 t16) λt17=>
  cF 65 #[t17] (λt18=>
  pv (zai x0) λt19=>
  pv (faV 3 t19) λt20=>
  st 1 t20 t18 λ_=>
  pv (zai x0) λt21=>
  pv (faV 5 t21) λt22=>
  st 1 t22 (.int .i64 (-1)) λ_=>
  K (.tuple #[])) E) E) h8) E:=by kernel_rfl
abbrev q33:=cQ Tryz.f33 K E
abbrev d33:=cD Tryz.f33
theorem t33:d33 [] (q33 K E) #[x0,U,U,U,U,U,U,U] =
 pv (zai x0) λt1=>
 pv (faV 0 t1) λt2=>
 cF 85 #[t2] (λt3=>
 cF 84 #[t3] (λt4=>
 K t4) E) E:=by kernel_rfl
abbrev q66:=cQ Tryz.f66 K E
abbrev d66:=cD Tryz.f66
theorem t66:d66 [] (q66 K E) #[x0,x1,U,U,U,U,U,U,U,U,U,U,U,U,U,U,U,U] =
 pv (zai x0) λt1=>
 pv (faV 0 t1) λt2=>
 cF 116 #[t2,x1] (λt3=>
 pv (zai x0) λt4=>
 pv (faV 3 t4) λt5=>
 ld false 1 t5 λt6=>
 pv (mm false t6 x1) λt7=>
 pv (zai x0) λt8=>
 pv (faV 3 t8) λt9=>
 st 1 t9 t7 λ_=>
 K (.tuple #[])) E:=by kernel_rfl
abbrev q90:=cQ Tryz.f90 K E
abbrev d90:=cD Tryz.f90
theorem t90:d90 [] (q90 K E) #[x0,U,U,U,U,U] =
 nw 29 (Value.cells x0).toList λt1=>
 ld false 1 t1 λt2=>
 cF 132 #[t2,(.func (.func 134) #[] #[t1])] (λt3=>
 K t3) E:=by kernel_rfl
abbrev yeb:=cQ Tryz.f132 K E
abbrev yex:=cD Tryz.f132
theorem yuy:yex [] (yeb K E) #[x0,x1,U,U,U,U,U,U,U,U,U,U,U,U,U,U,U,U,U,U,U,U,U,U,U,U] =
 pv (zai x0) λt1=>
 pv (faV 5 t1) λt2=>
 ld false 1 t2 λt3=>
 pv (za2 .none .eql t3 (.int .i64 0)) λt4=>
 cnd t4 (
  K (.int .u16 100)) (
  pv (zai x0) λt5=>
  pv (faV 5 t5) λt6=>
  ld false 1 t6 λt7=>
  pv (za2 .none .gtr t7 (.int .i64 0)) λt8=>
  cnd t8 (
  pv (zai x0) λt9=>
  pv (faV 5 t9) λt10=>
  ld false 1 t10 λt11=>
  pv (za2 .none .sub t11 (.int .i64 1)) λt12=>
  pv (zai x0) λt13=>
  pv (faV 5 t13) λt14=>
  st 1 t14 t12 λ_=>
  yex [1,1] (yeb K E) #[x0,x1,U,U,(.int .u16 0),t4,x0,t1,t2,t3,t4,t8,x0,t5,t6,t7,t8,x0,t9,t10,t11,t12,t13,t14,U,U]) (
  yex [1,1] (yeb K E) #[x0,x1,U,U,(.int .u16 0),t4,x0,t1,t2,t3,t4,t8,x0,t5,t6,t7,t8,U,U,U,U,U,U,U,U,U])):=by kernel_rfl
theorem yjr:yex [1,1] (yeb K E) #[x0,x1,x2,x3,x4,x5,x6,x7,x8,x9,x10,x11,x12,x13,x14,x15,x16,x17,x18,x19,x20,x21,x22,x23,x24,x25] =
 zbs Tryz.prog x1 #[] (λt1=>
 K t1) E:=by kernel_rfl
abbrev yso:=cQ Tryz.f134 K E
abbrev yvu:=cD Tryz.f134
theorem yx5:yvu [] (yso K E) #[x0,U,U,U,U,U,U,U,U] =
 ld false 1 x0 λt1=>
 ld false 1 x0 λt2=>
 pv (zai t2) λt3=>
 pv (faV 0 t3) λt4=>
 cF 65 #[t4] (λt5 h6=>(ldV h6 false 1 x0 t1)∧(
  pv (zai t1) λt7=>
  pv (faV 3 t7) λt8=>
  st 1 t8 t5 λ_=>
  K (.int .u16 0)) h6) E:=by kernel_rfl
abbrev ysr:=cQ Tryz.f146 K E
abbrev ywb:=cD Tryz.f146
theorem ys8:ywb [] (ysr K E) #[x0,x1,U,U,U,U,U,U] =
 nw 29 (Value.cells x0).toList λt1=>
 nw 44 (Value.cells x1).toList λt2=>
 ld false 1 t1 λt3=>
 cF 132 #[t3,(.func (.func 203) #[] #[t2,t1])] (λt4=>
 K t4) E:=by kernel_rfl
abbrev yt0:=cQ Tryz.f203 K E
abbrev yum:=cD Tryz.f203
theorem yul:yum [] (yt0 K E) #[x0,x1,U,U,U,U,U,U,U,U,U,U,U,U,U,U,U,U,U,U] =
 ld false 1 x0 λt1=>
 pv (zab t1) λt2=>
 ld false 1 x1 λt3=>
 pv (zai t3) λt4=>
 pv (faV 4 t4) λt5=>
 ld false 1 t5 λt6=>
 ld false 1 x1 λt7=>
 pv (zai t7) λt8=>
 pv (faV 0 t8) λt9=>
 cF 65 #[t9] (λt10 h11=>(ldV h11 false 1 t5 t6)∧(ldV h11 false 1 x1 t3)∧(ldV h11 false 1 x0 t1)∧(
  pv (za2 .none .sub t6 t10) λt12=>
  pv (za2 .none .gtr t2 t12) λt13=>
  cnd t13 (
  K (.int .u16 100)) (
  ld false 1 x1 λt14=>
  pv (zai t14) λt15=>
  pv (faV 0 t15) λt16=>
  ld false 1 x0 λt17=>
  cF 204 #[t16,t17] (λt18=>
  K (.int .u16 0)) E)) h11) E:=by kernel_rfl
abbrev q39:=cQ Tryz.f39 K E
abbrev d39:=cD Tryz.f39
theorem t39:d39 [] (q39 K E) #[x0,U,U,U,U,U,U,U,U,U,U,U,U,U,U,U,U,U,U,U,U,U,U,U,U,U,U,U,U,U,U,U,U,U,U,U] =
 cF 33 #[x0] (λt1=>
 cF 88 #[t1] (λt2=>
 pv (exV 0 t2) λt3=>
 pv (exV 1 t2) λt4=>
 pv (zab t1) λt5=>
 pv (za2 .none .lss t4 t5) λt6=>
 cnd t6 (
  cF 89 #[x0,t4] (λt7=>
  pv (za2 .none .neq t7 (.int .u16 0)) λt8=>
  cnd t8 (
  K (.tuple #[(.pointer none),(.slice none 0 0),t7])) (
  d39 [1,1,1,1] (q39 K E) #[x0,U,(.pointer none),(.slice none 0 0),(.int .u16 0),t1,t3,t4,t7,U,x0,t1,t2,t1,t2,t3,t4,t4,t1,t5,t6,x0,t4,t7,t7,t8,U,U,U,U,U,U,U,U,U,U])) E) (
  d39 [1,1,1,1] (q39 K E) #[x0,U,(.pointer none),(.slice none 0 0),(.int .u16 0),t1,t3,t4,U,U,x0,t1,t2,t1,t2,t3,t4,t4,t1,t5,t6,U,U,U,U,U,U,U,U,U,U,U,U,U,U,U])) E) E:=by kernel_rfl
theorem ycb:d39 [1,1,1,1] (q39 K E) #[x0,x1,x2,x3,x4,x5,x6,x7,x8,x9,x10,x11,x12,x13,x14,x15,x16,x17,x18,x19,x20,x21,x22,x23,x24,x25,x26,x27,x28,x29,x30,x31,x32,x33,x34,x35] =
 cF 90 #[x0] (λt1=>
 pv (za2 .none .neq t1 (.int .u16 0)) λt2=>
 cnd t2 (
  K (.tuple #[(.pointer none),(.slice none 0 0),t1])) (
  pv (bdC #[(.pointer none)] [(0,1)] #[(0,x0)]) λt3=>
  nw 189 (Value.cells t3).toList λt4=>
  K (.tuple #[t4,x6,(.int .u16 0)]))) E:=by kernel_rfl
abbrev q88:=cQ Tryz.f88 K E
abbrev d88:=cD Tryz.f88
abbrev zz2:=za6 k1 (blk 0 (za6 (d88 [1,1,1,1,1] (q88 K E)) (q88 K E)))
def zcy (j:Nat -> Value):Env:=#[x0,x1,x2,x3,x4,x5,v6,v7,x8,(j 9),(j 10),(j 11),(j 12),(j 13),x14,x15,x16,x17,x18,x19,x20,v21,(j 22),(j 23),(j 24),(j 25),(j 26),(j 27),(j 28),(j 29),(j 30),(j 31),(j 32),(j 33),(j 34),(j 35),(j 36),(j 37),(j 38),(j 39),(j 40),(j 41),(j 42),(j 43),(j 44),(j 45),x46,x47]
theorem t88:d88 [] (q88 K E) #[x0,U,U,U,U,U,U,U,U,U,U,U,U,U,U,U,U,U,U,U,U,U,U,U,U,U,U,U,U,U,U,U,U,U,U,U,U,U,U,U,U,U,U,U,U,U,U,U] =
 cF 130 #[x0] (λt1=>
 pv (exV 0 t1) λt2=>
 pv (exV 1 t1) λt3=>
 pv (zab t2) λt4=>
 lp (λk1=>d88 [1,1,1,1,0,1,0,0] (zz2 K E k1)) (zcy x0 U (.slice none 0 0) (.int .i64 0) t2 t3 U t1 x0 t1 t2 t3 t2 t4 U U (.slice none 0 0) (.int .i64 0) (.int .i64 0) (jf #[]))) E:=by kernel_rfl
theorem zp2:d88 [1,1,1,1,0,1,0,0] (zz2 K E k1) (zcy x0 x1 x2 x3 x4 x5 x8 x14 x15 x16 x17 x18 x19 x20 x46 x47 v6 v7 v21 j) =
 pv (za2 .none .lss v21 x20) λt1=>
 cnd t1 (
  pv (iaV none 1 x19 v21) λt2=>
  ld false 1 t2 λt3=>
  cF 95 #[t3] (λt4=>
  pv (exV 0 t4) λt5=>
  pv (exV 1 t4) λt6=>
  nw 77 [(.int .u8 0),(.int .u32 0),(.int .u32 0),(.slice none 0 0),(.slice none 0 0),(.int .u32 0),(.slice none 0 0),(.int .i64 0),(.int .i64 0),(.slice none 0 0)] λt7=>
  st 10 t7 t5 λ_=>
  pv (za2 .none .neq t6 (.int .u16 0)) λt8=>
  cnd t8 (
  d88 [1,1,1,1,1] (q88 K E) #[x0,x1,x2,x3,x4,x5,v6,v7,x8,t3,t7,t6,(j 12),(j 13),x14,x15,x16,x17,x18,x19,x20,v21,t1,t2,t3,t4,t3,t4,t5,t6,t6,t8,(j 32),(j 33),(j 34),(j 35),(j 36),(j 37),(j 38),(j 39),(j 40),(j 41),(j 42),(j 43),(j 44),(j 45),x46,x47]) (
  cF 131 #[t3] (λt9=>
  pv (exV 0 t9) λt10=>
  pv (exV 1 t9) λt11=>
  pv (zab t10) λt12=>
  pv (za2 .none .add v7 t12) λt13=>
  ld true 10 t7 λt14=>
  nws 77 1 (bsC #[(.int .u8 0),(.int .u32 0),(.int .u32 0),(.slice none 0 0),(.slice none 0 0),(.int .u32 0),(.slice none 0 0),(.int .i64 0),(.int .i64 0),(.slice none 0 0)] 10 1 #[(0,t14)]) λt15=>
  zdl 77 10 136 v6 t15 λt16=>
  pv (za2 .none .add v21 (.int .i64 1)) λt17=>
  k1 (zcy x0 x1 x2 x3 x4 x5 x8 x14 x15 x16 x17 x18 x19 x20 x46 x47 t16 t13 t17 (jf #[U,U,U,U,U,U,U,U,U,t3,t7,t6,t10,t11,U,U,U,U,U,U,U,U,t1,t2,t3,t4,t3,t4,t5,t6,t6,t8,t9,t3,t9,t10,t11,v7,t10,t12,t13,v6,t14,t15,t16,t17]))) E)) E) (
  d88 [1,1,1,1,1] (q88 K E) #[x0,x1,x2,x3,x4,x5,v6,v7,x8,(j 9),(j 10),(j 11),(j 12),(j 13),x14,x15,x16,x17,x18,x19,x20,v21,t1,(j 23),(j 24),(j 25),(j 26),(j 27),(j 28),(j 29),(j 30),(j 31),(j 32),(j 33),(j 34),(j 35),(j 36),(j 37),(j 38),(j 39),(j 40),(j 41),(j 42),(j 43),(j 44),(j 45),x46,x47]):=by kernel_rfl
theorem zyg:d88 [1,1,1,1,1] (q88 K E) #[x0,x1,x2,x3,x4,x5,x6,x7,x8,x9,x10,x11,x12,x13,x14,x15,x16,x17,x18,x19,x20,x21,x22,x23,x24,x25,x26,x27,x28,x29,x30,x31,x32,x33,x34,x35,x36,x37,x38,x39,x40,x41,x42,x43,x44,x45,x46,x47] =
 K (.tuple #[x6,x7]):=by kernel_rfl
abbrev yx8:=cQ Tryz.f100 K E
abbrev yuu:=cD Tryz.f100
theorem zmu:yuu [] (yx8 K E) #[x0,x1,U,U,U,U,U,U,U,U,U,U,U,U,U,U,U,U,U,U,U,U,U,U,U,U,U,U,U,U] =
 nw 77 (Value.cells x1).toList λt1=>
 ld true 10 t1 λt2=>
 cF 138 #[t2] (λt3=>
 pv (exV 0 t3) λt4=>
 pv (exV 1 t3) λt5=>
 pv (za2 .none .neq t5 (.int .u16 0)) λt6=>
 cnd t6 (
  K t5) (
  cF 131 #[t4] (λt7=>
  pv (exV 0 t7) λt8=>
  pv (exV 1 t7) λt9=>
  pv (za2 .none .neq t9 (.int .u16 0)) λt10=>
  cnd t10 (
  K t9) (
  pv (zai x0) λt11=>
  pv (faV 0 t11) λt12=>
  ld false 1 t12 λt13=>
  cF 146 #[t13,t8] (λt14=>
  K t14) E)) E)) E:=by kernel_rfl
abbrev yff:=cQ Tryz.f145 K E
abbrev ye8:=cD Tryz.f145
theorem ywu:ye8 [] (yff K E) #[x0,x1,U,U,U,U,U,U,U,U,U,U,U,U,U,U,U,U,U,U,U,U,U,U,U,U,U,U,U,U,U,U,U,U] =
 nw 77 (Value.cells x1).toList λt1=>
 pv (zai x0) λt2=>
 pv (faV 0 t2) λt3=>
 ld false 1 t3 λt4=>
 cF 33 #[t4] (λt5=>
 pv (zab t5) λt6=>
 ld true 10 t1 λt7=>
 cF 100 #[x0,t7] (λt8=>
 pv (za2 .none .neq t8 (.int .u16 0)) λt9=>
 cnd t9 (
  K t8) (
  pv (zai x0) λt10=>
  pv (faV 0 t10) λt11=>
  ld false 1 t11 λt12=>
  cF 90 #[t12] (λt13=>
  pv (za2 .none .neq t13 (.int .u16 0)) λt14=>
  cnd t14 (
  pv (zai x0) λt15=>
  pv (faV 0 t15) λt16=>
  ld false 1 t16 λt17=>
  cF 89 #[t17,t6] (λt18=>
  ye8 [1,1,1,1,1] (yff K E) #[x0,x1,U,t1,(.int .u16 0),t6,t8,t13,x0,t2,t3,t4,t5,t6,x0,t7,t8,t8,t9,U,x0,t10,t11,t12,t13,t13,t14,x0,t15,t16,t17,t6,t18,U]) E) (
  ye8 [1,1,1,1,1] (yff K E) #[x0,x1,U,t1,(.int .u16 0),t6,t8,t13,x0,t2,t3,t4,t5,t6,x0,t7,t8,t8,t9,U,x0,t10,t11,t12,t13,t13,t14,U,U,U,U,U,U,U])) E)) E) E:=by kernel_rfl
theorem zw9:ye8 [1,1,1,1,1] (yff K E) #[x0,x1,x2,x3,x4,x5,x6,x7,x8,x9,x10,x11,x12,x13,x14,x15,x16,x17,x18,x19,x20,x21,x22,x23,x24,x25,x26,x27,x28,x29,x30,x31,x32,x33] =
 K x7:=by kernel_rfl
end
section
variable {K:zae} {E:zb2} {k1:Env -> Hp -> Prop} {σ:Type} {x0 x1 x2 x3 x4 x5 x8 x14 x15 x16 x17 x18 x19 x20 x46 x47 v6 v7 v21:Value} {h:Hp} {j:Nat -> Value}
theorem zp1 (f6 f7 f21:σ -> Value) (I:σ -> Hp -> Prop) (μ:σ -> Nat) (s0:σ) (e6:v6=f6 s0) (e7:v7=f7 s0) (e21:v21=f21 s0) (h0:h.wf -> ∃ h',h.wk h'∧I s0 h')
 (round:∀ (k1:Env -> Hp -> Prop) (s:σ) (j:Nat -> Value) (h:Hp),I s h -> h.wf -> (∀ s' j' h',μ s'<μ s -> (h'.wf -> ∃ h'',h'.wk h''∧I s' h'') -> k1 (zcy x0 x1 x2 x3 x4 x5 x8 x14 x15 x16 x17 x18 x19 x20 x46 x47 (f6 s') (f7 s') (f21 s') j') h') -> d88 [1,1,1,1,0,1,0,0] (zz2 K E k1) (zcy x0 x1 x2 x3 x4 x5 x8 x14 x15 x16 x17 x18 x19 x20 x46 x47 (f6 s) (f7 s) (f21 s) j) h) :
 lp (λk1=>d88 [1,1,1,1,0,1,0,0] (zz2 K E k1)) (zcy x0 x1 x2 x3 x4 x5 x8 x14 x15 x16 x17 x18 x19 x20 x46 x47 v6 v7 v21 j) h:=by
 subst e6;subst e7;subst e21;exact zaw _ I μ round s0 j h0
end
section
variable (K:zae) (E:zb2) (k1 k2:Env -> Hp -> Prop) (x0 x1 x2 x3 x4 x5 x6 x7 x8 x9 x10 x11 x12 x13 x14 x15 x16 x17 x18 x19 x20 x21 x22 x23 x24 x25 x26 x27 x28 x29 x30 x31 x32 x33 x34 x35 x36 x37 x38 x39 x40 x41 x42 x43 x44 x45 x46 x47 x48 x49 x50 x51 x52 x53 x54 x55 x56 x57 x58 x59 x60 x61 x62 x63 x64 x65 x66 x67 x68 x69 x70 x71 x72 x73 x74 x75 x76 x77 x78 x79 x80 x81 x82 x83 x84 x85 x86 x87 x88 x89 x90 x91 x92 x93 x94 x95 x96 x97 x98 x99 x100 x101 x102 x103 x104 x105 x106 x107 x108 x109 x110 x111 x112 x113 x114 x115 x116 x117 x118 x119 x120 x121 x122 x123 x124 x125 x126 x127 x128 x129 x130 x131 x132 x133 x134 x135 x136 x137 x138 x139 x140 x141 v17 v29 v33:Value) (j:Nat -> Value)
abbrev q12:=cQ Tryz.f12 K E
abbrev d12:=cD Tryz.f12
abbrev zys:=za6 k1 (blk 0 (za6 (d12 [1,1,1,1,1,1] (q12 K E)) (q12 K E)))
def zcm (j:Nat -> Value):Env:=#[x0,x1,x2,x3,x4,x5,x6,x7,x8,x9,x10,x11,x12,(j 13),x14,x15,x16,x17,x18,x19,x20,x21,x22,x23,x24,x25,x26,x27,x28,v29,(j 30),(j 31),(j 32),(j 33),(j 34),(j 35),(j 36),x37,x38,x39,x40,x41]
theorem t12:d12 [] (q12 K E) #[x0,x1,x2,U,U,U,U,U,U,U,U,U,U,U,U,U,U,U,U,U,U,U,U,U,U,U,U,U,U,U,U,U,U,U,U,U,U,U,U,U,U,U] =
 cF 38 #[x1] (λt1=>
 pv (za2 .ptr .eql t1 (.pointer none)) λt2=>
 cnd t2 (
  K (.tuple #[(.pointer none),(.int .u16 30)])) (
  cF 39 #[x2] (λt3=>
  pv (exV 0 t3) λt4=>
  pv (exV 1 t3) λt5=>
  pv (exV 2 t3) λt6=>
  pv (za2 .none .neq t6 (.int .u16 0)) λt7=>
  cnd t7 (
  K (.tuple #[(.pointer none),t6])) (
  pv (zab t5) λt8=>
  lp (λk1=>d12 [1,1,1,1,1,0,1,0,0] (zys K E k1)) (zcm x0 x1 x2 U U U (.pointer none) (.int .u16 0) t1 t4 t5 t6 U x1 t1 t1 t2 t3 x2 t3 t4 t5 t6 t6 t7 U t5 t8 U U U U U (.int .i64 0) (jf #[])))) E)) E:=by kernel_rfl
theorem zng:d12 [1,1,1,1,1,0,1,0,0] (zys K E k1) (zcm x0 x1 x2 x3 x4 x5 x6 x7 x8 x9 x10 x11 x12 x14 x15 x16 x17 x18 x19 x20 x21 x22 x23 x24 x25 x26 x27 x28 x37 x38 x39 x40 x41 v29 j) =
 pv (za2 .none .lss v29 x28) λt1=>
 cnd t1 (
  pv (iaV none 10 x27 v29) λt2=>
  ld true 10 t2 λt3=>
  nw 77 [(.int .u8 0),(.int .u32 0),(.int .u32 0),(.slice none 0 0),(.slice none 0 0),(.int .u32 0),(.slice none 0 0),(.int .i64 0),(.int .i64 0),(.slice none 0 0)] λt4=>
  st 10 t4 t3 λ_=>
  ld true 10 t4 λt5=>
  cF 40 #[x8,t5] (λt6=>
  pv (za2 .none .add v29 (.int .i64 1)) λt7=>
  k1 (zcm x0 x1 x2 x3 x4 x5 x6 x7 x8 x9 x10 x11 x12 x14 x15 x16 x17 x18 x19 x20 x21 x22 x23 x24 x25 x26 x27 x28 x37 x38 x39 x40 x41 t7 (jf #[U,U,U,U,U,U,U,U,U,U,U,U,U,t4,U,U,U,U,U,U,U,U,U,U,U,U,U,U,U,U,t1,t2,t3,x8,t5,t6,t7]))) E) (
  pv (bdC #[(.pointer none),(.pointer none),(.int .i64 0),(.slice none 0 0)] [(0,1),(1,1),(2,1),(3,1)] #[(0,x9),(1,x8),(2,x0)]) λt8=>
  nw 126 (Value.cells t8).toList λt9=>
  K (.tuple #[t9,(.int .u16 0)])):=by kernel_rfl
abbrev q13:=cQ Tryz.f13 K E
abbrev d13:=cD Tryz.f13
theorem t13:d13 [] (q13 K E) #[x0,U,U,U,U,U,U] =
 pv (zai x0) λt1=>
 pv (faV 1 t1) λt2=>
 ld false 1 t2 λt3=>
 K t3:=by kernel_rfl
abbrev q16:=cQ Tryz.f16 K E
abbrev d16:=cD Tryz.f16
def c16 (t1 t2 t3 t4 t5 t6 t7 t8 t9 t10 t11 t12 t13 t14 t15 t16 t17 t18:Value):Hp -> Prop :=
  pv (faV 0 t6) λt19=>
  ld false 1 t19 λt20=>
  pv (za2 .none .eql t20 (.int .u8 1)) λt21=>
  cnd t21 (
   ld false 1 t1 λt22=>
   ld true 8 t6 λt23=>
   pv (faV 0 t18) λt24=>
   ld false 1 t24 λt25=>
   cF 45 #[t22,t23,t25] (λt26=>
   zbs Tryz.prog (.func (.func 43) #[] #[t1,t2,t6]) #[t26] (λt27=>
   d16 [1,1,1,1,1,1,1] (q16 K E) #[x0,x1,x2,t1,t2,U,(.slice none 0 0),(.int .u16 0),t6,t5,t18,(.func (.func 43) #[] #[t1,t2,t6]),t3,x2,t3,t4,t5,t5,t7,U,t8,t9,t10,t11,t12,t13,t14,t15,t16,t17,(.func (.func 43) #[] #[t1,t2,t6]),t21,t19,t20,t21,(.func (.func 43) #[] #[t1,t2,t6]),t22,t23,t24,t25,t26,t27,U,U,U,U,U,U,U,U,U,U,U,U,U,U,U,U,U,U,U,U,U,U,U,U,U,U,U,U,U,U,U,U,U,U,U,U,U,U,U,U,U,U,U,U,U,U,U,U,U,U,U,U,U,U,U,U,U,U,U,U,U,U,U,U,U,U,U,U,U,U,U,U,U,U,U,U,U,U,U,U,U,U,U,U,U,U,U,U,U,U,U,U,U,U,U,U,U,U,U,U]) E) E) (
   pv (faV 0 t6) λt28=>
   ld false 1 t28 λt29=>
   pv (za2 .none .eql t29 (.int .u8 4)) λt30=>
   gdK t30 true (λk=>ld false 1 t1 k) λt31=>
   gdK t30 true (λk=>ld true 8 t6 k) λt32=>
   gdK t30 true (λk=>pv (faV 0 t18) k) λt33=>
   gdK t30 true (λk=>ld false 1 t33 k) λt34=>
   gdK t30 true (λk=>cF 46 #[t31,t32,t34] k E) λt35=>
   pv (zad t30 t35 (.bool false)) λt36=>
   cnd t36 (
   zbs Tryz.prog (.func (.func 43) #[] #[t1,t2,t6]) #[(.int .u8 6)] (λt37=>
   d16 [1,1,1,1,1,1,1] (q16 K E) #[x0,x1,x2,t1,t2,U,(.slice none 0 0),(.int .u16 0),t6,t5,t18,(.func (.func 43) #[] #[t1,t2,t6]),t3,x2,t3,t4,t5,t5,t7,U,t8,t9,t10,t11,t12,t13,t14,t15,t16,t17,(.func (.func 43) #[] #[t1,t2,t6]),t21,t19,t20,t21,U,U,U,U,U,U,U,t36,t28,t29,t30,t30,t31,t32,t33,t34,t35,t36,(.func (.func 43) #[] #[t1,t2,t6]),t37,U,U,U,U,U,U,U,U,U,U,U,U,U,U,U,U,U,U,U,U,U,U,U,U,U,U,U,U,U,U,U,U,U,U,U,U,U,U,U,U,U,U,U,U,U,U,U,U,U,U,U,U,U,U,U,U,U,U,U,U,U,U,U,U,U,U,U,U,U,U,U,U,U,U,U,U,U,U,U,U,U,U,U,U,U,U,U]) E) (
   pv (faV 0 t6) λt38=>
   ld false 1 t38 λt39=>
   pv (za2 .none .eql t39 (.int .u8 5)) λt40=>
   cnd t40 (
    ld false 1 t1 λt41=>
    pv (faV 1 t6) λt42=>
    ld false 1 t42 λt43=>
    pv (faV 0 t18) λt44=>
    ld false 1 t44 λt45=>
    cF 47 #[t41,t43,t45] (λt46=>
    d16 [1,1,1,1,1,1,1] (q16 K E) #[x0,x1,x2,t1,t2,U,(.slice none 0 0),(.int .u16 0),t6,t5,t18,(.func (.func 43) #[] #[t1,t2,t6]),t3,x2,t3,t4,t5,t5,t7,U,t8,t9,t10,t11,t12,t13,t14,t15,t16,t17,(.func (.func 43) #[] #[t1,t2,t6]),t21,t19,t20,t21,U,U,U,U,U,U,U,t36,t28,t29,t30,t30,t31,t32,t33,t34,t35,t36,U,U,t40,t38,t39,t40,t41,t42,t43,t44,t45,t46,U,U,U,U,U,U,U,U,U,U,U,U,U,U,U,U,U,U,U,U,U,U,U,U,U,U,U,U,U,U,U,U,U,U,U,U,U,U,U,U,U,U,U,U,U,U,U,U,U,U,U,U,U,U,U,U,U,U,U,U,U,U,U,U,U,U,U,U,U,U,U,U,U,U,U,U,U]) E) (
    pv (faV 0 t6) λt47=>
    ld false 1 t47 λt48=>
    pv (za2 .none .eql t48 (.int .u8 7)) λt49=>
    gdK t49 true (λk=>pv (faV 0 t18) k) λt50=>
    gdK t49 true (λk=>ld false 1 t50 k) λt51=>
    gdK t49 true (λk=>pv (za2 .none .eql t51 (.int .u8 2)) k) λt52=>
    pv (zad t49 t52 (.bool false)) λt53=>
    cnd t53 (
    ld false 1 t1 λt54=>
    ld false 1 t2 λt55=>
    pv (faV 1 t6) λt56=>
    ld false 1 t56 λt57=>
    pv (faV 1 t18) λt58=>
    ld false 1 t58 λt59=>
    pv (bdC #[(.int .u8 0),(.int .u32 0),(.int .u32 0),(.slice none 0 0),(.slice none 0 0),(.int .i64 0),(.int .i64 0),(.slice none 0 0)] [(0,1),(1,1),(2,1),(3,1),(4,1),(5,1),(6,1),(7,1)] #[(0,(.int .u8 4)),(1,t57),(2,t59)]) λt60=>
    cF 44 #[t54,t55,t60] (λt61=>
    d16 [1,1,1,1,1,1,1] (q16 K E) #[x0,x1,x2,t1,t2,U,(.slice none 0 0),(.int .u16 0),t6,t5,t18,(.func (.func 43) #[] #[t1,t2,t6]),t3,x2,t3,t4,t5,t5,t7,U,t8,t9,t10,t11,t12,t13,t14,t15,t16,t17,(.func (.func 43) #[] #[t1,t2,t6]),t21,t19,t20,t21,U,U,U,U,U,U,U,t36,t28,t29,t30,t30,t31,t32,t33,t34,t35,t36,U,U,t40,t38,t39,t40,U,U,U,U,U,U,t53,t47,t48,t49,t49,t50,t51,t52,t53,t54,t55,t56,t57,t58,t59,t60,t61,U,U,U,U,U,U,U,U,U,U,U,U,U,U,U,U,U,U,U,U,U,U,U,U,U,U,U,U,U,U,U,U,U,U,U,U,U,U,U,U,U,U,U,U,U,U,U,U,U,U,U,U,U,U,U,U,U,U,U,U]) E) (
    pv (faV 0 t6) λt62=>
    ld false 1 t62 λt63=>
    pv (za2 .none .eql t63 (.int .u8 7)) λt64=>
    gdK t64 true (λk=>ld false 1 t1 k) λt65=>
    gdK t64 true (λk=>pv (faV 1 t6) k) λt66=>
    gdK t64 true (λk=>ld false 1 t66 k) λt67=>
    gdK t64 true (λk=>pv (faV 0 t18) k) λt68=>
    gdK t64 true (λk=>ld false 1 t68 k) λt69=>
    gdK t64 true (λk=>cF 48 #[t65,t67,t69] k E) λt70=>
    pv (zad t64 t70 (.bool false)) λt71=>
    cnd t71 (
     zbs Tryz.prog (.func (.func 43) #[] #[t1,t2,t6]) #[(.int .u8 5)] (λt72=>
     d16 [1,1,1,1,1,1,1] (q16 K E) #[x0,x1,x2,t1,t2,U,(.slice none 0 0),(.int .u16 0),t6,t5,t18,(.func (.func 43) #[] #[t1,t2,t6]),t3,x2,t3,t4,t5,t5,t7,U,t8,t9,t10,t11,t12,t13,t14,t15,t16,t17,(.func (.func 43) #[] #[t1,t2,t6]),t21,t19,t20,t21,U,U,U,U,U,U,U,t36,t28,t29,t30,t30,t31,t32,t33,t34,t35,t36,U,U,t40,t38,t39,t40,U,U,U,U,U,U,t53,t47,t48,t49,t49,t50,t51,t52,t53,U,U,U,U,U,U,U,U,t71,t62,t63,t64,t64,t65,t66,t67,t68,t69,t70,t71,(.func (.func 43) #[] #[t1,t2,t6]),t72,U,U,U,U,U,U,U,U,U,U,U,U,U,U,U,U,U,U,U,U,U,U,U,U,U,U,U,U,U,U,U,U,U,U,U,U,U,U,U,U,U,U,U,U,U,U]) E) (
     pv (faV 0 t6) λt73=>
     ld false 1 t73 λt74=>
     pv (za2 .none .eql t74 (.int .u8 8)) λt75=>
     gdK t75 true (λk=>ld false 1 t1 k) λt76=>
     gdK t75 true (λk=>pv (zai t76) k) λt77=>
     gdK t75 true (λk=>pv (faV 1 t77) k) λt78=>
     gdK t75 true (λk=>ld false 1 t78 k) λt79=>
     gdK t75 true (λk=>cF 21 #[t79] k E) λt80=>
     gdK t75 true (λk=>pv (zab t80) k) λt81=>
     gdK t75 true (λk=>pv (za2 .none .eql t81 (.int .i64 0)) k) λt82=>
     pv (zad t75 t82 (.bool false)) λt83=>
     cnd t83 (
     ld false 1 t1 λt84=>
     ld false 1 t2 λt85=>
     pv (faV 1 t6) λt86=>
     ld false 1 t86 λt87=>
     ld false 1 t1 λt88=>
     pv (zai t88) λt89=>
     pv (faV 1 t89) λt90=>
     ld false 1 t90 λt91=>
     pv (zai t91) λt92=>
     pv (faV 0 t92) λt93=>
     ld false 1 t93 λt94=>
     pv (faV 5 t6) λt95=>
     ld false 1 t95 λt96=>
     pv (faV 6 t6) λt97=>
     ld false 1 t97 λt98=>
     cF 19 #[t94,t96,t98] (λt99 h100=>(ldV h100 false 1 t1 t88)∧(ldV h100 false 1 t86 t87)∧(ldV h100 false 1 t2 t85)∧(ldV h100 false 1 t1 t84)∧(
      pv (bdC #[(.int .u8 0),(.int .u32 0),(.int .u32 0),(.slice none 0 0),(.slice none 0 0),(.int .i64 0),(.int .i64 0),(.slice none 0 0)] [(0,1),(1,1),(2,1),(3,1),(4,1),(5,1),(6,1),(7,1)] #[(0,(.int .u8 9)),(1,t87),(7,t99)]) λt101=>
      cF 44 #[t84,t85,t101] (λzje h103=>(ldV h103 false 1 t1 t88)∧(
      d16 [1,1,1,1,1,1,1] (q16 K E) #[x0,x1,x2,t1,t2,U,(.slice none 0 0),(.int .u16 0),t6,t5,t18,(.func (.func 43) #[] #[t1,t2,t6]),t3,x2,t3,t4,t5,t5,t7,U,t8,t9,t10,t11,t12,t13,t14,t15,t16,t17,(.func (.func 43) #[] #[t1,t2,t6]),t21,t19,t20,t21,U,U,U,U,U,U,U,t36,t28,t29,t30,t30,t31,t32,t33,t34,t35,t36,U,U,t40,t38,t39,t40,U,U,U,U,U,U,t53,t47,t48,t49,t49,t50,t51,t52,t53,U,U,U,U,U,U,U,U,t71,t62,t63,t64,t64,t65,t66,t67,t68,t69,t70,t71,U,U,t83,t73,t74,t75,t75,t76,t77,t78,t79,t80,t81,t82,t83,t84,t85,t86,t87,t88,t89,t90,t91,t92,t93,t94,t95,t96,t97,t98,t99,t101,zje,U,U,U,U,U,U,U,U,U,U,U,U,U,U,U]) h103) E) h100) E) (
     pv (faV 0 t6) λzoc=>
     ld false 1 zoc λznw=>
     pv (za2 .none .eql znw (.int .u8 10)) λzgx=>
     gdK zgx true (λk=>ld false 1 t1 k) λzo9=>
     gdK zgx true (λk=>ld true 8 t6 k) λzny=>
     gdK zgx true (λk=>cF 49 #[zo9,zny] k E) λt109=>
     pv (zad zgx t109 (.bool false)) λzm1=>
     cnd zm1 (
      zbs Tryz.prog (.func (.func 43) #[] #[t1,t2,t6]) #[(.int .u8 11)] (λt111=>
      d16 [1,1,1,1,1,1,1] (q16 K E) #[x0,x1,x2,t1,t2,U,(.slice none 0 0),(.int .u16 0),t6,t5,t18,(.func (.func 43) #[] #[t1,t2,t6]),t3,x2,t3,t4,t5,t5,t7,U,t8,t9,t10,t11,t12,t13,t14,t15,t16,t17,(.func (.func 43) #[] #[t1,t2,t6]),t21,t19,t20,t21,U,U,U,U,U,U,U,t36,t28,t29,t30,t30,t31,t32,t33,t34,t35,t36,U,U,t40,t38,t39,t40,U,U,U,U,U,U,t53,t47,t48,t49,t49,t50,t51,t52,t53,U,U,U,U,U,U,U,U,t71,t62,t63,t64,t64,t65,t66,t67,t68,t69,t70,t71,U,U,t83,t73,t74,t75,t75,t76,t77,t78,t79,t80,t81,t82,t83,U,U,U,U,U,U,U,U,U,U,U,U,U,U,U,U,U,U,zm1,zoc,znw,zgx,zgx,zo9,zny,t109,zm1,(.func (.func 43) #[] #[t1,t2,t6]),t111,U,U,U,U]) E) (
      d16 [1,1,1,1,1,1,1] (q16 K E) #[x0,x1,x2,t1,t2,U,(.slice none 0 0),(.int .u16 0),t6,t5,t18,(.func (.func 43) #[] #[t1,t2,t6]),t3,x2,t3,t4,t5,t5,t7,U,t8,t9,t10,t11,t12,t13,t14,t15,t16,t17,(.func (.func 43) #[] #[t1,t2,t6]),t21,t19,t20,t21,U,U,U,U,U,U,U,t36,t28,t29,t30,t30,t31,t32,t33,t34,t35,t36,U,U,t40,t38,t39,t40,U,U,U,U,U,U,t53,t47,t48,t49,t49,t50,t51,t52,t53,U,U,U,U,U,U,U,U,t71,t62,t63,t64,t64,t65,t66,t67,t68,t69,t70,t71,U,U,t83,t73,t74,t75,t75,t76,t77,t78,t79,t80,t81,t82,t83,U,U,U,U,U,U,U,U,U,U,U,U,U,U,U,U,U,U,zm1,zoc,znw,zgx,zgx,zo9,zny,t109,zm1,U,U,U,U,U,U])))))))
theorem t16:d16 [] (q16 K E) #[x0,x1,x2,U,U,U,U,U,U,U,U,U,U,U,U,U,U,U,U,U,U,U,U,U,U,U,U,U,U,U,U,U,U,U,U,U,U,U,U,U,U,U,U,U,U,U,U,U,U,U,U,U,U,U,U,U,U,U,U,U,U,U,U,U,U,U,U,U,U,U,U,U,U,U,U,U,U,U,U,U,U,U,U,U,U,U,U,U,U,U,U,U,U,U,U,U,U,U,U,U,U,U,U,U,U,U,U,U,U,U,U,U,U,U,U,U,U,U,U,U,U,U,U,U,U,U,U,U,U,U,U,U,U,U,U,U,U,U,U,U,U,U] =
 nw 31 (Value.cells x0).toList λt1=>
 nw 3 (Value.cells x1).toList λt2=>
 cF 42 #[x2] (λt3=>
 pv (exV 0 t3) λt4=>
 pv (exV 1 t3) λt5=>
 nw 49 [(.int .u8 0),(.int .u32 0),(.int .u32 0),(.slice none 0 0),(.slice none 0 0),(.int .i64 0),(.int .i64 0),(.slice none 0 0)] λt6=>
 st 8 t6 t4 λ_=>
 pv (za2 .none .neq t5 (.int .u16 0)) λt7=>
 cnd t7 (
  K (.tuple #[(.slice none 0 0),t5])) (
  ld false 1 t1 λt8=>
  pv (zai t8) λt9=>
  pv (faV 3 t9) λt10=>
  st 1 t10 (.slice none 0 0) λ_=>
  ld false 1 t1 λt11=>
  pv (zai t11) λt12=>
  pv (faV 1 t12) λt13=>
  ld false 1 t13 λt14=>
  pv (faV 1 t6) λt15=>
  ld false 1 t15 λt16=>
  bth (
  cF 28 #[t14,t16] (λt17=>
  nw 85 [(.int .u8 0),(.int .u32 0)] λt18=>
  st 2 t18 t17 λ_=>
   c16 K E x0 x1 x2 t1 t2 t3 t4 t5 t6 t7 t8 t9 t10 t11 t12 t13 t14 t15 t16 t17 t18) E) (
  nw 85 [(.int .u8 0),(.int .u32 0)] (λt112 h113=>(ldV h113 false 1 t15 t16)∧(ldV h113 false 1 t13 t14)∧(ldV h113 false 1 t1 t11)∧(
   cF 28 #[t14,t16] (λt114=>
   st 2 t112 t114 λ_=>
   c16 K E x0 x1 x2 t1 t2 t3 t4 t5 t6 t7 t8 t9 t10 t11 t12 t13 t14 t15 t16 t114 t112) E) h113)))) E:=by kernel_rfl
theorem zar:d16 [1,1,1,1,1,1,1] (q16 K E) #[x0,x1,x2,x3,x4,x5,x6,x7,x8,x9,x10,x11,x12,x13,x14,x15,x16,x17,x18,x19,x20,x21,x22,x23,x24,x25,x26,x27,x28,x29,x30,x31,x32,x33,x34,x35,x36,x37,x38,x39,x40,x41,x42,x43,x44,x45,x46,x47,x48,x49,x50,x51,x52,x53,x54,x55,x56,x57,x58,x59,x60,x61,x62,x63,x64,x65,x66,x67,x68,x69,x70,x71,x72,x73,x74,x75,x76,x77,x78,x79,x80,x81,x82,x83,x84,x85,x86,x87,x88,x89,x90,x91,x92,x93,x94,x95,x96,x97,x98,x99,x100,x101,x102,x103,x104,x105,x106,x107,x108,x109,x110,x111,x112,x113,x114,x115,x116,x117,x118,x119,x120,x121,x122,x123,x124,x125,x126,x127,x128,x129,x130,x131,x132,x133,x134,x135,x136,x137,x138,x139,x140,x141] =
 ld false 1 x3 λt1=>
 pv (zai t1) λt2=>
 pv (faV 3 t2) λt3=>
 ld false 1 t3 λt4=>
 K (.tuple #[t4,(.int .u16 0)]):=by kernel_rfl
abbrev q36:=cQ Tryz.f36 K E
abbrev d36:=cD Tryz.f36
abbrev znp:=za6 k2 (blk 2 (blk 1 (za6 (d36 [1,1,0,1,0,0,1,1,1] (za6 k1 (blk 0 (za6 (d36 [1,1,1] (q36 K E)) (q36 K E))))) (za6 k1 (blk 0 (za6 (d36 [1,1,1] (q36 K E)) (q36 K E)))))))
abbrev zyo:=za6 k1 (blk 0 (za6 (d36 [1,1,1] (q36 K E)) (q36 K E)))
def zep (j:Nat -> Value):Env:=#[x0,x1,x2,x3,(j 4),(j 5),x6,(j 7),x8,x9,x10,x11,x12,x13,x14,x15,x16,v17,(j 18),(j 19),(j 20),(j 21),(j 22),(j 23),(j 24),(j 25),(j 26),(j 27),(j 28),(j 29),(j 30),(j 31),(j 32),(j 33),(j 34),(j 35),(j 36),(j 37),(j 38),(j 39),(j 40),(j 41),(j 42),(j 43),(j 44),(j 45),(j 46),(j 47),(j 48),x49,x50,x51,x52]
def zbm (j:Nat -> Value):Env:=#[x0,x1,x2,x3,x4,x5,x6,(j 7),x8,x9,x10,x11,x12,x13,x14,x15,x16,x17,x18,x19,x20,x21,x22,x23,x24,x25,x26,x27,x28,x29,x30,x31,x32,v33,(j 34),(j 35),(j 36),(j 37),(j 38),(j 39),(j 40),(j 41),(j 42),(j 43),(j 44),(j 45),(j 46),(j 47),x48,x49,x50,x51,x52]
theorem t36:d36 [] (q36 K E) #[x0,U,U,U,U,U,U,U,U,U,U,U,U,U,U,U,U,U,U,U,U,U,U,U,U,U,U,U,U,U,U,U,U,U,U,U,U,U,U,U,U,U,U,U,U,U,U,U,U,U,U,U,U] =
 pv (zai x0) λt1=>
 pv (faV 3 t1) λt2=>
 st 1 t2 (.slice none 0 0) λ_=>
 pv (zai x0) λt3=>
 pv (faV 1 t3) λt4=>
 ld false 1 t4 λt5=>
 cF 21 #[t5] (λt6=>
 pv (zab t6) λt7=>
 lp (λk1=>d36 [1,1,0,1,0,0] (zyo K E k1)) (zep x0 U (.slice none 0 0) U U x0 t1 t2 x0 t3 t4 t5 t6 t7 U U U U (.int .i64 0) (jf #[]))) E:=by kernel_rfl
theorem zuk:d36 [1,1,0,1,0,0] (zyo K E k1) (zep x0 x1 x2 x3 x6 x8 x9 x10 x11 x12 x13 x14 x15 x16 x49 x50 x51 x52 v17 j) =
 pv (za2 .none .lss v17 x16) λt1=>
 cnd t1 (
  pv (iaV none 1 x15 v17) λt2=>
  ld false 1 t2 λt3=>
  pv (bdC #[(.int .u8 0),(.int .u32 0),(.int .u32 0),(.slice none 0 0),(.slice none 0 0),(.int .i64 0),(.int .i64 0),(.slice none 0 0)] [(0,1),(1,1),(2,1),(3,1),(4,1),(5,1),(6,1),(7,1)] #[(0,(.int .u8 7)),(1,t3)]) λt4=>
  nw 49 [(.int .u8 0),(.int .u32 0),(.int .u32 0),(.slice none 0 0),(.slice none 0 0),(.int .i64 0),(.int .i64 0),(.slice none 0 0)] λt5=>
  st 8 t5 t4 λ_=>
  ld true 8 t5 λt6=>
  cF 44 #[x0,(.int .i64 (-1)),t6] (λt7=>
  pv (zai x0) λt8=>
  pv (faV 1 t8) λt9=>
  ld false 1 t9 λt10=>
  cF 79 #[t10,t3] (λt11=>
  pv (zab t11) λt12=>
  lp (λk2=>d36 [1,1,0,1,0,0,1,1,0,0,1,1,1,1,0,0] (znp K E k1 k2)) (zbm x0 x1 x2 x3 t3 t5 x6 x8 x9 x10 x11 x12 x13 x14 x15 x16 v17 t1 t2 t3 t3 t4 x0 t6 t7 x0 t8 t9 t10 t3 t11 t12 (j 48) x49 x50 x51 x52 (.int .i64 0) (jf #[U,U,U,U,U,U,U,(j 7),U,U,U,U,U,U,U,U,U,U,U,U,U,U,U,U,U,U,U,U,U,U,U,U,U,U,(j 34),(j 35),(j 36),(j 37),(j 38),(j 39),(j 40),(j 41),(j 42),(j 43),(j 44),(j 45),(j 46),(j 47)]))) E) E) (
  pv (zai x0) λt13=>
  pv (faV 3 t13) λt14=>
  ld false 1 t14 λt15=>
  K t15):=by kernel_rfl
theorem zhy:d36 [1,1,0,1,0,0,1,1,0,0,1,1,1,1,0,0] (znp K E k1 k2) (zbm x0 x1 x2 x3 x4 x5 x6 x8 x9 x10 x11 x12 x13 x14 x15 x16 x17 x18 x19 x20 x21 x22 x23 x24 x25 x26 x27 x28 x29 x30 x31 x32 x48 x49 x50 x51 x52 v33 j) =
 pv (za2 .none .lss v33 x32) λt1=>
 cnd t1 (
  pv (iaV none 1 x31 v33) λt2=>
  ld false 1 t2 λt3=>
  pv (zai x0) λt4=>
  pv (faV 2 t4) λt5=>
  ld false 1 t5 λt6=>
  pv (za2 .none .neq t3 t6) λt7=>
  cnd t7 (
  ld true 8 x5 λt8=>
  cF 44 #[x0,t3,t8] (λt9=>
  d36 [1,1,0,1,0,0,1,1,0,0,1,1,1,1,0,0,1,1,1] (znp K E k1 k2) #[x0,x1,x2,x3,x4,x5,x6,t3,x8,x9,x10,x11,x12,x13,x14,x15,x16,x17,x18,x19,x20,x21,x22,x23,x24,x25,x26,x27,x28,x29,x30,x31,x32,v33,t1,t2,t3,t3,x0,t4,t5,t6,t7,x0,t3,t8,t9,(j 47),x48,x49,x50,x51,x52]) E) (
  d36 [1,1,0,1,0,0,1,1,0,0,1,1,1,1,0,0,1,1,1] (znp K E k1 k2) #[x0,x1,x2,x3,x4,x5,x6,t3,x8,x9,x10,x11,x12,x13,x14,x15,x16,x17,x18,x19,x20,x21,x22,x23,x24,x25,x26,x27,x28,x29,x30,x31,x32,v33,t1,t2,t3,t3,x0,t4,t5,t6,t7,(j 43),(j 44),(j 45),(j 46),(j 47),x48,x49,x50,x51,x52])) (
  pv (za2 .none .add x17 (.int .i64 1)) λt10=>
  k1 (zep x0 x1 x2 x3 x6 x8 x9 x10 x11 x12 x13 x14 x15 x16 x49 x50 x51 x52 t10 (jf #[U,U,U,U,x4,x5,U,(j 7),U,U,U,U,U,U,U,U,U,U,x18,x19,x20,x21,x22,x23,x24,x25,x26,x27,x28,x29,x30,x31,x32,v33,t1,(j 35),(j 36),(j 37),(j 38),(j 39),(j 40),(j 41),(j 42),(j 43),(j 44),(j 45),(j 46),(j 47),t10]))):=by kernel_rfl
theorem zdi:d36 [1,1,0,1,0,0,1,1,0,0,1,1,1,1,0,0,1,1,1] (znp K E k1 k2) #[x0,x1,x2,x3,x4,x5,x6,x7,x8,x9,x10,x11,x12,x13,x14,x15,x16,x17,x18,x19,x20,x21,x22,x23,x24,x25,x26,x27,x28,x29,x30,x31,x32,x33,x34,x35,x36,x37,x38,x39,x40,x41,x42,x43,x44,x45,x46,x47,x48,x49,x50,x51,x52] =
 pv (za2 .none .add x33 (.int .i64 1)) λt1=>
 k2 (zbm x0 x1 x2 x3 x4 x5 x6 x8 x9 x10 x11 x12 x13 x14 x15 x16 x17 x18 x19 x20 x21 x22 x23 x24 x25 x26 x27 x28 x29 x30 x31 x32 x48 x49 x50 x51 x52 t1 (jf #[U,U,U,U,U,U,U,x7,U,U,U,U,U,U,U,U,U,U,U,U,U,U,U,U,U,U,U,U,U,U,U,U,U,U,x34,x35,x36,x37,x38,x39,x40,x41,x42,x43,x44,x45,x46,t1])):=by kernel_rfl
abbrev q43:=cQ Tryz.f43 K E
abbrev d43:=cD Tryz.f43
theorem t43:d43 [] (q43 K E) #[x0,x1,x2,x3,U,U,U,U,U,U,U,U] =
 ld false 1 x1 λt1=>
 ld false 1 x2 λt2=>
 pv (faV 1 x3) λt3=>
 ld false 1 t3 λt4=>
 pv (bdC #[(.int .u8 0),(.int .u32 0),(.int .u32 0),(.slice none 0 0),(.slice none 0 0),(.int .i64 0),(.int .i64 0),(.slice none 0 0)] [(0,1),(1,1),(2,1),(3,1),(4,1),(5,1),(6,1),(7,1)] #[(0,x0),(1,t4)]) λt5=>
 cF 44 #[t1,t2,t5] (λt6=>
 K (.tuple #[])) E:=by kernel_rfl
abbrev q44:=cQ Tryz.f44 K E
abbrev d44:=cD Tryz.f44
theorem t44:d44 [] (q44 K E) #[x0,x1,x2,U,U,U,U,U,U,U,U,U,U,U,U,U,U,U,U,U,U,U,U,U,U,U,U,U,U,U,U] =
 nw 49 (Value.cells x2).toList λt1=>
 ld true 8 t1 λt2=>
 cF 96 #[t2] (λt3=>
 pv (exV 0 t3) λt4=>
 pv (exV 1 t3) λt5=>
 pv (za2 .none .eql t5 (.int .u16 0)) λt6=>
 cnd t6 (
  pv (zai x0) λt7=>
  pv (faV 3 t7) λt8=>
  ld false 1 t8 λt9=>
  pv (zai x0) λt10=>
  pv (faV 2 t10) λt11=>
  ld false 1 t11 λt12=>
  pv (bdC #[(.int .i64 0),(.int .i64 0),(.slice none 0 0)] [(0,1),(1,1),(2,1)] #[(0,t12),(1,x1),(2,t4)]) λt13=>
  nws 53 1 (bsC #[(.int .i64 0),(.int .i64 0),(.slice none 0 0)] 3 1 #[(0,t13)]) (λt14 h15=>(ldV h15 false 1 t8 t9)∧(
  zdl 53 3 40 t9 t14 λt16=>
  pv (zai x0) λt17=>
  pv (faV 3 t17) λt18=>
  st 1 t18 t16 λ_=>
  K (.tuple #[])) h15)) (
  K (.tuple #[]))) E:=by kernel_rfl
abbrev q45:=cQ Tryz.f45 K E
abbrev d45:=cD Tryz.f45
theorem t45:d45 [] (q45 K E) #[x0,x1,x2,U,U,U,U,U,U,U,U,U,U,U,U,U,U,U,U,U,U,U,U,U,U,U,U,U,U,U,U,U,U,U,U,U,U] =
 nw 49 (Value.cells x1).toList λt1=>
 pv (za2 .none .eql x2 (.int .u8 1)) λt2=>
 cnd t2 (
  K (.int .u8 2)) (
  pv (za2 .none .eql x2 (.int .u8 2)) λt3=>
  cnd t3 (
  K (.int .u8 6)) (
  pv (za2 .none .eql x2 (.int .u8 3)) λt4=>
  cnd t4 (
   K (.int .u8 3)) (
   pv (faV 1 t1) λt5=>
   ld false 1 t5 λt6=>
   pv (faV 3 t1) λt7=>
   ld false 1 t7 λt8=>
   pv (faV 4 t1) λt9=>
   ld false 1 t9 λt10=>
   pv (bdC #[(.int .u8 0),(.int .u32 0),(.int .u32 0),(.slice none 0 0),(.slice none 0 0),(.int .u32 0),(.slice none 0 0),(.int .i64 0),(.int .i64 0),(.slice none 0 0)] [(0,1),(1,1),(2,1),(3,1),(4,1),(5,2),(7,1),(8,1),(9,1)] #[(0,(.int .u8 1)),(1,t6),(3,t8),(4,t10)]) λt11=>
   nw 77 [(.int .u8 0),(.int .u32 0),(.int .u32 0),(.slice none 0 0),(.slice none 0 0),(.int .u32 0),(.slice none 0 0),(.int .i64 0),(.int .i64 0),(.slice none 0 0)] λt12=>
   st 10 t12 t11 λ_=>
   pv (zai x0) λt13=>
   pv (faV 1 t13) λt14=>
   ld false 1 t14 λt15=>
   pv (zai t15) λt16=>
   pv (faV 0 t16) λt17=>
   ld false 1 t17 λt18=>
   pv (faV 4 t1) λt19=>
   ld false 1 t19 λt20=>
   cF 98 #[t18,t20] (λt21=>
   gdK t21 true (λk=>k x0) λt22=>
   gdK t21 true (λk=>ld true 10 t12 k) λt23=>
   gdK t21 true (λk=>cF 99 #[t22,t23] k E) λt24=>
   pv (zad t21 t24 (.bool false)) λt25=>
   cnd t25 (
   K (.int .u8 2)) (
   K (.int .u8 3))) E))):=by kernel_rfl
abbrev q46:=cQ Tryz.f46 K E
abbrev d46:=cD Tryz.f46
theorem t46:d46 [] (q46 K E) #[x0,x1,x2,U,U,U,U,U,U,U,U,U,U,U,U,U,U,U,U,U,U,U] =
 nw 49 (Value.cells x1).toList λt1=>
 pv (za2 .none .eql x2 (.int .u8 2)) λt2=>
 gdK t2 false (λk=>k x2) λt3=>
 gdK t2 false (λk=>pv (za2 .none .eql t3 (.int .u8 1)) k) λt4=>
 gdK t2 false (λk=>k t4) λt5=>
 gdK t5 true (λk=>k x0) λt6=>
 gdK t5 true (λk=>pv (faV 1 t1) k) λt7=>
 gdK t5 true (λk=>ld false 1 t7 k) λt8=>
 gdK t5 true (λk=>pv (faV 2 t1) k) λt9=>
 gdK t5 true (λk=>ld false 1 t9 k) λt10=>
 gdK t5 true (λk=>pv (bdC #[(.int .u8 0),(.int .u32 0),(.int .u32 0),(.slice none 0 0),(.slice none 0 0),(.int .u32 0),(.slice none 0 0),(.int .i64 0),(.int .i64 0),(.slice none 0 0)] [(0,1),(1,1),(2,1),(3,1),(4,1),(5,2),(7,1),(8,1),(9,1)] #[(0,(.int .u8 2)),(1,t8),(2,t10)]) k) λt11=>
 gdK t5 true (λk=>cF 99 #[t6,t11] k E) λt12=>
 gdK t2 false (λk=>pv (zad t5 t12 (.bool false)) k) λt13=>
 pv (zad t2 (.bool true) t13) λt14=>
 K t14:=by kernel_rfl
abbrev q47:=cQ Tryz.f47 K E
abbrev d47:=cD Tryz.f47
theorem t47:d47 [] (q47 K E) #[x0,x1,x2,U,U,U,U,U,U,U,U,U,U,U,U,U,U,U,U,U,U,U,U,U] =
 pv (za2 .none .gtr x2 (.int .u8 1)) λt1=>
 cnd t1 (
  K (.tuple #[])) (
  pv (bdC #[(.int .u8 0),(.int .u32 0),(.int .u32 0),(.slice none 0 0),(.slice none 0 0),(.int .u32 0),(.slice none 0 0),(.int .i64 0),(.int .i64 0),(.slice none 0 0)] [(0,1),(1,1),(2,1),(3,1),(4,1),(5,2),(7,1),(8,1),(9,1)] #[(0,(.int .u8 3)),(1,x1)]) λt2=>
  nw 77 [(.int .u8 0),(.int .u32 0),(.int .u32 0),(.slice none 0 0),(.slice none 0 0),(.int .u32 0),(.slice none 0 0),(.int .i64 0),(.int .i64 0),(.slice none 0 0)] λt3=>
  st 10 t3 t2 λ_=>
  pv (zai x0) λt4=>
  pv (faV 0 t4) λt5=>
  ld false 1 t5 λt6=>
  ld true 10 t3 λt7=>
  cF 100 #[t6,t7] (λt8=>
  pv (za2 .none .eql t8 (.int .u16 0)) λt9=>
  cnd t9 (
  pv (zai x0) λt10=>
  pv (faV 1 t10) λt11=>
  ld false 1 t11 λt12=>
  ld true 10 t3 λt13=>
  cF 40 #[t12,t13] (λt14=>
  K (.tuple #[])) E) (
  K (.tuple #[]))) E):=by kernel_rfl
abbrev q48:=cQ Tryz.f48 K E
abbrev d48:=cD Tryz.f48
theorem t48:d48 [] (q48 K E) #[x0,x1,x2,U,U,U,U,U,U,U,U,U,U,U,U,U,U,U,U] =
 pv (za2 .none .eql x2 (.int .u8 3)) λt1=>
 gdK t1 false (λk=>k x2) λt2=>
 gdK t1 false (λk=>pv (za2 .none .eql t2 (.int .u8 0)) k) λt3=>
 gdK t1 false (λk=>k t3) λt4=>
 gdK t4 true (λk=>k x0) λt5=>
 gdK t4 true (λk=>k x1) λt6=>
 gdK t4 true (λk=>pv (bdC #[(.int .u8 0),(.int .u32 0),(.int .u32 0),(.slice none 0 0),(.slice none 0 0),(.int .u32 0),(.slice none 0 0),(.int .i64 0),(.int .i64 0),(.slice none 0 0)] [(0,1),(1,1),(2,1),(3,1),(4,1),(5,2),(7,1),(8,1),(9,1)] #[(0,(.int .u8 3)),(1,t6)]) k) λt7=>
 gdK t4 true (λk=>cF 99 #[t5,t7] k E) λt8=>
 gdK t1 false (λk=>pv (zad t4 t8 (.bool false)) k) λt9=>
 pv (zad t1 (.bool true) t9) λt10=>
 K t10:=by kernel_rfl
abbrev q49:=cQ Tryz.f49 K E
abbrev d49:=cD Tryz.f49
theorem t49:d49 [] (q49 K E) #[x0,x1,U,U,U,U,U,U,U,U,U,U,U,U,U,U,U,U,U,U,U,U,U,U,U,U] =
 nw 49 (Value.cells x1).toList λt1=>
 pv (faV 1 t1) λt2=>
 ld false 1 t2 λt3=>
 pv (zai x0) λt4=>
 pv (faV 1 t4) λt5=>
 ld false 1 t5 λt6=>
 cF 75 #[t6] (λt7 h8=>(ldV h8 false 1 t2 t3)∧(
  pv (za2 .none .leq t3 t7) λt9=>
  gdK t9 false (λk=>k x0) λt10=>
  gdK t9 false (λk=>pv (faV 1 t1) k) λt11=>
  gdK t9 false (λk=>ld false 1 t11 k) λt12=>
  gdK t9 false (λk=>pv (faV 5 t1) k) λt13=>
  gdK t9 false (λk=>ld false 1 t13 k) λt14=>
  gdK t9 false (λk=>pv (faV 6 t1) k) λt15=>
  gdK t9 false (λk=>ld false 1 t15 k) λt16=>
  gdK t9 false (λk=>pv (faV 7 t1) k) λt17=>
  gdK t9 false (λk=>ld false 1 t17 k) λt18=>
  gdK t9 false (λk=>pv (bdC #[(.int .u8 0),(.int .u32 0),(.int .u32 0),(.slice none 0 0),(.slice none 0 0),(.int .u32 0),(.slice none 0 0),(.int .i64 0),(.int .i64 0),(.slice none 0 0)] [(0,1),(1,1),(2,1),(3,1),(4,1),(5,2),(7,1),(8,1),(9,1)] #[(0,(.int .u8 7)),(1,t12),(6,t14),(7,t16),(8,t18)]) k) λt19=>
  gdK t9 false (λk=>cF 99 #[t10,t19] k E) λt20=>
  pv (zad t9 (.bool true) t20) λt21=>
  K t21) h8) E:=by kernel_rfl
abbrev q99:=cQ Tryz.f99 K E
abbrev d99:=cD Tryz.f99
theorem t99:d99 [] (q99 K E) #[x0,x1,U,U,U,U,U,U,U,U,U,U,U,U,U,U,U,U,U,U,U] =
 nw 77 (Value.cells x1).toList λt1=>
 pv (zai x0) λt2=>
 pv (faV 0 t2) λt3=>
 ld false 1 t3 λt4=>
 ld true 10 t1 λt5=>
 cF 145 #[t4,t5] (λt6=>
 pv (za2 .none .eql t6 (.int .u16 0)) λt7=>
 gdK t7 true (λk=>k x0) λt8=>
 gdK t7 true (λk=>pv (zai t8) k) λt9=>
 gdK t7 true (λk=>pv (faV 1 t9) k) λt10=>
 gdK t7 true (λk=>ld false 1 t10 k) λt11=>
 gdK t7 true (λk=>ld true 10 t1 k) λt12=>
 gdK t7 true (λk=>cF 40 #[t11,t12] k E) λt13=>
 gdK t7 true (λk=>pv (za2 .none .eql t13 (.int .u16 0)) k) λt14=>
 pv (zad t7 t14 (.bool false)) λt15=>
 K t15) E:=by kernel_rfl
end
section
variable {K:zae} {E:zb2} {k1 k2:Env -> Hp -> Prop} {σ:Type} {x0 x1 x2 x3 x4 x5 x6 x7 x8 x9 x10 x11 x12 x13 x14 x15 x16 x17 x18 x19 x20 x21 x22 x23 x24 x25 x26 x27 x28 x29 x30 x31 x32 x37 x38 x39 x40 x41 x48 x49 x50 x51 x52 v17 v29 v33:Value} {h:Hp} {j:Nat -> Value}
theorem zna (f29:σ -> Value) (I:σ -> Hp -> Prop) (μ:σ -> Nat) (s0:σ) (e29:v29=f29 s0) (h0:h.wf -> ∃ h',h.wk h'∧I s0 h')
 (round:∀ (k1:Env -> Hp -> Prop) (s:σ) (j:Nat -> Value) (h:Hp),I s h -> h.wf -> (∀ s' j' h',μ s'<μ s -> (h'.wf -> ∃ h'',h'.wk h''∧I s' h'') -> k1 (zcm x0 x1 x2 x3 x4 x5 x6 x7 x8 x9 x10 x11 x12 x14 x15 x16 x17 x18 x19 x20 x21 x22 x23 x24 x25 x26 x27 x28 x37 x38 x39 x40 x41 (f29 s') j') h') -> d12 [1,1,1,1,1,0,1,0,0] (zys K E k1) (zcm x0 x1 x2 x3 x4 x5 x6 x7 x8 x9 x10 x11 x12 x14 x15 x16 x17 x18 x19 x20 x21 x22 x23 x24 x25 x26 x27 x28 x37 x38 x39 x40 x41 (f29 s) j) h) :
 lp (λk1=>d12 [1,1,1,1,1,0,1,0,0] (zys K E k1)) (zcm x0 x1 x2 x3 x4 x5 x6 x7 x8 x9 x10 x11 x12 x14 x15 x16 x17 x18 x19 x20 x21 x22 x23 x24 x25 x26 x27 x28 x37 x38 x39 x40 x41 v29 j) h:=by
 subst e29;exact zaw _ I μ round s0 j h0
theorem zvo (f17:σ -> Value) (I:σ -> Hp -> Prop) (μ:σ -> Nat) (s0:σ) (e17:v17=f17 s0) (h0:h.wf -> ∃ h',h.wk h'∧I s0 h')
 (round:∀ (k1:Env -> Hp -> Prop) (s:σ) (j:Nat -> Value) (h:Hp),I s h -> h.wf -> (∀ s' j' h',μ s'<μ s -> (h'.wf -> ∃ h'',h'.wk h''∧I s' h'') -> k1 (zep x0 x1 x2 x3 x6 x8 x9 x10 x11 x12 x13 x14 x15 x16 x49 x50 x51 x52 (f17 s') j') h') -> d36 [1,1,0,1,0,0] (zyo K E k1) (zep x0 x1 x2 x3 x6 x8 x9 x10 x11 x12 x13 x14 x15 x16 x49 x50 x51 x52 (f17 s) j) h) :
 lp (λk1=>d36 [1,1,0,1,0,0] (zyo K E k1)) (zep x0 x1 x2 x3 x6 x8 x9 x10 x11 x12 x13 x14 x15 x16 x49 x50 x51 x52 v17 j) h:=by
 subst e17;exact zaw _ I μ round s0 j h0
theorem zi1 (f33:σ -> Value) (I:σ -> Hp -> Prop) (μ:σ -> Nat) (s0:σ) (e33:v33=f33 s0) (h0:h.wf -> ∃ h',h.wk h'∧I s0 h')
 (round:∀ (k2:Env -> Hp -> Prop) (s:σ) (j:Nat -> Value) (h:Hp),I s h -> h.wf -> (∀ s' j' h',μ s'<μ s -> (h'.wf -> ∃ h'',h'.wk h''∧I s' h'') -> k2 (zbm x0 x1 x2 x3 x4 x5 x6 x8 x9 x10 x11 x12 x13 x14 x15 x16 x17 x18 x19 x20 x21 x22 x23 x24 x25 x26 x27 x28 x29 x30 x31 x32 x48 x49 x50 x51 x52 (f33 s') j') h') -> d36 [1,1,0,1,0,0,1,1,0,0,1,1,1,1,0,0] (znp K E k1 k2) (zbm x0 x1 x2 x3 x4 x5 x6 x8 x9 x10 x11 x12 x13 x14 x15 x16 x17 x18 x19 x20 x21 x22 x23 x24 x25 x26 x27 x28 x29 x30 x31 x32 x48 x49 x50 x51 x52 (f33 s) j) h) :
 lp (λk2=>d36 [1,1,0,1,0,0,1,1,0,0,1,1,1,1,0,0] (znp K E k1 k2)) (zbm x0 x1 x2 x3 x4 x5 x6 x8 x9 x10 x11 x12 x13 x14 x15 x16 x17 x18 x19 x20 x21 x22 x23 x24 x25 x26 x27 x28 x29 x30 x31 x32 x48 x49 x50 x51 x52 v33 j) h:=by
 subst e33;exact zaw _ I μ round s0 j h0
end
end Go.Proofs.YtlhlhpgjnjjhnaaGreatDoor.T
