import Derived.Test.YtlhlhpgjnjjhnaaGreatDoorProg
import Derived.Test.YtlhlhpgjnjjhnaaGreatDoorZ1
import Derived.RangeFuncGives
import Derived.Shelf.SlIter.Collect
import Derived.Maps.AppendAt
import Derived.Shelf.Abstract
import Derived.Sort.KeysCollected
import Derived.Test.YtlhlhpgjnjjhnaaGreatDoorZ2
import Derived.Shelf.SlSortCmp.InsertionK
import Derived.Lib.Overlaps
import Derived.Laws.Externs
set_option maxHeartbeats 16000000
set_option maxRecDepth 20000
open Go Go.RowKit Go.Proofs.YtlhlhpgjnjjhnaaGreatDoor.K
set_option linter.unusedVariables false
set_option maxRecDepth 100000
namespace Go.Proofs.YtlhlhpgjnjjhnaaGreatDoor.T
section
variable (K:zae) (E:zb2) (k1 k2:Env -> Hp -> Prop) (x0 x1 x2 x3 x4 x5 x6 x7 x8 x9 x10 x11 x12 x13 x14 x15 x16 x17 x18 x19 x20 x21 x22 x23 x24 x25 x26 x27 x28 x29 x30 x31 x32 x33 x34 x35 x36 x37 x38 x39 x40 x41 x42 x43 x44 x45 x46 x47 x48 x49 x50 x51 x52 x53 x54 x55 x56 x57 x58 x59 x60 x61 x62 x63 x64 x65 x66 x67 x68 x69 x70 x71 x72 x73 x74 x75 x76 x77 x78 x79 x80 x81 x82 x83 x84 x85 x86 x87 x88 x89 x90 x91 x92 x93 x94 x95 x96 x97 x98 x99 x100 x101 x102 v0 v3 v4 v5 v6 v8:Value) (j:Nat -> Value)
abbrev q25:=cQ Tryz.f25 K E
abbrev d25:=cD Tryz.f25
theorem t25:d25 [] (q25 K E) #[x0,U,U,U,U,U,U,U,U,U,U,U,U,U,U,U,U,U,U,U,U,U,U,U,U,U] =
 nw 49 (Value.cells x0).toList λt1=>
 ld true 8 t1 λt2=>
 cF 61 #[t2] (λt3=>
 pv (unV .not t3) λt4=>
 cnd t4 (
  K (.tuple #[(.slice none 0 0),(.int .i64 1)])) (
  ld true 8 t1 λt5=>
  cF 63 #[t5] (λt6=>
  cF 62 #[t6] (λt7=>
  pv (exV 0 t7) λt8=>
  pv (exV 1 t7) λt9=>
  pv (za2 .none .neq t9 (.int .i64 0)) λt10=>
  cnd t10 (
  K (.tuple #[(.slice none 0 0),t9])) (
  pv (faV 0 t1) λt11=>
  ld false 1 t11 λt12=>
  nws 5 1 (bsC #[(.int .u8 0)] 1 1 #[(0,t12)]) λt13=>
  zdl 5 1 1 t13 t8 λt14=>
  K (.tuple #[t14,(.int .i64 0)]))) E) E)) E:=by kernel_rfl
abbrev q61:=cQ Tryz.f61 K E
abbrev d61:=cD Tryz.f61
theorem t61:d61 [] (q61 K E) #[x0,U,U,U,U,U,U,U,U,U,U,U,U,U,U,U,U,U,U,U,U,U,U,U,U,U,U,U,U,U,U,U,U,U,U,U,U,U,U,U,U,U,U,U,U,U,U,U,U] =
 nw 49 (Value.cells x0).toList λt1=>
 pv (faV 0 t1) λt2=>
 ld false 1 t2 λt3=>
 pv (za2 .none .lss t3 (.int .u8 1)) λt4=>
 gdK t4 false (λk=>pv (faV 0 t1) k) λt5=>
 gdK t4 false (λk=>ld false 1 t5 k) λt6=>
 gdK t4 false (λk=>pv (za2 .none .gtr t6 (.int .u8 11)) k) λt7=>
 pv (zad t4 (.bool true) t7) λt8=>
 gdK t8 false (λk=>pv (faV 0 t1) k) λt9=>
 gdK t8 false (λk=>ld false 1 t9 k) λt10=>
 gdK t8 false (λk=>pv (za2 .none .eql t10 (.int .u8 4)) k) λt11=>
 gdK t8 false (λk=>k t11) λt12=>
 gdK t12 true (λk=>pv (faV 3 t1) k) λt13=>
 gdK t12 true (λk=>ld false 1 t13 k) λt14=>
 gdK t12 true (λk=>pv (zab t14) k) λt15=>
 gdK t12 true (λk=>pv (za2 .none .gtr t15 (.int .i64 0)) k) λt16=>
 gdK t8 false (λk=>pv (zad t12 t16 (.bool false)) k) λt17=>
 pv (zad t8 (.bool true) t17) λt18=>
 cnd t18 (
  K (.bool false)) (
  pv (faV 0 t1) λt19=>
  ld false 1 t19 λt20=>
  pv (za2 .none .eql t20 (.int .u8 8)) λt21=>
  gdK t21 true (λk=>pv (faV 7 t1) k) λt22=>
  gdK t21 true (λk=>ld false 1 t22 k) λt23=>
  gdK t21 true (λk=>pv (zab t23) k) λt24=>
  gdK t21 true (λk=>pv (za2 .none .gtr t24 (.int .i64 0)) k) λt25=>
  pv (zad t21 t25 (.bool false)) λt26=>
  gdK t26 false (λk=>pv (faV 0 t1) k) λt27=>
  gdK t26 false (λk=>ld false 1 t27 k) λt28=>
  gdK t26 false (λk=>pv (za2 .none .eql t28 (.int .u8 9)) k) λt29=>
  gdK t26 false (λk=>k t29) λt30=>
  gdK t30 true (λk=>pv (faV 5 t1) k) λt31=>
  gdK t30 true (λk=>ld false 1 t31 k) λt32=>
  gdK t30 true (λk=>pv (za2 .none .neq t32 (.int .i64 0)) k) λt33=>
  gdK t30 true (λk=>k t33) λt34=>
  gdK t34 false (λk=>pv (faV 6 t1) k) λt35=>
  gdK t34 false (λk=>ld false 1 t35 k) λt36=>
  gdK t34 false (λk=>pv (za2 .none .neq t36 (.int .i64 0)) k) λt37=>
  gdK t30 true (λk=>pv (zad t34 (.bool true) t37) k) λt38=>
  gdK t26 false (λk=>pv (zad t30 t38 (.bool false)) k) λt39=>
  pv (zad t26 (.bool true) t39) λt40=>
  cnd t40 (
  K (.bool false)) (
  ld true 8 t1 λt41=>
  cF 63 #[t41] (λt42=>
  cF 113 #[t42] (λt43=>
  K t43) E) E)):=by kernel_rfl
abbrev q62:=cQ Tryz.f62 K E
abbrev d62:=cD Tryz.f62
def zh2 (j:Nat -> Value):Env:=#[x0,x1,x2,x3,v4,v5,x6,x7,x8,x9,x10,x11,x12,x13,x14,x15,x16,x17,x18,x19,x20,x21,x22,x23,x24,x25,x26,x27,x28,x29,x30,x31,x32,x33,x34,x35,x36,x37,x38,x39,x40,x41,x42,x43,x44,x45,x46,x47,x48,x49,x50,x51,x52,x53,x54,(j 55),(j 56),(j 57),(j 58),(j 59),(j 60),(j 61),(j 62),(j 63),(j 64),(j 65),(j 66),(j 67),(j 68),(j 69),(j 70),(j 71),(j 72),(j 73),(j 74),(j 75),(j 76),(j 77),(j 78),(j 79),(j 80),(j 81),(j 82),x83,x84,x85,x86,x87,x88,x89,x90,x91,x92,x93,x94,x95,x96,x97,x98,x99,x100,x101,x102]
theorem t62:d62 [] (q62 K E) #[x0,U,U,U,U,U,U,U,U,U,U,U,U,U,U,U,U,U,U,U,U,U,U,U,U,U,U,U,U,U,U,U,U,U,U,U,U,U,U,U,U,U,U,U,U,U,U,U,U,U,U,U,U,U,U,U,U,U,U,U,U,U,U,U,U,U,U,U,U,U,U,U,U,U,U,U,U,U,U,U,U,U,U,U,U,U,U,U,U,U,U,U,U,U,U,U,U,U,U,U,U,U,U] =
 nw 77 (Value.cells x0).toList λt1=>
 ld true 10 t1 λt2=>
 cF 113 #[t2] (λt3=>
 pv (unV .not t3) λt4=>
 cnd t4 (
  K (.tuple #[(.slice none 0 0),(.int .i64 1)])) (
  pv (faV 0 t1) λt5=>
  ld false 1 t5 λt6=>
  nws 5 1 (bsC #[(.int .u8 0)] 1 1 #[(0,t6)]) λt7=>
  pv (faV 1 t1) λt8=>
  ld false 1 t8 λt9=>
  pv (cvV .u64 t9) λt10=>
  cF 106 #[t7,t10,(.int .i64 4)] (λt11=>
  pv (faV 0 t1) λt12=>
  ld false 1 t12 λt13=>
  pv (za2 .none .eql t13 (.int .u8 1)) λt14=>
  cnd t14 (
  pv (faV 3 t1) λt15=>
  ld false 1 t15 λt16=>
  cF 114 #[t11,t16] (λt17=>
  pv (faV 4 t1) λt18=>
  ld false 1 t18 λt19=>
  cF 107 #[t17,t19] (λt20=>
  d62 [1,1,1,1,1] (q62 K E) #[x0,t1,(.slice none 0 0),(.int .i64 0),t20,U,t2,t3,t4,t5,t6,t7,t7,t8,t9,t10,t11,t12,t13,t14,t14,t11,t15,t16,t17,t17,t18,t19,t20,U,U,U,U,U,U,U,U,U,U,U,U,U,U,U,U,U,U,U,U,U,U,U,U,U,U,U,U,U,U,U,U,U,U,U,U,U,U,U,U,U,U,U,U,U,U,U,U,U,U,U,U,U,U,U,U,U,U,U,U,U,U,U,U,U,U,U,U,U,U,U,U,U,U]) E) E) (
  pv (za2 .none .eql t13 (.int .u8 2)) λt21=>
  cnd t21 (
   pv (faV 2 t1) λt22=>
   ld false 1 t22 λt23=>
   pv (cvV .u64 t23) λt24=>
   cF 106 #[t11,t24,(.int .i64 4)] (λt25=>
   pv (faV 3 t1) λt26=>
   ld false 1 t26 λt27=>
   cF 114 #[t25,t27] (λt28=>
   d62 [1,1,1,1,1] (q62 K E) #[x0,t1,(.slice none 0 0),(.int .i64 0),t28,U,t2,t3,t4,t5,t6,t7,t7,t8,t9,t10,t11,t12,t13,t14,t14,U,U,U,U,U,U,U,U,t21,t21,t11,t22,t23,t24,t25,t25,t26,t27,t28,U,U,U,U,U,U,U,U,U,U,U,U,U,U,U,U,U,U,U,U,U,U,U,U,U,U,U,U,U,U,U,U,U,U,U,U,U,U,U,U,U,U,U,U,U,U,U,U,U,U,U,U,U,U,U,U,U,U,U,U,U,U,U]) E) E) (
   pv (za2 .none .eql t13 (.int .u8 6)) λt29=>
   cnd t29 (
   pv (faV 5 t1) λt30=>
   pv (faV 0 t30) λt31=>
   ld false 1 t31 λt32=>
   pv (cvV .u64 t32) λt33=>
   cF 106 #[t11,t33,(.int .i64 4)] (λt34=>
   pv (faV 5 t1) λt35=>
   pv (faV 1 t35) λt36=>
   ld false 1 t36 λt37=>
   pv (zab t37) λt38=>
   pv (cvV .u64 t38) λt39=>
   cF 106 #[t34,t39,(.int .i64 1)] (λt40=>
   lp (λk1=>d62 [1,1,1,1,0,1,0,1,1,1,1,1,0,1,1,1,0,0] (za6 k1 (blk 1 (blk 0 (za6 (d62 [1,1,1,1,1] (q62 K E)) (q62 K E)))))) (zh2 x0 t1 (.slice none 0 0) (.int .i64 0) t2 t3 t4 t5 t6 t7 t7 t8 t9 t10 t11 t12 t13 t14 t14 U U U U U U U U t21 t21 U U U U U U U U U t29 t29 t11 t30 t31 t32 t33 t34 t34 t35 t36 t37 t38 t39 t40 U U U U U U U U U U U U U U U U U U U U t40 (.int .i64 0) (jf #[]))) E) E) (
   pv (za2 .none .eql t13 (.int .u8 7)) λt41=>
   cnd t41 (
    pv (faV 7 t1) λt42=>
    ld false 1 t42 λt43=>
    pv (cvV .u64 t43) λt44=>
    cF 106 #[t11,t44,(.int .i64 4)] (λt45=>
    pv (faV 8 t1) λt46=>
    ld false 1 t46 λt47=>
    pv (cvV .u64 t47) λt48=>
    cF 106 #[t45,t48,(.int .i64 4)] (λt49=>
    pv (faV 9 t1) λt50=>
    ld false 1 t50 λt51=>
    cF 53 #[t49,t51] (λt52=>
    d62 [1,1,1,1,1] (q62 K E) #[x0,t1,(.slice none 0 0),(.int .i64 0),t52,U,t2,t3,t4,t5,t6,t7,t7,t8,t9,t10,t11,t12,t13,t14,t14,U,U,U,U,U,U,U,U,t21,t21,U,U,U,U,U,U,U,U,U,t29,t29,U,U,U,U,U,U,U,U,U,U,U,U,U,U,U,U,U,U,U,U,U,U,U,U,U,U,U,U,U,U,U,U,U,U,U,U,U,U,U,U,U,t41,t41,t11,t42,t43,t44,t45,t45,t46,t47,t48,t49,t49,t50,t51,t52,U,U,U,U]) E) E) E) (
    d62 [1,1,1,1,1] (q62 K E) #[x0,t1,(.slice none 0 0),(.int .i64 0),t11,U,t2,t3,t4,t5,t6,t7,t7,t8,t9,t10,t11,t12,t13,t14,t14,U,U,U,U,U,U,U,U,t21,t21,U,U,U,U,U,U,U,U,U,t29,t29,U,U,U,U,U,U,U,U,U,U,U,U,U,U,U,U,U,U,U,U,U,U,U,U,U,U,U,U,U,U,U,U,U,U,U,U,U,U,U,U,U,t41,t41,U,U,U,U,U,U,U,U,U,U,U,U,U,U,U,U,U,U]))))) E)) E:=by kernel_rfl
theorem zik:d62 [1,1,1,1,1] (q62 K E) #[x0,x1,x2,x3,x4,x5,x6,x7,x8,x9,x10,x11,x12,x13,x14,x15,x16,x17,x18,x19,x20,x21,x22,x23,x24,x25,x26,x27,x28,x29,x30,x31,x32,x33,x34,x35,x36,x37,x38,x39,x40,x41,x42,x43,x44,x45,x46,x47,x48,x49,x50,x51,x52,x53,x54,x55,x56,x57,x58,x59,x60,x61,x62,x63,x64,x65,x66,x67,x68,x69,x70,x71,x72,x73,x74,x75,x76,x77,x78,x79,x80,x81,x82,x83,x84,x85,x86,x87,x88,x89,x90,x91,x92,x93,x94,x95,x96,x97,x98,x99,x100,x101,x102] =
 pv (zab x4) λt1=>
 pv (za2 .none .gtr t1 (.int .i64 60000)) λt2=>
 cnd t2 (
  K (.tuple #[(.slice none 0 0),(.int .i64 3)])) (
  K (.tuple #[x4,(.int .i64 0)])):=by kernel_rfl
abbrev q63:=cQ Tryz.f63 K E
abbrev d63:=cD Tryz.f63
theorem t63:d63 [] (q63 K E) #[x0,U,U,U,U,U,U,U,U,U,U,U,U,U,U,U,U,U,U,U,U,U,U,U,U,U,U,U,U,U,U,U,U] =
 nw 49 (Value.cells x0).toList λt1=>
 nw 77 [(.int .u8 0),(.int .u32 0),(.int .u32 0),(.slice none 0 0),(.slice none 0 0),(.int .u32 0),(.slice none 0 0),(.int .i64 0),(.int .i64 0),(.slice none 0 0)] λt2=>
 pv (faV 1 t1) λt3=>
 ld false 1 t3 λt4=>
 pv (faV 2 t1) λt5=>
 ld false 1 t5 λt6=>
 pv (faV 3 t1) λt7=>
 ld false 1 t7 λt8=>
 pv (faV 4 t1) λt9=>
 ld false 1 t9 λt10=>
 pv (faV 5 t1) λt11=>
 ld false 1 t11 λt12=>
 pv (faV 6 t1) λt13=>
 ld false 1 t13 λt14=>
 pv (faV 7 t1) λt15=>
 ld false 1 t15 λt16=>
 pv (bdC #[(.int .u8 0),(.int .u32 0),(.int .u32 0),(.slice none 0 0),(.slice none 0 0),(.int .u32 0),(.slice none 0 0),(.int .i64 0),(.int .i64 0),(.slice none 0 0)] [(0,1),(1,1),(2,1),(3,1),(4,1),(5,2),(7,1),(8,1),(9,1)] #[(0,(.int .u8 4)),(1,t4),(2,t6),(3,t8),(4,t10),(6,t12),(7,t14),(8,t16)]) λt17=>
 nw 77 [(.int .u8 0),(.int .u32 0),(.int .u32 0),(.slice none 0 0),(.slice none 0 0),(.int .u32 0),(.slice none 0 0),(.int .i64 0),(.int .i64 0),(.slice none 0 0)] λt18=>
 st 10 t18 t17 λ_=>
 pv (faV 0 t1) λt19=>
 ld false 1 t19 λt20=>
 pv (za2 .none .eql t20 (.int .u8 1)) λt21=>
 cnd t21 (
  pv (faV 0 t18) λt22=>
  st 1 t22 (.int .u8 1) λ_=>
  d63 [1,1,1] (q63 K E) #[x0,t1,t2,t18,t3,t4,t5,t6,t7,t8,t9,t10,t11,t12,t13,t14,t15,t16,t17,t19,t20,t21,t21,t22,U,U,U,U,U,U,U,U,U]) (
  pv (za2 .none .eql t20 (.int .u8 4)) λt23=>
  cnd t23 (
  pv (faV 0 t18) λt24=>
  st 1 t24 (.int .u8 2) λ_=>
  d63 [1,1,1] (q63 K E) #[x0,t1,t2,t18,t3,t4,t5,t6,t7,t8,t9,t10,t11,t12,t13,t14,t15,t16,t17,t19,t20,t21,t21,U,t23,t23,t24,U,U,U,U,U,U]) (
  pv (za2 .none .eql t20 (.int .u8 8)) λt25=>
  cnd t25 (
   d63 [1,1,0,1,0,1,1,1,1,1] (blk 0 (za6 (d63 [1,1,1] (q63 K E)) (q63 K E))) #[x0,t1,t2,t18,t3,t4,t5,t6,t7,t8,t9,t10,t11,t12,t13,t14,t15,t16,t17,t19,t20,t21,t21,U,t23,t23,U,t25,t25,U,U,U,U]) (
   pv (za2 .none .eql t20 (.int .u8 9)) λt26=>
   cnd t26 (
   d63 [1,1,0,1,0,1,1,1,1,1] (blk 0 (za6 (d63 [1,1,1] (q63 K E)) (q63 K E))) #[x0,t1,t2,t18,t3,t4,t5,t6,t7,t8,t9,t10,t11,t12,t13,t14,t15,t16,t17,t19,t20,t21,t21,U,t23,t23,U,t26,t25,t26,U,U,U]) (
   pv (za2 .none .eql t20 (.int .u8 10)) λt27=>
   d63 [1,1,0,1,0,1,1,1,1,1] (blk 0 (za6 (d63 [1,1,1] (q63 K E)) (q63 K E))) #[x0,t1,t2,t18,t3,t4,t5,t6,t7,t8,t9,t10,t11,t12,t13,t14,t15,t16,t17,t19,t20,t21,t21,U,t23,t23,U,t27,t25,t26,t27,U,U])))):=by kernel_rfl
theorem zj2:d63 [1,1,1] (q63 K E) #[x0,x1,x2,x3,x4,x5,x6,x7,x8,x9,x10,x11,x12,x13,x14,x15,x16,x17,x18,x19,x20,x21,x22,x23,x24,x25,x26,x27,x28,x29,x30,x31,x32] =
 ld true 10 x3 λt1=>
 st 10 x2 t1 λ_=>
 ld true 10 x2 λt2=>
 K t2:=by kernel_rfl
theorem zdv:d63 [1,1,0,1,0,1,1,1,1,1] (blk 0 (za6 (d63 [1,1,1] (q63 K E)) (q63 K E))) #[x0,x1,x2,x3,x4,x5,x6,x7,x8,x9,x10,x11,x12,x13,x14,x15,x16,x17,x18,x19,x20,x21,x22,x23,x24,x25,x26,x27,x28,x29,x30,x31,x32] =
 cnd x27 (
  pv (faV 0 x3) λt1=>
  st 1 t1 (.int .u8 7) λ_=>
  d63 [1,1,1] (q63 K E) #[x0,x1,x2,x3,x4,x5,x6,x7,x8,x9,x10,x11,x12,x13,x14,x15,x16,x17,x18,x19,x20,x21,x22,x23,x24,x25,x26,x27,x28,x29,x30,t1,x32]) (
  d63 [1,1,1] (q63 K E) #[x0,x1,x2,x3,x4,x5,x6,x7,x8,x9,x10,x11,x12,x13,x14,x15,x16,x17,x18,x19,x20,x21,x22,x23,x24,x25,x26,x27,x28,x29,x30,x31,x32]):=by kernel_rfl
abbrev znq:=cQ Tryz.f113 K E
abbrev znu:=cD Tryz.f113
theorem yjb:znu [] (znq K E) #[x0,U,U,U,U,U,U,U,U,U,U,U,U,U,U,U,U,U,U,U,U,U,U,U,U,U,U,U,U,U,U,U,U,U,U,U,U,U,U,U,U,U,U,U,U,U,U,U,U,U,U,U,U,U,U,U,U,U,U,U,U,U,U,U,U,U,U,U,U,U,U,U,U] =
 nw 77 (Value.cells x0).toList λt1=>
 pv (faV 0 t1) λt2=>
 ld false 1 t2 λt3=>
 pv (za2 .none .eql t3 (.int .u8 1)) λt4=>
 cnd t4 (
  ld true 10 t1 λt5=>
  cF 156 #[t5,(.string ⟨#[73,78,70]⟩)] (λt6=>
  gdK t6 true (λk=>pv (faV 3 t1) k) λt7=>
  gdK t6 true (λk=>ld false 1 t7 k) λt8=>
  gdK t6 true (λk=>cF 157 #[t8] k E) λt9=>
  pv (zad t6 t9 (.bool false)) λt10=>
  gdK t10 true (λk=>pv (faV 4 t1) k) λt11=>
  gdK t10 true (λk=>ld false 1 t11 k) λt12=>
  gdK t10 true (λk=>cF 158 #[t12] k E) λt13=>
  pv (zad t10 t13 (.bool false)) λt14=>
  K t14) E) (
  pv (za2 .none .eql t3 (.int .u8 2)) λt15=>
  cnd t15 (
  ld true 10 t1 λt16=>
  cF 156 #[t16,(.string ⟨#[73,65,78]⟩)] (λt17=>
  gdK t17 true (λk=>pv (faV 3 t1) k) λt18=>
  gdK t17 true (λk=>ld false 1 t18 k) λt19=>
  gdK t17 true (λk=>cF 157 #[t19] k E) λt20=>
  pv (zad t17 t20 (.bool false)) λt21=>
  K t21) E) (
  pv (za2 .none .eql t3 (.int .u8 3)) λt22=>
  cnd t22 (
   znu [1,0,1,0,1,1,1,1,1] (blk 0 (za6 (znu [1,1] (znq K E)) (znq K E))) #[x0,t1,(.bool false),t2,t3,t4,t4,U,U,U,U,U,U,U,U,U,U,U,U,t15,t15,U,U,U,U,U,U,U,t22,t22,U,U,U,U,U,U,U,U,U,U,U,U,U,U,U,U,U,U,U,U,U,U,U,U,U,U,U,U,U,U,U,U,U,U,U,U,U,U,U,U,U,U,U]) (
   pv (za2 .none .eql t3 (.int .u8 4)) λt23=>
   cnd t23 (
   znu [1,0,1,0,1,1,1,1,1] (blk 0 (za6 (znu [1,1] (znq K E)) (znq K E))) #[x0,t1,(.bool false),t2,t3,t4,t4,U,U,U,U,U,U,U,U,U,U,U,U,t15,t15,U,U,U,U,U,U,U,t23,t22,t23,U,U,U,U,U,U,U,U,U,U,U,U,U,U,U,U,U,U,U,U,U,U,U,U,U,U,U,U,U,U,U,U,U,U,U,U,U,U,U,U,U,U]) (
   pv (za2 .none .eql t3 (.int .u8 5)) λt24=>
   znu [1,0,1,0,1,1,1,1,1] (blk 0 (za6 (znu [1,1] (znq K E)) (znq K E))) #[x0,t1,(.bool false),t2,t3,t4,t4,U,U,U,U,U,U,U,U,U,U,U,U,t15,t15,U,U,U,U,U,U,U,t24,t22,t23,t24,U,U,U,U,U,U,U,U,U,U,U,U,U,U,U,U,U,U,U,U,U,U,U,U,U,U,U,U,U,U,U,U,U,U,U,U,U,U,U,U,U])))):=by kernel_rfl
theorem zee:znu [1,0,1,0,1,1,1,1,1] (blk 0 (za6 (znu [1,1] (znq K E)) (znq K E))) #[x0,x1,x2,x3,x4,x5,x6,x7,x8,x9,x10,x11,x12,x13,x14,x15,x16,x17,x18,x19,x20,x21,x22,x23,x24,x25,x26,x27,x28,x29,x30,x31,x32,x33,x34,x35,x36,x37,x38,x39,x40,x41,x42,x43,x44,x45,x46,x47,x48,x49,x50,x51,x52,x53,x54,x55,x56,x57,x58,x59,x60,x61,x62,x63,x64,x65,x66,x67,x68,x69,x70,x71,x72] =
 cnd x28 (
  ld true 10 x1 λt1=>
  cF 156 #[t1,(.string ⟨#[73]⟩)] (λt2=>
  K t2) E) (
  pv (za2 .none .eql x4 (.int .u8 6)) λt3=>
  cnd t3 (
  ld true 10 x1 λt4=>
  cF 156 #[t4,(.string ⟨#[77]⟩)] (λt5=>
  gdK t5 true (λk=>pv (faV 5 x1) k) λt6=>
  gdK t5 true (λk=>pv (faV 1 t6) k) λt7=>
  gdK t5 true (λk=>ld false 1 t7 k) λt8=>
  gdK t5 true (λk=>cF 159 #[t8] k E) λt9=>
  pv (zad t5 t9 (.bool false)) λt10=>
  K t10) E) (
  pv (za2 .none .eql x4 (.int .u8 7)) λt11=>
  cnd t11 (
   ld true 10 x1 λt12=>
   cF 156 #[t12,(.string ⟨#[73,82]⟩)] (λt13=>
   gdK t13 true (λk=>pv (faV 9 x1) k) λt14=>
   gdK t13 true (λk=>ld false 1 t14 k) λt15=>
   gdK t13 true (λk=>cF 160 #[t15] k E) λt16=>
   pv (zad t13 t16 (.bool false)) λt17=>
   gdK t17 true (λk=>pv (faV 7 x1) k) λt18=>
   gdK t17 true (λk=>ld false 1 t18 k) λt19=>
   gdK t17 true (λk=>pv (za2 .none .geq t19 (.int .i64 0)) k) λt20=>
   pv (zad t17 t20 (.bool false)) λt21=>
   gdK t21 true (λk=>pv (faV 7 x1) k) λt22=>
   gdK t21 true (λk=>ld false 1 t22 k) λt23=>
   gdK t21 true (λk=>pv (za2 .none .leq t23 (.int .i64 10000)) k) λt24=>
   pv (zad t21 t24 (.bool false)) λt25=>
   gdK t25 true (λk=>pv (faV 8 x1) k) λt26=>
   gdK t25 true (λk=>ld false 1 t26 k) λt27=>
   gdK t25 true (λk=>pv (za2 .none .geq t27 (.int .i64 0)) k) λt28=>
   pv (zad t25 t28 (.bool false)) λt29=>
   gdK t29 true (λk=>pv (faV 8 x1) k) λt30=>
   gdK t29 true (λk=>ld false 1 t30 k) λt31=>
   gdK t29 true (λk=>pv (za2 .none .leq t31 (.int .i64 10000)) k) λt32=>
   pv (zad t29 t32 (.bool false)) λt33=>
   K t33) E) (
   K (.bool false)))):=by kernel_rfl
abbrev yka:=cQ Tryz.f114 K E
abbrev zwp:=cD Tryz.f114
abbrev zty:=za6 k1 (blk 0 (za6 (zwp [1,1,1] (yka K E)) (yka K E)))
def ze1 (j:Nat -> Value):Env:=#[v0,x1,x2,x3,x4,v5,x6,x7,x8,x9,x10,(j 11),(j 12),(j 13),(j 14),(j 15),(j 16),(j 17),(j 18),(j 19),(j 20),(j 21),(j 22),(j 23),x24]
theorem t114:zwp [] (yka K E) #[x0,x1,U,U,U,U,U,U,U,U,U,U,U,U,U,U,U,U,U,U,U,U,U,U,U] =
 pv (zab x1) λt1=>
 pv (cvV .u64 t1) λt2=>
 cF 106 #[x0,t2,(.int .i64 1)] (λt3=>
 lp (λk1=>zwp [1,1,0,1,0,0] (zty K E k1)) (ze1 x1 U U (.slice none 0 0) x0 x1 t1 t2 t3 U t3 (.int .i64 0) (jf #[]))) E:=by kernel_rfl
theorem zsf:zwp [1,1,0,1,0,0] (zty K E k1) (ze1 x1 x2 x3 x4 x6 x7 x8 x9 x10 x24 v0 v5 j) =
 pv (zab x1) λt1=>
 pv (za2 .none .lss v5 t1) λt2=>
 cnd t2 (
  pv (iaV none 1 x1 v5) λt3=>
  ld false 1 t3 λt4=>
  pv (cvV .u64 t4) λt5=>
  cF 106 #[v0,t5,(.int .i64 1)] (λt6=>
  pv (za2 .none .add v5 (.int .i64 1)) λt7=>
  k1 (ze1 x1 x2 x3 x4 x6 x7 x8 x9 x10 x24 t6 t7 (jf #[U,U,U,U,U,U,U,U,U,U,U,v5,x1,t1,t2,v5,t7,v0,x1,v5,t3,t4,t5,t6]))) E) (
  K v0):=by kernel_rfl
abbrev yjm:=cQ Tryz.f157 K E
abbrev zxm:=cD Tryz.f157
abbrev zuo:=za6 k1 (blk 0 (za6 (zxm [1,1] (yjm K E)) (yjm K E)))
def zf1 (j:Nat -> Value):Env:=#[x0,x1,(j 2),v3,(j 4),(j 5),(j 6),(j 7),(j 8),(j 9),(j 10),(j 11),(j 12),(j 13),(j 14),(j 15),(j 16),(j 17),(j 18),(j 19),(j 20),(j 21),(j 22),(j 23),(j 24),(j 25),(j 26),(j 27),(j 28),(j 29),(j 30),(j 31),(j 32),(j 33),(j 34),(j 35),(j 36),(j 37)]
theorem ys7:zxm [] (yjm K E) #[x0,U,U,U,U,U,U,U,U,U,U,U,U,U,U,U,U,U,U,U,U,U,U,U,U,U,U,U,U,U,U,U,U,U,U,U,U,U] =
 lp (λk1=>zxm [1,0,1,0,0] (zuo K E k1)) (zf1 x0 U (.int .i64 0) (jf #[U,U,(.bool false)])):=by kernel_rfl
theorem zw3:zxm [1,0,1,0,0] (zuo K E k1) (zf1 x0 x1 v3 j) =
 pv (zab x0) λt1=>
 pv (za2 .none .lss v3 t1) λt2=>
 cnd t2 (
  pv (iaV none 1 x0 v3) λt3=>
  ld false 1 t3 λt4=>
  pv (za2 .none .lss t4 (.int .i64 0)) λt5=>
  gdK t5 false (λk=>k x0) λt6=>
  gdK t5 false (λk=>k v3) λt7=>
  gdK t5 false (λk=>pv (iaV none 1 t6 t7) k) λt8=>
  gdK t5 false (λk=>ld false 1 t8 k) λt9=>
  gdK t5 false (λk=>pv (za2 .none .gtr t9 (.int .i64 5)) k) λt10=>
  pv (zad t5 (.bool true) t10) λt11=>
  gdK t11 false (λk=>k v3) λt12=>
  gdK t11 false (λk=>pv (za2 .none .gtr t12 (.int .i64 0)) k) λt13=>
  gdK t11 false (λk=>k t13) λt14=>
  gdK t14 true (λk=>k x0) λt15=>
  gdK t14 true (λk=>k v3) λt16=>
  gdK t14 true (λk=>pv (iaV none 1 t15 t16) k) λt17=>
  gdK t14 true (λk=>ld false 1 t17 k) λt18=>
  gdK t14 true (λk=>k x0) λt19=>
  gdK t14 true (λk=>k v3) λt20=>
  gdK t14 true (λk=>pv (za2 .none .sub t20 (.int .i64 1)) k) λt21=>
  gdK t14 true (λk=>pv (iaV none 1 t19 t21) k) λt22=>
  gdK t14 true (λk=>ld false 1 t22 k) λt23=>
  gdK t14 true (λk=>pv (za2 .none .leq t18 t23) k) λt24=>
  gdK t11 false (λk=>pv (zad t14 t24 (.bool false)) k) λt25=>
  pv (zad t11 (.bool true) t25) λt26=>
  cnd t26 (
  K (.bool false)) (
  pv (za2 .none .add v3 (.int .i64 1)) λt27=>
  k1 (zf1 x0 x1 t27 (jf #[U,U,(j 2),U,v3,x0,t1,t2,v3,t27,x0,v3,t3,t4,t5,t5,t6,t7,t8,t9,t10,t11,t11,t12,t13,t14,t15,t16,t17,t18,t19,t20,t21,t22,t23,t24,t25,t26])))) (
  K (.bool true)):=by kernel_rfl
abbrev zm0:=cQ Tryz.f158 K E
abbrev zhd:=cD Tryz.f158
abbrev zvn:=za6 k2 (blk 2 (za6 (zhd [1,0,1,0,0,1,0,0,1] (blk 1 (za6 (zhd [1,0,1,0,0,1,1] (za6 k1 (blk 0 (za6 (zhd [1,1] (zm0 K E)) (zm0 K E))))) (za6 k1 (blk 0 (za6 (zhd [1,1] (zm0 K E)) (zm0 K E))))))) (blk 1 (za6 (zhd [1,0,1,0,0,1,1] (za6 k1 (blk 0 (za6 (zhd [1,1] (zm0 K E)) (zm0 K E))))) (za6 k1 (blk 0 (za6 (zhd [1,1] (zm0 K E)) (zm0 K E))))))))
abbrev zut:=za6 k1 (blk 0 (za6 (zhd [1,1] (zm0 K E)) (zm0 K E)))
def zf9 (j:Nat -> Value):Env:=#[x0,x1,(j 2),v3,(j 4),(j 5),(j 6),(j 7),(j 8),(j 9),(j 10),(j 11),(j 12),(j 13),(j 14),(j 15),(j 16),(j 17),(j 18),(j 19),(j 20),(j 21),(j 22),(j 23),(j 24),(j 25),(j 26),(j 27),(j 28),(j 29),(j 30),(j 31),(j 32),(j 33),(j 34),(j 35),(j 36),(j 37),(j 38),(j 39),(j 40),(j 41),(j 42),(j 43),(j 44),(j 45),(j 46),(j 47),x48,x49,x50]
def zbz (j:Nat -> Value):Env:=#[x0,x1,(j 2),x3,v4,x5,x6,x7,x8,x9,x10,(j 11),(j 12),(j 13),(j 14),(j 15),(j 16),(j 17),(j 18),(j 19),(j 20),(j 21),(j 22),(j 23),(j 24),(j 25),(j 26),(j 27),(j 28),(j 29),(j 30),(j 31),(j 32),(j 33),(j 34),(j 35),(j 36),(j 37),(j 38),(j 39),(j 40),x41,x42,x43,x44,x45,x46,x47,x48,x49,x50]
theorem ywj:zhd [] (zm0 K E) #[x0,U,U,U,U,U,U,U,U,U,U,U,U,U,U,U,U,U,U,U,U,U,U,U,U,U,U,U,U,U,U,U,U,U,U,U,U,U,U,U,U,U,U,U,U,U,U,U,U,U,U] =
 lp (λk1=>zhd [1,0,1,0,0] (zut K E k1)) (zf9 x0 U U U U (.int .i64 0) (jf #[U,U,(.bool false)])):=by kernel_rfl
theorem zxa:zhd [1,0,1,0,0] (zut K E k1) (zf9 x0 x1 x48 x49 x50 v3 j) =
 pv (zab x0) λt1=>
 pv (za2 .none .lss v3 t1) λt2=>
 cnd t2 (
  lp (λk2=>zhd [1,0,1,0,0,1,0,0,0,1,0,0] (zvn K E k1 k2)) (zbz x0 x1 v3 v3 x0 t1 t2 (j 9) (j 10) (j 41) (j 42) (j 43) (j 44) (j 45) (j 46) (j 47) x48 x49 x50 (.int .i64 0) (jf #[U,U,(j 2),U,U,U,U,U,U,U,U,(j 11),(j 12),(j 13),(j 14),(j 15),(j 16),(j 17),(j 18),(j 19),(j 20),(j 21),(j 22),(j 23),(j 24),(j 25),(j 26),(j 27),(j 28),(j 29),(j 30),(j 31),(j 32),(j 33),(j 34),(j 35),(j 36),(j 37),(j 38),(j 39),(j 40)]))) (
  pv (zab x0) λt3=>
  pv (za2 .none .leq t3 (.int .i64 200)) λt4=>
  K t4):=by kernel_rfl
theorem zk8:zhd [1,0,1,0,0,1,0,0,0,1,0,0] (zvn K E k1 k2) (zbz x0 x1 x3 x5 x6 x7 x8 x9 x10 x41 x42 x43 x44 x45 x46 x47 x48 x49 x50 v4 j) =
 pv (iaV none 2 x0 x3) λt1=>
 pv (faV 0 t1) λt2=>
 ld false 1 t2 λt3=>
 pv (zab t3) λt4=>
 pv (za2 .none .lss v4 t4) λt5=>
 cnd t5 (
  pv (iaV none 2 x0 x3) λt6=>
  pv (faV 0 t6) λt7=>
  ld false 1 t7 λt8=>
  pv (iaV none 1 t8 v4) λt9=>
  ld false 1 t9 λt10=>
  pv (za2 .none .lss t10 (.int .i64 0)) λt11=>
  gdK t11 false (λk=>k x0) λt12=>
  gdK t11 false (λk=>k x3) λt13=>
  gdK t11 false (λk=>pv (iaV none 2 t12 t13) k) λt14=>
  gdK t11 false (λk=>pv (faV 0 t14) k) λt15=>
  gdK t11 false (λk=>ld false 1 t15 k) λt16=>
  gdK t11 false (λk=>k v4) λt17=>
  gdK t11 false (λk=>pv (iaV none 1 t16 t17) k) λt18=>
  gdK t11 false (λk=>ld false 1 t18 k) λt19=>
  gdK t11 false (λk=>pv (za2 .none .gtr t19 (.int .i64 9999)) k) λt20=>
  pv (zad t11 (.bool true) t20) λt21=>
  cnd t21 (
  K (.bool false)) (
  pv (za2 .none .add v4 (.int .i64 1)) λt22=>
  k2 (zbz x0 x1 x3 x5 x6 x7 x8 x9 x10 x41 x42 x43 x44 x45 x46 x47 x48 x49 x50 t22 (jf #[U,U,(j 2),U,U,U,U,U,U,U,U,v4,x0,x3,t1,t2,t3,t4,t5,v4,t22,x0,x3,t6,t7,t8,v4,t9,t10,t11,t11,t12,t13,t14,t15,t16,t17,t18,t19,t20,t21])))) (
  pv (iaV none 2 x0 x3) λt23=>
  pv (faV 0 t23) λt24=>
  ld false 1 t24 λt25=>
  pv (zab t25) λt26=>
  pv (za2 .none .gtr t26 (.int .i64 4)) λt27=>
  cnd t27 (
  K (.bool false)) (
  pv (za2 .none .add x3 (.int .i64 1)) λt28=>
  k1 (zf9 x0 x1 x48 x49 x50 t28 (jf #[U,U,(j 2),U,v4,x5,x6,x7,x8,x3,t28,v4,x0,x3,t1,t2,t3,t4,t5,(j 19),(j 20),(j 21),(j 22),(j 23),(j 24),(j 25),(j 26),(j 27),(j 28),(j 29),(j 30),(j 31),(j 32),(j 33),(j 34),(j 35),(j 36),(j 37),(j 38),(j 39),(j 40),x0,x3,t23,t24,t25,t26,t27])))):=by kernel_rfl
abbrev yla:=cQ Tryz.f160 K E
abbrev zxf:=cD Tryz.f160
abbrev zug:=za6 k1 (blk 0 (za6 (zxf [1,1] (yla K E)) (yla K E)))
def zf2 (j:Nat -> Value):Env:=#[x0,x1,(j 2),v3,(j 4),(j 5),(j 6),(j 7),(j 8),(j 9),(j 10),(j 11),(j 12),(j 13),(j 14),(j 15),(j 16),(j 17),(j 18),(j 19),(j 20),(j 21),(j 22),(j 23),(j 24),(j 25),(j 26),(j 27),(j 28),(j 29),(j 30),(j 31),(j 32),(j 33),(j 34),x35,x36,x37]
theorem yxd:zxf [] (yla K E) #[x0,U,U,U,U,U,U,U,U,U,U,U,U,U,U,U,U,U,U,U,U,U,U,U,U,U,U,U,U,U,U,U,U,U,U,U,U,U] =
 lp (λk1=>zxf [1,0,1,0,0] (zug K E k1)) (zf2 x0 U U U U (.int .i64 0) (jf #[U,U,(.bool false)])):=by kernel_rfl
theorem zx1:zxf [1,0,1,0,0] (zug K E k1) (zf2 x0 x1 x35 x36 x37 v3 j) =
 pv (zab x0) λt1=>
 pv (za2 .none .lss v3 t1) λt2=>
 cnd t2 (
  pv (iaV none 2 x0 v3) λt3=>
  pv (faV 1 t3) λt4=>
  ld false 1 t4 λt5=>
  cF 158 #[t5] (λt6=>
  pv (unV .not t6) λt7=>
  gdK t7 false (λk=>k v3) λt8=>
  gdK t7 false (λk=>pv (za2 .none .gtr t8 (.int .i64 0)) k) λt9=>
  gdK t7 false (λk=>k t9) λt10=>
  gdK t10 true (λk=>k x0) λt11=>
  gdK t10 true (λk=>k v3) λt12=>
  gdK t10 true (λk=>pv (iaV none 2 t11 t12) k) λt13=>
  gdK t10 true (λk=>pv (faV 0 t13) k) λt14=>
  gdK t10 true (λk=>ld false 1 t14 k) λt15=>
  gdK t10 true (λk=>k x0) λt16=>
  gdK t10 true (λk=>k v3) λt17=>
  gdK t10 true (λk=>pv (za2 .none .sub t17 (.int .i64 1)) k) λt18=>
  gdK t10 true (λk=>pv (iaV none 2 t16 t18) k) λt19=>
  gdK t10 true (λk=>pv (faV 0 t19) k) λt20=>
  gdK t10 true (λk=>ld false 1 t20 k) λt21=>
  gdK t10 true (λk=>pv (za2 .none .leq t15 t21) k) λt22=>
  gdK t7 false (λk=>pv (zad t10 t22 (.bool false)) k) λt23=>
  pv (zad t7 (.bool true) t23) λt24=>
  cnd t24 (
  K (.bool false)) (
  pv (za2 .none .add v3 (.int .i64 1)) λt25=>
  k1 (zf2 x0 x1 x35 x36 x37 t25 (jf #[U,U,(j 2),U,v3,x0,t1,t2,v3,t25,x0,v3,t3,t4,t5,t6,t7,t7,t8,t9,t10,t11,t12,t13,t14,t15,t16,t17,t18,t19,t20,t21,t22,t23,t24])))) E) (
  pv (zab x0) λt26=>
  pv (za2 .none .leq t26 (.int .i64 5000)) λt27=>
  K t27):=by kernel_rfl
abbrev q18:=cQ Tryz.f18 K E
abbrev d18:=cD Tryz.f18
theorem t18:d18 [] (q18 K E) #[x0,U,U,U,U,U,U,U,U,U,U,U,U,U,U,U,U,U,U,U,U,U,U,U,U,U,U,U,U,U,U,U,U,U,U,U,U,U,U,U,U,U,U,U,U,U,U,U,U,U,U,U,U,U,U,U,U] =
 nw 49 [(.int .u8 0),(.int .u32 0),(.int .u32 0),(.slice none 0 0),(.slice none 0 0),(.int .i64 0),(.int .i64 0),(.slice none 0 0)] λt1=>
 pv (zab x0) λt2=>
 pv (za2 .none .lss t2 (.int .i64 1)) λt3=>
 cnd t3 (
  pv (bdC #[(.int .u8 0),(.int .u32 0),(.int .u32 0),(.slice none 0 0),(.slice none 0 0),(.int .i64 0),(.int .i64 0),(.slice none 0 0)] [(0,1),(1,1),(2,1),(3,1),(4,1),(5,1),(6,1),(7,1)] #[]) λt4=>
  st 8 t1 t4 λ_=>
  ld true 8 t1 λt5=>
  K (.tuple #[t5,(.int .i64 160)])) (
  pv (slV 1 x0 (some (.int .i64 1)) none none) λt6=>
  cF 50 #[t6] (λt7=>
  pv (exV 0 t7) λt8=>
  pv (exV 1 t7) λt9=>
  nw 77 [(.int .u8 0),(.int .u32 0),(.int .u32 0),(.slice none 0 0),(.slice none 0 0),(.int .u32 0),(.slice none 0 0),(.int .i64 0),(.int .i64 0),(.slice none 0 0)] λt10=>
  st 10 t10 t8 λ_=>
  pv (iaV none 1 x0 (.int .i64 0)) λt11=>
  ld false 1 t11 λt12=>
  pv (faV 1 t10) λt13=>
  ld false 1 t13 λt14=>
  pv (faV 2 t10) λt15=>
  ld false 1 t15 λt16=>
  pv (faV 3 t10) λt17=>
  ld false 1 t17 λt18=>
  pv (faV 4 t10) λt19=>
  ld false 1 t19 λt20=>
  pv (faV 7 t10) λt21=>
  ld false 1 t21 λt22=>
  pv (faV 8 t10) λt23=>
  ld false 1 t23 λt24=>
  pv (faV 9 t10) λt25=>
  ld false 1 t25 λt26=>
  pv (bdC #[(.int .u8 0),(.int .u32 0),(.int .u32 0),(.slice none 0 0),(.slice none 0 0),(.int .i64 0),(.int .i64 0),(.slice none 0 0)] [(0,1),(1,1),(2,1),(3,1),(4,1),(5,1),(6,1),(7,1)] #[(0,t12),(1,t14),(2,t16),(3,t18),(4,t20),(5,t22),(6,t24),(7,t26)]) λt27=>
  nw 49 [(.int .u8 0),(.int .u32 0),(.int .u32 0),(.slice none 0 0),(.slice none 0 0),(.int .i64 0),(.int .i64 0),(.slice none 0 0)] (λt28 h29=>(ldV h29 false 1 t25 t26)∧(ldV h29 false 1 t23 t24)∧(ldV h29 false 1 t21 t22)∧(ldV h29 false 1 t19 t20)∧(ldV h29 false 1 t17 t18)∧(ldV h29 false 1 t15 t16)∧(ldV h29 false 1 t13 t14)∧(ldV h29 false 1 t11 t12)∧(
  st 8 t28 t27 λ_=>
  ld true 8 t28 λt30=>
  cF 25 #[t30] (λt31=>
  pv (exV 0 t31) λt32=>
  pv (exV 1 t31) λt33=>
  pv (za2 .none .neq t9 (.int .i64 0)) λt34=>
  gdK t34 false (λk=>k t33) λt35=>
  gdK t34 false (λk=>pv (za2 .none .neq t35 (.int .i64 0)) k) λt36=>
  pv (zad t34 (.bool true) t36) λt37=>
  gdK t37 false (λk=>k t32) λt38=>
  gdK t37 false (λk=>bs t38 k) λt39=>
  gdK t37 false (λk=>k x0) λt40=>
  gdK t37 false (λk=>bs t40 k) λt41=>
  gdK t37 false (λk=>pv (za2 .none .neq t39 t41) k) λt42=>
  pv (zad t37 (.bool true) t42) λt43=>
  cnd t43 (
   pv (bdC #[(.int .u8 0),(.int .u32 0),(.int .u32 0),(.slice none 0 0),(.slice none 0 0),(.int .i64 0),(.int .i64 0),(.slice none 0 0)] [(0,1),(1,1),(2,1),(3,1),(4,1),(5,1),(6,1),(7,1)] #[]) λt44=>
   st 8 t1 t44 λ_=>
   ld true 8 t1 λt45=>
   K (.tuple #[t45,(.int .i64 160)])) (
   ld true 8 t28 λt46=>
   st 8 t1 t46 λ_=>
   ld true 8 t1 λt47=>
   K (.tuple #[t47,(.int .i64 0)]))) E) h29)) E):=by kernel_rfl
abbrev q50:=cQ Tryz.f50 K E
abbrev d50:=cD Tryz.f50
theorem t50:d50 [] (q50 K E) #[x0,U,U,U,U,U,U,U,U,U,U,U,U,U,U,U,U,U,U,U,U,U,U,U,U,U,U,U,U,U,U,U,U,U,U,U,U,U,U] =
 nw 77 [(.int .u8 0),(.int .u32 0),(.int .u32 0),(.slice none 0 0),(.slice none 0 0),(.int .u32 0),(.slice none 0 0),(.int .i64 0),(.int .i64 0),(.slice none 0 0)] λt1=>
 pv (zab x0) λt2=>
 pv (za2 .none .gtr t2 (.int .i64 60000)) λt3=>
 cnd t3 (
  pv (bdC #[(.int .u8 0),(.int .u32 0),(.int .u32 0),(.slice none 0 0),(.slice none 0 0),(.int .u32 0),(.slice none 0 0),(.int .i64 0),(.int .i64 0),(.slice none 0 0)] [(0,1),(1,1),(2,1),(3,1),(4,1),(5,2),(7,1),(8,1),(9,1)] #[]) λt4=>
  st 10 t1 t4 λ_=>
  ld true 10 t1 λt5=>
  K (.tuple #[t5,(.int .i64 3)])) (
  pv (bdC #[(.slice none 0 0),(.bool false)] [(0,1),(1,1)] #[(0,x0)]) λt6=>
  nw 199 (Value.cells t6).toList λt7=>
  cF 101 #[t7] (λt8=>
  nw 77 [(.int .u8 0),(.int .u32 0),(.int .u32 0),(.slice none 0 0),(.slice none 0 0),(.int .u32 0),(.slice none 0 0),(.int .i64 0),(.int .i64 0),(.slice none 0 0)] λt9=>
  st 10 t9 t8 λ_=>
  ld true 10 t9 λt10=>
  cF 62 #[t10] (λt11=>
  pv (exV 0 t11) λt12=>
  pv (exV 1 t11) λt13=>
  pv (zai t7) λt14=>
  pv (faV 1 t14) λt15=>
  ld false 1 t15 λt16=>
  gdK t16 false (λk=>k t13) λt17=>
  gdK t16 false (λk=>pv (za2 .none .neq t17 (.int .i64 0)) k) λt18=>
  pv (zad t16 (.bool true) t18) λt19=>
  gdK t19 false (λk=>k t12) λt20=>
  gdK t19 false (λk=>bs t20 k) λt21=>
  gdK t19 false (λk=>k x0) λt22=>
  gdK t19 false (λk=>bs t22 k) λt23=>
  gdK t19 false (λk=>pv (za2 .none .neq t21 t23) k) λt24=>
  pv (zad t19 (.bool true) t24) λt25=>
  cnd t25 (
  pv (bdC #[(.int .u8 0),(.int .u32 0),(.int .u32 0),(.slice none 0 0),(.slice none 0 0),(.int .u32 0),(.slice none 0 0),(.int .i64 0),(.int .i64 0),(.slice none 0 0)] [(0,1),(1,1),(2,1),(3,1),(4,1),(5,2),(7,1),(8,1),(9,1)] #[]) λt26=>
  st 10 t1 t26 λ_=>
  ld true 10 t1 λt27=>
  K (.tuple #[t27,(.int .i64 70)])) (
  ld true 10 t9 λt28=>
  st 10 t1 t28 λ_=>
  ld true 10 t1 λt29=>
  K (.tuple #[t29,(.int .i64 0)]))) E) E):=by kernel_rfl
abbrev zqc:=cQ Tryz.f101 K E
abbrev zpc:=cD Tryz.f101
def zgv (j:Nat -> Value):Env:=#[x0,x1,x2,x3,x4,v5,(j 6),x7,x8,x9,x10,x11,x12,x13,x14,x15,x16,x17,x18,x19,x20,x21,x22,x23,x24,x25,x26,x27,x28,x29,x30,x31,x32,x33,x34,x35,x36,x37,x38,x39,x40,x41,x42,x43,(j 44),(j 45),(j 46),(j 47),(j 48),(j 49),(j 50),(j 51),(j 52),(j 53),(j 54),(j 55),(j 56),(j 57),(j 58),(j 59),(j 60),(j 61),(j 62),(j 63),(j 64),(j 65),x66,x67,x68,x69,x70,x71,x72,x73,x74,x75,x76,x77,x78,x79]
theorem t101:zpc [] (zqc K E) #[x0,U,U,U,U,U,U,U,U,U,U,U,U,U,U,U,U,U,U,U,U,U,U,U,U,U,U,U,U,U,U,U,U,U,U,U,U,U,U,U,U,U,U,U,U,U,U,U,U,U,U,U,U,U,U,U,U,U,U,U,U,U,U,U,U,U,U,U,U,U,U,U,U,U,U,U,U,U,U,U] =
 nw 77 [(.int .u8 0),(.int .u32 0),(.int .u32 0),(.slice none 0 0),(.slice none 0 0),(.int .u32 0),(.slice none 0 0),(.int .i64 0),(.int .i64 0),(.slice none 0 0)] λt1=>
 pv (bdC #[(.int .u8 0),(.int .u32 0),(.int .u32 0),(.slice none 0 0),(.slice none 0 0),(.int .u32 0),(.slice none 0 0),(.int .i64 0),(.int .i64 0),(.slice none 0 0)] [(0,1),(1,1),(2,1),(3,1),(4,1),(5,2),(7,1),(8,1),(9,1)] #[]) λt2=>
 nw 77 [(.int .u8 0),(.int .u32 0),(.int .u32 0),(.slice none 0 0),(.slice none 0 0),(.int .u32 0),(.slice none 0 0),(.int .i64 0),(.int .i64 0),(.slice none 0 0)] λt3=>
 st 10 t3 t2 λ_=>
 cF 147 #[x0,(.int .i64 1)] (λt4=>
 pv (cvV .u8 t4) λt5=>
 pv (faV 0 t3) λt6=>
 st 1 t6 t5 λ_=>
 cF 147 #[x0,(.int .i64 4)] (λt7=>
 pv (cvV .u32 t7) λt8=>
 pv (faV 1 t3) λt9=>
 st 1 t9 t8 λ_=>
 pv (faV 0 t3) λt10=>
 ld false 1 t10 λt11=>
 pv (za2 .none .eql t11 (.int .u8 1)) λt12=>
 cnd t12 (
  cF 148 #[x0] (λt13=>
  pv (faV 3 t3) λt14=>
  st 1 t14 t13 λ_=>
  cF 149 #[x0] (λt15=>
  pv (faV 4 t3) λt16=>
  st 1 t16 t15 λ_=>
  zpc [1,1,1,1,1] (zqc K E) #[x0,U,t1,t3,U,U,U,t2,x0,t4,t5,t6,x0,t7,t8,t9,t10,t11,t12,t12,x0,t13,t14,x0,t15,t16,U,U,U,U,U,U,U,U,U,U,U,U,U,U,U,U,U,U,U,U,U,U,U,U,U,U,U,U,U,U,U,U,U,U,U,U,U,U,U,U,U,U,U,U,U,U,U,U,U,U,U,U,U,U]) E) E) (
  pv (za2 .none .eql t11 (.int .u8 2)) λt17=>
  cnd t17 (
  cF 147 #[x0,(.int .i64 4)] (λt18=>
  pv (cvV .u32 t18) λt19=>
  pv (faV 2 t3) λt20=>
  st 1 t20 t19 λ_=>
  cF 148 #[x0] (λt21=>
  pv (faV 3 t3) λt22=>
  st 1 t22 t21 λ_=>
  zpc [1,1,1,1,1] (zqc K E) #[x0,U,t1,t3,U,U,U,t2,x0,t4,t5,t6,x0,t7,t8,t9,t10,t11,t12,t12,U,U,U,U,U,U,t17,t17,x0,t18,t19,t20,x0,t21,t22,U,U,U,U,U,U,U,U,U,U,U,U,U,U,U,U,U,U,U,U,U,U,U,U,U,U,U,U,U,U,U,U,U,U,U,U,U,U,U,U,U,U,U,U,U]) E) E) (
  pv (za2 .none .eql t11 (.int .u8 6)) λt23=>
  cnd t23 (
   cF 147 #[x0,(.int .i64 4)] (λt24=>
   pv (cvV .u32 t24) λt25=>
   pv (faV 5 t3) λt26=>
   pv (faV 0 t26) λt27=>
   st 1 t27 t25 λ_=>
   cF 150 #[x0,(.int .i64 1),(.int .i64 5)] (λt28=>
   lp (λk1=>zpc [1,1,1,1,0,1,0,1,1,1,1,1,0,1,1,1,0,0] (za6 k1 (blk 1 (blk 0 (za6 (zpc [1,1,1,1,1] (zqc K E)) (zqc K E)))))) (zgv x0 U t1 t3 t28 t2 x0 t4 t5 t6 x0 t7 t8 t9 t10 t11 t12 t12 U U U U U U t17 t17 U U U U U U U t23 t23 x0 t24 t25 t26 t27 x0 t28 U U U U U U U U U U U U U U (.int .i64 0) (jf #[]))) E) E) (
   pv (za2 .none .eql t11 (.int .u8 7)) λt29=>
   cnd t29 (
   cF 147 #[x0,(.int .i64 4)] (λt30=>
   pv (cvV .i64 t30) λt31=>
   pv (faV 7 t3) λt32=>
   st 1 t32 t31 λ_=>
   cF 147 #[x0,(.int .i64 4)] (λt33=>
   pv (cvV .i64 t33) λt34=>
   pv (faV 8 t3) λt35=>
   st 1 t35 t34 λ_=>
   cF 151 #[x0] (λt36=>
   pv (faV 9 t3) λt37=>
   st 1 t37 t36 λ_=>
   zpc [1,1,1,1,1] (zqc K E) #[x0,U,t1,t3,U,U,U,t2,x0,t4,t5,t6,x0,t7,t8,t9,t10,t11,t12,t12,U,U,U,U,U,U,t17,t17,U,U,U,U,U,U,U,t23,t23,U,U,U,U,U,U,U,U,U,U,U,U,U,U,U,U,U,U,U,U,U,U,U,U,U,U,U,U,U,t29,t29,x0,t30,t31,t32,x0,t33,t34,t35,x0,t36,t37,U]) E) E) E) (
   zpc [1,1,1,1,1] (zqc K E) #[x0,U,t1,t3,U,U,U,t2,x0,t4,t5,t6,x0,t7,t8,t9,t10,t11,t12,t12,U,U,U,U,U,U,t17,t17,U,U,U,U,U,U,U,t23,t23,U,U,U,U,U,U,U,U,U,U,U,U,U,U,U,U,U,U,U,U,U,U,U,U,U,U,U,U,U,t29,t29,U,U,U,U,U,U,U,U,U,U,U,U]))))) E) E:=by kernel_rfl
theorem zxc:zpc [1,1,1,1,1] (zqc K E) #[x0,x1,x2,x3,x4,x5,x6,x7,x8,x9,x10,x11,x12,x13,x14,x15,x16,x17,x18,x19,x20,x21,x22,x23,x24,x25,x26,x27,x28,x29,x30,x31,x32,x33,x34,x35,x36,x37,x38,x39,x40,x41,x42,x43,x44,x45,x46,x47,x48,x49,x50,x51,x52,x53,x54,x55,x56,x57,x58,x59,x60,x61,x62,x63,x64,x65,x66,x67,x68,x69,x70,x71,x72,x73,x74,x75,x76,x77,x78,x79] =
 ld true 10 x3 λt1=>
 st 10 x2 t1 λ_=>
 ld true 10 x2 λt2=>
 K t2:=by kernel_rfl
abbrev yjh:=cQ Tryz.f147 K E
abbrev zwh:=cD Tryz.f147
abbrev zv0:=za6 k1 (blk 0 (za6 (zwh [1,1,1,1] (yjh K E)) (yjh K E)))
def zd5 (j:Nat -> Value):Env:=#[x0,x1,x2,x3,x4,v5,v6,x7,x8,x9,x10,x11,x12,x13,x14,x15,x16,x17,x18,x19,x20,x21,x22,(j 23),(j 24),(j 25),(j 26),(j 27),(j 28),(j 29),(j 30),(j 31),(j 32),(j 33),(j 34),(j 35),(j 36),(j 37),(j 38),x39,x40,x41,x42,x43,x44,x45,x46,x47,x48]
theorem ywp:zwh [] (yjh K E) #[x0,x1,U,U,U,U,U,U,U,U,U,U,U,U,U,U,U,U,U,U,U,U,U,U,U,U,U,U,U,U,U,U,U,U,U,U,U,U,U,U,U,U,U,U,U,U,U,U,U] =
 pv (zai x0) λt1=>
 pv (faV 1 t1) λt2=>
 ld false 1 t2 λt3=>
 gdK t3 false (λk=>k x0) λt4=>
 gdK t3 false (λk=>pv (zai t4) k) λt5=>
 gdK t3 false (λk=>pv (faV 0 t5) k) λt6=>
 gdK t3 false (λk=>ld false 1 t6 k) λt7=>
 gdK t3 false (λk=>pv (zab t7) k) λt8=>
 gdK t3 false (λk=>k x1) λt9=>
 gdK t3 false (λk=>pv (za2 .none .lss t8 t9) k) λt10=>
 pv (zad t3 (.bool true) t10) λt11=>
 cnd t11 (
  pv (zai x0) λt12=>
  pv (faV 1 t12) λt13=>
  st 1 t13 (.bool true) λ_=>
  K (.int .u64 0)) (
  lp (λk1=>zwh [1,1,1,0,1,0,0] (zv0 K E k1)) (zd5 x0 x1 U U (.int .u64 0) x0 t1 t2 t3 t3 t4 t5 t6 t7 t8 t9 t10 t11 U U U U U U U U U U U U U (.int .u64 0) (.int .i64 0) (jf #[]))):=by kernel_rfl
theorem zp9:zwh [1,1,1,0,1,0,0] (zv0 K E k1) (zd5 x0 x1 x2 x3 x4 x7 x8 x9 x10 x11 x12 x13 x14 x15 x16 x17 x18 x19 x20 x21 x22 x39 x40 x41 x42 x43 x44 x45 x46 x47 x48 v5 v6 j) =
 pv (za2 .none .lss v6 x1) λt1=>
 cnd t1 (
  pv (za2 .none .shl v5 (.int .u64 8)) λt2=>
  pv (zai x0) λt3=>
  pv (faV 0 t3) λt4=>
  ld false 1 t4 λt5=>
  pv (iaV none 1 t5 v6) λt6=>
  ld false 1 t6 λt7=>
  pv (cvV .u64 t7) λt8=>
  pv (za2 .none .add t2 t8) λt9=>
  pv (za2 .none .add v6 (.int .i64 1)) λt10=>
  k1 (zd5 x0 x1 x2 x3 x4 x7 x8 x9 x10 x11 x12 x13 x14 x15 x16 x17 x18 x19 x20 x21 x22 x39 x40 x41 x42 x43 x44 x45 x46 x47 x48 t9 t10 (jf #[U,U,U,U,U,U,U,U,U,U,U,U,U,U,U,U,U,U,U,U,U,U,U,v6,x1,t1,v6,t10,v5,t2,x0,t3,t4,t5,v6,t6,t7,t8,t9]))) (
  pv (zai x0) λt11=>
  pv (faV 0 t11) λt12=>
  ld false 1 t12 λt13=>
  pv (slV 1 t13 (some x1) none none) λt14=>
  pv (zai x0) λt15=>
  pv (faV 0 t15) λt16=>
  st 1 t16 t14 λ_=>
  K v5):=by kernel_rfl
abbrev zlk:=cQ Tryz.f149 K E
abbrev zhl:=cD Tryz.f149
abbrev zu3:=za6 k2 (blk 2 (za6 (zhl [1,1,1,0,1,0,0,1,0,0,1,1,1] (blk 1 (za6 (zhl [1,1,1,0,1,0,0,1,1] (za6 k1 (blk 0 (za6 (zhl [1,1,1,1] (zlk K E)) (zlk K E))))) (za6 k1 (blk 0 (za6 (zhl [1,1,1,1] (zlk K E)) (zlk K E))))))) (blk 1 (za6 (zhl [1,1,1,0,1,0,0,1,1] (za6 k1 (blk 0 (za6 (zhl [1,1,1,1] (zlk K E)) (zlk K E))))) (za6 k1 (blk 0 (za6 (zhl [1,1,1,1] (zlk K E)) (zlk K E))))))))
abbrev zuv:=za6 k1 (blk 0 (za6 (zhl [1,1,1,1] (zlk K E)) (zlk K E)))
def zd9 (j:Nat -> Value):Env:=#[x0,x1,x2,v3,x4,v5,(j 6),(j 7),(j 8),x9,x10,(j 11),(j 12),(j 13),(j 14),(j 15),(j 16),(j 17),(j 18),(j 19),(j 20),(j 21),(j 22),(j 23),(j 24),(j 25),(j 26),(j 27),(j 28),(j 29),(j 30),(j 31),(j 32),(j 33),(j 34),(j 35),(j 36),(j 37),(j 38),(j 39),(j 40),(j 41),(j 42),(j 43),(j 44),(j 45),(j 46),x47]
def zbh (j:Nat -> Value):Env:=#[x0,x1,x2,x3,x4,x5,x6,x7,v8,x9,x10,x11,x12,x13,x14,x15,x16,x17,x18,x19,x20,x21,x22,x23,x24,x25,(j 26),(j 27),(j 28),(j 29),(j 30),(j 31),(j 32),(j 33),(j 34),(j 35),(j 36),(j 37),(j 38),x39,x40,x41,x42,x43,x44,x45,x46,x47]
theorem yuf:zhl [] (zlk K E) #[x0,U,U,U,U,U,U,U,U,U,U,U,U,U,U,U,U,U,U,U,U,U,U,U,U,U,U,U,U,U,U,U,U,U,U,U,U,U,U,U,U,U,U,U,U,U,U,U] =
 cF 150 #[x0,(.int .i64 4),(.int .i64 9)] (λt1=>
 lp (λk1=>zhl [1,1,1,0,1,0,0] (zuv K E k1)) (zd9 x0 U (.slice none 0 0) t1 x0 t1 U (.slice none 0 0) (.int .i64 0) (jf #[]))) E:=by kernel_rfl
theorem zpk:zhl [1,1,1,0,1,0,0] (zuv K E k1) (zd9 x0 x1 x2 x4 x9 x10 x47 v3 v5 j) =
 pv (za2 .none .lss v5 x4) λt1=>
 gdK t1 true (λk=>k x0) λt2=>
 gdK t1 true (λk=>pv (zai t2) k) λt3=>
 gdK t1 true (λk=>pv (faV 1 t3) k) λt4=>
 gdK t1 true (λk=>ld false 1 t4 k) λt5=>
 gdK t1 true (λk=>pv (unV .not t5) k) λt6=>
 pv (zad t1 t6 (.bool false)) λt7=>
 cnd t7 (
  pv (bdC #[(.slice none 0 0),(.int .i64 0)] [(0,1),(1,1)] #[]) λt8=>
  nw 110 [(.slice none 0 0),(.int .i64 0)] λt9=>
  st 2 t9 t8 λ_=>
  cF 150 #[x0,(.int .i64 1),(.int .i64 4)] (λt10=>
  lp (λk2=>zhl [1,1,1,0,1,0,0,1,0,0,1,1,0,1,0,0] (zu3 K E k1 k2)) (zbh x0 x1 x2 v3 x4 v5 t9 t10 x9 x10 v5 x4 t1 t1 t2 t3 t4 t5 t6 t7 (j 21) (j 22) t8 x0 t10 (j 39) (j 40) (j 41) (j 42) (j 43) (j 44) (j 45) (j 46) x47 (.int .i64 0) (jf #[U,U,U,U,U,U,U,U,U,U,U,U,U,U,U,U,U,U,U,U,U,U,U,U,U,U,(j 26),(j 27),(j 28),(j 29),(j 30),(j 31),(j 32),(j 33),(j 34),(j 35),(j 36),(j 37),(j 38)]))) E) (
  K v3):=by kernel_rfl
theorem zhm:zhl [1,1,1,0,1,0,0,1,0,0,1,1,0,1,0,0] (zu3 K E k1 k2) (zbh x0 x1 x2 x3 x4 x5 x6 x7 x9 x10 x11 x12 x13 x14 x15 x16 x17 x18 x19 x20 x21 x22 x23 x24 x25 x39 x40 x41 x42 x43 x44 x45 x46 x47 v8 j) =
 pv (za2 .none .lss v8 x7) λt1=>
 cnd t1 (
  pv (faV 0 x6) λt2=>
  ld false 1 t2 λt3=>
  cF 147 #[x0,(.int .i64 4)] (λt4 h5=>(ldV h5 false 1 t2 t3)∧(
  pv (cvV .i64 t4) λt6=>
  nws 3 1 (bsC #[(.int .i64 0)] 1 1 #[(0,t6)]) (λt7 h8=>(ldV h8 false 1 t2 t3)∧(
   zdl 3 1 8 t3 t7 λt9=>
   pv (faV 0 x6) λt10=>
   st 1 t10 t9 λ_=>
   pv (za2 .none .add v8 (.int .i64 1)) λt11=>
   k2 (zbh x0 x1 x2 x3 x4 x5 x6 x7 x9 x10 x11 x12 x13 x14 x15 x16 x17 x18 x19 x20 x21 x22 x23 x24 x25 x39 x40 x41 x42 x43 x44 x45 x46 x47 t11 (jf #[U,U,U,U,U,U,U,U,U,U,U,U,U,U,U,U,U,U,U,U,U,U,U,U,U,U,v8,x7,t1,v8,t11,t2,t3,x0,t4,t6,t7,t9,t10]))) h8)) h5) E) (
  cF 147 #[x0,(.int .i64 8)] (λt12=>
  pv (cvV .i64 t12) λt13=>
  pv (faV 1 x6) λt14=>
  st 1 t14 t13 λ_=>
  ld true 2 x6 λt15=>
  nws 110 1 (bsC #[(.slice none 0 0),(.int .i64 0)] 2 1 #[(0,t15)]) λt16=>
  zdl 110 2 32 x3 t16 λt17=>
  pv (za2 .none .add x5 (.int .i64 1)) λt18=>
  k1 (zd9 x0 x1 x2 x4 x9 x10 x47 t17 t18 (jf #[U,U,U,U,U,U,x6,x7,v8,U,U,x11,x12,x13,x14,x15,x16,x17,x18,x19,x20,x5,t18,x23,x24,x25,v8,x7,t1,(j 29),(j 30),(j 31),(j 32),(j 33),(j 34),(j 35),(j 36),(j 37),(j 38),x0,t12,t13,t14,x3,t15,t16,t17]))) E):=by kernel_rfl
abbrev yuw:=cQ Tryz.f150 K E
abbrev yt2:=cD Tryz.f150
theorem ywz:yt2 [] (yuw K E) #[x0,x1,x2,U,U,U,U,U,U,U,U,U,U,U,U,U,U,U,U,U,U,U,U,U,U,U] =
 cF 147 #[x0,x1] (λt1=>
 pv (zai x0) λt2=>
 pv (faV 0 t2) λt3=>
 ld false 1 t3 λt4=>
 pv (zab t4) λt5=>
 pv (za2 .none .quo t5 x2) λt6=>
 pv (cvV .u64 t6) λt7=>
 pv (za2 .none .gtr t1 t7) λt8=>
 cnd t8 (
  pv (zai x0) λt9=>
  pv (faV 1 t9) λt10=>
  st 1 t10 (.bool true) λ_=>
  K (.int .i64 0)) (
  pv (cvV .i64 t1) λt11=>
  K t11)) E:=by kernel_rfl
abbrev yj2:=cQ Tryz.f151 K E
abbrev zxb:=cD Tryz.f151
abbrev zux:=za6 k1 (blk 0 (za6 (zxb [1,1,1,1] (yj2 K E)) (yj2 K E)))
def zd7 (j:Nat -> Value):Env:=#[x0,x1,x2,v3,x4,v5,(j 6),x7,x8,(j 9),(j 10),(j 11),(j 12),(j 13),(j 14),(j 15),(j 16),(j 17),(j 18),(j 19),(j 20),(j 21),(j 22),(j 23),(j 24),(j 25),(j 26),(j 27),(j 28),(j 29),(j 30),(j 31),(j 32),x33]
theorem yud:zxb [] (yj2 K E) #[x0,U,U,U,U,U,U,U,U,U,U,U,U,U,U,U,U,U,U,U,U,U,U,U,U,U,U,U,U,U,U,U,U,U] =
 cF 150 #[x0,(.int .i64 4),(.int .i64 8)] (λt1=>
 lp (λk1=>zxb [1,1,1,0,1,0,0] (zux K E k1)) (zd7 x0 U (.slice none 0 0) t1 x0 t1 U (.slice none 0 0) (.int .i64 0) (jf #[]))) E:=by kernel_rfl
theorem zpx:zxb [1,1,1,0,1,0,0] (zux K E k1) (zd7 x0 x1 x2 x4 x7 x8 x33 v3 v5 j) =
 pv (za2 .none .lss v5 x4) λt1=>
 gdK t1 true (λk=>k x0) λt2=>
 gdK t1 true (λk=>pv (zai t2) k) λt3=>
 gdK t1 true (λk=>pv (faV 1 t3) k) λt4=>
 gdK t1 true (λk=>ld false 1 t4 k) λt5=>
 gdK t1 true (λk=>pv (unV .not t5) k) λt6=>
 pv (zad t1 t6 (.bool false)) λt7=>
 cnd t7 (
  pv (bdC #[(.int .u32 0),(.slice none 0 0)] [(0,1),(1,1)] #[]) λt8=>
  nw 143 [(.int .u32 0),(.slice none 0 0)] λt9=>
  st 2 t9 t8 λ_=>
  cF 147 #[x0,(.int .i64 4)] (λt10=>
  pv (cvV .u32 t10) λt11=>
  pv (faV 0 t9) λt12=>
  st 1 t12 t11 λ_=>
  cF 149 #[x0] (λt13=>
  pv (faV 1 t9) λt14=>
  st 1 t14 t13 λ_=>
  ld true 2 t9 λt15=>
  nws 143 1 (bsC #[(.int .u32 0),(.slice none 0 0)] 2 1 #[(0,t15)]) λt16=>
  zdl 143 2 32 v3 t16 λt17=>
  pv (za2 .none .add v5 (.int .i64 1)) λt18=>
  k1 (zd7 x0 x1 x2 x4 x7 x8 x33 t17 t18 (jf #[U,U,U,U,U,U,t9,U,U,v5,x4,t1,t1,t2,t3,t4,t5,t6,t7,v5,t18,t8,x0,t10,t11,t12,x0,t13,t14,v3,t15,t16,t17]))) E) E) (
  K v3):=by kernel_rfl
end
section
variable {K:zae} {E:zb2} {k1 k2:Env -> Hp -> Prop} {σ:Type} {x0 x1 x2 x3 x4 x5 x6 x7 x8 x9 x10 x11 x12 x13 x14 x15 x16 x17 x18 x19 x20 x21 x22 x23 x24 x25 x33 x35 x36 x37 x39 x40 x41 x42 x43 x44 x45 x46 x47 x48 x49 x50 v0 v3 v4 v5 v6 v8:Value} {h:Hp} {j:Nat -> Value}
theorem zt0 (f0 f5:σ -> Value) (I:σ -> Hp -> Prop) (μ:σ -> Nat) (s0:σ) (e0:v0=f0 s0) (e5:v5=f5 s0) (h0:h.wf -> ∃ h',h.wk h'∧I s0 h')
 (round:∀ (k1:Env -> Hp -> Prop) (s:σ) (j:Nat -> Value) (h:Hp),I s h -> h.wf -> (∀ s' j' h',μ s'<μ s -> (h'.wf -> ∃ h'',h'.wk h''∧I s' h'') -> k1 (ze1 x1 x2 x3 x4 x6 x7 x8 x9 x10 x24 (f0 s') (f5 s') j') h') -> zwp [1,1,0,1,0,0] (zty K E k1) (ze1 x1 x2 x3 x4 x6 x7 x8 x9 x10 x24 (f0 s) (f5 s) j) h) :
 lp (λk1=>zwp [1,1,0,1,0,0] (zty K E k1)) (ze1 x1 x2 x3 x4 x6 x7 x8 x9 x10 x24 v0 v5 j) h:=by
 subst e0;subst e5;exact zaw _ I μ round s0 j h0
theorem zvx (f3:σ -> Value) (I:σ -> Hp -> Prop) (μ:σ -> Nat) (s0:σ) (e3:v3=f3 s0) (h0:h.wf -> ∃ h',h.wk h'∧I s0 h')
 (round:∀ (k1:Env -> Hp -> Prop) (s:σ) (j:Nat -> Value) (h:Hp),I s h -> h.wf -> (∀ s' j' h',μ s'<μ s -> (h'.wf -> ∃ h'',h'.wk h''∧I s' h'') -> k1 (zf1 x0 x1 (f3 s') j') h') -> zxm [1,0,1,0,0] (zuo K E k1) (zf1 x0 x1 (f3 s) j) h) :
 lp (λk1=>zxm [1,0,1,0,0] (zuo K E k1)) (zf1 x0 x1 v3 j) h:=by
 subst e3;exact zaw _ I μ round s0 j h0
theorem zvu (f3:σ -> Value) (I:σ -> Hp -> Prop) (μ:σ -> Nat) (s0:σ) (e3:v3=f3 s0) (h0:h.wf -> ∃ h',h.wk h'∧I s0 h')
 (round:∀ (k1:Env -> Hp -> Prop) (s:σ) (j:Nat -> Value) (h:Hp),I s h -> h.wf -> (∀ s' j' h',μ s'<μ s -> (h'.wf -> ∃ h'',h'.wk h''∧I s' h'') -> k1 (zf9 x0 x1 x48 x49 x50 (f3 s') j') h') -> zhd [1,0,1,0,0] (zut K E k1) (zf9 x0 x1 x48 x49 x50 (f3 s) j) h) :
 lp (λk1=>zhd [1,0,1,0,0] (zut K E k1)) (zf9 x0 x1 x48 x49 x50 v3 j) h:=by
 subst e3;exact zaw _ I μ round s0 j h0
theorem zk0 (f4:σ -> Value) (I:σ -> Hp -> Prop) (μ:σ -> Nat) (s0:σ) (e4:v4=f4 s0) (h0:h.wf -> ∃ h',h.wk h'∧I s0 h')
 (round:∀ (k2:Env -> Hp -> Prop) (s:σ) (j:Nat -> Value) (h:Hp),I s h -> h.wf -> (∀ s' j' h',μ s'<μ s -> (h'.wf -> ∃ h'',h'.wk h''∧I s' h'') -> k2 (zbz x0 x1 x3 x5 x6 x7 x8 x9 x10 x41 x42 x43 x44 x45 x46 x47 x48 x49 x50 (f4 s') j') h') -> zhd [1,0,1,0,0,1,0,0,0,1,0,0] (zvn K E k1 k2) (zbz x0 x1 x3 x5 x6 x7 x8 x9 x10 x41 x42 x43 x44 x45 x46 x47 x48 x49 x50 (f4 s) j) h) :
 lp (λk2=>zhd [1,0,1,0,0,1,0,0,0,1,0,0] (zvn K E k1 k2)) (zbz x0 x1 x3 x5 x6 x7 x8 x9 x10 x41 x42 x43 x44 x45 x46 x47 x48 x49 x50 v4 j) h:=by
 subst e4;exact zaw _ I μ round s0 j h0
theorem zwv (f3:σ -> Value) (I:σ -> Hp -> Prop) (μ:σ -> Nat) (s0:σ) (e3:v3=f3 s0) (h0:h.wf -> ∃ h',h.wk h'∧I s0 h')
 (round:∀ (k1:Env -> Hp -> Prop) (s:σ) (j:Nat -> Value) (h:Hp),I s h -> h.wf -> (∀ s' j' h',μ s'<μ s -> (h'.wf -> ∃ h'',h'.wk h''∧I s' h'') -> k1 (zf2 x0 x1 x35 x36 x37 (f3 s') j') h') -> zxf [1,0,1,0,0] (zug K E k1) (zf2 x0 x1 x35 x36 x37 (f3 s) j) h) :
 lp (λk1=>zxf [1,0,1,0,0] (zug K E k1)) (zf2 x0 x1 x35 x36 x37 v3 j) h:=by
 subst e3;exact zaw _ I μ round s0 j h0
theorem zp7 (f5 f6:σ -> Value) (I:σ -> Hp -> Prop) (μ:σ -> Nat) (s0:σ) (e5:v5=f5 s0) (e6:v6=f6 s0) (h0:h.wf -> ∃ h',h.wk h'∧I s0 h')
 (round:∀ (k1:Env -> Hp -> Prop) (s:σ) (j:Nat -> Value) (h:Hp),I s h -> h.wf -> (∀ s' j' h',μ s'<μ s -> (h'.wf -> ∃ h'',h'.wk h''∧I s' h'') -> k1 (zd5 x0 x1 x2 x3 x4 x7 x8 x9 x10 x11 x12 x13 x14 x15 x16 x17 x18 x19 x20 x21 x22 x39 x40 x41 x42 x43 x44 x45 x46 x47 x48 (f5 s') (f6 s') j') h') -> zwh [1,1,1,0,1,0,0] (zv0 K E k1) (zd5 x0 x1 x2 x3 x4 x7 x8 x9 x10 x11 x12 x13 x14 x15 x16 x17 x18 x19 x20 x21 x22 x39 x40 x41 x42 x43 x44 x45 x46 x47 x48 (f5 s) (f6 s) j) h) :
 lp (λk1=>zwh [1,1,1,0,1,0,0] (zv0 K E k1)) (zd5 x0 x1 x2 x3 x4 x7 x8 x9 x10 x11 x12 x13 x14 x15 x16 x17 x18 x19 x20 x21 x22 x39 x40 x41 x42 x43 x44 x45 x46 x47 x48 v5 v6 j) h:=by
 subst e5;subst e6;exact zaw _ I μ round s0 j h0
theorem zpv (f3 f5:σ -> Value) (I:σ -> Hp -> Prop) (μ:σ -> Nat) (s0:σ) (e3:v3=f3 s0) (e5:v5=f5 s0) (h0:h.wf -> ∃ h',h.wk h'∧I s0 h')
 (round:∀ (k1:Env -> Hp -> Prop) (s:σ) (j:Nat -> Value) (h:Hp),I s h -> h.wf -> (∀ s' j' h',μ s'<μ s -> (h'.wf -> ∃ h'',h'.wk h''∧I s' h'') -> k1 (zd9 x0 x1 x2 x4 x9 x10 x47 (f3 s') (f5 s') j') h') -> zhl [1,1,1,0,1,0,0] (zuv K E k1) (zd9 x0 x1 x2 x4 x9 x10 x47 (f3 s) (f5 s) j) h) :
 lp (λk1=>zhl [1,1,1,0,1,0,0] (zuv K E k1)) (zd9 x0 x1 x2 x4 x9 x10 x47 v3 v5 j) h:=by
 subst e3;subst e5;exact zaw _ I μ round s0 j h0
theorem zhc (f8:σ -> Value) (I:σ -> Hp -> Prop) (μ:σ -> Nat) (s0:σ) (e8:v8=f8 s0) (h0:h.wf -> ∃ h',h.wk h'∧I s0 h')
 (round:∀ (k2:Env -> Hp -> Prop) (s:σ) (j:Nat -> Value) (h:Hp),I s h -> h.wf -> (∀ s' j' h',μ s'<μ s -> (h'.wf -> ∃ h'',h'.wk h''∧I s' h'') -> k2 (zbh x0 x1 x2 x3 x4 x5 x6 x7 x9 x10 x11 x12 x13 x14 x15 x16 x17 x18 x19 x20 x21 x22 x23 x24 x25 x39 x40 x41 x42 x43 x44 x45 x46 x47 (f8 s') j') h') -> zhl [1,1,1,0,1,0,0,1,0,0,1,1,0,1,0,0] (zu3 K E k1 k2) (zbh x0 x1 x2 x3 x4 x5 x6 x7 x9 x10 x11 x12 x13 x14 x15 x16 x17 x18 x19 x20 x21 x22 x23 x24 x25 x39 x40 x41 x42 x43 x44 x45 x46 x47 (f8 s) j) h) :
 lp (λk2=>zhl [1,1,1,0,1,0,0,1,0,0,1,1,0,1,0,0] (zu3 K E k1 k2)) (zbh x0 x1 x2 x3 x4 x5 x6 x7 x9 x10 x11 x12 x13 x14 x15 x16 x17 x18 x19 x20 x21 x22 x23 x24 x25 x39 x40 x41 x42 x43 x44 x45 x46 x47 v8 j) h:=by
 subst e8;exact zaw _ I μ round s0 j h0
theorem zq3 (f3 f5:σ -> Value) (I:σ -> Hp -> Prop) (μ:σ -> Nat) (s0:σ) (e3:v3=f3 s0) (e5:v5=f5 s0) (h0:h.wf -> ∃ h',h.wk h'∧I s0 h')
 (round:∀ (k1:Env -> Hp -> Prop) (s:σ) (j:Nat -> Value) (h:Hp),I s h -> h.wf -> (∀ s' j' h',μ s'<μ s -> (h'.wf -> ∃ h'',h'.wk h''∧I s' h'') -> k1 (zd7 x0 x1 x2 x4 x7 x8 x33 (f3 s') (f5 s') j') h') -> zxb [1,1,1,0,1,0,0] (zux K E k1) (zd7 x0 x1 x2 x4 x7 x8 x33 (f3 s) (f5 s) j) h) :
 lp (λk1=>zxb [1,1,1,0,1,0,0] (zux K E k1)) (zd7 x0 x1 x2 x4 x7 x8 x33 v3 v5 j) h:=by
 subst e3;subst e5;exact zaw _ I μ round s0 j h0
end
section
variable (K:zae) (E:zb2) (k1:Env -> Hp -> Prop) (x0 x1 x2 x3 x4 x12 x13 x14 x15 x16 x17 x18 x19 x20 x21 x22 x23 x24 x25 x26 x27 x28 x29 x30 x31 x32 x33 x34 x35 x36 x37 x38 x39 x40 x41 x42 x43 x44 x45 x46 x47 x48 x49 x50 x99 x100 x101 x102 x103 x104 x105 x106 x107 x108 x109 x110 x111 x112 x113 x114 v5 v6 v7 v8 v9 v10 v11:Value) (j:Nat -> Value)
abbrev yjq:=cQ Tryz.f156 K E
abbrev ybw:=cD Tryz.f156
abbrev zzq:=za6 k1 (blk 0 (za6 (ybw [1,1,1,1,1,1,1,1] (yjq K E)) (yjq K E)))
def zay (j:Nat -> Value):Env:=#[x0,x1,x2,x3,x4,v5,v6,v7,v8,v9,v10,v11,x12,x13,x14,x15,x16,x17,x18,x19,x20,x21,x22,x23,x24,x25,x26,x27,x28,x29,x30,x31,x32,x33,x34,x35,x36,x37,x38,x39,x40,x41,x42,x43,x44,x45,x46,x47,x48,x49,x50,(j 51),(j 52),(j 53),(j 54),(j 55),(j 56),(j 57),(j 58),(j 59),(j 60),(j 61),(j 62),(j 63),(j 64),(j 65),(j 66),(j 67),(j 68),(j 69),(j 70),(j 71),(j 72),(j 73),(j 74),(j 75),(j 76),(j 77),(j 78),(j 79),(j 80),(j 81),(j 82),(j 83),(j 84),(j 85),(j 86),(j 87),(j 88),(j 89),(j 90),(j 91),(j 92),(j 93),(j 94),(j 95),(j 96),(j 97),(j 98),x99,x100,x101,x102,x103,x104,x105,x106,x107,x108,x109,x110,x111,x112,x113,x114]
theorem yv3:ybw [] (yjq K E) #[x0,x1,U,U,U,U,U,U,U,U,U,U,U,U,U,U,U,U,U,U,U,U,U,U,U,U,U,U,U,U,U,U,U,U,U,U,U,U,U,U,U,U,U,U,U,U,U,U,U,U,U,U,U,U,U,U,U,U,U,U,U,U,U,U,U,U,U,U,U,U,U,U,U,U,U,U,U,U,U,U,U,U,U,U,U,U,U,U,U,U,U,U,U,U,U,U,U,U,U,U,U,U,U,U,U,U,U,U,U,U,U,U,U,U,U] =
 nw 77 (Value.cells x0).toList λt1=>
 pv (faV 1 t1) λt2=>
 ld false 1 t2 λt3=>
 pv (za2 .none .eql t3 (.int .u32 0)) λt4=>
 pv (faV 2 t1) λt5=>
 ld false 1 t5 λt6=>
 pv (za2 .none .eql t6 (.int .u32 0)) λt7=>
 pv (faV 3 t1) λt8=>
 ld false 1 t8 λt9=>
 pv (zab t9) λt10=>
 pv (za2 .none .eql t10 (.int .i64 0)) λt11=>
 pv (faV 4 t1) λt12=>
 ld false 1 t12 λt13=>
 pv (zab t13) λt14=>
 pv (za2 .none .eql t14 (.int .i64 0)) λt15=>
 pv (faV 5 t1) λt16=>
 pv (faV 0 t16) λt17=>
 ld false 1 t17 λt18=>
 pv (za2 .none .eql t18 (.int .u32 0)) λt19=>
 gdK t19 true (λk=>pv (faV 5 t1) k) λt20=>
 gdK t19 true (λk=>pv (faV 1 t20) k) λt21=>
 gdK t19 true (λk=>ld false 1 t21 k) λt22=>
 gdK t19 true (λk=>pv (zab t22) k) λt23=>
 gdK t19 true (λk=>pv (za2 .none .eql t23 (.int .i64 0)) k) λt24=>
 pv (zad t19 t24 (.bool false)) λt25=>
 pv (faV 7 t1) λt26=>
 ld false 1 t26 λt27=>
 pv (za2 .none .eql t27 (.int .i64 0)) λt28=>
 gdK t28 true (λk=>pv (faV 8 t1) k) λt29=>
 gdK t28 true (λk=>ld false 1 t29 k) λt30=>
 gdK t28 true (λk=>pv (za2 .none .eql t30 (.int .i64 0)) k) λt31=>
 pv (zad t28 t31 (.bool false)) λt32=>
 gdK t32 true (λk=>pv (faV 9 t1) k) λt33=>
 gdK t32 true (λk=>ld false 1 t33 k) λt34=>
 gdK t32 true (λk=>pv (zab t34) k) λt35=>
 gdK t32 true (λk=>pv (za2 .none .eql t35 (.int .i64 0)) k) λt36=>
 pv (zad t32 t36 (.bool false)) λt37=>
 lp (λk1=>ybw [1,1,1,1,1,1,1,0,1,0,0] (zzq K E k1)) (zay x0 x1 t1 U (.bool false) t2 t3 t4 t5 t6 t7 t8 t9 t10 t11 t12 t13 t14 t15 t16 t17 t18 t19 t19 t20 t21 t22 t23 t24 t25 t26 t27 t28 t28 t29 t30 t31 t32 t32 t33 t34 t35 t36 t37 U U U U U U U U U U U U U U U U t4 t7 t11 t15 t25 t37 (.int .i64 0) (jf #[])):=by kernel_rfl
end
section
variable {K:zae} {E:zb2} {k1:Env -> Hp -> Prop} {σ:Type} {x0 x1 x2 x3 x4 x12 x13 x14 x15 x16 x17 x18 x19 x20 x21 x22 x23 x24 x25 x26 x27 x28 x29 x30 x31 x32 x33 x34 x35 x36 x37 x38 x39 x40 x41 x42 x43 x44 x45 x46 x47 x48 x49 x50 x99 x100 x101 x102 x103 x104 x105 x106 x107 x108 x109 x110 x111 x112 x113 x114 v5 v6 v7 v8 v9 v10 v11:Value} {h:Hp} {j:Nat -> Value}
theorem zkq (f5 f6 f7 f8 f9 f10 f11:σ -> Value) (I:σ -> Hp -> Prop) (μ:σ -> Nat) (s0:σ) (e5:v5=f5 s0) (e6:v6=f6 s0) (e7:v7=f7 s0) (e8:v8=f8 s0) (e9:v9=f9 s0) (e10:v10=f10 s0) (e11:v11=f11 s0) (h0:h.wf -> ∃ h',h.wk h'∧I s0 h')
 (round:∀ (k1:Env -> Hp -> Prop) (s:σ) (j:Nat -> Value) (h:Hp),I s h -> h.wf -> (∀ s' j' h',μ s'<μ s -> (h'.wf -> ∃ h'',h'.wk h''∧I s' h'') -> k1 (zay x0 x1 x2 x3 x4 x12 x13 x14 x15 x16 x17 x18 x19 x20 x21 x22 x23 x24 x25 x26 x27 x28 x29 x30 x31 x32 x33 x34 x35 x36 x37 x38 x39 x40 x41 x42 x43 x44 x45 x46 x47 x48 x49 x50 x99 x100 x101 x102 x103 x104 x105 x106 x107 x108 x109 x110 x111 x112 x113 x114 (f5 s') (f6 s') (f7 s') (f8 s') (f9 s') (f10 s') (f11 s') j') h') -> ybw [1,1,1,1,1,1,1,0,1,0,0] (zzq K E k1) (zay x0 x1 x2 x3 x4 x12 x13 x14 x15 x16 x17 x18 x19 x20 x21 x22 x23 x24 x25 x26 x27 x28 x29 x30 x31 x32 x33 x34 x35 x36 x37 x38 x39 x40 x41 x42 x43 x44 x45 x46 x47 x48 x49 x50 x99 x100 x101 x102 x103 x104 x105 x106 x107 x108 x109 x110 x111 x112 x113 x114 (f5 s) (f6 s) (f7 s) (f8 s) (f9 s) (f10 s) (f11 s) j) h) :
 lp (λk1=>ybw [1,1,1,1,1,1,1,0,1,0,0] (zzq K E k1)) (zay x0 x1 x2 x3 x4 x12 x13 x14 x15 x16 x17 x18 x19 x20 x21 x22 x23 x24 x25 x26 x27 x28 x29 x30 x31 x32 x33 x34 x35 x36 x37 x38 x39 x40 x41 x42 x43 x44 x45 x46 x47 x48 x49 x50 x99 x100 x101 x102 x103 x104 x105 x106 x107 x108 x109 x110 x111 x112 x113 x114 v5 v6 v7 v8 v9 v10 v11 j) h:=by
 subst e5;subst e6;subst e7;subst e8;subst e9;subst e10;subst e11;exact zaw _ I μ round s0 j h0
end
theorem zk3 (Q:QD) (x0 x1 x2 x3 x4 x5 x6 x7 x8 x9 x10 x11 x12 x13 x14 x15 x16 x17 x18 x19 x20 x21 x22 x23 x24 x25 x26 x27 x28 x29 x30 x31 x32 x33 x34 x35 x36 x37 x38 x39 x40 x41 x42 x43 x44 x45 x46 x47 x48 x49 x50 x51 x52 x53 x54 x55 x56 x57 x58 x59 x60 x61 x62 x63 x64 x65 x66 x67 x68 x69 x70 x71 x72 x73 x74 x75 x76 x77 x78 x79 x80 x81 x82 x83 x84 x85 x86 x87 x88 x89 x90 x91 x92 x93 x94 x95 x96 x97 x98 x99 x100 x101 x102 x103 x104 x105 x106 x107 x108 x109 x110 x111 x112 x113 x114:Value):den Tryz.prog (sel (zaf Tryz.f156) [1,1,1,1,1,1,1,0,1,0,0,0]) Q #[x0,x1,x2,x3,x4,x5,x6,x7,x8,x9,x10,x11,x12,x13,x14,x15,x16,x17,x18,x19,x20,x21,x22,x23,x24,x25,x26,x27,x28,x29,x30,x31,x32,x33,x34,x35,x36,x37,x38,x39,x40,x41,x42,x43,x44,x45,x46,x47,x48,x49,x50,x51,x52,x53,x54,x55,x56,x57,x58,x59,x60,x61,x62,x63,x64,x65,x66,x67,x68,x69,x70,x71,x72,x73,x74,x75,x76,x77,x78,x79,x80,x81,x82,x83,x84,x85,x86,x87,x88,x89,x90,x91,x92,x93,x94,x95,x96,x97,x98,x99,x100,x101,x102,x103,x104,x105,x106,x107,x108,x109,x110,x111,x112,x113,x114] =
 pv (ylb x1) λt1=>
 pv (za2 .none .lss x11 t1) λt2=>
 cnd t2 (
  Q .normal #[x0,x1,x2,x3,x4,x5,x6,x7,x8,x9,x10,x11,x12,x13,x14,x15,x16,x17,x18,x19,x20,x21,x22,x23,x24,x25,x26,x27,x28,x29,x30,x31,x32,x33,x34,x35,x36,x37,x38,x39,x40,x41,x42,x43,x44,x45,x46,x47,x48,x49,x50,x11,x1,t1,t2,x55,x56,x57,x58,x59,x60,x61,x62,x63,x64,x65,x66,x67,x68,x69,x70,x71,x72,x73,x74,x75,x76,x77,x78,x79,x80,x81,x82,x83,x84,x85,x86,x87,x88,x89,x90,x91,x92,x93,x94,x95,x96,x97,x98,x99,x100,x101,x102,x103,x104,x105,x106,x107,x108,x109,x110,x111,x112,x113,x114]) (
  Q (.exit 0) #[x0,x1,x2,x3,x4,x5,x6,x7,x8,x9,x10,x11,x12,x13,x14,x15,x16,x17,x18,x19,x20,x21,x22,x23,x24,x25,x26,x27,x28,x29,x30,x31,x32,x33,x34,x35,x36,x37,x38,x39,x40,x41,x42,x43,x44,x45,x46,x47,x48,x49,x50,x11,x1,t1,t2,x55,x56,x57,x58,x59,x60,x61,x62,x63,x64,x65,x66,x67,x68,x69,x70,x71,x72,x73,x74,x75,x76,x77,x78,x79,x80,x81,x82,x83,x84,x85,x86,x87,x88,x89,x90,x91,x92,x93,x94,x95,x96,x97,x98,x99,x100,x101,x102,x103,x104,x105,x106,x107,x108,x109,x110,x111,x112,x113,x114]):=by kernel_rfl
theorem zi7 (Q:QD) (x0 x1 x2 x3 x4 x5 x6 x7 x8 x9 x10 x11 x12 x13 x14 x15 x16 x17 x18 x19 x20 x21 x22 x23 x24 x25 x26 x27 x28 x29 x30 x31 x32 x33 x34 x35 x36 x37 x38 x39 x40 x41 x42 x43 x44 x45 x46 x47 x48 x49 x50 x51 x52 x53 x54 x55 x56 x57 x58 x59 x60 x61 x62 x63 x64 x65 x66 x67 x68 x69 x70 x71 x72 x73 x74 x75 x76 x77 x78 x79 x80 x81 x82 x83 x84 x85 x86 x87 x88 x89 x90 x91 x92 x93 x94 x95 x96 x97 x98 x99 x100 x101 x102 x103 x104 x105 x106 x107 x108 x109 x110 x111 x112 x113 x114:Value):den Tryz.prog (sel (zaf Tryz.f156) [1,1,1,1,1,1,1,0,1,0,0,1,0,0,0]) Q #[x0,x1,x2,x3,x4,x5,x6,x7,x8,x9,x10,x11,x12,x13,x14,x15,x16,x17,x18,x19,x20,x21,x22,x23,x24,x25,x26,x27,x28,x29,x30,x31,x32,x33,x34,x35,x36,x37,x38,x39,x40,x41,x42,x43,x44,x45,x46,x47,x48,x49,x50,x51,x52,x53,x54,x55,x56,x57,x58,x59,x60,x61,x62,x63,x64,x65,x66,x67,x68,x69,x70,x71,x72,x73,x74,x75,x76,x77,x78,x79,x80,x81,x82,x83,x84,x85,x86,x87,x88,x89,x90,x91,x92,x93,x94,x95,x96,x97,x98,x99,x100,x101,x102,x103,x104,x105,x106,x107,x108,x109,x110,x111,x112,x113,x114] =
 gdK x5 false (λk=>k x1) λt1=>
 gdK x5 false (λk=>k x11) λt2=>
 gdK x5 false (λk=>pv (ixV t1 t2) k) λt3=>
 gdK x5 false (λk=>pv (za2 .none .eql t3 (.int .u8 73)) k) λt4=>
 pv (zad x5 (.bool true) t4) λt5=>
 Q .normal #[x0,x1,x2,x3,x4,t5,x6,x7,x8,x9,x10,x11,x12,x13,x14,x15,x16,x17,x18,x19,x20,x21,x22,x23,x24,x25,x26,x27,x28,x29,x30,x31,x32,x33,x34,x35,x36,x37,x38,x39,x40,x41,x42,x43,x44,x45,x46,x47,x48,x49,x50,x51,x52,x53,x54,x55,x56,x5,x5,t1,t2,t3,t4,t5,x64,x65,x66,x67,x68,x69,x70,x71,x72,x73,x74,x75,x76,x77,x78,x79,x80,x81,x82,x83,x84,x85,x86,x87,x88,x89,x90,x91,x92,x93,x94,x95,x96,x97,x98,x99,x100,x101,x102,x103,x104,x105,x106,x107,x108,x109,x110,x111,x112,x113,x114]:=by kernel_rfl
theorem zhp (Q:QD) (x0 x1 x2 x3 x4 x5 x6 x7 x8 x9 x10 x11 x12 x13 x14 x15 x16 x17 x18 x19 x20 x21 x22 x23 x24 x25 x26 x27 x28 x29 x30 x31 x32 x33 x34 x35 x36 x37 x38 x39 x40 x41 x42 x43 x44 x45 x46 x47 x48 x49 x50 x51 x52 x53 x54 x55 x56 x57 x58 x59 x60 x61 x62 x63 x64 x65 x66 x67 x68 x69 x70 x71 x72 x73 x74 x75 x76 x77 x78 x79 x80 x81 x82 x83 x84 x85 x86 x87 x88 x89 x90 x91 x92 x93 x94 x95 x96 x97 x98 x99 x100 x101 x102 x103 x104 x105 x106 x107 x108 x109 x110 x111 x112 x113 x114:Value):den Tryz.prog (sel (zaf Tryz.f156) [1,1,1,1,1,1,1,0,1,0,0,1,0,0,1,0]) Q #[x0,x1,x2,x3,x4,x5,x6,x7,x8,x9,x10,x11,x12,x13,x14,x15,x16,x17,x18,x19,x20,x21,x22,x23,x24,x25,x26,x27,x28,x29,x30,x31,x32,x33,x34,x35,x36,x37,x38,x39,x40,x41,x42,x43,x44,x45,x46,x47,x48,x49,x50,x51,x52,x53,x54,x55,x56,x57,x58,x59,x60,x61,x62,x63,x64,x65,x66,x67,x68,x69,x70,x71,x72,x73,x74,x75,x76,x77,x78,x79,x80,x81,x82,x83,x84,x85,x86,x87,x88,x89,x90,x91,x92,x93,x94,x95,x96,x97,x98,x99,x100,x101,x102,x103,x104,x105,x106,x107,x108,x109,x110,x111,x112,x113,x114] =
 gdK x6 false (λk=>k x1) λt1=>
 gdK x6 false (λk=>k x11) λt2=>
 gdK x6 false (λk=>pv (ixV t1 t2) k) λt3=>
 gdK x6 false (λk=>pv (za2 .none .eql t3 (.int .u8 65)) k) λt4=>
 pv (zad x6 (.bool true) t4) λt5=>
 Q .normal #[x0,x1,x2,x3,x4,x5,t5,x7,x8,x9,x10,x11,x12,x13,x14,x15,x16,x17,x18,x19,x20,x21,x22,x23,x24,x25,x26,x27,x28,x29,x30,x31,x32,x33,x34,x35,x36,x37,x38,x39,x40,x41,x42,x43,x44,x45,x46,x47,x48,x49,x50,x51,x52,x53,x54,x55,x56,x57,x58,x59,x60,x61,x62,x63,x6,x6,t1,t2,t3,t4,t5,x71,x72,x73,x74,x75,x76,x77,x78,x79,x80,x81,x82,x83,x84,x85,x86,x87,x88,x89,x90,x91,x92,x93,x94,x95,x96,x97,x98,x99,x100,x101,x102,x103,x104,x105,x106,x107,x108,x109,x110,x111,x112,x113,x114]:=by kernel_rfl
theorem zh7 (Q:QD) (x0 x1 x2 x3 x4 x5 x6 x7 x8 x9 x10 x11 x12 x13 x14 x15 x16 x17 x18 x19 x20 x21 x22 x23 x24 x25 x26 x27 x28 x29 x30 x31 x32 x33 x34 x35 x36 x37 x38 x39 x40 x41 x42 x43 x44 x45 x46 x47 x48 x49 x50 x51 x52 x53 x54 x55 x56 x57 x58 x59 x60 x61 x62 x63 x64 x65 x66 x67 x68 x69 x70 x71 x72 x73 x74 x75 x76 x77 x78 x79 x80 x81 x82 x83 x84 x85 x86 x87 x88 x89 x90 x91 x92 x93 x94 x95 x96 x97 x98 x99 x100 x101 x102 x103 x104 x105 x106 x107 x108 x109 x110 x111 x112 x113 x114:Value):den Tryz.prog (sel (zaf Tryz.f156) [1,1,1,1,1,1,1,0,1,0,0,1,0,0,1,1,0]) Q #[x0,x1,x2,x3,x4,x5,x6,x7,x8,x9,x10,x11,x12,x13,x14,x15,x16,x17,x18,x19,x20,x21,x22,x23,x24,x25,x26,x27,x28,x29,x30,x31,x32,x33,x34,x35,x36,x37,x38,x39,x40,x41,x42,x43,x44,x45,x46,x47,x48,x49,x50,x51,x52,x53,x54,x55,x56,x57,x58,x59,x60,x61,x62,x63,x64,x65,x66,x67,x68,x69,x70,x71,x72,x73,x74,x75,x76,x77,x78,x79,x80,x81,x82,x83,x84,x85,x86,x87,x88,x89,x90,x91,x92,x93,x94,x95,x96,x97,x98,x99,x100,x101,x102,x103,x104,x105,x106,x107,x108,x109,x110,x111,x112,x113,x114] =
 gdK x7 false (λk=>k x1) λt1=>
 gdK x7 false (λk=>k x11) λt2=>
 gdK x7 false (λk=>pv (ixV t1 t2) k) λt3=>
 gdK x7 false (λk=>pv (za2 .none .eql t3 (.int .u8 78)) k) λt4=>
 pv (zad x7 (.bool true) t4) λt5=>
 Q .normal #[x0,x1,x2,x3,x4,x5,x6,t5,x8,x9,x10,x11,x12,x13,x14,x15,x16,x17,x18,x19,x20,x21,x22,x23,x24,x25,x26,x27,x28,x29,x30,x31,x32,x33,x34,x35,x36,x37,x38,x39,x40,x41,x42,x43,x44,x45,x46,x47,x48,x49,x50,x51,x52,x53,x54,x55,x56,x57,x58,x59,x60,x61,x62,x63,x64,x65,x66,x67,x68,x69,x70,x7,x7,t1,t2,t3,t4,t5,x78,x79,x80,x81,x82,x83,x84,x85,x86,x87,x88,x89,x90,x91,x92,x93,x94,x95,x96,x97,x98,x99,x100,x101,x102,x103,x104,x105,x106,x107,x108,x109,x110,x111,x112,x113,x114]:=by kernel_rfl
theorem zgw (Q:QD) (x0 x1 x2 x3 x4 x5 x6 x7 x8 x9 x10 x11 x12 x13 x14 x15 x16 x17 x18 x19 x20 x21 x22 x23 x24 x25 x26 x27 x28 x29 x30 x31 x32 x33 x34 x35 x36 x37 x38 x39 x40 x41 x42 x43 x44 x45 x46 x47 x48 x49 x50 x51 x52 x53 x54 x55 x56 x57 x58 x59 x60 x61 x62 x63 x64 x65 x66 x67 x68 x69 x70 x71 x72 x73 x74 x75 x76 x77 x78 x79 x80 x81 x82 x83 x84 x85 x86 x87 x88 x89 x90 x91 x92 x93 x94 x95 x96 x97 x98 x99 x100 x101 x102 x103 x104 x105 x106 x107 x108 x109 x110 x111 x112 x113 x114:Value):den Tryz.prog (sel (zaf Tryz.f156) [1,1,1,1,1,1,1,0,1,0,0,1,0,0,1,1,1,0]) Q #[x0,x1,x2,x3,x4,x5,x6,x7,x8,x9,x10,x11,x12,x13,x14,x15,x16,x17,x18,x19,x20,x21,x22,x23,x24,x25,x26,x27,x28,x29,x30,x31,x32,x33,x34,x35,x36,x37,x38,x39,x40,x41,x42,x43,x44,x45,x46,x47,x48,x49,x50,x51,x52,x53,x54,x55,x56,x57,x58,x59,x60,x61,x62,x63,x64,x65,x66,x67,x68,x69,x70,x71,x72,x73,x74,x75,x76,x77,x78,x79,x80,x81,x82,x83,x84,x85,x86,x87,x88,x89,x90,x91,x92,x93,x94,x95,x96,x97,x98,x99,x100,x101,x102,x103,x104,x105,x106,x107,x108,x109,x110,x111,x112,x113,x114] =
 gdK x8 false (λk=>k x1) λt1=>
 gdK x8 false (λk=>k x11) λt2=>
 gdK x8 false (λk=>pv (ixV t1 t2) k) λt3=>
 gdK x8 false (λk=>pv (za2 .none .eql t3 (.int .u8 70)) k) λt4=>
 pv (zad x8 (.bool true) t4) λt5=>
 Q .normal #[x0,x1,x2,x3,x4,x5,x6,x7,t5,x9,x10,x11,x12,x13,x14,x15,x16,x17,x18,x19,x20,x21,x22,x23,x24,x25,x26,x27,x28,x29,x30,x31,x32,x33,x34,x35,x36,x37,x38,x39,x40,x41,x42,x43,x44,x45,x46,x47,x48,x49,x50,x51,x52,x53,x54,x55,x56,x57,x58,x59,x60,x61,x62,x63,x64,x65,x66,x67,x68,x69,x70,x71,x72,x73,x74,x75,x76,x77,x8,x8,t1,t2,t3,t4,t5,x85,x86,x87,x88,x89,x90,x91,x92,x93,x94,x95,x96,x97,x98,x99,x100,x101,x102,x103,x104,x105,x106,x107,x108,x109,x110,x111,x112,x113,x114]:=by kernel_rfl
theorem zgj (Q:QD) (x0 x1 x2 x3 x4 x5 x6 x7 x8 x9 x10 x11 x12 x13 x14 x15 x16 x17 x18 x19 x20 x21 x22 x23 x24 x25 x26 x27 x28 x29 x30 x31 x32 x33 x34 x35 x36 x37 x38 x39 x40 x41 x42 x43 x44 x45 x46 x47 x48 x49 x50 x51 x52 x53 x54 x55 x56 x57 x58 x59 x60 x61 x62 x63 x64 x65 x66 x67 x68 x69 x70 x71 x72 x73 x74 x75 x76 x77 x78 x79 x80 x81 x82 x83 x84 x85 x86 x87 x88 x89 x90 x91 x92 x93 x94 x95 x96 x97 x98 x99 x100 x101 x102 x103 x104 x105 x106 x107 x108 x109 x110 x111 x112 x113 x114:Value):den Tryz.prog (sel (zaf Tryz.f156) [1,1,1,1,1,1,1,0,1,0,0,1,0,0,1,1,1,1,0]) Q #[x0,x1,x2,x3,x4,x5,x6,x7,x8,x9,x10,x11,x12,x13,x14,x15,x16,x17,x18,x19,x20,x21,x22,x23,x24,x25,x26,x27,x28,x29,x30,x31,x32,x33,x34,x35,x36,x37,x38,x39,x40,x41,x42,x43,x44,x45,x46,x47,x48,x49,x50,x51,x52,x53,x54,x55,x56,x57,x58,x59,x60,x61,x62,x63,x64,x65,x66,x67,x68,x69,x70,x71,x72,x73,x74,x75,x76,x77,x78,x79,x80,x81,x82,x83,x84,x85,x86,x87,x88,x89,x90,x91,x92,x93,x94,x95,x96,x97,x98,x99,x100,x101,x102,x103,x104,x105,x106,x107,x108,x109,x110,x111,x112,x113,x114] =
 gdK x9 false (λk=>k x1) λt1=>
 gdK x9 false (λk=>k x11) λt2=>
 gdK x9 false (λk=>pv (ixV t1 t2) k) λt3=>
 gdK x9 false (λk=>pv (za2 .none .eql t3 (.int .u8 77)) k) λt4=>
 pv (zad x9 (.bool true) t4) λt5=>
 Q .normal #[x0,x1,x2,x3,x4,x5,x6,x7,x8,t5,x10,x11,x12,x13,x14,x15,x16,x17,x18,x19,x20,x21,x22,x23,x24,x25,x26,x27,x28,x29,x30,x31,x32,x33,x34,x35,x36,x37,x38,x39,x40,x41,x42,x43,x44,x45,x46,x47,x48,x49,x50,x51,x52,x53,x54,x55,x56,x57,x58,x59,x60,x61,x62,x63,x64,x65,x66,x67,x68,x69,x70,x71,x72,x73,x74,x75,x76,x77,x78,x79,x80,x81,x82,x83,x84,x9,x9,t1,t2,t3,t4,t5,x92,x93,x94,x95,x96,x97,x98,x99,x100,x101,x102,x103,x104,x105,x106,x107,x108,x109,x110,x111,x112,x113,x114]:=by kernel_rfl
theorem zgn (Q:QD) (x0 x1 x2 x3 x4 x5 x6 x7 x8 x9 x10 x11 x12 x13 x14 x15 x16 x17 x18 x19 x20 x21 x22 x23 x24 x25 x26 x27 x28 x29 x30 x31 x32 x33 x34 x35 x36 x37 x38 x39 x40 x41 x42 x43 x44 x45 x46 x47 x48 x49 x50 x51 x52 x53 x54 x55 x56 x57 x58 x59 x60 x61 x62 x63 x64 x65 x66 x67 x68 x69 x70 x71 x72 x73 x74 x75 x76 x77 x78 x79 x80 x81 x82 x83 x84 x85 x86 x87 x88 x89 x90 x91 x92 x93 x94 x95 x96 x97 x98 x99 x100 x101 x102 x103 x104 x105 x106 x107 x108 x109 x110 x111 x112 x113 x114:Value):den Tryz.prog (sel (zaf Tryz.f156) [1,1,1,1,1,1,1,0,1,0,0,1,0,0,1,1,1,1,1]) Q #[x0,x1,x2,x3,x4,x5,x6,x7,x8,x9,x10,x11,x12,x13,x14,x15,x16,x17,x18,x19,x20,x21,x22,x23,x24,x25,x26,x27,x28,x29,x30,x31,x32,x33,x34,x35,x36,x37,x38,x39,x40,x41,x42,x43,x44,x45,x46,x47,x48,x49,x50,x51,x52,x53,x54,x55,x56,x57,x58,x59,x60,x61,x62,x63,x64,x65,x66,x67,x68,x69,x70,x71,x72,x73,x74,x75,x76,x77,x78,x79,x80,x81,x82,x83,x84,x85,x86,x87,x88,x89,x90,x91,x92,x93,x94,x95,x96,x97,x98,x99,x100,x101,x102,x103,x104,x105,x106,x107,x108,x109,x110,x111,x112,x113,x114] =
 gdK x10 false (λk=>k x1) λt1=>
 gdK x10 false (λk=>k x11) λt2=>
 gdK x10 false (λk=>pv (ixV t1 t2) k) λt3=>
 gdK x10 false (λk=>pv (za2 .none .eql t3 (.int .u8 82)) k) λt4=>
 pv (zad x10 (.bool true) t4) λt5=>
 Q .normal #[x0,x1,x2,x3,x4,x5,x6,x7,x8,x9,t5,x11,x12,x13,x14,x15,x16,x17,x18,x19,x20,x21,x22,x23,x24,x25,x26,x27,x28,x29,x30,x31,x32,x33,x34,x35,x36,x37,x38,x39,x40,x41,x42,x43,x44,x45,x46,x47,x48,x49,x50,x51,x52,x53,x54,x55,x56,x57,x58,x59,x60,x61,x62,x63,x64,x65,x66,x67,x68,x69,x70,x71,x72,x73,x74,x75,x76,x77,x78,x79,x80,x81,x82,x83,x84,x85,x86,x87,x88,x89,x90,x91,x10,x10,t1,t2,t3,t4,t5,x99,x100,x101,x102,x103,x104,x105,x106,x107,x108,x109,x110,x111,x112,x113,x114]:=by kernel_rfl
theorem zjb (Q:QD) (x0 x1 x2 x3 x4 x5 x6 x7 x8 x9 x10 x11 x12 x13 x14 x15 x16 x17 x18 x19 x20 x21 x22 x23 x24 x25 x26 x27 x28 x29 x30 x31 x32 x33 x34 x35 x36 x37 x38 x39 x40 x41 x42 x43 x44 x45 x46 x47 x48 x49 x50 x51 x52 x53 x54 x55 x56 x57 x58 x59 x60 x61 x62 x63 x64 x65 x66 x67 x68 x69 x70 x71 x72 x73 x74 x75 x76 x77 x78 x79 x80 x81 x82 x83 x84 x85 x86 x87 x88 x89 x90 x91 x92 x93 x94 x95 x96 x97 x98 x99 x100 x101 x102 x103 x104 x105 x106 x107 x108 x109 x110 x111 x112 x113 x114:Value):den Tryz.prog (sel (zaf Tryz.f156) [1,1,1,1,1,1,1,0,1,0,0,1,1]) Q #[x0,x1,x2,x3,x4,x5,x6,x7,x8,x9,x10,x11,x12,x13,x14,x15,x16,x17,x18,x19,x20,x21,x22,x23,x24,x25,x26,x27,x28,x29,x30,x31,x32,x33,x34,x35,x36,x37,x38,x39,x40,x41,x42,x43,x44,x45,x46,x47,x48,x49,x50,x51,x52,x53,x54,x55,x56,x57,x58,x59,x60,x61,x62,x63,x64,x65,x66,x67,x68,x69,x70,x71,x72,x73,x74,x75,x76,x77,x78,x79,x80,x81,x82,x83,x84,x85,x86,x87,x88,x89,x90,x91,x92,x93,x94,x95,x96,x97,x98,x99,x100,x101,x102,x103,x104,x105,x106,x107,x108,x109,x110,x111,x112,x113,x114] =
 pv (za2 .none .add x11 (.int .i64 1)) λt1=>
 Q .normal #[x0,x1,x2,x3,x4,x5,x6,x7,x8,x9,x10,t1,x12,x13,x14,x15,x16,x17,x18,x19,x20,x21,x22,x23,x24,x25,x26,x27,x28,x29,x30,x31,x32,x33,x34,x35,x36,x37,x38,x39,x40,x41,x42,x43,x44,x45,x46,x47,x48,x49,x50,x51,x52,x53,x54,x11,t1,x57,x58,x59,x60,x61,x62,x63,x64,x65,x66,x67,x68,x69,x70,x71,x72,x73,x74,x75,x76,x77,x78,x79,x80,x81,x82,x83,x84,x85,x86,x87,x88,x89,x90,x91,x92,x93,x94,x95,x96,x97,x98,x99,x100,x101,x102,x103,x104,x105,x106,x107,x108,x109,x110,x111,x112,x113,x114]:=by kernel_rfl
theorem zoi (Q:QD) (x0 x1 x2 x3 x4 x5 x6 x7 x8 x9 x10 x11 x12 x13 x14 x15 x16 x17 x18 x19 x20 x21 x22 x23 x24 x25 x26 x27 x28 x29 x30 x31 x32 x33 x34 x35 x36 x37 x38 x39 x40 x41 x42 x43 x44 x45 x46 x47 x48 x49 x50 x51 x52 x53 x54 x55 x56 x57 x58 x59 x60 x61 x62 x63 x64 x65 x66 x67 x68 x69 x70 x71 x72 x73 x74 x75 x76 x77 x78 x79 x80 x81 x82 x83 x84 x85 x86 x87 x88 x89 x90 x91 x92 x93 x94 x95 x96 x97 x98 x99 x100 x101 x102 x103 x104 x105 x106 x107 x108 x109 x110 x111 x112 x113 x114:Value):den Tryz.prog (sel (zaf Tryz.f156) [1,1,1,1,1,1,1,1]) Q #[x0,x1,x2,x3,x4,x5,x6,x7,x8,x9,x10,x11,x12,x13,x14,x15,x16,x17,x18,x19,x20,x21,x22,x23,x24,x25,x26,x27,x28,x29,x30,x31,x32,x33,x34,x35,x36,x37,x38,x39,x40,x41,x42,x43,x44,x45,x46,x47,x48,x49,x50,x51,x52,x53,x54,x55,x56,x57,x58,x59,x60,x61,x62,x63,x64,x65,x66,x67,x68,x69,x70,x71,x72,x73,x74,x75,x76,x77,x78,x79,x80,x81,x82,x83,x84,x85,x86,x87,x88,x89,x90,x91,x92,x93,x94,x95,x96,x97,x98,x99,x100,x101,x102,x103,x104,x105,x106,x107,x108,x109,x110,x111,x112,x113,x114] =
 gdK x5 true (λk=>k x6) λt1=>
 pv (zad x5 t1 (.bool false)) λt2=>
 gdK t2 true (λk=>k x7) λt3=>
 pv (zad t2 t3 (.bool false)) λt4=>
 gdK t4 true (λk=>k x8) λt5=>
 pv (zad t4 t5 (.bool false)) λt6=>
 gdK t6 true (λk=>k x9) λt7=>
 pv (zad t6 t7 (.bool false)) λt8=>
 gdK t8 true (λk=>k x10) λt9=>
 pv (zad t8 t9 (.bool false)) λt10=>
 Q .ret #[x0,x1,x2,x3,t10,x5,x6,x7,x8,x9,x10,x11,x12,x13,x14,x15,x16,x17,x18,x19,x20,x21,x22,x23,x24,x25,x26,x27,x28,x29,x30,x31,x32,x33,x34,x35,x36,x37,x38,x39,x40,x41,x42,x43,x44,x45,x46,x47,x48,x49,x50,x51,x52,x53,x54,x55,x56,x57,x58,x59,x60,x61,x62,x63,x64,x65,x66,x67,x68,x69,x70,x71,x72,x73,x74,x75,x76,x77,x78,x79,x80,x81,x82,x83,x84,x85,x86,x87,x88,x89,x90,x91,x92,x93,x94,x95,x96,x97,x98,x5,x5,t1,t2,t2,t3,t4,t4,t5,t6,t6,t7,t8,t8,t9,t10]:=by kernel_rfl
section
variable (K:zae) (E:zb2) (x0 x1 x2 x3:Value) (j:Nat -> Value)
abbrev q9:=cQ Tryz.f9 K E
abbrev d9:=cD Tryz.f9
theorem t9:d9 [] (q9 K E) #[U,U,U,U,U,U,U,U,U,U,U,U,U,U,U,U,U,U,U,U,U,U,U,U,U,U,U,U,U,U,U,U,U,U,U,U,U,U,U,U,U,U,U,U,U,U,U,U,U,U,U,U,U,U,U,U,U,U,U,U,U,U,U,U,U,U,U,U,U,U,U,U,U,U,U,U,U,U,U,U,U,U,U,U,U,U,U,U,U,U,U,U,U,U,U,U,U,U,U,U,U,U,U,U,U,U,U,U,U,U,U,U,U,U,U,U,U,U,U,U,U,U,U,U,U,U,U,U,U,U,U,U,U,U,U,U,U,U,U,U,U,U,U,U,U,U,U,U,U,U,U,U,U,U,U,U,U,U,U,U,U,U,U,U,U,U,U,U,U] =
 cF 11 #[(.int .i64 9000)] (λt1=>
 pv (za2 .ptr .eql t1 (.pointer none)) λt2=>
 cnd t2 (
  K (.bool false)) (
  pv (bdC #[(.int .i64 0),(.slice none 0 0)] [(0,1),(1,1)] #[(0,(.int .i64 5))]) λt3=>
  nws 108 1 (bsC #[(.int .i64 0),(.slice none 0 0)] 2 1 #[(0,t3)]) λt4=>
  cF 12 #[(.int .i64 0),t4,t1] (λt5=>
  pv (exV 0 t5) λt6=>
  pv (exV 1 t5) λt7=>
  pv (za2 .none .neq t7 (.int .u16 0)) λt8=>
  gdK t8 false (λk=>k t6) λt9=>
  gdK t8 false (λk=>pv (za2 .ptr .eql t9 (.pointer none)) k) λt10=>
  pv (zad t8 (.bool true) t10) λt11=>
  gdK t11 false (λk=>k t6) λt12=>
  gdK t11 false (λk=>cF 13 #[t12] k E) λt13=>
  gdK t11 false (λk=>pv (za2 .ptr .eql t13 (.pointer none)) k) λt14=>
  pv (zad t11 (.bool true) t14) λt15=>
  cnd t15 (
  K (.bool false)) (
  nws 3 2 (bsC #[(.int .i64 0)] 1 2 #[(0,(.int .i64 0)),(1,(.int .i64 1))]) λt16=>
  nws 3 1 (bsC #[(.int .i64 0)] 1 1 #[(0,(.int .i64 1))]) λt17=>
  pv (bdC #[(.slice none 0 0),(.int .i64 0)] [(0,1),(1,1)] #[(0,t17),(1,(.int .i64 4))]) λt18=>
  nws 110 1 (bsC #[(.slice none 0 0),(.int .i64 0)] 2 1 #[(0,t18)]) λt19=>
  pv (bdC #[(.int .u8 0),(.int .u32 0),(.int .u32 0),(.slice none 0 0),(.slice none 0 0),(.int .i64 0),(.int .i64 0),(.slice none 0 0)] [(0,1),(1,1),(2,1),(3,1),(4,1),(5,1),(6,1),(7,1)] #[(0,(.int .u8 1)),(1,(.int .u32 7)),(3,t16),(4,t19)]) λt20=>
  cF 25 #[t20] (λt21=>
  pv (exV 0 t21) λt22=>
  pv (exV 1 t21) λt23=>
  cF 16 #[t6,(.int .i64 (-1)),t22] (λt24=>
  pv (exV 0 t24) λt25=>
  pv (exV 1 t24) λt26=>
  cF 27 #[t1,(.int .i64 0)] (λt27=>
  cF 12 #[(.int .i64 0),t4,t1] (λt28=>
  pv (exV 0 t28) λt29=>
  pv (exV 1 t28) λt30=>
  pv (za2 .none .neq t30 (.int .u16 0)) λt31=>
  gdK t31 false (λk=>k t29) λt32=>
  gdK t31 false (λk=>pv (za2 .ptr .eql t32 (.pointer none)) k) λt33=>
  pv (zad t31 (.bool true) t33) λt34=>
  gdK t34 false (λk=>k t29) λt35=>
  gdK t34 false (λk=>cF 13 #[t35] k E) λt36=>
  gdK t34 false (λk=>pv (za2 .ptr .eql t36 (.pointer none)) k) λt37=>
  pv (zad t34 (.bool true) t37) λt38=>
  cnd t38 (
   K (.bool false)) (
   cF 16 #[t29,(.int .i64 (-1)),t22] (λt39=>
   pv (exV 0 t39) λt40=>
   pv (exV 1 t39) λt41=>
   pv (bdC #[(.int .u8 0),(.int .u32 0),(.int .u32 0),(.slice none 0 0),(.slice none 0 0),(.int .i64 0),(.int .i64 0),(.slice none 0 0)] [(0,1),(1,1),(2,1),(3,1),(4,1),(5,1),(6,1),(7,1)] #[(0,(.int .u8 4)),(1,(.int .u32 7)),(2,(.int .u32 3))]) λt42=>
   cF 25 #[t42] (λt43=>
   pv (exV 0 t43) λt44=>
   pv (exV 1 t43) λt45=>
   cF 36 #[t29] (λt46=>
   cF 16 #[t29,(.int .i64 (-1)),t44] (λt47=>
   pv (exV 0 t47) λt48=>
   pv (exV 1 t47) λt49=>
   pv (za2 .none .neq t26 (.int .u16 0)) λt50=>
   gdK t50 false (λk=>k t41) λt51=>
   gdK t50 false (λk=>pv (za2 .none .neq t51 (.int .u16 0)) k) λt52=>
   pv (zad t50 (.bool true) t52) λt53=>
   gdK t53 false (λk=>k t49) λt54=>
   gdK t53 false (λk=>pv (za2 .none .neq t54 (.int .u16 0)) k) λt55=>
   pv (zad t53 (.bool true) t55) λt56=>
   gdK t56 false (λk=>k t25) λt57=>
   gdK t56 false (λk=>pv (zab t57) k) λt58=>
   gdK t56 false (λk=>pv (za2 .none .neq t58 (.int .i64 1)) k) λt59=>
   pv (zad t56 (.bool true) t59) λt60=>
   gdK t60 false (λk=>k t40) λt61=>
   gdK t60 false (λk=>pv (zab t61) k) λt62=>
   gdK t60 false (λk=>pv (za2 .none .neq t62 (.int .i64 1)) k) λt63=>
   pv (zad t60 (.bool true) t63) λt64=>
   gdK t64 false (λk=>k t48) λt65=>
   gdK t64 false (λk=>pv (zab t65) k) λt66=>
   gdK t64 false (λk=>pv (za2 .none .neq t66 (.int .i64 1)) k) λt67=>
   pv (zad t64 (.bool true) t67) λt68=>
   gdK t68 false (λk=>k t46) λt69=>
   gdK t68 false (λk=>pv (zab t69) k) λt70=>
   gdK t68 false (λk=>pv (za2 .none .neq t70 (.int .i64 2)) k) λt71=>
   pv (zad t68 (.bool true) t71) λt72=>
   gdK t72 false (λk=>k t46) λt73=>
   gdK t72 false (λk=>pv (iaV none 3 t73 (.int .i64 1)) k) λt74=>
   gdK t72 false (λk=>pv (faV 1 t74) k) λt75=>
   gdK t72 false (λk=>ld false 1 t75 k) λt76=>
   gdK t72 false (λk=>pv (za2 .none .neq t76 (.int .i64 1)) k) λt77=>
   pv (zad t72 (.bool true) t77) λt78=>
   cnd t78 (
   K (.bool false)) (
   pv (iaV none 3 t25 (.int .i64 0)) λt79=>
   pv (faV 2 t79) λt80=>
   ld false 1 t80 λt81=>
   pv (iaV none 1 t81 (.int .i64 0)) λt82=>
   ld false 1 t82 λt83=>
   pv (za2 .none .eql t83 (.int .u8 2)) λt84=>
   gdK t84 true (λk=>k t40) λt85=>
   gdK t84 true (λk=>pv (iaV none 3 t85 (.int .i64 0)) k) λt86=>
   gdK t84 true (λk=>pv (faV 2 t86) k) λt87=>
   gdK t84 true (λk=>ld false 1 t87 k) λt88=>
   gdK t84 true (λk=>pv (iaV none 1 t88 (.int .i64 0)) k) λt89=>
   gdK t84 true (λk=>ld false 1 t89 k) λt90=>
   gdK t84 true (λk=>pv (za2 .none .eql t90 (.int .u8 2)) k) λt91=>
   pv (zad t84 t91 (.bool false)) λt92=>
   gdK t92 true (λk=>k t48) λt93=>
   gdK t92 true (λk=>pv (iaV none 3 t93 (.int .i64 0)) k) λt94=>
   gdK t92 true (λk=>pv (faV 2 t94) k) λt95=>
   gdK t92 true (λk=>ld false 1 t95 k) λt96=>
   gdK t92 true (λk=>pv (iaV none 1 t96 (.int .i64 0)) k) λt97=>
   gdK t92 true (λk=>ld false 1 t97 k) λt98=>
   gdK t92 true (λk=>pv (za2 .none .eql t98 (.int .u8 6)) k) λt99=>
   pv (zad t92 t99 (.bool false)) λzmu=>
   gdK zmu true (λk=>k t48) λt101=>
   gdK zmu true (λk=>pv (iaV none 3 t101 (.int .i64 0)) k) λzje=>
   gdK zmu true (λk=>pv (faV 1 zje) k) λybk=>
   gdK zmu true (λk=>ld false 1 ybk k) λzoc=>
   gdK zmu true (λk=>pv (za2 .none .eql zoc (.int .i64 (-1))) k) λznw=>
   pv (zad zmu znw (.bool false)) λzgx=>
   gdK zgx true (λk=>k t29) λzo9=>
   gdK zgx true (λk=>cF 13 #[zo9] k E) λzny=>
   gdK zgx true (λk=>cF 28 #[zny,(.int .u32 7)] k E) λt109=>
   gdK zgx true (λk=>pv (fdV false 1 1 t109) k) λzm1=>
   gdK zgx true (λk=>pv (za2 .none .eql zm1 (.int .u32 3)) k) λt111=>
   pv (zad zgx t111 (.bool false)) λt112=>
   K t112)) E) E) E) E)) E) E) E) E)) E)) E:=by kernel_rfl
abbrev q14:=cQ Tryz.f14 K E
abbrev d14:=cD Tryz.f14
theorem t14:d14 [] (q14 K E) #[x0,x1,x2,x3,U,U,U,U,U,U,U,U,U,U,U,U,U,U,U,U,U] =
 nws 3 1 (bsC #[(.int .i64 0)] 1 1 #[(0,(.int .i64 0))]) λt1=>
 pv (bdC #[(.int .u8 0),(.int .u32 0),(.int .u32 0),(.slice none 0 0),(.slice none 0 0),(.int .i64 0),(.int .i64 0),(.slice none 0 0)] [(0,1),(1,1),(2,1),(3,1),(4,1),(5,1),(6,1),(7,1)] #[(0,(.int .u8 1)),(1,x1),(3,t1),(4,x3)]) λt2=>
 cF 17 #[t2] (λt3=>
 cF 16 #[x0,(.int .i64 (-1)),t3] (λt4=>
 pv (bdC #[(.int .u8 0),(.int .u32 0),(.int .u32 0),(.slice none 0 0),(.slice none 0 0),(.int .i64 0),(.int .i64 0),(.slice none 0 0)] [(0,1),(1,1),(2,1),(3,1),(4,1),(5,1),(6,1),(7,1)] #[(0,(.int .u8 4)),(1,x1),(2,x2)]) λt5=>
 cF 17 #[t5] (λt6=>
 cF 16 #[x0,(.int .i64 (-1)),t6] (λt7=>
 K (.tuple #[])) E) E) E) E:=by kernel_rfl
abbrev q17:=cQ Tryz.f17 K E
abbrev d17:=cD Tryz.f17
theorem t17:d17 [] (q17 K E) #[x0,U,U,U,U,U,U,U,U,U,U] =
 nw 49 (Value.cells x0).toList λt1=>
 ld true 8 t1 λt2=>
 cF 25 #[t2] (λt3=>
 pv (exV 0 t3) λt4=>
 pv (exV 1 t3) λt5=>
 K t4) E:=by kernel_rfl
end
section
variable {K:zae} {E:zb2} {σ:Type} {h:Hp} {j:Nat -> Value}
end
section
variable (K:zae) (E:zb2) (x0 x1 x2 x3 x4 x5:Value) (j:Nat -> Value)
abbrev q3:=cQ Tryz.f3 K E
abbrev d3:=cD Tryz.f3
theorem t3:d3 [] (q3 K E) #[x0,x1,x2,x3,x4,x5,U,U,U,U,U,U,U,U,U,U,U,U,U,U,U,U,U,U,U,U,U,U,U,U,U,U,U,U,U,U,U,U,U,U,U,U,U,U,U,U,U,U,U,U,U,U,U,U,U,U,U,U,U,U,U,U,U,U,U,U,U,U,U,U,U,U,U,U,U,U,U,U,U,U,U,U,U,U,U,U,U,U,U,U,U,U,U,U,U,U,U,U,U,U,U,U,U,U,U,U,U,U,U,U,U,U,U,U,U,U,U,U,U,U,U,U,U,U,U,U,U,U,U,U,U,U,U,U,U,U,U,U,U,U,U,U,U,U,U,U,U,U,U,U,U,U,U,U,U,U,U,U,U,U,U,U,U,U,U,U,U,U,U,U,U,U,U,U,U,U,U,U,U,U,U,U,U,U,U,U,U,U,U,U,U,U,U,U,U,U,U,U,U,U,U,U,U,U,U,U,U,U,U,U,U,U,U,U,U,U,U,U,U,U,U] =
 pv (zab x1) λt1=>
 pv (za2 .none .gtr t1 (.int .i64 80)) λt2=>
 gdK t2 false (λk=>k x2) λt3=>
 gdK t2 false (λk=>pv (zab t3) k) λt4=>
 gdK t2 false (λk=>pv (za2 .none .gtr t4 (.int .i64 80)) k) λt5=>
 pv (zad t2 (.bool true) t5) λt6=>
 gdK t6 false (λk=>cF 9 #[] k E) λt7=>
 gdK t6 false (λk=>pv (unV .not t7) k) λt8=>
 pv (zad t6 (.bool true) t8) λt9=>
 cnd t9 (
  cF 9 #[] (λt10=>
  K t10) E) (
  cF 10 #[x0] (λt11=>
  cF 11 #[(.int .i64 262144)] (λt12=>
  cF 11 #[(.int .i64 262144)] (λt13=>
  pv (za2 .ptr .eql t12 (.pointer none)) λt14=>
  gdK t14 false (λk=>k t13) λt15=>
  gdK t14 false (λk=>pv (za2 .ptr .eql t15 (.pointer none)) k) λt16=>
  pv (zad t14 (.bool true) t16) λt17=>
  cnd t17 (
  K (.bool false)) (
  cF 12 #[(.int .i64 0),t11,t12] (λt18=>
  pv (exV 0 t18) λt19=>
  pv (exV 1 t18) λt20=>
  cF 12 #[(.int .i64 1),t11,t13] (λt21=>
  pv (exV 0 t21) λt22=>
  pv (exV 1 t21) λt23=>
  pv (za2 .none .neq t20 (.int .u16 0)) λt24=>
  gdK t24 false (λk=>k t23) λt25=>
  gdK t24 false (λk=>pv (za2 .none .neq t25 (.int .u16 0)) k) λt26=>
  pv (zad t24 (.bool true) t26) λt27=>
  gdK t27 false (λk=>k t19) λt28=>
  gdK t27 false (λk=>pv (za2 .ptr .eql t28 (.pointer none)) k) λt29=>
  pv (zad t27 (.bool true) t29) λt30=>
  gdK t30 false (λk=>k t22) λt31=>
  gdK t30 false (λk=>pv (za2 .ptr .eql t31 (.pointer none)) k) λt32=>
  pv (zad t30 (.bool true) t32) λt33=>
  gdK t33 false (λk=>k t19) λt34=>
  gdK t33 false (λk=>cF 13 #[t34] k E) λt35=>
  gdK t33 false (λk=>pv (za2 .ptr .eql t35 (.pointer none)) k) λt36=>
  pv (zad t33 (.bool true) t36) λt37=>
  gdK t37 false (λk=>k t22) λt38=>
  gdK t37 false (λk=>cF 13 #[t38] k E) λt39=>
  gdK t37 false (λk=>pv (za2 .ptr .eql t39 (.pointer none)) k) λt40=>
  pv (zad t37 (.bool true) t40) λt41=>
  cnd t41 (
   K (.bool false)) (
   cF 15 #[t11,x1,x3] (λt42=>
   cF 14 #[t19,(.int .u32 3),(.int .u32 1),t42] (λt43=>
   cF 15 #[t11,x2,x3] (λt44=>
   cF 14 #[t22,(.int .u32 4),(.int .u32 2),t44] (λt45=>
   pv (mm false x4 x5) λt46=>
   pv (cvV .i64 t46) λt47=>
   pv (za2 .none .rem t47 (.int .i64 300)) λt48=>
   pv (mm true x4 x5) λt49=>
   pv (cvV .i64 t49) λt50=>
   pv (za2 .none .rem t50 (.int .i64 300)) λt51=>
   pv (za2 .none .add t48 t51) λt52=>
   pv (bdC #[(.int .u8 0),(.int .u32 0),(.int .u32 0),(.slice none 0 0),(.slice none 0 0),(.int .i64 0),(.int .i64 0),(.slice none 0 0)] [(0,1),(1,1),(2,1),(3,1),(4,1),(5,1),(6,1),(7,1)] #[(0,(.int .u8 8)),(1,(.int .u32 9)),(5,t48),(6,t52)]) λt53=>
   cF 17 #[t53] (λt54=>
   cF 16 #[t19,(.int .i64 (-1)),t54] (λt55=>
   pv (exV 0 t55) λt56=>
   pv (exV 1 t55) λt57=>
   pv (zab t56) λt58=>
   pv (za2 .none .neq t58 (.int .i64 1)) λt59=>
   cnd t59 (
   K (.bool false)) (
   pv (iaV none 3 t56 (.int .i64 0)) λt60=>
   pv (faV 2 t60) λt61=>
   ld false 1 t61 λt62=>
   cF 18 #[t62] (λt63=>
   pv (exV 0 t63) λt64=>
   pv (exV 1 t63) λt65=>
   nw 49 [(.int .u8 0),(.int .u32 0),(.int .u32 0),(.slice none 0 0),(.slice none 0 0),(.int .i64 0),(.int .i64 0),(.slice none 0 0)] λt66=>
   st 8 t66 t64 λ_=>
   pv (faV 7 t66) λt67=>
   ld false 1 t67 λt68=>
   pv (bdC #[(.int .u8 0),(.int .u32 0),(.int .u32 0),(.slice none 0 0),(.slice none 0 0),(.int .i64 0),(.int .i64 0),(.slice none 0 0)] [(0,1),(1,1),(2,1),(3,1),(4,1),(5,1),(6,1),(7,1)] #[(0,(.int .u8 10)),(1,(.int .u32 9)),(5,t48),(6,t52),(7,t68)]) λt69=>
   cF 17 #[t69] (λt70=>
   cF 16 #[t22,(.int .i64 (-1)),t70] (λt71=>
   pv (exV 0 t71) λt72=>
   pv (exV 1 t71) λt73=>
   cF 13 #[t22] (λt74=>
   pv (zai t74) λt75=>
   pv (faV 0 t75) λt76=>
   ld false 1 t76 λt77=>
   cF 19 #[t77,(.int .i64 0),(.int .i64 10000)] (λt78=>
   cF 16 #[t22,(.int .i64 (-1)),t70] (λt79=>
   pv (exV 0 t79) λt80=>
   pv (exV 1 t79) λt81=>
   pv (za2 .none .neq t65 (.int .i64 0)) λt82=>
   gdK t82 false (λk=>pv (faV 0 t66) k) λt83=>
   gdK t82 false (λk=>ld false 1 t83 k) λt84=>
   gdK t82 false (λk=>pv (za2 .none .neq t84 (.int .u8 9)) k) λt85=>
   pv (zad t82 (.bool true) t85) λt86=>
   gdK t86 false (λk=>k t72) λt87=>
   gdK t86 false (λk=>pv (zab t87) k) λt88=>
   gdK t86 false (λk=>pv (za2 .none .neq t88 (.int .i64 1)) k) λt89=>
   pv (zad t86 (.bool true) t89) λt90=>
   gdK t90 false (λk=>k t80) λt91=>
   gdK t90 false (λk=>pv (zab t91) k) λt92=>
   gdK t90 false (λk=>pv (za2 .none .neq t92 (.int .i64 1)) k) λt93=>
   pv (zad t90 (.bool true) t93) λt94=>
   gdK t94 false (λk=>k t72) λt95=>
   gdK t94 false (λk=>pv (iaV none 3 t95 (.int .i64 0)) k) λt96=>
   gdK t94 false (λk=>pv (faV 2 t96) k) λt97=>
   gdK t94 false (λk=>ld false 1 t97 k) λt98=>
   gdK t94 false (λk=>pv (iaV none 1 t98 (.int .i64 0)) k) λt99=>
   gdK t94 false (λk=>ld false 1 t99 k) λzmu=>
   gdK t94 false (λk=>pv (za2 .none .neq zmu (.int .u8 11)) k) λt101=>
   pv (zad t94 (.bool true) t101) λzje=>
   gdK zje false (λk=>k t80) λybk=>
   gdK zje false (λk=>pv (iaV none 3 ybk (.int .i64 0)) k) λzoc=>
   gdK zje false (λk=>pv (faV 2 zoc) k) λznw=>
   gdK zje false (λk=>ld false 1 znw k) λzgx=>
   gdK zje false (λk=>pv (iaV none 1 zgx (.int .i64 0)) k) λzo9=>
   gdK zje false (λk=>ld false 1 zo9 k) λzny=>
   gdK zje false (λk=>pv (za2 .none .neq zny (.int .u8 11)) k) λt109=>
   pv (zad zje (.bool true) t109) λzm1=>
   cnd zm1 (
    K (.bool false)) (
    cF 13 #[t22] (λt111=>
    pv (zai t111) λt112=>
    pv (faV 0 t112) λyjb=>
    ld false 1 yjb λt114=>
    cF 19 #[t114,t48,t52] (λt115=>
    cF 13 #[t19] (λylo=>
    pv (zai ylo) λt117=>
    pv (faV 0 t117) λt118=>
    ld false 1 t118 λt119=>
    cF 19 #[t119,t48,t52] (λt120=>
    cF 20 #[t115,t120] (λt121=>
    gdK t121 true (λk=>k t78) λye6=>
    gdK t121 true (λk=>k t22) λt123=>
    gdK t121 true (λk=>cF 13 #[t123] k E) λt124=>
    gdK t121 true (λk=>pv (zai t124) k) λt125=>
    gdK t121 true (λk=>pv (faV 0 t125) k) λt126=>
    gdK t121 true (λk=>ld false 1 t126 k) λt127=>
    gdK t121 true (λk=>cF 19 #[t127,(.int .i64 0),(.int .i64 10000)] k E) λt128=>
    gdK t121 true (λk=>cF 20 #[ye6,t128] k E) λyiw=>
    pv (zad t121 yiw (.bool false)) λt130=>
    K t130) E) E) E) E) E)) E) E) E) E) E) E)) E) E) E) E) E) E)) E) E)) E) E) E):=by kernel_rfl
end
section
variable {K:zae} {E:zb2} {σ:Type} {h:Hp} {j:Nat -> Value}
end
section
variable (K:zae) (E:zb2) (x0 x1 x2 x3:Value) (j:Nat -> Value)
abbrev q4:=cQ Tryz.f4 K E
abbrev d4:=cD Tryz.f4
theorem t4:d4 [] (q4 K E) #[x0,x1,x2,x3,U,U,U,U,U,U,U,U,U,U,U,U,U,U,U,U,U,U,U,U,U,U,U,U,U,U,U,U,U,U,U,U,U,U,U,U,U,U,U,U,U,U,U,U,U,U,U,U,U,U,U,U,U,U,U,U,U,U,U,U,U,U,U,U,U,U,U,U,U,U,U,U,U,U,U,U,U,U,U,U,U,U,U,U,U,U,U,U,U,U,U,U,U,U,U,U,U,U,U,U,U,U,U,U,U,U,U,U,U,U,U,U,U,U,U,U,U,U,U,U,U,U,U,U,U,U,U,U,U,U,U,U,U,U,U,U,U,U,U,U,U,U,U,U,U,U] =
 pv (zab x1) λt1=>
 pv (za2 .none .gtr t1 (.int .i64 80)) λt2=>
 gdK t2 false (λk=>cF 9 #[] k E) λt3=>
 gdK t2 false (λk=>pv (unV .not t3) k) λt4=>
 pv (zad t2 (.bool true) t4) λt5=>
 cnd t5 (
  cF 9 #[] (λt6=>
  K t6) E) (
  cF 10 #[x0] (λt7=>
  cF 11 #[(.int .i64 262144)] (λt8=>
  pv (za2 .ptr .eql t8 (.pointer none)) λt9=>
  cnd t9 (
  K (.bool false)) (
  cF 12 #[(.int .i64 0),t7,t8] (λt10=>
  pv (exV 0 t10) λt11=>
  pv (exV 1 t10) λt12=>
  pv (za2 .none .neq t12 (.int .u16 0)) λt13=>
  gdK t13 false (λk=>k t11) λt14=>
  gdK t13 false (λk=>pv (za2 .ptr .eql t14 (.pointer none)) k) λt15=>
  pv (zad t13 (.bool true) t15) λt16=>
  gdK t16 false (λk=>k t11) λt17=>
  gdK t16 false (λk=>cF 13 #[t17] k E) λt18=>
  gdK t16 false (λk=>pv (za2 .ptr .eql t18 (.pointer none)) k) λt19=>
  pv (zad t16 (.bool true) t19) λt20=>
  cnd t20 (
   K (.bool false)) (
   nws 3 1 (bsC #[(.int .i64 0)] 1 1 #[(0,(.int .i64 0))]) λt21=>
   cF 15 #[t7,x1,x2] (λt22=>
   pv (bdC #[(.int .u8 0),(.int .u32 0),(.int .u32 0),(.slice none 0 0),(.slice none 0 0),(.int .i64 0),(.int .i64 0),(.slice none 0 0)] [(0,1),(1,1),(2,1),(3,1),(4,1),(5,1),(6,1),(7,1)] #[(0,(.int .u8 1)),(1,(.int .u32 3)),(3,t21),(4,t22)]) λt23=>
   cF 17 #[t23] (λt24=>
   cnd x3 (
   cF 16 #[t11,(.int .i64 (-1)),t24] (λt25=>
   d4 [1,1,1,1,1,1,1,1,1] (q4 K E) #[x0,x1,x2,x3,U,U,U,U,(.bool false),t7,t8,t11,t12,t24,U,U,U,U,U,U,U,U,x1,t1,t2,t2,t3,t4,t5,U,x0,t7,t8,t8,t9,t10,t7,t8,t10,t11,t12,t12,t13,t13,t14,t15,t16,t16,t17,t18,t19,t20,t21,t7,x1,x2,t22,t23,t24,x3,t11,t24,t25,U,U,U,U,U,U,U,U,U,U,U,U,U,U,U,U,U,U,U,U,U,U,U,U,U,U,U,U,U,U,U,U,U,U,U,U,U,U,U,U,U,U,U,U,U,U,U,U,U,U,U,U,U,U,U,U,U,U,U,U,U,U,U,U,U,U,U,U,U,U,U,U,U,U,U,U,U,U,U,U,U,U,U,U,U,U,U]) E) (
   d4 [1,1,1,1,1,1,1,1,1] (q4 K E) #[x0,x1,x2,x3,U,U,U,U,(.bool false),t7,t8,t11,t12,t24,U,U,U,U,U,U,U,U,x1,t1,t2,t2,t3,t4,t5,U,x0,t7,t8,t8,t9,t10,t7,t8,t10,t11,t12,t12,t13,t13,t14,t15,t16,t16,t17,t18,t19,t20,t21,t7,x1,x2,t22,t23,t24,x3,U,U,U,U,U,U,U,U,U,U,U,U,U,U,U,U,U,U,U,U,U,U,U,U,U,U,U,U,U,U,U,U,U,U,U,U,U,U,U,U,U,U,U,U,U,U,U,U,U,U,U,U,U,U,U,U,U,U,U,U,U,U,U,U,U,U,U,U,U,U,U,U,U,U,U,U,U,U,U,U,U,U,U,U,U,U,U,U,U,U])) E) E)) E)) E) E):=by kernel_rfl
end
section
variable {K:zae} {E:zb2} {σ:Type} {h:Hp} {j:Nat -> Value}
end
end Go.Proofs.YtlhlhpgjnjjhnaaGreatDoor.T
/- slices.Collect(maps.Keys(m)) at keys uint32: turned from the worked proof GgCollectAtTheDump (keys of a string's kind). -/
namespace Go.Proofs.YtlhlhpgjnjjhnaaGreatDoor.A
open Go Go.Proofs Go.RowKit Go.Maps Go.Sort Go.Shelf
set_option linter.unusedVariables false
set_option linter.unusedSimpArgs false
abbrev zg0 (x:Int):Value:=.int .u32 x
theorem yli {x y:Int} (h:zg0 x=zg0 y):x=y:=by simpa [zg0] using h
theorem ycj {P:Program} {k:TypeId} (hk:P.underlying k=some (.int .u32)) {key:Value} {kl:Lit} (h:keyOf P k key=some kl):∃ x:Int,key=zg0 x∧kl=.int .u32 x∧(Lit.int .u32 x).wf=true:=by
  obtain ⟨x,h1,h2,h3⟩:=Maps.keyOf_int_inv hk h;exact ⟨x,h1,h2,h3⟩
def zop {H:Type} (v:Value):Option (DataW H×List MemPlace):=some (.lit (.bool true),[])
def zl5 {H:Type} (D0:DataW H) (left:Lit -> Bool) (ss:List Int):Prop:=ss.Nodup∧∀ x,x∈ss↔(has D0 (.int .u32 x)=true∧left (.int .u32 x)=false)
theorem zl5.start {H:Type} (D0:DataW H):zl5 D0 (has D0) []:=⟨List.nodup_nil,λx=>by cases has D0 (.int .u32 x)<;>simp⟩
theorem zl5.step {H:Type} {D0:DataW H} {left:Lit -> Bool} {ss:List Int} (h:zl5 D0 left ss) {x:Int} {y:DataW H} (hlk:left (.int .u32 x)=true) (hat:∀ zd,D0.atKey (.int .u32 x) zd=y):zl5 D0 (λz=>left z && !z.sameKey (.int .u32 x)) (ss++[x]):=by
  have hhas:has D0 (.int .u32 x)=true:=has_true_of_atKey hat
  have hnew:x ∉ ss:=λhx=>by have := ((h.2 x).1 hx).2; rw [hlk] at this; cases this
  refine ⟨List.nodup_append.2 ⟨h.1,by simp,λa ha b hb=>by simp at hb; subst hb; exact λe=>hnew (e ▸ ha)⟩,λy=>?_⟩
  by_cases hy:y=x
  · subst hy; simp [hhas,Lit.sameKey]
  · simp [h.2 y,hy,Lit.sameKey]
theorem zl5.all {H:Type} {D0:DataW H} {left:Lit -> Bool} {ss:List Int} (h:zl5 D0 left ss) (hl:∀ kl,left kl=false):ss.Nodup∧∀ x,x∈ss↔has D0 (.int .u32 x)=true:=⟨h.1,λx=>by rw [h.2 x,hl]; simp⟩
theorem ybh {H:Type} (F:Fence) (n:Nat) (h10:F.fn 111) (hro:F.round=none) (hn:1≤n) (l Bm b nn:Nat) (D0:DataW H) (J:List Int -> World -> Prop)
    (hY:∀ pre x W,J pre W -> pre.length<Maps.size D0 -> YieldAt F (n - 1) Tryz.prog l #[zg0 x] W λe W'=>e=.returned (.bool true)∧J (pre++[x]) W'∧KeepsWalks W W')
    (W:World) (hJ:AbidesFrom W.heap.size J) (hm:W.cell? ⟨Bm,0,none⟩=some (.map (some b))) (hown:W.ownsMap Tryz.prog 38 zop b nn D0) (h0:J [] W) :
    CallsIn F n Tryz.prog 111 #[.func (.yield l) #[] #[],.pointer (some ⟨Bm,0,none⟩)] W λe W'=>(∃ v,e=.returned v)∧∃ ss:List Int,(ss.Nodup∧∀ x,x∈ss↔has D0 (.int .u32 x)=true)∧J ss W':=by
  refine callsIn_of_wp Tryz.func111 rfl h10 ?_ hro;simp only [Tryz.ntmps111,List.size_toArray,List.length_cons,List.length_nil,Nat.reduceAdd,Nat.reduceSub,Array.replicate_succ,Array.replicate_zero,List.push_toArray,List.append_toArray,List.nil_append,List.cons_append]
  gi_wp2_with (first
    | (gi_at_range; refine wpListIn_range_own _ rfl _ 56 rfl 38 154 (int_keyed Tryz.underlying38) Tryz.underlying56 _ b nn _ rfl hown ?_; intro w0 hrg0 hg0 hs0)
    | gi_in)
  go_frame
  gi_loopw [3] (λ_ wr=>∃ (left:Lit -> Bool) (cnt:Nat) (ss:List Int),wr.ranges Tryz.prog 38 zop b W.heap.size nn D0 left cnt∧ss.length+cnt≤Maps.size D0∧zl5 D0 left ss∧J ss wr)
    (λ_ wr=>wr.rangeLeft b W.heap.size)
  case atStart=>
    exact ⟨_,_,[],hrg0,by simp,zl5.start D0,hJ [] W w0 none h0 hg0 (λr e=>by cases e)⟩
  case round=>
    obtain ⟨left,cnt,ss,hrg,hcs,hC,hJs⟩:=hrel
    gi_wp2_with (first
      | (gi_at_next; refine wpListIn_next_ranges _ rfl _ rfl 38 (int_keyed Tryz.underlying38) zop zg0 id (λkey kl hk=>by obtain ⟨x,hx,_⟩:=ycj Tryz.underlying38 hk; exact ⟨x,hx⟩) (λv _ _=>⟨v,rfl⟩) b W.heap.size nn _ _ _ rfl hrg ?_ ?_)
      | gi_in)
    ·
      intro hc0 hl0
      gi_wp2
      go_end0
      exact ⟨⟨_,rfl⟩,ss,hC.all hl0,hJs⟩
    ·
      intro x c kl yd yp w2 cnt2 hkey hlk hv hat hrg2 hlt hg2 hs2 hen;obtain ⟨x',ex,rfl,_⟩:=ycj Tryz.underlying38 hkey;obtain rfl:x=x':=yli ex;have hJ2:J ss w2:=hJ ss wr w2 (some W.heap.size) hJs hg2 (λr e=>by cases e; exact ⟨Nat.le_refl _,hrg.iter_walk⟩);obtain ⟨fn,tmps,assign,body,hy,hR⟩:=hY ss x w2 hJ2 (by omega);clear hs2
      gi_wp2
      refine hR.mono ?_;rintro e W3 ⟨rfl,hJ3,hk3⟩
      gi_wp2
      have hrg3:=hrg2.of_walks hk3
      go_roundw
      case rel=>exact ⟨_,cnt2,ss++[x],hrg3,by simp; omega,hC.step hlk hat,hJ3⟩
      case measure=>rw [hrg3.left_eq,hrg.left_eq]; exact hlt
theorem zym {H:Type} (F:Fence) (n:Nat) (h10:F.fn 111) (hro:F.round=none) (hn:1≤n) (Bm b nn:Nat) (D0:DataW H) (w:World) (hBm:Bm<w.heap.size)
    (hm:w.cell? ⟨Bm,0,none⟩=some (.map (some b))) (hown:w.ownsMap Tryz.prog 38 zop b nn D0) :
    SeqGives F n Tryz.prog 111 #[.pointer (some ⟨Bm,0,none⟩)] zg0 (λss=>(ss.Nodup∧∀ x,x∈ss↔has D0 (.int .u32 x)=true)) (Maps.size D0) w:=λl J W hW hJ hY h0=>by
  have hown':W.ownsMap Tryz.prog 38 zop b nn D0:=by
    have hbl:=hown.lt;obtain ⟨es,clock,hb,Ft,hs,hD⟩:=hown;exact ⟨es,clock,(hW.block b hbl).trans hb,Ft,hs,hD⟩
  exact ybh F n h10 hro hn l Bm b nn D0 J hY W hJ ((hW.cell (p:=⟨Bm,0,none⟩) hBm).trans hm) hown' h0
def zmn:Code:=(Code.region 2 #[{ dst:=some 5,op:=Op.assign (Operand.tmp 7),type:=38,pos := "iter.go:51",after:=#[],guard:=none }] false)
def zps:Code:=(Code.block 1 (Code.region 3 #[{ dst:=some 8,op:=Op.load 61 (Operand.tmp 2),type:=61,pos := "iter.go:52",after:=#[],guard:=none },{ dst:=some 9,op:=Op.move (Operand.tmp 5),type:=38,pos := "iter.go:52",after:=#[],guard:=none },{ dst:=some 10,op:=Op.buildSlice 61 1 #[(0,Operand.tmp 9)],type:=61,pos := "iter.go:52",after:=#[{ on:=1,ground:=Ground.data }],guard:=none },{ dst:=some 11,op:=Op.call { callee:=Callee.builtin Builtin.append,args:=#[Operand.tmp 8,Operand.tmp 10],argTypes:=#[61,61] },type:=61,pos := "iter.go:52",after:=#[{ on:=0,ground:=Ground.data },{ on:=2,ground:=Ground.data }],guard:=none },{ dst:=none,op:=Op.store 61 (Operand.tmp 2) (Operand.tmp 11),type:=0,pos := "iter.go:52",after:=#[{ on:=3,ground:=Ground.data },{ on:=3,ground:=Ground.chain },{ on:=0,ground:=Ground.phase },{ on:=1,ground:=Ground.phase },{ on:=2,ground:=Ground.phase },{ on:=3,ground:=Ground.phase }],guard:=none }] false))
def zfg (fn:FuncId) (sv:Value) (Bs D:Nat) (st:LoopState) (pend:Option Code):Loop :=
  { state:=st,pending:=pend,fn,tmps:=#[.slice none 0 0,sv,.pointer (some ⟨Bs,0,none⟩),undef,.slice none 0 0,undef,sv,undef,undef,undef,undef,undef,undef],params:=#[7],assign:=zmn,body:=zps,defers:=D }
structure zn0 (w0:World) (fn:FuncId) (sv:Value) (Bs l D:Nat) (ss:List Int) (W:World):Prop where
  box:∃ v,W.heap[Bs]?=some (.cells #[v] 61 (0,0))∧W.ownsRow w0.heap.size 38 1 v ss.length (ss.map zg0)∧(v=.slice none 0 0↔ss=[])
  L:W.heap[l]?=some (.loop (zfg fn sv Bs D .ready none))
  K:W.heap[D]?=some (.deferred (some []))
  below:Below w0.heap.size w0 W
theorem yat (w0:World) (fn:FuncId) (sv:Value) (Bs l D B:Nat) (hB:w0.heap.size≤B):AbidesFrom B (zn0 w0 fn sv Bs l D):=λs W W' row h hg hrow=>by
  have hrow':∀ r,row=some r -> ∃ o:Obj,W.heap[r]?=some o∧o.isWalk=true:=λr e=>(hrow r e).2;obtain ⟨v,hv,hr,hn⟩:=h.box
  exact ⟨⟨v,(grownBy_keeps hg hrow' hv rfl).trans hv,ownsRow_abides_a hr hg hrow',hn⟩,(grownBy_keeps hg hrow' h.L rfl).trans h.L,(grownBy_keeps hg hrow' h.K rfl).trans h.K,
    h.below.grown hg h.below.size (λk e=>Nat.le_trans hB (hrow k e).1)⟩
theorem ymj:(Tryz.prog.info? 38).map (λi=>(i.zero,i.size,i.bytes))=some (some (.int .u32 0),1,4):=by kernel_rfl
theorem yfc (F:Fence) (m:Nat) (w0:World) (fn:FuncId) (hfn:F.fn fn) (sv:Value) (Bs l D:Nat) (hBl:Bs≠l) (hDl:D≠l) (hDB:D≠Bs) (h0B:w0.heap.size≤Bs) (h0l:w0.heap.size≤l)
    (N:Nat) (hN:N≤maxLen) (hNb:N*4≤140737488355328) (ss:List Int) (x:Int) (W:World) (h:zn0 w0 fn sv Bs l D ss W) (hlen:ss.length<N) :
    YieldAt F m Tryz.prog l #[zg0 x] W λe W'=>e=.returned (.bool true)∧zn0 w0 fn sv Bs l D (ss++[x]) W'∧KeepsWalks W W':=by
  obtain ⟨i0,hi,hz0,hz1,hz2⟩:=info_parts ymj;obtain ⟨v,hv,hrow,_⟩:=h.box;refine ⟨fn,#[.slice none 0 0,sv,.pointer (some ⟨Bs,0,none⟩),undef,.slice none 0 0,undef,sv,zg0 x,undef,undef,undef,undef,undef],zmn,zps,by simpa [zfg] using run_yield (P:=Tryz.prog) (args:=#[zg0 x]) h.L rfl,roundIn_of_wpIn hfn ?_⟩;have hl:l<W.heap.size:=(Array.getElem?_eq_some_iff.1 h.L).1;have hbr:=run_beginRound (P:=Tryz.prog) h.L rfl;obtain ⟨W2,hW2⟩:∃ W2,W.putObj l (.loop { zfg fn sv Bs D .ready none with state:=.busy })=W2:=⟨_,rfl⟩;rw [hW2] at hbr;have hg2:W.grownBy W2 (some l):=by rw [← hW2]; exact grownBy_putObj_a _ _ _
  have hk2:KeepsWalks W W2:=by rw [← hW2]; exact KeepsWalks.putObj _ h.L rfl
  have hv2:W2.heap[Bs]?=some (.cells #[v] 61 (0,0)):=by rw [← hW2]; exact (World.putObj_heap_other hBl).trans hv
  have hK2:W2.heap[D]?=some (.deferred (some [])):=by rw [← hW2]; exact (World.putObj_heap_other hDl).trans h.K
  have hL2:W2.heap[l]?=some (.loop { zfg fn sv Bs D .ready none with state:=.busy }):=by rw [← hW2]; exact World.putObj_heap_same hl
  have hrow2:W2.ownsRow w0.heap.size 38 1 v ss.length (ss.map zg0):=hrow.kept hg2 (ownsRow_ne_a hrow h.L (λcur e=>by cases e));have hb2:Below w0.heap.size w0 W2:=h.below.grown hg2 h.below.size (λk e=>by cases e; exact h0l);obtain ⟨hc2,hf2⟩:=cell_of_box_a hv2;have hBlt:Bs<W2.heap.size:=(Array.getElem?_eq_some_iff.1 hv2).1;have hl2:l<W2.heap.size:=(Array.getElem?_eq_some_iff.1 hL2).1;have hDlt:D<W2.heap.size:=(Array.getElem?_eq_some_iff.1 hK2).1
  have ne_of:∀ {j:Nat} {o:Obj},W2.heap[j]?=some o -> (∀ cur,o≠.cells cur 38 (0,0)) -> some j≠v.ownBlock:=λhj hno=>by
    rcases ownsRow_ne_a hrow2 hj hno with e | e
    · rw [e]; simp
    · exact λe'=>e e'.symm
  clear hW2;unfold zmn
  gi_wp2_with (rw [Oper.semAt_eq _ _ _ (λc h=>by cases h)]; go_simp; try go_bits)
  unfold zps
  gi_wp2_with (first
    | (gi_at_builtin; refine wpListIn_append_own _ rfl _ _ 61 rfl w0.heap.size 38 i0 (.int .u32 0) 1 4 Tryz.underlying61 hi hz0 hz1 hz2 rfl (by decide) _ _ _ rfl (hrow2.alloc _) ⟨W2.heap.size,0,none⟩ 1 1 [zg0 x] rfl rfl (cell_one_new _ _ _) (by simp [Value.oneCell',zg0]) (by omega) (by omega) (by have := hb2.size; simp; omega) ?_; intro v' w3 hown' hg3 hnil3
       have hv3:w3.heap[Bs]?=some (.cells #[v] 61 (0,0)):=(hg3.block Bs (by simp; omega) (ne_of hv2 (λcur e=>by cases e))).trans ((Below.heap_alloc _ _ Bs hBlt).trans hv2);obtain ⟨hc3,hf3⟩:=cell_of_box_a hv3
       obtain ⟨g',cap',cur',rfl,hbase',hgb',hr1,hr2,hr3,hr4⟩:∃ g' cap' cur',v'=.slice (some ⟨g',0,none⟩) (ss.length+1) cap'∧w0.heap.size≤g'∧w3.heap[g']?=some (.cells cur' 38 (0,0))∧ss.length+1≤cap'∧cap'≤maxLen∧cur'.size=cap'*1∧cur'.toList.take ((ss.length+1)*1)=ss.map zg0++[zg0 x]:=by
         rcases hown'.2 with ⟨_,h0⟩ | h'
         · exact absurd h0 (by omega)
         · exact h'
       go_frame)
    | (rw [Oper.semAt_eq _ _ _ (λc h=>by cases h)]; go_simp; try go_bits))
  have hg3':(W2.alloc (.cells #[zg0 x] 38)).grownBy w3 v.ownBlock:=hg3;have hL3:w3.heap[l]?=some (.loop { zfg fn sv Bs D .ready none with state:=.busy }):=(hg3'.block l (by simp; omega) (ne_of hL2 (λcur e=>by cases e))).trans ((Below.heap_alloc _ _ l hl2).trans hL2);have hK3:w3.heap[D]?=some (.deferred (some [])):=(hg3'.block D (by simp; omega) (ne_of hK2 (λcur e=>by cases e))).trans ((Below.heap_alloc _ _ D hDlt).trans hK2);obtain ⟨w4,hw4⟩:∃ w4,w3.setCell ⟨Bs,0,none⟩ (.slice (some ⟨g',0,none⟩) (ss.length+1) cap')=w4:=⟨_,rfl⟩;rw [hw4];have hg4:w3.grownBy w4 (some Bs):=by rw [← hw4]; exact grownBy_setCell0_a _ _ _
  have hv4:w4.heap[Bs]?=some (.cells #[.slice (some ⟨g',0,none⟩) (ss.length+1) cap'] 61 (0,0)):=by rw [← hw4]; exact heap_setCell_box_a _ hv3
  have hL4:w4.heap[l]?=some (.loop { zfg fn sv Bs D .ready none with state:=.busy }):=(hg4.block l (Array.getElem?_eq_some_iff.1 hL3).1 (λe=>hBl (by cases e; rfl))).trans hL3;have hK4:w4.heap[D]?=some (.deferred (some [])):=(hg4.block D (Array.getElem?_eq_some_iff.1 hK3).1 (λe=>hDB (by cases e; rfl))).trans hK3;have hrow4:=hown'.kept hg4 (ownsRow_ne_a hown' hv3 (λcur e=>by cases e));have hl4:l<w4.heap.size:=(Array.getElem?_eq_some_iff.1 hL4).1;have hb3:Below w0.heap.size w0 w3:=(hb2.alloc hb2.size _).grown hg3' (by have := hb2.size; simp; omega) (λk e=>(hrow2.lt k e).1);have hb4:Below w0.heap.size w0 w4:=hb3.grown hg4 hb3.size (λk e=>by cases e; exact h0B);have hk4:KeepsWalks W w4:=((hk2.trans (KeepsWalks.alloc _ _)).trans (KeepsWalks.of_grownBy hg3' (ownsRow_not_walk_a (hrow2.alloc _)))).trans (by rw [← hw4]; exact KeepsWalks.setCell _ _ _);clear hw4;refine ⟨_,_,run_endRound none hL4,rfl,⟨⟨_,(World.putObj_heap_other hBl).trans hv4,?_,by simp⟩,World.putObj_heap_same hl4,(World.putObj_heap_other hDl).trans hK4,hb4.grown (grownBy_putObj_a _ _ _) hb4.size (λk e=>by cases e; exact h0l)⟩,hk4.trans (KeepsWalks.putObj _ hL4 rfl)⟩;have := hrow4.kept (grownBy_putObj_a w4 l (.loop { { zfg fn sv Bs D .ready none with state:=.busy } with state:=if (none:Option Code).isNone then .ready else .done,pending:=none })) (ownsRow_ne_a hrow4 hL4 (λcur e=>by cases e))
  simpa using this
theorem zu5 (F:Fence) (n:Nat) (h11:F.fn 153) (hro:F.round=none) (hn:2≤n) (g:Nat) (lb:Array Value) (hFg:F.fn g) (eg:∀ args w,(callFunc g args).run Tryz.prog w=.ok (.enter g args) w)
    (S:List Int -> Prop) (N:Nat) (hN:N≤maxLen) (hNb:N*4≤140737488355328) (w:World) (hseq:SeqGives F (n - 1) Tryz.prog g lb zg0 S N w) :
    CallsIn F n Tryz.prog 153 #[.slice none 0 0,.func (.func g) #[] lb] w λe w'=>∃ (v:Value) (ss:List Int),e=.returned v∧S ss∧w'.ownsRow w.heap.size 38 1 v ss.length (ss.map zg0)∧(v=.slice none 0 0↔ss=[])∧Below w.heap.size w w':=by
  have h1:1≤n:=by omega
  refine callsIn_of_wp_marks Tryz.func153 rfl h11 ?_ hro;simp only [Tryz.ntmps153,List.size_toArray,List.length_cons,List.length_nil,Nat.reduceAdd,Nat.reduceSub,Array.replicate_succ,Array.replicate_zero,List.push_toArray,List.append_toArray,List.nil_append,List.cons_append]
  gi_wp2
  refine wpIn_rangeFunc ?_;intro fn hfn;rw [hro];obtain ⟨W0,hW0⟩:∃ W0,w.alloc (.cells #[.slice none 0 0] 61)=W0:=⟨_,rfl⟩;have hs0:W0.heap.size=w.heap.size+1:=by rw [← hW0]; simp
  have hv0:W0.heap[w.heap.size]?=some (.cells #[.slice none 0 0] 61 (0,0)):=by rw [← hW0]; exact World.alloc_heap_new w _
  have hb0:Below w.heap.size w W0:=by rw [← hW0]; exact (Below.refl _ w).alloc (Nat.le_refl _) _
  rw [hW0];obtain ⟨W1,hW1⟩:∃ W1,(W0.alloc (.deferred (some []))).alloc (.loop (zfg fn (.func (.func g) #[] lb) w.heap.size W0.heap.size .ready none))=W1:=⟨_,rfl⟩
  have hold:∀ k,k<W0.heap.size -> W1.heap[k]?=W0.heap[k]?:=λk hk=>by
    rw [← hW1]; exact (Below.heap_alloc _ _ k (by simp; omega)).trans (Below.heap_alloc _ _ k hk)
  have hb1:Below w.heap.size w W1:=by rw [← hW1]; exact (hb0.alloc hb0.size _).alloc (by have := hb0.size; simp; omega) _
  have hs1:W1.heap.size=W0.heap.size+2:=by rw [← hW1]; simp
  have hM:zn0 w fn (.func (.func g) #[] lb) w.heap.size (W0.heap.size+1) W0.heap.size [] W1 :=
    ⟨⟨_,(hold w.heap.size (by omega)).trans hv0,⟨rfl,.inl ⟨rfl,rfl⟩⟩,by simp⟩,
     by rw [← hW1]; have := World.alloc_heap_new (W0.alloc (.deferred (some []))) (.loop (zfg fn (.func (.func g) #[] lb) w.heap.size W0.heap.size .ready none)); rwa [World.size_alloc] at this,
     by rw [← hW1]; exact (Below.heap_alloc _ _ _ (by simp)).trans (World.alloc_heap_new W0 _),hb1⟩
  refine ⟨W0.heap.size+1,[{ target:=.collected W0.heap.size,args:=#[] }],W1,{ target:=.fn (.func g) lb,args:=#[.func (.yield (W0.heap.size+1)) #[] #[]] },W1,g,
    #[.func (.yield (W0.heap.size+1)) #[] #[]]++lb,W1,?_,?_,?_,?_,λ_=>h1,?_⟩
  · rw [← hW1]; exact run_enterLoop_outer _ _ _ _ _
  · simp [resolve,go_sem]
  · intro f' hf'; simp [Target.leads] at hf'; subst hf'; exact hFg
  · simp [invoke,go_sem,eg]
  · refine (hseq (W0.heap.size+1) (zn0 w fn (.func (.func g) #[] lb) w.heap.size (W0.heap.size+1) W0.heap.size) W1 hb1 (yat _ _ _ _ _ _ _ hb1.size)
      (λpre x W hJ hl=>yfc F (n - 1 - 1) w fn hfn _ w.heap.size (W0.heap.size+1) W0.heap.size (by omega) (by omega) (by omega) (Nat.le_refl _) (by omega) N hN hNb pre x W hJ hl) hM).mono ?_
    rintro e W2 ⟨⟨v0,rfl⟩,ss,hS,h2⟩;obtain ⟨v,hv,hrow,hnil⟩:=h2.box;have hend:=run_endLoop (P:=Tryz.prog) h2.L (by simp [zfg]);obtain ⟨W3,hW3⟩:∃ W3,W2.putObj (W0.heap.size+1) (.loop { zfg fn (.func (.func g) #[] lb) w.heap.size W0.heap.size .ready none with state:=.exhausted })=W3:=⟨_,rfl⟩;rw [hW3] at hend;have hg3:W2.grownBy W3 (some (W0.heap.size+1)):=by rw [← hW3]; exact grownBy_putObj_a _ _ _
    have hv3:W3.heap[w.heap.size]?=some (.cells #[v] 61 (0,0)):=by rw [← hW3]; exact (World.putObj_heap_other (by omega)).trans hv
    have hK3:W3.heap[W0.heap.size]?=some (.deferred (some [])):=by rw [← hW3]; exact (World.putObj_heap_other (by omega)).trans h2.K
    have hrow3:=hrow.kept hg3 (ownsRow_ne_a hrow h2.L (λcur e=>by cases e));have hb3:Below w.heap.size w W3:=h2.below.grown hg3 h2.below.size (λk e=>by cases e; omega);obtain ⟨hc3,hf3⟩:=cell_of_box_a hv3;clear hW3;refine ⟨none,W3,hend,?_⟩
    gi_wp2
    rw [← hs0];refine ⟨by simp,.inl ⟨_,_,rfl,run_takeDeferred hK3,?_⟩⟩;exact ⟨_,results_tmp rfl _ _ _,v,ss,rfl,hS,hrow3.kept (grownBy_putObj_a _ _ _) (ownsRow_ne_a hrow3 hK3 (λcur e=>by cases e)),hnil,hb3.grown (grownBy_putObj_a _ _ _) hb3.size (λk e=>by cases e; omega)⟩
theorem zyl (F:Fence) (n:Nat) (h8:F.fn 109) (h11:F.fn 153) (hro:F.round=none) (hn:3≤n) (g:Nat) (lb:Array Value) (hFg:F.fn g) (eg:∀ args w,(callFunc g args).run Tryz.prog w=.ok (.enter g args) w)
    (S:List Int -> Prop) (N:Nat) (hN:N≤maxLen) (hNb:N*4≤140737488355328) (w:World) (hseq:SeqGives F (n - 1 - 1) Tryz.prog g lb zg0 S N w) :
    CallsIn F n Tryz.prog 109 #[.func (.func g) #[] lb] w λe w'=>∃ (v:Value) (ss:List Int),e=.returned v∧S ss∧w'.ownsRow w.heap.size 38 1 v ss.length (ss.map zg0)∧(v=.slice none 0 0↔ss=[])∧Below w.heap.size w w':=by
  have h1:1≤n:=by omega
  refine callsIn_of_wp Tryz.func109 rfl h8 ?_ hro;simp only [Tryz.ntmps109,List.size_toArray,List.length_cons,List.length_nil,Nat.reduceAdd,Nat.reduceSub,Array.replicate_succ,Array.replicate_zero,List.push_toArray,List.append_toArray,List.nil_append,List.cons_append]
  gi_wp2_with (gi_at_call 153; refine (zu5 F (n - 1) h11 hro (by omega) g lb hFg eg S N hN hNb _ hseq).mono ?_; rintro e w' ⟨v,ss,rfl,hS,hrow,hnil,hb⟩)
  go_ret
  exact ⟨v,ss,rfl,hS,hrow,hnil,hb⟩
end Go.Proofs.YtlhlhpgjnjjhnaaGreatDoor.A
open Go Go.RowKit Go.Proofs.YtlhlhpgjnjjhnaaGreatDoor.K Go.Proofs.YtlhlhpgjnjjhnaaGreatDoor.T
set_option linter.unusedVariables false
set_option linter.unusedSimpArgs false
namespace Go.Proofs.YtlhlhpgjnjjhnaaGreatDoor.A
theorem za8:Tryz.prog.follows .mixedOrders=true:=by kernel_rfl
variable {F F':Nat -> Option (List Value)} {M M':Nat -> Option zak} {N N':Nat} {K:zae} {E:zb2}
end Go.Proofs.YtlhlhpgjnjjhnaaGreatDoor.A
open Go Go.RowKit Go.Proofs.YtlhlhpgjnjjhnaaGreatDoor.K Go.Proofs.YtlhlhpgjnjjhnaaGreatDoor.T
set_option linter.unusedVariables false
set_option linter.unusedSimpArgs false
namespace Go.Proofs.YtlhlhpgjnjjhnaaGreatDoor.A
variable {F F':Nat -> Option (List Value)} {M M':Nat -> Option zak} {N N':Nat} {K:zae} {E:zb2}
structure CE where
 n:Int
 s:Int
 lo:Int
 hi:Int
 deriving DecidableEq
def CE.cs (c:CE):List Value:=[.int .i64 c.n,.int .i64 c.s,.int .i64 c.lo,.int .i64 c.hi]
def CE.add (a b:CE):CE :=
 if b=⟨0,0,0,0⟩ then a else if a=⟨0,0,0,0⟩ then b else
  ⟨IntKind.i64.wrap (a.n+b.n),IntKind.i64.wrap (a.s+b.s),if b.lo<a.lo then b.lo else a.lo,if b.hi>a.hi then b.hi else a.hi⟩
def CE.merge (a b:CE):CE:=if 0=a.n then b else if 0=b.n then a else a.add b
def ic (l:List Int):List Value:=l.map (.int .i64)
theorem zwy {v:Value} {l:List Int} (hm0:∀ q,N≤q -> M q=none) (hv:sR F M 1 v l.length (ic l)) (hl:l.length≤10000000000000)
  (k:∀ v' F' N',(Hp.mk F' M N').wf -> za7 F F' -> N≤N' -> sF F' 1 v' l.length (ic l) -> K v' ⟨F',M,N'⟩):cF 122 #[v] K E ⟨F,M,N⟩:=by
 refine za4 za8 Tryz.func122 (by kernel_rfl) (ye6 _ E _) (λhw=>?_);obtain ⟨a,c,rfl,hc⟩:=hv.form;cases a with
 | none=>
  have h0:l.length=0:=by rcases hv.2 with ⟨a',c',h1,h2⟩ | ⟨b,o,c',cs,h1,_⟩; exact h2; simp at h1
  have hl0:l=[]:=List.eq_nil_of_length_eq_zero h0;refine zaa rfl (zax λhc=>⟨_,za1 hc,λhw'=>k _ F N hw' (za7.refl _) (Nat.le_refl _) ?_⟩);rw [hl0]; exact sF.nil _ _ _
 | some ad=>
  refine zaa rfl (zaq ?_);refine zcx (cs:=[]) (by kernel_rfl) (λb0 hb0=>?_);refine zzw (n:=0) (cs:=[]) (m:=l.length) (news:=ic l) (ya7 (za0 _ _ _) rfl) (hv.new hw.m hb0).read (zs9 _) (by omega) (by simp [maxLen]; omega) (λh=>by cases h) (λ_ b c' hb hmc hcm hc=>?_);have hb':N≤b:=by rcases hb with h | h; omega; simp [Value.ownBlock] at h; omega
  rw [Nat.zero_add] at hmc;refine ⟨⟨upd F b (some (ic l)),M,max (b0+1) (b+1)⟩,znb (M0:=M) hc ?_ (hm0 b hb') (za0 _ _ _),λhw'=>k _ _ _ hw' (za7.upd (hw.f b hb')) (by omega) ?_⟩
  ·intro q c hq
   have hqN:q<N:=by
    rcases Nat.lt_or_ge q N with h | h
    ·exact h
    ·rw [hm0 q h] at hq; cases hq
   exact (za3 _ _ (by omega)).trans ((zm9 _ (by simp [Value.ownBlock]; omega)).trans ((za3 _ _ (by omega)).trans hq))
  ·rw [Nat.zero_add];exact zjz (by simp [ic]) hmc
def CE.sum (a b:CE):CE:=⟨IntKind.i64.wrap (a.n+b.n),IntKind.i64.wrap (a.s+b.s),if b.lo<a.lo then b.lo else a.lo,if b.hi>a.hi then b.hi else a.hi⟩
def CE.rmerge (a b:CE):CE:=if a.n=0 then b else if b.n=0 then a else a.sum b
end Go.Proofs.YtlhlhpgjnjjhnaaGreatDoor.A
open Go
namespace Go.Proofs.YtlhlhpgjnjjhnaaGreatDoor.A
end Go.Proofs.YtlhlhpgjnjjhnaaGreatDoor.A
open Go
set_option linter.unusedVariables false
set_option linter.unusedSimpArgs false
namespace Go.Proofs.YtlhlhpgjnjjhnaaGreatDoor.A
def zzd:List Int -> List Int -> Int
 | [],[]=>0
 | [],_::_=>-1
 | _::_,[]=>1
 | a::l,b::m=>if a<b then -1 else if a>b then 1 else zzd l m
abbrev Rw:=List Int×CE
def ypi:List Rw -> List Int -> Option CE
 | [],_=>none
 | (k',c)::t,k=>if k'=k then some c else ypi t k
def yrd (t:List Rw):Prop:=t.Pairwise λa b=>a.1≠b.1
def srt (t:List Rw):Prop:=t.Pairwise λa b=>zzd a.1 b.1<0
def mrg (o:Option CE) (c:CE):CE:=match o with
 | none=>c
 | some c'=>c'.merge c
def yqi:List Rw -> List Int -> CE -> List Rw
 | [],k,c=>[(k,c)]
 | (k',c')::t,k,c=>if k'=k then (k',c'.merge c)::t else (k',c')::yqi t k c
def yp0:List Rw -> List Int -> CE -> List Rw
 | [],k,c=>[(k,c)]
 | (k',c')::t,k,c=>if zzd k' k<0 then (k',c')::yp0 t k c else if zzd k' k=0 then (k,c'.merge c)::t else (k,c)::(k',c')::t
def tab (l:List Rw):List Rw:=l.foldl (λt r=>yp0 t r.1 r.2) []
def yxs (l:List Rw):List Rw:=l.foldl (λt r=>yqi t r.1 r.2) []
end Go.Proofs.YtlhlhpgjnjjhnaaGreatDoor.A
open Go Go.RowKit Go.Proofs.YtlhlhpgjnjjhnaaGreatDoor.K Go.Proofs.YtlhlhpgjnjjhnaaGreatDoor.T
set_option linter.unusedVariables false
set_option linter.unusedSimpArgs false
namespace Go.Proofs.YtlhlhpgjnjjhnaaGreatDoor.A
variable {F F':Nat -> Option (List Value)} {M M':Nat -> Option zak} {N N':Nat} {K:zae} {E:zb2}
def za5 (M:Nat -> Option zak) (N:Nat):Prop:=∀ k,N≤k -> M k=none
theorem za5.new (h:za5 M N) {b:Nat} (hb:N≤b) (x:Option zak):za5 (upd M b x) (b+1):=λk hk=>(za3 _ _ (by omega)).trans (h k (by omega))
theorem za5.up (h:za5 M N) (hN:N≤N'):za5 M N':=λk hk=>h k (by omega)
theorem za5.set (h:za5 M N) {b:Nat} (hb:b<N) (x:Option zak):za5 (upd M b x) N:=λk hk=>(za3 _ _ (by omega)).trans (h k hk)
theorem za5.lt (h:za5 M N) {b:Nat} {c:zak} (hb:M b=some c):b<N:=by
 rcases Nat.lt_or_ge b N with h' | h'
 ·exact h'
 ·rw [h b h'] at hb; cases hb
def own (M:Nat -> Option zak) (B:Nat) (e:TypeId) (sz:Nat) (v:Value) (n:Nat) (cs:List Value):Prop :=
 cs.length=n*sz∧((v=.slice none 0 0∧n=0)∨∃ b c rest,v=.slice (some ⟨b,0,none⟩) n c∧n≤c∧c≤maxLen∧B≤b∧M b=some (.cells e (cs++rest) (c*sz)))
theorem own.nil {B:Nat} {e:TypeId} {sz:Nat}:own M B e sz (.slice none 0 0) 0 []:=⟨by simp,.inl ⟨rfl,rfl⟩⟩
theorem own.os {B:Nat} {e:TypeId} {sz n:Nat} {v:Value} {cs:List Value} (h:own M B e sz v n cs):yk5 M e sz v n cs :=
 ⟨h.1,h.2.imp id λ⟨b,c,rest,h1,h2,h3,_,h5⟩=>⟨b,c,h1,h2,h3,rest,h5⟩⟩
theorem own.rd {B:Nat} {e:TypeId} {sz n:Nat} {v:Value} {cs:List Value} (h:own M B e sz v n cs):sR F M sz v n cs:=by
 refine ⟨h.1,?_⟩
 rcases h.2 with ⟨rfl,rfl⟩ | ⟨b,c,rest,rfl,h2,h3,h4,h5⟩
 ·exact .inl ⟨_,_,rfl,rfl⟩
 ·exact .inr ⟨b,0,c,cs++rest,rfl,h2,.inr ⟨_,_,h5⟩,by rw [List.drop_zero,← h.1,List.take_left]⟩
theorem own.form {B:Nat} {e:TypeId} {sz n:Nat} {v:Value} {cs:List Value} (h:own M B e sz v n cs):∃ a c,v=.slice a n c∧n≤c:=by
 rcases h.2 with ⟨rfl,rfl⟩ | ⟨b,c,rest,rfl,h2,h3,h4,h5⟩
 ·exact ⟨_,_,rfl,Nat.le_refl _⟩
 ·exact ⟨_,_,rfl,h2⟩
theorem own.one {B:Nat} {e:TypeId} {sz n:Nat} {v:Value} {cs:List Value} (h:own M B e sz v n cs):v.oneCell'=true:=by
 obtain ⟨a,c,rfl,_⟩:=h.form; rfl
theorem own.ge {B:Nat} {e:TypeId} {sz n:Nat} {v:Value} {cs:List Value} (h:own M B e sz v n cs):∀ q,v.ownBlock=some q -> B≤q∧M q≠none:=by
 rcases h.2 with ⟨rfl,rfl⟩ | ⟨b,c,rest,rfl,h2,h3,h4,h5⟩
 ·intro q hq; simp [Value.ownBlock] at hq
 ·intro q hq; simp [Value.ownBlock] at hq; subst hq; exact ⟨h4,by rw [h5]; simp⟩
theorem own.lt {B:Nat} {e:TypeId} {sz n:Nat} {v:Value} {cs:List Value} (h:own M B e sz v n cs) (hm:za5 M N):∀ q,v.ownBlock=some q -> q<N:=λq hq=>by
 have := (h.ge q hq).2;cases hq:M q with
 | none=>exact absurd hq this
 | some c=>exact hm.lt hq
theorem own.keep {B B':Nat} {e:TypeId} {sz n:Nat} {v:Value} {cs:List Value} (h:own M B e sz v n cs) (hM:∀ q,v.ownBlock=some q -> M' q=M q) (hB:B'≤B:=by omega):own M' B' e sz v n cs :=
 ⟨h.1,h.2.imp id λ⟨b,c,rest,h1,h2,h3,h4,h5⟩=>⟨b,c,rest,h1,h2,h3,by omega,(hM b (by rw [h1]; rfl)).trans h5⟩⟩
def fr (M M':Nat -> Option zak) (N:Nat) (v v':Value):Prop:=∀ q,v.ownBlock≠some q -> q<N -> M' q=M q∧v'.ownBlock≠some q
theorem fr.trans {M'':Nat -> Option zak} {v v' v'':Value} (h:fr M M' N v v') (k:fr M' M'' N' v' v'') (hN:N≤N'):fr M M'' N v v'':=λq hq hl=>
 ⟨((k q (h q hq hl).2 (by omega)).1).trans (h q hq hl).1,(k q (h q hq hl).2 (by omega)).2⟩
theorem fr.refl {v:Value}:fr M M N v v:=λq hq _=>⟨rfl,hq⟩
theorem own.app {B:Nat} {e:TypeId} {sz bytes n m:Nat} {v x:Value} {cs news:List Value} (h:own M B e sz v n cs) (hm:za5 M N) (hB:B≤N) (hx:sR F M sz x m news) (h1:∀ c∈news,c.oneCell'=true) (hb:(n+m)*bytes≤140737488355328) (hmx:n+m≤maxLen)
  (k:∀ v' M' N',own M' B e sz v' (n+m) (cs++news) -> fr M M' N v v' -> N≤N' -> za5 M' N' -> K v' ⟨F,M',N'⟩):zdl e sz bytes v x K ⟨F,M,N⟩:=by
 have hlen:(cs++news).length=(n+m)*sz:=by rw [List.length_append,h.1,hx.1,Nat.add_mul]
 refine zzw h.os hx.read h1 hb hmx (λhv h0=>?_) (λ_ b c hb hc hcm=>?_)
 ·subst hv; subst h0;have hn:news=[]:=List.eq_nil_of_length_eq_zero (by simpa using hx.1);subst hn
  have hn0:n=0:=by
   rcases h.2 with ⟨_,h⟩ | ⟨b,c,rest,h1,_⟩
   ·exact h
   ·cases h1
  subst hn0;exact k _ _ _ ⟨hlen,.inl ⟨rfl,rfl⟩⟩ fr.refl (Nat.le_refl _) hm
 ·have hlt:=h.lt hm;have hbB:B≤b:=by rcases hb with hb | hb; omega; exact (h.ge b hb).1
  have hfn:∀ q,zge M v q=M q∨v.ownBlock=some q:=λq=>by
   by_cases hq:v.ownBlock=some q
   ·exact .inr hq
   ·exact .inl (zm9 _ hq)
  refine k _ _ _ ⟨hlen,.inr ⟨b,c,[],rfl,hc,hcm,hbB,by rw [za0,List.append_nil]⟩⟩ (λq hq hqN=>?_) (Nat.le_max_left _ _) (λq hq=>?_)
  ·have hqb:q≠b:=by rcases hb with hb | hb; omega; exact λe=>hq (e ▸ hb)
   exact ⟨(za3 _ _ hqb).trans (zm9 _ hq),by simp [Value.ownBlock]; omega⟩
  ·rw [za3 _ _ (by omega)]
   rcases hfn q with hf | hf
   ·rw [hf]; exact hm q (by omega)
   ·have := hlt q hf; omega
theorem yqv {a:Option Addr} {n c:Nat} {h:Hp} (k:K (.int .i64 n) h):pv (zab (.slice a n c)) K h:=⟨_,rfl,k⟩
theorem inV {e:EqK} {op:BinOp} {k:IntKind} {a b:Int} (hop:op≠.shl∧op≠.shr:=by decide):za2 e op (.int k a) (.int k b)=zfa op k a b:=by
 cases op<;>simp_all [za2]
theorem zky {e:EqK} {a b:Nat} {h:Hp} (h1:b≤a) (h2:a≤9223372036854775807) (k:K (.int .i64 ((a - b:Nat):Int)) h):pv (za2 e .sub (.int .i64 a) (.int .i64 b)) K h :=
 zcr (by omega) (by omega) (by rw [← Int.ofNat_sub h1]; exact k)
theorem zji {e:EqK} {a b:Nat} {h:Hp} (h2:a+b≤9223372036854775807) (k:K (.int .i64 ((a+b:Nat):Int)) h):pv (za2 e .add (.int .i64 a) (.int .i64 b)) K h :=
 zm7 (by omega) (by omega) (by rw [← Int.natCast_add]; exact k)
theorem yk0 {x:Int} (h0:0≤x) (h1:x<18446744073709551616):IntKind.u64.wrap x=x:=by
 unfold IntKind.wrap
 simp [IntKind.bits,IntKind.signed]
 omega
theorem yvx {e:EqK} {a b:Nat} {h:Hp} (h2:a*b<18446744073709551616) (k:K (.int .u64 ((a*b:Nat):Int)) h):pv (za2 e .mul (.int .u64 a) (.int .u64 b)) K h :=
 ⟨_,by rw [inV]; rfl,by rw [← Int.natCast_mul,yk0 (by omega) (by omega)]; exact k⟩
theorem zan {α:Type} (f:Nat -> Option α) (b:Nat) (x y:Option α):upd (upd f b x) b y=upd f b y:=by funext q; simp only [upd]; split<;>rfl
noncomputable def zh8 (M:Nat -> Option zak) (p:Nat -> Prop):Nat -> Option zak:=λq=>open Classical in if p q then M q else none
theorem zch {p:Nat -> Prop} {q:Nat} (h:p q):zh8 M p q=M q:=if_pos h
theorem ygm (M:Nat -> Option zak) (p:Nat -> Prop):zex (zh8 M p) M:=λk c h=>by
 unfold zh8 at h
 split at h
 ·exact h
 ·cases h
theorem zei {p:Nat -> Prop} (h:za5 M N):za5 (zh8 M p) N:=λk hk=>by
 unfold zh8
 split
 ·exact h k hk
 ·rfl
def yxv (N:Nat) (v:Value) (q:Nat):Prop:=q<N∨v.ownBlock=some q
theorem ytf {A:zae -> Hp -> Prop}:gdK (.bool true) true A K=A K:=by funext h; unfold gdK; rw [if_pos (by simp [isB])]
theorem yua {A:zae -> Hp -> Prop}:gdK (.bool false) false A K=A K:=by funext h; unfold gdK; rw [if_pos (by simp [isB])]
theorem yw6 {A:zae -> Hp -> Prop}:gdK (.bool true) false A K=K undef:=by funext h; unfold gdK; rw [if_neg (by simp [isB])]
theorem ytl {A:zae -> Hp -> Prop}:gdK (.bool false) true A K=K undef:=by funext h; unfold gdK; rw [if_neg (by simp [isB])]
theorem pvS {v:Value}:pv (some v) K=K v:=by funext h; exact propext ⟨λ⟨u,h1,h2⟩=>by cases h1; exact h2,λh=>⟨_,rfl,h⟩⟩
theorem yrh {a b:Value}:zad (.bool true) a b=some a:=rfl
theorem yr3 {a b:Value}:zad (.bool false) a b=some b:=rfl
theorem faP {b o off:Nat}:faV off (.pointer (some ⟨b,o,none⟩))=some (.pointer (some ⟨b,o+off,none⟩)):=rfl
theorem yvn {a:Option Addr} {n c:Nat}:zab (.slice a n c)=some (.int .i64 n):=rfl
theorem ysn {a:Option Addr} {n c:Nat}:zjv (.slice a n c)=some (.int .i64 c):=rfl
theorem yst {a:Addr}:zai (.pointer (some a))=some (.pointer (some a)):=rfl
theorem exA {a:Value} {l:List Value}:exV 0 (.tuple ⟨a::l⟩)=some a:=rfl
theorem exB {a b:Value} {l:List Value}:exV 1 (.tuple ⟨a::b::l⟩)=some b:=rfl
theorem exC {a b c:Value} {l:List Value}:exV 2 (.tuple ⟨a::b::c::l⟩)=some c:=rfl
theorem ysp {b:Bool}:unV .not (.bool b)=some (.bool !b):=rfl
theorem yt3 {A B:Hp -> Prop}:cnd (.bool true) A B=A:=by funext h; exact propext ⟨λ⟨t,h1,h2⟩=>by cases h1; simpa using h2,λh=>⟨true,rfl,by simpa using h⟩⟩
theorem ysm {A B:Hp -> Prop}:cnd (.bool false) A B=B:=by funext h; exact propext ⟨λ⟨t,h1,h2⟩=>by cases h1; simpa using h2,λh=>⟨false,rfl,by simpa using h⟩⟩
theorem sS:(∀ (A:zae -> Hp -> Prop) (K:zae),gdK (.bool true) true A K=A K)∧(∀ (A:zae -> Hp -> Prop) (K:zae),gdK (.bool false) false A K=A K)∧(∀ (A:zae -> Hp -> Prop) (K:zae),gdK (.bool true) false A K=K undef)∧(∀ (A:zae -> Hp -> Prop) (K:zae),gdK (.bool false) true A K=K undef) ∧
  (∀ (v:Value) (K:zae),pv (some v) K=K v)∧(∀ (a b:Value),zad (.bool true) a b=some a)∧(∀ (a b:Value),zad (.bool false) a b=some b)∧(∀ (b o off:Nat),faV off (.pointer (some ⟨b,o,none⟩))=some (.pointer (some ⟨b,o+off,none⟩))) ∧
  (∀ (a:Option Addr) (n c:Nat),zab (.slice a n c)=some (.int .i64 n))∧(∀ (a:Option Addr) (n c:Nat),zjv (.slice a n c)=some (.int .i64 c))∧(∀ (a:Addr),zai (.pointer (some a))=some (.pointer (some a))) ∧
  (∀ (a:Value) (l:List Value),exV 0 (.tuple ⟨a::l⟩)=some a)∧(∀ (a b:Value) (l:List Value),exV 1 (.tuple ⟨a::b::l⟩)=some b)∧(∀ (a b c:Value) (l:List Value),exV 2 (.tuple ⟨a::b::c::l⟩)=some c) ∧
  (∀ (b:Bool),unV .not (.bool b)=some (.bool !b))∧(∀ (A B:Hp -> Prop),cnd (.bool true) A B=A)∧(∀ (A B:Hp -> Prop),cnd (.bool false) A B=B)∧((!true)=false)∧((!false)=true)∧(∀ n:Nat,0+n=n)∧(∀ n:Nat,n+0=n) :=
 ⟨λ_ _=>ytf,λ_ _=>yua,λ_ _=>yw6,λ_ _=>ytl,λ_ _=>pvS,λ_ _=>yrh,λ_ _=>yr3,λ_ _ _=>faP,λ_ _ _=>yvn,λ_ _ _=>ysn,λ_=>yst,λ_ _=>exA,λ_ _ _=>exB,λ_ _ _ _=>exC,λ_=>ysp,λ_ _=>yt3,λ_ _=>ysm,Bool.not_true,Bool.not_false,Nat.zero_add,Nat.add_zero⟩
def dig (d:Nat):Int:=if d<10 then 48+d else 87+d
def num (u:Nat):List Int:=if h:u<36 then [dig u] else num (u/36)++[dig (u%36)]
termination_by u
decreasing_by omega
def txt (i:Int):List Int:=if i<0 then 45::num i.natAbs else num i.natAbs
def text (l:List Int):List Int:=l.flatMap (λv=>txt v++[32])
def yrn (c:Int):Nat:=if c<58 then (c - 48).toNat else (c - 87).toNat
def val (l:List Int):Nat:=l.foldl (λa c=>a*36+yrn c) 0
def bts (l:List Int):List Value:=l.map (.int .u8)
theorem zue {l:List Value} {i:Nat} (h:i<l.length) (x:Value):zb3 l i [x]=l.set i x:=by
 rw [zrs (by simp; omega),ztn]
structure fbS (u:Nat) (s:Nat×List Int) (l:List Value):Prop where
 len:l.length=65
 num:num u=A.num s.1++s.2
 tail:l.drop (65 - s.2.length)=bts s.2
 room:u<18446744073709551616
 lt:s.1<18446744073709551616
def yyg (F:Nat -> Option (List Value)) (M:Nat -> Option zak) (N B n:Nat) (v:Value) (cs out:List Value) (K:zae):Prop :=
 ∀ v' M' N',own M' B 5 1 v' (n+out.length) (cs++out) -> fr M M' N v v' -> N≤N' -> za5 M' N' -> (Hp.mk F M' N').wf -> K v' ⟨F,M',N'⟩
def i64 (x:Int):Prop:=-9223372036854775808≤x∧x≤9223372036854775807
def yw1 (k:List Int):ByteArray:=⟨((text k).map (λn=>UInt8.ofNat (Int.toNat n))).toArray⟩
def yy8 (a b:Int):Int:=if a<b then -1 else if a>b then 1 else 0
theorem yms {v:Value} {l:List Int} (hv:sF F 1 v l.length (ic l)) {i:Nat} (hi:i<l.length) :
  ∃ b o c cs,v=.slice (some ⟨b,o,none⟩) l.length c∧F b=some cs∧cs[o+i*1]?=some (.int .i64 l[i]):=by
 obtain ⟨b,o,c,hab,cs,hF,_,hcs⟩:=hv.at (by decide) hi;exact ⟨b,o,c,cs,hab,hF,by rw [Nat.mul_one,hcs i (by omega)]; simp [ic,hi]⟩
theorem zfm {v:Value} {l:List Int} (hv:sF F 1 v l.length (ic l)) {i:Nat} {K:Value -> zae} (hi:i<l.length) (k:∀ p,K p (.int .i64 l[i]) ⟨F,M,N⟩) :
  pv (iaV none 1 v (.int .i64 (i:Nat))) (λp=>ld false 1 p (K p)) ⟨F,M,N⟩:=by
 obtain ⟨b,o,c,cs,rfl,hF,hc⟩:=yms hv hi;exact zct hi (zfo (zaz (zh9 hF) hc) (k _))
theorem zb7 {v:Value} {sz n:Nat} {cs:List Value} (hv:sF F sz v n cs) {h:Hp} (k:K (.int .i64 n) h):pv (zab v) K h:=by
 obtain ⟨a,c,rfl,_⟩:=hv.form;exact yqv k
def yl4 (F:Nat -> Option (List Value)) (cs:List Value) (r:Rw):Prop:=∃ v,cs=v::r.2.cs∧sF F 1 v r.1.length (ic r.1)∧r.1.length≤140737488351232
open Go.MapKept
def yqy (es:Array MapEntry) (t:List Rw):Prop:=es.toList.length=t.length∧∀ (i:Nat) (x:MapEntry),es.toList[i]?=some x -> ∃ r,t[i]?=some r∧x.key=.string (yw1 r.1)∧x.val=.int .i64 (i:Nat)
structure yxe (F:Nat -> Option (List Value)) (M:Nat -> Option zak) (B g bm:Nat) (v:Value) (rows:List (List Value)) (t:List Rw):Prop where
 gg:M g=some (.cells 364 [v,.map (some bm)] 2)
 gB:B≤g
 bB:B≤bm
 mp:∃ es clock,M bm=some (.obj (.map es clock))∧yqy es t
 oo:own M B 228 5 v t.length rows.flatten
 rr:zag (yl4 F) 5 rows t
 nd:yrd t
open Go.MapKept
open Go.Sort hiding Below
abbrev yy5 (F:Nat -> Option (List Value)):={ x:List Value×Rw // yl4 F x.1 x.2 }
open Go.Sort hiding Below
section
variable {α:Type} [Inhabited α] {enc:α -> List Value} {kk n off:Nat} {w:World} {blk q:Nat} {d:Array α} {os:Array Obj}
end
theorem zuh {α:Type} {R:List Value -> α -> Prop} {sz:Nat} {v:Value} {l:List α} {rows:List (List Value)} (hv:sF F sz v l.length rows.flatten) (hr:zag R sz rows l) (hz:0<sz) {i:Nat} (hi:i<l.length) :
  ∃ b o c cs r,v=.slice (some ⟨b,o,none⟩) l.length c∧F b=some cs∧rows[i]?=some r∧R r l[i]∧r.length=sz∧(∀ x∈r,x.oneCell'=true)∧o+i*sz+sz≤cs.length∧(cs.drop (o+i*sz)).take sz=r∧∀ j,j<sz -> cs[o+i*sz+j]?=r[j]?:=by
 obtain ⟨b,o,c,hab,cs,hF,hle,hcs⟩:=hv.at hz hi;obtain ⟨r,h1,h2,h3,h4,h5⟩:=hr.get (List.getElem?_eq_getElem hi);have hfl:=hr.flen
 have hj:∀ j,j<sz -> cs[o+i*sz+j]?=r[j]?:=λj hj=>by
  rw [Nat.add_assoc,hcs (i*sz+j) (by rw [hfl] at h4; omega),← h3,List.getElem?_take,if_pos hj,List.getElem?_drop]
 refine ⟨b,o,c,cs,r,hab,hF,h1,h2,h5,hr.one r (List.mem_of_getElem? h1),by rw [hfl] at h4; omega,?_,hj⟩
 apply List.ext_getElem?
 intro j;rw [List.getElem?_take]
 split
 ·rename_i h; rw [List.getElem?_drop]; exact hj j h
 ·rw [List.getElem?_eq_none (by omega)]
theorem zih {α:Type} {R:List Value -> α -> Prop} {sz:Nat} {v:Value} {l:List α} {rows:List (List Value)} {K:Value -> zae} (hv:sF F sz v l.length rows.flatten) (hr:zag R sz rows l) (hz:0<sz) {i:Nat} (hi:i<l.length)
  (k:∀ p r,rows[i]?=some r -> R r l[i] -> r.length=sz -> (∀ x∈r,x.oneCell'=true) -> K p (.agg r.toArray) ⟨F,M,N⟩):pv (iaV none sz v (.int .i64 (i:Nat))) (λp=>ld true sz p (K p)) ⟨F,M,N⟩:=by
 obtain ⟨b,o,c,cs,r,rfl,hF,hrr,hR,hl,h1,hle,ht,_⟩:=zuh hv hr hz hi;exact zct hi (zfo (yfr (zh9 hF) hle ht) (k _ r hrr hR hl h1))
theorem zeb {α:Type} {R:List Value -> α -> Prop} {sz:Nat} {v:Value} {l:List α} {rows:List (List Value)} {K:Value -> Value -> zae} (hv:sF F sz v l.length rows.flatten) (hr:zag R sz rows l) (hz:0<sz) {i:Nat} (hi:i<l.length) {off:Nat} (ho:off<sz)
  (k:∀ p q r x,R r l[i] -> r.length=sz -> r[off]?=some x -> K p q x ⟨F,M,N⟩):pv (iaV none sz v (.int .i64 (i:Nat))) (λp=>pv (faV off p) λq=>ld false 1 q (K p q)) ⟨F,M,N⟩:=by
 obtain ⟨b,o,c,cs,r,rfl,hF,_,hR,hl,h1,hle,ht,hj⟩:=zuh hv hr hz hi;have hx:r[off]?=some (r[off]'(by omega)):=List.getElem?_eq_getElem _;exact zct hi (zaa rfl (zfo (zaz (zh9 hF) ((hj off ho).trans hx)) (k _ _ r _ hR hl hx)))
def ytt (F:Nat -> Option (List Value)) (v:Value) (t:List Rw):Prop:=∃ rows,sF F 5 v t.length rows.flatten∧zag (yl4 F) 5 rows t
abbrev Fc:=List Int×Int
def zcl (F:Nat -> Option (List Value)) (cs:List Value) (f:Fc):Prop:=∃ v,cs=[v,.int .i64 f.2]∧sF F 1 v f.1.length (ic f.1)∧f.1.length≤140737488351232
theorem zcl.mono {cs:List Value} {f:Fc} (h:zcl F cs f) (hF:za7 F F'):zcl F' cs f:=let ⟨v,h1,h2,h3⟩:=h; ⟨v,h1,h2.mono hF,h3⟩
theorem zcl.one {cs:List Value} {r:Fc} (h:zcl F cs r):cs.length=2∧∀ c∈cs,c.oneCell'=true:=by
 obtain ⟨v,rfl,hv,_⟩:=h;obtain ⟨a,c,rfl,_⟩:=hv.form;exact ⟨rfl,List.all_eq_true.1 rfl⟩
def zbo (F:Nat -> Option (List Value)) (v:Value) (l:List Fc):Prop:=∃ rows,sF F 2 v l.length rows.flatten∧zag (zcl F) 2 rows l
theorem zbo.mono {v:Value} {t:List Fc} (h:zbo F v t) (hF:za7 F F'):zbo F' v t:=let ⟨rows,h1,h2⟩:=h; ⟨rows,h1.mono hF,h2.mono λ_ _ hr=>hr.mono hF⟩
def okK (k:List Int):Prop:=k.length≤10000000000∧∀ x∈k,i64 x
def ofC (v:Int):CE:=⟨1,v,v,v⟩
theorem zdw (hm:za5 M N) (hk:∀ q,q<N -> M' q=M q) (hc:(Hp.mk F M' N').wf):(Hp.mk F M' N').wk ⟨zd3 F M' N,M,N'⟩:=yqg hm hk hc
theorem zol {α:Type} {R:List Value -> α -> Prop} {sz:Nat} {r1 r2:List (List Value)} {x1 x2:List α} (h1:zag R sz r1 x1) (h2:zag R sz r2 x2):zag R sz (r1++r2) (x1++x2):=by
 refine ⟨λr hr=>?_,λr hr=>?_,by simp [h1.all.1,h2.all.1],λi r x hr hx=>?_⟩
 ·rcases List.mem_append.1 hr with h | h; exact h1.len r h; exact h2.len r h
 ·rcases List.mem_append.1 hr with h | h; exact h1.one r h; exact h2.one r h
 ·have hl:=h1.all.1
  rcases Nat.lt_or_ge i r1.length with hi | hi
  ·rw [List.getElem?_append_left hi] at hr;rw [List.getElem?_append_left (by omega)] at hx;exact h1.all.2 i r x hr hx
  ·rw [List.getElem?_append_right hi] at hr;rw [List.getElem?_append_right (by omega)] at hx;rw [← hl] at hx;exact h2.all.2 _ r x hr hx
theorem yg6 {α:Type} {R:List Value -> α -> Prop} {sz:Nat} {rows:List (List Value)} {xs:List α} (h:zag R sz rows xs) (i:Nat):zag R sz (rows.drop i) (xs.drop i) :=
 ⟨λr hr=>h.len r (List.mem_of_mem_drop hr),λr hr=>h.one r (List.mem_of_mem_drop hr),by simp [h.all.1],λj r x hr hx=>h.all.2 (i+j) r x (by simpa [List.getElem?_drop] using hr) (by simpa [List.getElem?_drop] using hx)⟩
theorem zye {α:Type} {R:List Value -> α -> Prop} {sz:Nat} {rows:List (List Value)} {xs:List α} (h:zag R sz rows xs) (i:Nat):zag R sz (rows.take i) (xs.take i) :=
 ⟨λr hr=>h.len r (List.mem_of_mem_take hr),λr hr=>h.one r (List.mem_of_mem_take hr),by simp [h.all.1],λj r x hr hx=>by
  rw [List.getElem?_take] at hr hx
  split at hr
  ·rename_i hj; rw [if_pos hj] at hx; exact h.all.2 j r x hr hx
  ·cases hr⟩
theorem zp4 {sz:Nat}:∀ (rows:List (List Value)) (i:Nat),(∀ r∈rows,r.length=sz) -> rows.flatten.drop (i*sz)=(rows.drop i).flatten
 | [],i,_=>by simp
 | x::rows,0,_=>by simp
 | x::rows,i+1,h=>by
  have hx:=h x (by simp);rw [List.flatten_cons,List.drop_succ_cons,← zp4 rows i (λr hr=>h r (by simp [hr])),Nat.succ_mul,show i*sz+sz=x.length+i*sz by omega,List.drop_length_add_append]
def fr1 (f:Fc):Rw:=(f.1,ofC f.2)
def CE.ok (c:CE):Bool:=if c.n≤0 then decide (c=⟨0,0,0,0⟩) else decide (c.lo≤c.hi∧(c.n>1∨(c.s=c.lo∧c.lo=c.hi)))
def yol (l:List Int):Bool:=l.any λx=>decide (x<0)
def yrl (p:Int) (r:Rw):Bool:=decide ((r.1.length:Int)=p)&&decide (r.2.n>0)&&r.2.ok && !yol r.1
def yg4 (p:Int):Option (List Int) -> List Rw -> Bool
 | _,[]=>true
 | o,r::t=>yrl p r&&(match o with | none=>true | some k=>decide (zzd k r.1<0))&&yg4 p (some r.1) t
def yh9 (p:Int) (t:List Rw):Bool:=yg4 p none t
def yxy (t:List Rw) (i:Nat):Option (List Int):=if i=0 then none else (t[i - 1]?).map (·.1)
theorem ziz {P:Program} {f:FuncId} {first captured args:Array Value} {h:Hp} (H:h.wf -> ∃ h',h.wk h'∧zbs P (.func (.func f) first captured) args K E h'):zbs P (.func (.func f) first captured) args K E h:=by
 by_cases hw:h.wf
 ·obtain ⟨h',hk,hc⟩:=H hw
  rcases hc with ⟨h1,h2⟩ | h2
  ·exact .inl ⟨h1,λw0 w hl r=>h2 w0 w hl (r.wk hk)⟩
  ·exact .inr λw0 w r=>h2 w0 w (r.wk hk)
 ·exact .inr λw0 w r=>absurd r.wf hw
theorem zhq {b:Nat} {e:TypeId} {cs:List Value} {tot:Nat} (hb:N≤b) (hM:M b=some (.cells e cs tot)):zd3 F M N b=some cs:=by simp [zd3,hb,hM]
theorem znd {b m c sz:Nat} {cells:List Value} (hF:F b=some cells) (hl:cells.length=m*sz) (hc:m≤c):sF F sz (.slice (some ⟨b,0,none⟩) m c) m cells :=
 ⟨hl,.inr ⟨b,0,c,cells,rfl,hc,hF,by rw [List.drop_zero,← hl,List.take_length]⟩⟩
def wt (l:List (List Int)):Nat:=(l.map λk=>1+k.length).sum
theorem yvv {kv:Value} {l:List Int} (h:sF F 1 kv l.length (ic l)) (hl:l.length≤1000) (x:Int):zcl F [kv,.int .i64 x] (l,x):=⟨kv,rfl,h,by simp only; omega⟩
theorem yib {kv:Value} {l:List Int} {x:Int} {rows:List (List Value)} {fs:List Fc} (h:sF F 1 kv l.length (ic l)) (hl:l.length≤1000) (hr:zag (zcl F) 2 rows fs):zag (zcl F) 2 ([kv,.int .i64 x]::rows) ((l,x)::fs):=by
 have h1:=yvv h hl x;have := zol ((zag.nil (zcl F) 2).snoc h1.one.1 h1.one.2 h1) hr
 simpa using this
def yxm (F:Nat -> Option (List Value)) (v:Value) (ts:List (List Rw)):Prop:=∃ rows,sF F 1 v ts.length rows.flatten∧zag (λr t=>∃ u,r=[u]∧ytt F u t∧t.length≤140737488351232) 1 rows ts
theorem zhb {B:Nat} {e:TypeId} {sz bytes n:Nat} {v:Value} {cs:List Value} {cells:Option (Array Value)} {new:List Value} {K:Value -> zae} (h:own M B e sz v n cs) (hm:za5 M N) (hB:B≤N) (hc:cells=some new.toArray) (hl:new.length=sz) (h1:∀ c∈new,c.oneCell'=true) (hb:(n+1)*bytes≤140737488355328) (hn:n+1≤maxLen)
  (k:∀ p v' M' N',own M' B e sz v' (n+1) (cs++new) -> fr M M' N v v' -> N≤N' -> za5 M' N' -> K p v' ⟨F,M',N'⟩):nws e 1 cells (λt=>zdl e sz bytes v t (K t)) ⟨F,M,N⟩:=by
 refine zcx (cs:=new) hc (λb hb'=>?_);have hbne:v.ownBlock≠some b:=λe=>by have := h.lt hm b e; omega
 have h2:own (upd M b (some (.cells e new new.length))) B e sz v n cs:=h.keep (λq hq=>za3 _ _ (λe=>hbne (e ▸ hq))) (Nat.le_refl _);refine h2.app (m:=1) (news:=new) (hm.new hb' _) (by omega) ⟨by omega,.inr ⟨b,0,1,_,rfl,Nat.le_refl _,.inr ⟨_,_,za0 _ _ _⟩,by rw [List.drop_zero,List.take_of_length_le (by omega)]⟩⟩ h1 hb hn (λv' M' N' h3 h4 h5 h6=>?_);exact k _ v' M' N' h3 (λq hq hqN=>⟨((h4 q hq (by omega)).1).trans (za3 _ _ (by omega)),(h4 q hq (by omega)).2⟩) (by omega) h6
def yy9 (l:List Int):CE:=l.foldl (λc x=>c.rmerge (ofC x)) ⟨0,0,0,0⟩
abbrev Dm:=Int×List Int
def zi6 (F:Nat -> Option (List Value)) (cs:List Value) (d:Dm):Prop:=∃ v,cs=[.int .i64 d.1,v]∧sF F 1 v d.2.length (ic d.2)∧d.2.length≤140737488351232
theorem zi6.mono {cs:List Value} {d:Dm} (h:zi6 F cs d) (hF:za7 F F'):zi6 F' cs d:=let ⟨v,h1,h2,h3⟩:=h; ⟨v,h1,h2.mono hF,h3⟩
theorem zi6.one {cs:List Value} {d:Dm} (h:zi6 F cs d):cs.length=2∧∀ c∈cs,c.oneCell'=true:=by
 obtain ⟨v,rfl,hv,_⟩:=h;obtain ⟨a,c,rfl,_⟩:=hv.form;exact ⟨rfl,List.all_eq_true.1 rfl⟩
def zeh (F:Nat -> Option (List Value)) (v:Value) (l:List Dm):Prop:=∃ rows,sF F 2 v l.length rows.flatten∧zag (zi6 F) 2 rows l
theorem zeh.mono {v:Value} {t:List Dm} (h:zeh F v t) (hF:za7 F F'):zeh F' v t:=let ⟨rows,h1,h2⟩:=h; ⟨rows,h1.mono hF,h2.mono λ_ _ hr=>hr.mono hF⟩
theorem zeh.form {v:Value} {t:List Dm} (h:zeh F v t):∃ a c,v=.slice a t.length c:=let ⟨rows,h1,_⟩:=h; let ⟨a,c,h2,_⟩:=h1.form; ⟨a,c,h2⟩
def ick (k:IntKind) (l:List Int):List Value:=l.map (.int k)
theorem zyq {k:IntKind} {v:Value} {l:List Int} (hv:sF F 1 v l.length (ick k l)) {i:Nat} {K:Value -> zae} (hi:i<l.length) (kk:∀ p,K p (.int k l[i]) ⟨F,M,N⟩) :
  pv (iaV none 1 v (.int .i64 (i:Nat))) (λp=>ld false 1 p (K p)) ⟨F,M,N⟩:=by
 obtain ⟨b,o,c,rfl,cs,hF,_,hcs⟩:=hv.at (by decide) hi;exact zct hi (zfo (zaz (zh9 hF) (by rw [Nat.mul_one,hcs i (by omega)]; simp [ick,hi])) (kk _))
theorem zr4 {e:EqK} {k:IntKind} {a b:Nat} {h:Hp} (hb:0<b) (kk:K (.int k ((a%b:Nat):Int)) h):pv (za2 e .rem (.int k (a:Nat)) (.int k (b:Nat))) K h :=
 ⟨_,by rw [inV]; simp only [zfa]; rw [if_neg (by omega)],by rw [show Int.tmod (a:Int) (b:Int)=((a%b:Nat):Int) from rfl]; exact kk⟩
theorem zn4 {k:IntKind} {a:Nat} {h:Hp} (h1:a≤9223372036854775807) (kk:K (.int .i64 (a:Nat)) h):pv (cvV .i64 (.int k (a:Nat))) K h :=
 ⟨_,rfl,by rw [zmx (by omega) (by omega)]; exact kk⟩
theorem yr1 {e:EqK} {a b:Nat} {h:Hp} (h2:a*b≤9223372036854775807) (k:K (.int .i64 ((a*b:Nat):Int)) h):pv (za2 e .mul (.int .i64 a) (.int .i64 b)) K h :=
 ⟨_,by rw [inV]; rfl,by rw [← Int.natCast_mul,zmx (by omega) (by omega)]; exact k⟩
def keyOf (l:List Dm) (c:List Int):List Int:=l.mapIdx λi d=>(c.getD i 0)%d.1
theorem zpd (l:List Dm) (c:List Int):(keyOf l c).length=l.length:=by simp [keyOf]
theorem yeq (l:List Dm) (c:List Int) {i:Nat} (h:i<l.length):keyOf (l.take (i+1)) c=keyOf (l.take i) c++[(c.getD i 0)%l[i].1]:=by
 unfold keyOf;rw [List.take_add_one,List.getElem?_eq_getElem h,Option.toList_some,List.mapIdx_concat,List.length_take,Nat.min_eq_left (by omega)]
theorem yrc {u v:Value} {l:List Dm} {c:List Int} (hu:zeh F u l) (hv:sF F 1 v c.length (ick .u16 c)) (hl:l.length≤1000000) (hs:∀ d∈l,0<d.1∧d.1≤1000000) (hc:∀ x∈c,0≤x∧x<65536) (hcl:c.length≤140737488351232)
  (k:∀ v' F' N',(Hp.mk F' M N').wf -> za7 F F' -> N≤N' -> sF F' 1 v' (keyOf l c).length (ic (keyOf l c)) -> K v' ⟨F',M,N'⟩) :
  cF 41 #[u,v] K E ⟨F,M,N⟩:=by
 refine za4 za8 Tryz.func41 (by kernel_rfl) (t41 _ E _ _) (λhw=>?_);have hm:za5 M N:=hw.m;obtain ⟨rows,hu1,hu2⟩:=hu;have hlu:zab u=some (.int .i64 (l.length:Nat)):=by obtain ⟨a,c,rfl,_⟩:=hu1.form; rfl
 have hlv:zab v=some (.int .i64 (c.length:Nat)):=by obtain ⟨a,c,rfl,_⟩:=hv.form; rfl
 refine zv2 (σ:=Nat×Value) (λs=>s.2) (λs=>.int .i64 (s.1:Nat))
  (λs h=>∃ M' N',h=⟨F,M',N'⟩∧N≤N'∧(∀ q,q<N -> M' q=M q)∧za5 M' N'∧s.1≤l.length∧own M' N 3 1 s.2 s.1 (ic (keyOf (l.take s.1) c))) (λs=>l.length - s.1) (0,.slice none 0 0) rfl rfl
  (λhw2=>⟨_,za1 hw2,M,N,rfl,Nat.le_refl _,λ_ _=>rfl,hm,Nat.zero_le _,own.nil⟩) (λk1 s j h1 hI hw2 next=>?_)
 rw [zvm];obtain ⟨M2,N2,rfl,hN2,hM2,hm2,hi,ho2⟩:=hI;try simp only [hlu,hlv]
 try simp only [sS]
 refine zat (λhlt=>?_) (λhge=>?_)
 ·have h1:s.1<l.length:=by omega
  obtain ⟨d1,d2⟩:=hs l[s.1] (List.getElem_mem _);try simp only [sS]
  have nat:∀ x:Int,0≤x -> x<65536 -> x=c.getD s.1 0 -> ∃ n:Nat,x=n∧n<65536∧(c.getD s.1 0)%l[s.1].1=((n%l[s.1].1.toNat:Nat):Int):=λx h0 h1 e=>⟨x.toNat,by omega,by omega,by
   rw [← e,Int.natCast_emod,Int.toNat_of_nonneg h0,Int.toNat_of_nonneg (by omega)]⟩
  refine zat (λhlt2=>?_) (λhge2=>?_);have h2:s.1<c.length:=by omega
  try simp only [sS]
  refine zyq hv h2 λp=>?_;obtain ⟨x0,x1⟩:=hc c[s.1] (List.getElem_mem _);obtain ⟨n,hn,hn1,hn2⟩:=nat c[s.1] x0 x1 (by simp [List.getD_eq_getElem?_getD,h2]);rw [hn];refine zn4 (a:=n) (by omega) ?_
  rotate_left
  try simp only [sS]
  have hg:c.getD s.1 0=0:=by rw [List.getD_eq_getElem?_getD,List.getElem?_eq_none (by omega)]; rfl
  obtain ⟨n,hn0,hn2⟩:∃ n:Nat,(.int .i64 0:Value)=.int .i64 (n:Nat)∧(c.getD s.1 0)%l[s.1].1=((n%l[s.1].1.toNat:Nat):Int):=⟨0,rfl,by rw [hg]; simp⟩;rw [hn0]
  all_goals
   rw [zl2];refine zeb hu1 hu2 (by decide) h1 (off:=0) (by decide) λp q r x hR _ hx=>?_;obtain ⟨kv,rfl,hkv',hkl⟩:=hR
   simp at hx
   subst hx;rw [show l[s.1].1=((l[s.1].1.toNat:Nat):Int) by omega];refine zr4 (by omega) ?_;refine zhb (new:=[.int .i64 ((n%l[s.1].1.toNat:Nat):Int)]) ho2 hm2 hN2 (by kernel_rfl) rfl (List.all_eq_true.1 rfl) (by omega) (by unfold maxLen; omega) (λp v' M3 N3 h4 h5 h6 h7=>?_);refine zas (by omega) ?_;refine next (s.1+1,v') _ _ (by simp only; omega) (λhw3=>⟨_,za1 hw3,M3,N3,rfl,by omega,λq hq=>?_,h7,h1,?_⟩)
   ·exact ((h5 q (λe=>by have := (ho2.ge q e).1; omega) (by omega)).1).trans (hM2 q hq)
   ·simp only;rw [yeq l c h1,hn2]
    simpa [ic] using h4
 ·try simp only [sS]
  rw [List.take_of_length_le (by omega)] at ho2;refine λhc'=>⟨_,zdw hm hM2 hc',λhw'=>k _ _ _ hw' (zb9 hc') hN2 ?_⟩;have := ho2.rd.frz hc' (λb hb=>.inl (ho2.ge b hb).1);rw [zpd];rw [show s.1=l.length by omega] at this;exact this
theorem own.box {B:Nat} {e:TypeId} {sz n:Nat} {v:Value} {cs:List Value} (h:own M B e sz v n cs) (hm:za5 M N) {b:Nat} (hb:N≤b) (x:Option zak):own (upd M b x) B e sz v n cs :=
 h.keep (λq hq=>za3 _ _ (λe=>by have := h.lt hm q hq; omega)) (Nat.le_refl _)
def zqf (k:IntKind) (F:Nat -> Option (List Value)) (v:Value) (ks:List (List Int)):Prop:=∃ rows,sF F 1 v ks.length rows.flatten∧zag (λr c=>∃ u,r=[u]∧sF F 1 u c.length (ick k c)∧c.length≤140737488351232) 1 rows ks
theorem zqf.mono {k:IntKind} {v:Value} {ks:List (List Int)} (h:zqf k F v ks) (hF:za7 F F'):zqf k F' v ks:=let ⟨rows,h1,h2⟩:=h; ⟨rows,h1.mono hF,h2.mono λ_ _ ⟨u,e,h,l⟩=>⟨u,e,h.mono hF,l⟩⟩
theorem yvi {k:IntKind} {v:Value} {ts:List (List Int)} {K:Value -> zae} (hv:zqf k F v ts) {i:Nat} (hi:i<ts.length) (kk:∀ p u,sF F 1 u ts[i].length (ick k ts[i]) -> ts[i].length≤140737488351232 -> K p u ⟨F,M,N⟩):pv (iaV none 1 v (.int .i64 (i:Nat))) (λp=>ld false 1 p (K p)) ⟨F,M,N⟩:=by
 obtain ⟨rows,h1,h2⟩:=hv;obtain ⟨b,o,c,cs,r,rfl,hF,_,⟨u,rfl,hu,hul⟩,hl,_,hle,ht,hj⟩:=zuh h1 h2 (by decide) hi;exact zct hi (zfo (zaz (zh9 hF) (hj 0 (by decide))) (kk _ _ hu hul))
def zdy (l:List Dm) (ks:List (List Int)) (v:List Int):List Fc:=(ks.take 200).mapIdx λi c=>(keyOf l c,v.getD (i%v.length) 0)
theorem zkh (l:List Dm) (ks:List (List Int)) (v:List Int):(zdy l ks v).length=min 200 ks.length:=by simp [zdy]
theorem yca {α β:Type} (f:Nat -> α -> β) (l:List α) {i:Nat} (h:i<l.length):(l.take (i+1)).mapIdx f=(l.take i).mapIdx f++[f i l[i]]:=by
 rw [List.take_add_one,List.getElem?_eq_getElem h,Option.toList_some,List.mapIdx_concat,List.length_take,Nat.min_eq_left (by omega)]
theorem zca {α:Type} {R:List Value -> α -> Prop} {sz:Nat} {rows:List (List Value)} {xs:List α} (h:zag R sz rows xs) {r:List Value} {x:α} (h1:r.length=sz∧∀ c∈r,c.oneCell'=true) (hr:R r x):zag R sz (rows++[r]) (xs++[x]):=h.snoc h1.1 h1.2 hr
theorem ycs {u v w:Value} {l:List Dm} {ks:List (List Int)} {c:List Int} (hu:zeh F u l) (hv:zqf .u16 F v ks) (hw':sF F 1 w c.length (ic c)) (hl:l.length≤1000000) (hs:∀ d∈l,0<d.1∧d.1≤1000000) (hc:∀ k∈ks,∀ x∈k,0≤x∧x<65536) (hkl:ks.length≤140737488351232) (hcl:c.length≤140737488351232)
  (k:∀ v' F' N',(Hp.mk F' M N').wf -> za7 F F' -> N≤N' -> zbo F' v' (zdy l ks c) -> K v' ⟨F',M,N'⟩) :
  cF 15 #[u,v,w] K E ⟨F,M,N⟩:=by
 refine za4 za8 Tryz.func15 (by kernel_rfl) (t15 _ E _ _ _) (λhw=>?_);have hm:za5 M N:=hw.m;have hlv:zab v=some (.int .i64 (ks.length:Nat)):=by obtain ⟨rows,h1,_⟩:=hv; obtain ⟨a,c,rfl,_⟩:=h1.form; rfl
 have hlw:zab w=some (.int .i64 (c.length:Nat)):=by obtain ⟨a,c,rfl,_⟩:=hw'.form; rfl
 refine zvf (σ:=Nat×Value) (λs=>s.2) (λs=>.int .i64 (s.1:Nat))
  (λs h=>∃ F' M' N' rows,h=⟨F',M',N'⟩∧za7 F F'∧N≤N'∧(∀ q,q<N -> M' q=M q)∧za5 M' N'∧s.1≤ks.length∧s.1≤200∧own M' N 110 2 s.2 s.1 rows.flatten∧zag (zcl F') 2 rows ((ks.take s.1).mapIdx λi k=>(keyOf l k,c.getD (i%c.length) 0))) (λs=>200 - s.1) (0,.slice none 0 0) rfl rfl
  (λhw2=>⟨_,za1 hw2,F,M,N,[],rfl,za7.refl _,Nat.le_refl _,λ_ _=>rfl,hm,Nat.zero_le _,Nat.zero_le _,own.nil,zag.nil _ _⟩) (λk1 s j h1 hI hw2 next=>?_)
 rw [zuz];obtain ⟨F2,M2,N2,rows,rfl,hF2,hN2,hM2,hm2,hi,hi2,ho2,hr2⟩:=hI
 have fin:(¬ s.1<ks.length∨¬ s.1<200) -> ∀ h',h'=(⟨F2,M2,N2⟩:Hp) -> h'.wf -> ∃ h'',h'.wk h''∧(h''.wf -> K s.2 h''):=λhend h' e hc'=>by
  subst e
  have e1:ks.take s.1=ks.take 200:=by
   rcases hend with h | h
   ·rw [List.take_of_length_le (by omega),List.take_of_length_le (by omega)]
   ·rw [show s.1=200 by omega]
  have e2:s.1=(zdy l ks c).length:=by
   rw [zkh]
   rcases hend with h | h<;>omega
  refine ⟨_,zdw hm hM2 hc',λhw'=>k _ _ _ hw' (hF2.trans (zb9 hc')) hN2 ⟨rows,?_,?_⟩⟩
  ·have := ho2.rd.frz hc' (λb hb=>.inl (ho2.ge b hb).1);rw [← e2]; exact this
  ·unfold zdy;rw [← e1]; exact hr2.mono λ_ _ h=>h.mono (zb9 hc')
 try simp only [hlv]
 try simp only [sS]
 refine zat (λhlt=>?_) (λhge=>?_)
 ·try simp only [sS]
  refine zat (λhlt2=>?_) (λhge2=>?_)
  ·have h1:s.1<ks.length:=by omega
   try simp only [sS]
   refine yvi (hv.mono hF2) h1 λp kv hkv hkvl=>?_;refine yrc (hu.mono hF2) hkv hl hs (hc _ (List.getElem_mem _)) hkvl (λkey F3 N3 hw3 hF3 hN3 hkey=>?_);obtain ⟨ka,kc,hkf,_⟩:=hkey.form;refine zaa (v:=.agg #[key,.int .i64 0]) (by rw [hkf]; kernel_rfl) ?_;refine zap (λb1 hb1=>?_);refine stM (cs':=[key,.int .i64 0]) ?_ (za0 _ _ _) rfl rfl (by rw [hkf]; exact List.all_eq_true.1 rfl);rw [zan];try simp only [hlw]
   try simp only [sS]
   have hm3:=hm2.up hN3;have hb1:∀ x,own (upd M2 b1 x) N 110 2 s.2 s.1 rows.flatten:=λx=>ho2.box hm3 (by omega) x;refine zbw (λh0=>?_) (λh0=>?_);try simp only [sS]
   refine zr4 (a:=s.1) (b:=c.length) (by omega) ?_;have hmod:s.1%c.length<c.length:=Nat.mod_lt _ (by omega);refine zfm ((hw'.mono hF2).mono hF3) hmod λp=>?_;refine stM (cs':=[key,.int .i64 c[s.1%c.length]]) ?_ (za0 _ _ _) rfl rfl (List.all_eq_true.1 rfl) (by exact Nat.le_of_ble_eq_true rfl);rw [zan];obtain ⟨n,hn,hn2⟩:∃ n,c[s.1%c.length]=n∧n=c.getD (s.1%c.length) 0:=⟨_,rfl,by rw [List.getD_eq_getElem?_getD,List.getElem?_eq_getElem hmod]; rfl⟩;rw [hn]
   rotate_left
   try simp only [sS]
   obtain ⟨n,hn,hn2⟩:∃ n:Int,(0:Int)=n∧n=c.getD (s.1%c.length) 0:=⟨_,rfl,by rw [List.getD_eq_getElem?_getD,List.getElem?_eq_none (by omega)]; rfl⟩;rw [show ([key,.int .i64 0]:List Value)=[key,.int .i64 n] by rw [← hn]]
   all_goals
    rw [zl0];refine zb6 (vs:=[key,.int .i64 n]) ?_ (za0 _ _ _);refine zhb (new:=[key,.int .i64 n]) (hb1 _) (hm3.new (by omega) _) (by omega) (by rw [hkf]; kernel_rfl) rfl (by rw [hkf]; exact List.all_eq_true.1 rfl) (by omega) (by unfold maxLen; omega) (λp v' M4 N4 h4 h5 h6 h7=>?_);refine zas (by omega) ?_;refine next (s.1+1,v') _ _ (by simp only; omega) (λhw3=>⟨_,za1 hw3,F3,M4,N4,rows++[[key,.int .i64 n]],rfl,hF2.trans hF3,by omega,λq hq=>?_,h7,h1,by simp only; omega,?_,?_⟩)
    ·exact ((h5 q (λe=>by have := (ho2.ge q e).1; omega) (by omega)).1).trans ((za3 _ _ (by omega)).trans (hM2 q hq))
    ·simpa using h4
    ·simp only;rw [yca _ ks h1];have hr1:zcl F3 [key,.int .i64 n] (keyOf l ks[s.1],c.getD (s.1%c.length) 0):=⟨key,by rw [← hn2],hkey,by simp only; rw [zpd]; omega⟩;exact zca (hr2.mono λ_ _ h=>h.mono hF3) hr1.one hr1
  ·try simp only [sS]
   exact fin (by omega) _ rfl
 ·try simp only [sS]
  exact fin (by omega) _ rfl
noncomputable def frzP (F:Nat -> Option (List Value)) (M:Nat -> Option zak) (p:Nat -> Prop):Nat -> Option (List Value):=λb=>open Classical in if p b then (match M b with | some (.cells _ cs _)=>some cs | _=>F b) else F b
theorem zc5 {p:Nat -> Prop} (hc:(Hp.mk F M N).wf):za7 F (frzP F M p):=λb cs hb=>by
 unfold frzP
 split
 ·rw [show M b=none from hc.d b cs hb]; exact hb
 ·exact hb
theorem zog {p:Nat -> Prop} (hc:(Hp.mk F M N).wf):(Hp.mk F M N).wk ⟨frzP F M p,zh8 M (λq=>¬ p q),N⟩:=by
 refine ⟨rfl,ygm _ _,λb cs hb=>?_,λb cs hb=>?_⟩
 ·simp only [frzP] at hb
  split at hb
  ·rename_i hp
   split at hb
   ·rename_i e cs' tot he; cases hb; exact .inr ⟨by simp [zh8,hp],e,cs,tot,he,List.prefix_refl _⟩
   ·exact .inl hb
  ·exact .inl hb
 ·simp only [frzP] at hb
  split at hb
  ·rename_i hp; simp [zh8,hp]
  ·have:M b=none:=hc.d b cs hb;simp only [zh8,this]; split<;>rfl
theorem own.frzP {B:Nat} {e:TypeId} {sz n:Nat} {v:Value} {cs:List Value} {p:Nat -> Prop} (h:own M B e sz v n cs) (hp:∀ q,v.ownBlock=some q -> p q):sF (A.frzP F M p) sz v n cs:=by
 refine ⟨h.1,?_⟩
 rcases h.2 with ⟨rfl,rfl⟩ | ⟨b,c,rest,rfl,h2,h3,h4,h5⟩
 ·exact .inl ⟨_,_,rfl,rfl⟩
 ·refine .inr ⟨b,0,c,cs++rest,rfl,h2,?_,by rw [List.drop_zero,← h.1,List.take_left]⟩;have := hp b rfl
  simp [A.frzP,this,h5]
theorem own.far {B:Nat} {e:TypeId} {sz n:Nat} {u v v':Value} {cs:List Value} (h:own M B e sz u n cs) (hf:fr M M' N v v') (hm:za5 M N) (hne:∀ q,u.ownBlock=some q -> v.ownBlock≠some q):own M' B e sz u n cs∧∀ q,u.ownBlock=some q -> v'.ownBlock≠some q :=
 ⟨h.keep (λq hq=>(hf q (hne q hq) (h.lt hm q hq)).1) (Nat.le_refl _),λq hq=>(hf q (hne q hq) (h.lt hm q hq)).2⟩
def zof:Nat -> List Nat -> Nat
 | a,[]=>a
 | a,b::l=>zof (a*(2+b%4)) l
def zkt:Nat -> List Nat -> List Nat
 | _,[]=>[]
 | a,b::l=>(a*(2+b%4))::zkt (a*(2+b%4)) l
theorem yhv (l:List Nat) (b:Nat):∀ a,zof a (l++[b])=zof a l*(2+b%4):=by
 induction l with
 | nil=>intro a; rfl
 | cons x l ih=>intro a; exact ih _
theorem yi0 (l:List Nat) (b:Nat):∀ a,zkt a (l++[b])=zkt a l++[zof a l*(2+b%4)]:=by
 induction l with
 | nil=>intro a; rfl
 | cons x l ih=>intro a; simp only [List.cons_append,zkt]; rw [ih]; rfl
theorem ymu (l:List Nat):∀ a,zof a l≤a*5 ^ l.length:=by
 induction l with
 | nil=>intro a; simp [zof]
 | cons x l ih=>
  intro a;simp only [zof,List.length_cons];have h1:=ih (a*(2+x%4));have h2:a*(2+x%4)≤a*5:=Nat.mul_le_mul_left _ (by omega);have h3:a*(2+x%4)*5 ^ l.length≤a*5*5 ^ l.length:=Nat.mul_le_mul_right _ h2;rw [Nat.pow_succ,Nat.mul_comm (5 ^ l.length) 5,← Nat.mul_assoc];omega
theorem ybg (l:List Nat):∀ a,(zkt a l).length=l.length:=by
 induction l with
 | nil=>intro a; rfl
 | cons x l ih=>intro a; simp [zkt,ih]
def zgq (c:Int×List Int):Dm:=(1+c.1%200,(zkt 1 ((c.2.take 4).map Int.toNat)).map (λn:Nat=>(n:Int)))
def zjc (m:List (Int×List Int)):List Dm:=if m=[] then [(100,[10])] else (m.take 4).map zgq
def zw4 (F:Nat -> Option (List Value)) (cs:List Value) (c:Int×List Int):Prop:=∃ v,cs=[.int .u16 c.1,v]∧sF F 1 v c.2.length (ick .u8 c.2)∧c.2.length≤140737488351232
theorem zw4.mono {cs:List Value} {d:Int×List Int} (h:zw4 F cs d) (hF:za7 F F'):zw4 F' cs d:=let ⟨v,h1,h2,h3⟩:=h; ⟨v,h1,h2.mono hF,h3⟩
def zr8 (F:Nat -> Option (List Value)) (v:Value) (l:List (Int×List Int)):Prop:=∃ rows,sF F 2 v l.length rows.flatten∧zag (zw4 F) 2 rows l
theorem zr8.mono {v:Value} {t:List (Int×List Int)} (h:zr8 F v t) (hF:za7 F F'):zr8 F' v t:=let ⟨rows,h1,h2⟩:=h; ⟨rows,h1.mono hF,h2.mono λ_ _ hr=>hr.mono hF⟩
theorem yr2 {u:Value} {m:List (Int×List Int)} (hu:zr8 F u m) (hml:m.length≤140737488351232) (hc:∀ c∈m,(0≤c.1∧c.1<65536)∧∀ x∈c.2,0≤x∧x<256)
  (k:∀ v' F' N',(Hp.mk F' M N').wf -> za7 F F' -> N≤N' -> zeh F' v' (zjc m) -> K v' ⟨F',M,N'⟩) :
  cF 10 #[u] K E ⟨F,M,N⟩:=by
 refine za4 za8 Tryz.func10 (by kernel_rfl) (t10 _ E _) (λhw=>?_);have hm:za5 M N:=hw.m;obtain ⟨crows,hu1,hu2⟩:=hu;have hlu:zab u=some (.int .i64 (m.length:Nat)):=by obtain ⟨a,c,rfl,_⟩:=hu1.form; rfl
 refine zu0 (σ:=Nat×Value) (λs=>s.2) (λs=>.int .i64 (s.1:Nat))
  (λs h=>∃ F' M' N' rows,h=⟨F',M',N'⟩∧za7 F F'∧N≤N'∧(∀ q,q<N -> M' q=M q)∧za5 M' N'∧s.1≤m.length∧s.1≤4∧own M' N 108 2 s.2 s.1 rows.flatten∧zag (zi6 F') 2 rows ((m.take s.1).map zgq)) (λs=>4 - s.1) (0,.slice none 0 0) rfl rfl
  (λhw2=>⟨_,za1 hw2,F,M,N,[],rfl,za7.refl _,Nat.le_refl _,λ_ _=>rfl,hm,Nat.zero_le _,Nat.zero_le _,own.nil,zag.nil _ _⟩) (λk1 s j h1 hI hw2 next=>?_)
 rw [zvg];obtain ⟨F2,M2,N2,rows,rfl,hF2,hN2,hM2,hm2,hi,hi2,ho2,hr2⟩:=hI;have hu1':=hu1.mono hF2;have hu2':zag (zw4 F2) 2 crows m:=hu2.mono λ_ _ h=>h.mono hF2;try simp only [hlu]
 try simp only [sS]
 by_cases hgo:s.1<m.length∧s.1<4
 ·obtain ⟨h1,h2⟩:=hgo;refine zyp (by omega) ?_;try simp only [sS]
  refine zyp (by omega) ?_;try simp only [sS]
  obtain ⟨⟨c0,c1⟩,cb⟩:=hc m[s.1] (List.getElem_mem _);refine zeb hu1' hu2' (by decide) h1 (off:=0) (by decide) λp q r x hR _ hx=>?_;obtain ⟨bv,rfl,hbv,hbl⟩:=hR
  simp at hx
  subst hx;rw [show m[s.1].1=((m[s.1].1.toNat:Nat):Int) by omega];refine zr4 (b:=200) (by decide) (zn4 (by omega) (zji (a:=1) (by omega) ?_));obtain ⟨sz,hsz⟩:∃ sz:Int,((1+m[s.1].1.toNat%200:Nat):Int)=sz:=⟨_,rfl⟩;rw [hsz];refine zaa (v:=.agg #[.int .i64 sz,.slice none 0 0]) (by kernel_rfl) ?_;refine zap (λbx hbx=>?_);refine stM (cs':=[.int .i64 sz,.slice none 0 0]) ?_ (za0 _ _ _);rw [zan]
  have hs1:(zgq m[s.1]).1=sz:=by
   rw [← hsz];simp only [zgq];omega
  refine zid (σ:=Nat×Nat) (λs=>.int .i64 (s.2:Nat)) (λs=>.int .i64 (s.1:Nat))
   (λt h=>∃ M' N' dv,h=⟨F2,M',N'⟩∧bx<N'∧(∀ q,q<N -> M' q=M q)∧za5 M' N'∧t.1≤m[s.1].2.length∧t.1≤4∧t.2=zof 1 ((m[s.1].2.take t.1).map Int.toNat)∧M' bx=some (.cells 108 [.int .i64 sz,dv] 2) ∧
    own M' N 3 1 dv t.1 (ic ((zkt 1 ((m[s.1].2.take t.1).map Int.toNat)).map (λn:Nat=>(n:Int))))∧own M' N 108 2 s.2 s.1 rows.flatten∧dv.ownBlock≠some bx∧s.2.ownBlock≠some bx∧(∀ q,s.2.ownBlock=some q -> dv.ownBlock≠some q)) (λt=>4 - t.1) (0,1) rfl rfl
   (λhw3=>⟨_,za1 hw3,_,_,.slice none 0 0,rfl,Nat.lt_succ_self _,λq hq=>(za3 _ _ (by omega)).trans (hM2 q hq),hm2.new hbx _,Nat.zero_le _,Nat.zero_le _,by simp [zof],by rw [za0]; rfl,by simpa [zkt,ic] using own.nil,ho2.box hm2 hbx _,by simp [Value.ownBlock],λe=>by have := ho2.lt hm2 bx e; omega,λq _=>by simp [Value.ownBlock]⟩) (λk2 t j2 h2' hI2 hw3 next2=>?_)
  rw [zif];obtain ⟨M3,N3,dv,rfl,hbN,hM3,hm3,ht1,ht2,ht3,hbx3,hdv,hout,hd1,hd2,hd3⟩:=hI2;obtain ⟨da,dc,hdf,_⟩:=hdv.form
  have hbl4:t.1<m[s.1].2.length -> t.1<4 -> ∀ x,x=t.2 -> x≤625:=λ_ _ x e=>by
   rw [e,ht3];have h5:=ymu ((m[s.1].2.take t.1).map Int.toNat) 1;rw [List.length_map,List.length_take,Nat.min_eq_left ht1,Nat.one_mul] at h5;exact Nat.le_trans h5 (Nat.le_trans (Nat.pow_le_pow_right (by decide) ht2) (by decide))
  refine zeb hu1' hu2' (by decide) h1 (off:=1) (by decide) λp q r x hR _ hx=>?_;obtain ⟨bv,rfl,hbv,hbl⟩:=hR
  simp at hx
  subst hx;refine zb7 hbv ?_
  by_cases hgo2:t.1<m[s.1].2.length∧t.1<4
  ·obtain ⟨h3,h4⟩:=hgo2;have h625:=hbl4 h3 h4 t.2 rfl;refine zyp (by omega) ?_;try simp only [sS]
   refine zyp (by omega) ?_;try simp only [sS]
   refine zeb hu1' hu2' (by decide) h1 (off:=1) (by decide) λp q r x hR _ hx=>?_;obtain ⟨bv,rfl,hbv,hbl⟩:=hR
   simp at hx
   subst hx;refine zyq hbv h3 λp=>?_;obtain ⟨b0,b1⟩:=cb m[s.1].2[t.1] (List.getElem_mem _);obtain ⟨bn,hbn,hbn2⟩:∃ n:Nat,m[s.1].2[t.1]=(n:Int)∧n<256:=⟨m[s.1].2[t.1].toNat,by omega,by omega⟩;rw [hbn];refine zr4 (b:=4) (by decide) (zn4 (by omega) (zji (a:=2) (by omega) ?_));have hmul:t.2*(2+bn%4)≤625*5:=Nat.mul_le_mul h625 (by omega);refine yr1 (by omega) ?_;refine ldM (v:=dv) ?_ hbx3
   have hlast:((m[s.1].2.take (t.1+1)).map Int.toNat)=(m[s.1].2.take t.1).map Int.toNat++[bn]:=by
    rw [List.take_add_one,List.getElem?_eq_getElem h3,Option.toList_some,List.map_append,hbn]; simp
   refine zhb (new:=[.int .i64 ((t.2*(2+bn%4):Nat):Int)]) hdv hm3 (by omega) (by kernel_rfl) rfl (List.all_eq_true.1 rfl) (by omega) (by unfold maxLen; omega) (λp v' M4 N4 h4' h5 h6 h7=>?_);obtain ⟨va,vc,hvf,_⟩:=h4'.form;have hb4:M4 bx=some (.cells 108 [.int .i64 sz,dv] 2):=((h5 bx hd1 hbN).1).trans hbx3;refine stM (cs':=[.int .i64 sz,v']) ?_ hb4 (by rw [hvf]; rfl) (by rw [hvf]; rfl) (by rw [hvf]; exact List.all_eq_true.1 rfl);refine zas (by omega) ?_;obtain ⟨hout4,hne4⟩:=hout.far h5 hm3 hd3;have hv'b:=(h5 bx hd1 hbN).2;refine next2 (t.1+1,t.2*(2+bn%4)) _ _ (by simp only; omega) (λhw4=>⟨_,za1 hw4,_,N4,v',rfl,by omega,λq hq=>?_,h7.set (by omega) _,h3,by simp only; omega,?_,za0 _ _ _,?_,?_,hv'b,hd2,hne4⟩)
   ·exact (za3 _ _ (by omega)).trans (((h5 q (λe=>by have := (hdv.ge q e).1; omega) (by omega)).1).trans (hM3 q hq))
   ·simp only;rw [hlast,yhv,ht3]
   ·simp only;rw [hlast,yi0,List.map_append,← ht3];have h8:=h4'.keep (M':=upd M4 bx (some (.cells 108 [.int .i64 sz,v'] 2))) (λq hq=>za3 _ _ (λe=>hv'b (e ▸ hq))) (Nat.le_refl _)
    simpa [ic] using h8
   ·exact hout4.keep (λq hq=>za3 _ _ (λe=>hd2 (e ▸ hq))) (Nat.le_refl _)
  ·have hend:t.1=min m[s.1].2.length 4:=by omega
   have e1:m[s.1].2.take t.1=m[s.1].2.take 4:=by
    rcases Nat.lt_or_ge m[s.1].2.length 4 with h | h
    ·rw [List.take_of_length_le (by omega),List.take_of_length_le (by omega)]
    ·rw [show t.1=4 by omega]
   rw [e1] at hdv;have hx5:zgq m[s.1]=(sz,(zkt 1 ((m[s.1].2.take 4).map Int.toNat)).map (λn:Nat=>(n:Int))):=by rw [← hs1]; rfl
   have hdl:t.1=(zgq m[s.1]).2.length:=by rw [hx5,← e1]; simp [ybg]; omega
   refine zat (λhl1=>?_) (λhl1=>?_);try simp only [sS]
   refine zke (by omega) ?_
   all_goals
    try simp only [sS]
    refine zb6 (vs:=[.int .i64 sz,dv]) ?_ hbx3;refine zhb (new:=[.int .i64 sz,dv]) hout hm3 (by omega) (by rw [hdf]; kernel_rfl) rfl (by rw [hdf]; exact List.all_eq_true.1 rfl) (by omega) (by unfold maxLen; omega) (λp v' M4 N4 h4' h5 h6 h7=>?_);refine zas (by omega) ?_;obtain ⟨hdv4,hne4⟩:=hdv.far h5 hm3 (λq hq e=>hd3 q e hq);refine next (s.1+1,v') _ _ (by simp only; omega) (λhw4=>⟨_,zog (p:=λq=>N≤q∧v'.ownBlock≠some q) hw4,_,_,N4,rows++[[.int .i64 sz,dv]],rfl,hF2.trans (zc5 hw4),by omega,λq hq=>?_,zei h7,h1,by simp only; omega,?_,?_⟩)
    ·rw [zch (by omega)];exact ((h5 q (λe=>by have := (hout.ge q e).1; omega) (by omega)).1).trans (hM3 q hq)
    ·have h8:=h4'.keep (M':=zh8 M4 (λq=>¬ (N≤q∧v'.ownBlock≠some q))) (λq hq=>zch (λh=>h.2 hq)) (Nat.le_refl _)
     simpa using h8
    ·simp only;rw [List.take_add_one,List.getElem?_eq_getElem h1,Option.toList_some,List.map_append,List.map_singleton]
     have hr1:zi6 (frzP F2 M4 (λq=>N≤q∧v'.ownBlock≠some q)) [.int .i64 sz,dv] (zgq m[s.1]):=⟨dv,by rw [hs1],by
      have h9:=hdv4.frzP (F:=F2) (p:=λq=>N≤q∧v'.ownBlock≠some q) (λq hq=>⟨(hdv.ge q hq).1,hne4 q hq⟩);rw [← hdl];rw [hx5]; exact h9,by rw [← hdl]; omega⟩
     exact zca (hr2.mono λ_ _ h=>h.mono (zc5 hw4)) hr1.one hr1
 ·obtain ⟨oa,oc,hof,_⟩:=ho2.form;have hlo:zab s.2=some (.int .i64 (s.1:Nat)):=by rw [hof]; rfl
  have hend:s.1=min m.length 4:=by omega
  have e1:m.take s.1=m.take 4:=by
   rcases Nat.lt_or_ge m.length 4 with h | h
   ·rw [List.take_of_length_le (by omega),List.take_of_length_le (by omega)]
   ·rw [show s.1=4 by omega]
  refine zat (λhl1=>?_) (λhl1=>?_);try simp only [sS]
  refine zke (by omega) ?_
  all_goals
   try simp only [sS]
   try simp only [hlo]
   try simp only [sS]
   by_cases h0:s.1=0
   ·have hm0:m=[]:=List.eq_nil_of_length_eq_zero (by omega);refine zeg (by omega) ?_;try simp only [sS]
    refine zcx (cs:=[.int .i64 10]) (by kernel_rfl) (λb1 hb1=>?_);refine zaa (v:=.agg #[.int .i64 100,.slice (some ⟨b1,0,none⟩) 1 1]) (by kernel_rfl) ?_;have hb1v:s.2.ownBlock≠some b1:=λe=>by have := ho2.lt hm2 b1 e; omega
    refine zhb (new:=[.int .i64 100,.slice (some ⟨b1,0,none⟩) 1 1]) (ho2.box hm2 hb1 _) (hm2.new hb1 _) (by omega) (by kernel_rfl) rfl (List.all_eq_true.1 rfl) (by omega) (by unfold maxLen; omega) (λp v' M4 N4 h4' h5 h6 h7=>?_);rw [zrn];have hMM:∀ q,q<N -> M4 q=M q:=λq hq=>((h5 q (λe=>by have := (ho2.ge q e).1; omega) (by omega)).1).trans ((za3 _ _ (by omega)).trans (hM2 q hq));have hb4:M4 b1=some (.cells 3 [.int .i64 10] 1):=((h5 b1 hb1v (by omega)).1).trans (za0 _ _ _);refine λhc'=>⟨_,zdw hm hMM hc',λhw'=>k v' _ N4 hw' (hF2.trans (zb9 hc')) (by omega) ⟨rows++[[.int .i64 100,.slice (some ⟨b1,0,none⟩) 1 1]],?_,?_⟩⟩
    ·have := h4'.rd.frz hc' (λb hb=>.inl (h4'.ge b hb).1);rw [hm0] at hr2 ⊢;have hr0:rows=[]:=List.eq_nil_of_length_eq_zero (by have := hr2.all.1; simpa using this);subst hr0;rw [h0] at this
     simpa [zjc] using this
    ·rw [hm0] at hr2 ⊢;have hr1:zi6 (zd3 F2 M4 N) [.int .i64 100,.slice (some ⟨b1,0,none⟩) 1 1] (100,[10]):=⟨_,rfl,znd (zhq (by omega) hb4) rfl (by decide),by decide⟩;have hr0:rows=[]:=List.eq_nil_of_length_eq_zero (by have := hr2.all.1; simpa using this);subst hr0;exact zca (zag.nil _ _) hr1.one hr1
   ·refine zbj (by omega) ?_;try simp only [sS]
    rw [zrn];have hne:m≠[]:=λe=>by rw [e] at hend; simp at hend; omega
    refine λhc'=>⟨_,zdw hm hM2 hc',λhw'=>k s.2 _ N2 hw' (hF2.trans (zb9 hc')) hN2 ⟨rows,?_,?_⟩⟩
    ·have := ho2.rd.frz hc' (λb hb=>.inl (ho2.ge b hb).1);unfold zjc;rw [if_neg hne,List.length_map,List.length_take,show min 4 m.length=s.1 by omega]; exact this
    ·unfold zjc;rw [if_neg hne,← e1]; exact hr2.mono λ_ _ h=>h.mono (zb9 hc')
def chk (last:Int):List Int -> Bool
 | []=>true
 | x::l=>decide (¬ (x≤last∨x>10000∨x%last≠0))&&chk x l
def zg5 (d:Dm):Bool:=decide (1≤d.1∧d.1≤10000∧d.2.length≤4)&&chk 1 d.2
def zjj (l:List Int) (i:Nat):Int:=if h:0<i∧i≤l.length then l[i - 1] else 1
theorem yql {l:List Int} {i:Nat} (h:i<l.length):chk (zjj l i) (l.drop i)=(decide (¬ (l[i]≤zjj l i∨l[i]>10000∨l[i]%zjj l i≠0))&&chk (zjj l (i+1)) (l.drop (i+1))):=by
 rw [List.drop_eq_getElem_cons h];simp only [chk]
 congr 2
 unfold zjj;rw [dif_pos ⟨by omega,by omega⟩]
 simp
theorem yr7 {e:EqK} {k:IntKind} {a b:Int} {h:Hp} (ha:0≤a) (hb:0<b) (kk:K (.int k (a%b)) h):pv (za2 e .rem (.int k a) (.int k b)) K h :=
 ⟨_,by rw [inV]; simp only [zfa]; rw [if_neg (by omega)],by rw [Int.tmod_eq_emod_of_nonneg ha]; exact kk⟩
theorem yf1 {e:EqK} {a b:Int} {h:Hp} (ha:0≤a) (ha2:a≤9223372036854775807) (hb:0<b) (kk:K (.int .i64 (a/b)) h):pv (za2 e .quo (.int .i64 a) (.int .i64 b)) K h :=
 ⟨_,by rw [inV]; simp only [zfa]; rw [if_neg (by omega)],by
  rw [Int.tdiv_eq_ediv_of_nonneg ha,zmx (by have := Int.ediv_nonneg ha (Int.le_of_lt hb); omega) (by have := Int.ediv_le_self b ha; omega)]; exact kk⟩
theorem yl6 {cs:List Value} {d:Dm} (hd:zi6 F cs d) (k:∀ N',N≤N' -> (Hp.mk F M N').wf -> K (.bool (zg5 d)) ⟨F,M,N'⟩) :
  cF 182 #[.agg cs.toArray] K E ⟨F,M,N⟩:=by
 refine za4 za8 Tryz.func182 (by kernel_rfl) (ysl _ E _) (λhw=>?_);have hm:=hw.m;obtain ⟨v,rfl,hv,hvl⟩:=hd;refine zap (cs:=[.int .i64 d.1,v]) (λb hb=>?_)
 have fin:∀ v',v'=zg5 d -> ∀ h',h'=(⟨F,upd M b (some (.cells 108 [.int .i64 d.1,v] 2)),b+1⟩:Hp) -> h'.wf -> ∃ h'',h'.wk h''∧(h''.wf -> K (.bool v') h''):=λv' e h' e' hc=>by
  subst e; subst e';exact ⟨⟨F,M,b+1⟩,zn8 hc,λhw'=>k _ (by omega) hw'⟩
 unfold zg5 at fin;have no:¬ (1≤d.1∧d.1≤10000∧d.2.length≤4) -> false=(decide (1≤d.1∧d.1≤10000∧d.2.length≤4)&&chk 1 d.2):=λh=>by rw [decide_eq_false h]; rfl
 try simp only [sS]
 refine ldM (v:=.int .i64 d.1) ?_;refine zat (λh1=>?_) (λh1=>?_)
 ·try simp only [sS]
  exact fin _ (no (by omega)) _ rfl
 try simp only [sS]
 refine ldM (v:=.int .i64 d.1) ?_;refine zbw (λh2=>?_) (λh2=>?_)
 ·try simp only [sS]
  exact fin _ (no (by omega)) _ rfl
 try simp only [sS]
 refine ldM (v:=v) (zb7 hv ?_);refine zbw (λh3=>?_) (λh3=>?_)
 ·try simp only [sS]
  exact fin _ (no (by omega)) _ rfl
 try simp only [sS]
 refine ldM (v:=v) (zb7 hv ?_);rw [decide_eq_true ⟨by omega,by omega,by omega⟩,Bool.true_and] at fin
 refine zpt (σ:=Nat) (λi=>.int .i64 (zjj d.2 i)) (λi=>.int .i64 (i:Nat)) (λi h=>h=⟨F,upd M b (some (.cells 108 [.int .i64 d.1,v] 2)),b+1⟩∧i≤d.2.length∧chk 1 d.2=chk (zjj d.2 i) (d.2.drop i)∧1≤zjj d.2 i) (λi=>d.2.length - i) 0 rfl rfl
  (λhw1=>⟨_,za1 hw1,rfl,Nat.zero_le _,rfl,by simp [zjj]⟩) (λk1 i j h1' hI hw1 next=>?_)
 rw [zpw];obtain ⟨rfl,hi,he,hp⟩:=hI;refine zat (λhlt=>?_) (λhge=>?_)
 ·have h4:i<d.2.length:=by omega
  rw [yql h4] at he;try simp only [sS]
  refine zfm hv h4 λp=>?_;refine zds (λh5=>?_) (λh5=>?_)
  ·try simp only [sS]
   exact fin _ (by rw [he,decide_eq_false (by omega)]; rfl) _ rfl
  try simp only [sS]
  refine zbw (λh6=>?_) (λh6=>?_)
  ·try simp only [sS]
   exact fin _ (by rw [he,decide_eq_false (by omega)]; rfl) _ rfl
  try simp only [sS]
  refine yr7 (by omega) (by omega) ?_;refine zio (λh7=>?_) (λh7=>?_)
  ·try simp only [sS]
   exact fin _ (by rw [he,decide_eq_false (by omega)]; rfl) _ rfl
  try simp only [sS]
  refine zas (by omega) ?_;have e2:zjj d.2 (i+1)=d.2[i]:=by unfold zjj; rw [dif_pos ⟨by omega,by omega⟩]; simp
  rw [← e2];exact next (i+1) _ _ (by omega) (λhw2=>⟨_,za1 hw2,rfl,h4,by rw [he,decide_eq_true (by omega)]; rfl,by rw [e2]; omega⟩)
 ·try simp only [sS]
  exact fin _ (by rw [he,List.drop_eq_nil_of_le (by omega)]; rfl) _ rfl
theorem ykz {cs:List Value} {d:Dm} (hd:zi6 F cs d) (k:∀ N',N≤N' -> (Hp.mk F M N').wf -> K (.bool (!zg5 d)) ⟨F,M,N'⟩) :
  cF 181 #[.agg cs.toArray] K E ⟨F,M,N⟩:=by
 refine za4 za8 Tryz.func181 (by kernel_rfl) (ys5 _ E _) (λhw=>?_);have hm:=hw.m;have hd':=hd;obtain ⟨v,rfl,hv,hvl⟩:=hd;refine zap (cs:=[.int .i64 d.1,v]) (λb hb=>?_);refine zb6 (vs:=[.int .i64 d.1,v]) ?_;refine yl6 hd' (λN1 hN1 hw1=>?_);try simp only [sS]
 exact λhc=>⟨⟨F,M,N1⟩,zn8 hc,λhw'=>k _ (by omega) hw'⟩
def zd1 (l:List Dm):Bool:=decide (0<l.length∧l.length≤4)&&l.all zg5
theorem yjc {v:Value} {l:List Dm} (hv:zeh F v l) (hl:l.length≤140737488351232) (k:∀ (r:Int) N',N≤N' -> (Hp.mk F M N').wf -> (decide (r≥0) = !l.all zg5) -> K (.int .i64 r) ⟨F,M,N'⟩) :
  cF 243 #[v,.func (.func 181) #[] #[]] K E ⟨F,M,N⟩:=by
 refine za4 za8 Tryz.func243 (by kernel_rfl) (yry _ E _ _) (λhw=>?_);obtain ⟨rows,hv1,hv2⟩:=hv;refine zb7 hv1 ?_
 refine zxl (σ:=Nat) (λi=>.int .i64 (i:Nat)) (λi h=>∃ N',h=⟨F,M,N'⟩∧N≤N'∧i≤l.length∧l.all zg5=(l.drop i).all zg5) (λi=>l.length - i) 0 rfl
  (λhw1=>⟨_,za1 hw1,N,rfl,Nat.le_refl _,Nat.zero_le _,rfl⟩) (λk1 i j h1 hI hw1 next=>?_)
 rw [zvv];obtain ⟨N1,rfl,hN1,hi,he⟩:=hI;refine zat (λhlt=>?_) (λhge=>?_)
 ·have h1:i<l.length:=by omega
  try simp only [sS]
  refine zih hv1 hv2 (by decide) h1 λp r _ hR _ _=>ykz hR (λN2 hN2 hw2=>?_);rw [List.drop_eq_getElem_cons h1,List.all_cons] at he;cases hn:zg5 l[i]
  ·try simp only [sS]
   refine λhc=>⟨_,za1 hc,λhw'=>k _ _ (by omega) hw' ?_⟩;rw [he,hn,decide_eq_true (by omega)]; rfl
  ·try simp only [sS]
   refine zas (by omega) ?_;refine next (i+1) _ _ (by omega) (λhw3=>⟨_,za1 hw3,N2,rfl,by omega,by omega,?_⟩);rw [he,hn,Bool.true_and]
 ·try simp only [sS]
  refine λhc=>⟨_,za1 hc,λhw'=>k _ _ hN1 hw' ?_⟩;rw [he,List.drop_eq_nil_of_le (by omega)]; rfl
theorem yks {v:Value} {l:List Dm} (hv:zeh F v l) (hl:l.length≤140737488351232) (k:∀ N',N≤N' -> (Hp.mk F M N').wf -> K (.bool (zd1 l)) ⟨F,M,N'⟩) :
  cF 129 #[v] K E ⟨F,M,N⟩:=by
 refine za4 za8 Tryz.func129 (by kernel_rfl) (yiw _ E _) (λhw=>?_);have hlv:zab v=some (.int .i64 (l.length:Nat)):=by obtain ⟨a,c,rfl⟩:=hv.form; rfl
 have fin:∀ v',v'=zd1 l -> ∀ N',N≤N' -> ∀ h',h'=(⟨F,M,N'⟩:Hp) -> h'.wf -> ∃ h'',h'.wk h''∧(h''.wf -> K (.bool v') h''):=λv' e N' hN h' e' hc=>by
  subst e; subst e';exact ⟨_,za1 hc,λhw'=>k _ hN hw'⟩
 unfold zd1 at fin;try simp only [hlv]
 try simp only [sS]
 refine zbw (λh1=>?_) (λh1=>?_)
 ·try simp only [sS]
  try simp only [hlv]
  try simp only [sS]
  refine zds (λh2=>?_) (λh2=>?_)
  ·rw [decide_eq_true ⟨by omega,by omega⟩,Bool.true_and] at fin;try simp only [sS]
   refine za4 za8 Tryz.func180 (by kernel_rfl) (yvd _ E _ _) (λhw=>?_);refine yjc hv hl (λr N1 hN1 hw1 hr=>?_);cases ha:l.all zg5
   ·rw [ha] at hr;refine yf3 (by simpa using hr) λhc=>⟨_,za1 hc,λhw'=>?_⟩;try simp only [sS]
    exact fin _ (by rw [ha]) _ hN1 _ rfl
   ·rw [ha] at hr;refine zqp (by simpa using hr) λhc=>⟨_,za1 hc,λhw'=>?_⟩;try simp only [sS]
    exact fin _ (by rw [ha]) _ hN1 _ rfl
  ·try simp only [sS]
   exact fin _ (by rw [decide_eq_false (by omega)]; rfl) _ (Nat.le_refl _) _ rfl
 ·try simp only [sS]
  exact fin _ (by rw [decide_eq_false (by omega)]; rfl) _ (Nat.le_refl _) _ rfl
def byF (d:Dm) (lv:Int):Int:=if lv=0 then 1 else if lv>d.2.length then 0 else d.2.getD (lv - 1).toNat 0
def upF (d:Dm) (a b v:Int):Int:=if zg5 d=false∨a<0∨b<a∨b≥d.2.length+2∨v<0 then -1 else if a=b then v else if byF d b=0 then 0 else v/(byF d b/byF d a)
def atL (l:List Dm) (a b c:List Int):List Int:=l.mapIdx λi d=>upF d (a.getD i 0) (b.getD i 0) (c.getD i 0)
def yup (l:List Dm) (a b c:List Int):Bool:=zd1 l&&decide (a.length=l.length∧b.length=l.length∧c.length=l.length)
def atF (l:List Dm) (a b c:List Int):List Int:=if yup l a b c=true then atL l a b c else []
end Go.Proofs.YtlhlhpgjnjjhnaaGreatDoor.A
open Go
set_option linter.unusedVariables false
set_option linter.unusedSimpArgs false
namespace Go.Proofs.YtlhlhpgjnjjhnaaGreatDoor.A
def yro (m:Int) (l:List Int):Prop:=m∈l∧∀ x∈l,m≤x
def yr8 (m:Int) (l:List Int):Prop:=m∈l∧∀ x∈l,x≤m
structure yie (c:CE) (l:List Int):Prop where
 n:c.n=l.length
 s:c.s=IntKind.i64.wrap l.sum
 lo:yro c.lo l
 hi:yr8 c.hi l
abbrev KV:=List Int×List Int
def zzp (ls:List KV) (k:List Int):List Int:=(ls.filter λx=>decide (x.1=k)).flatMap (·.2)
def yxo (ls:List KV):Nat:=(ls.map (·.2.length)).sum
def yxj (rows:List Rw) (ls:List KV):Prop:=rows.length=ls.length∧∀ (i:Nat) (r:Rw) (l:KV),rows[i]?=some r -> ls[i]?=some l -> r.1=l.1∧yie r.2 l.2
def yrg (t:List Rw) (ls:List KV):Prop:=∀ k,match ypi t k with
 | none=>zzp ls k=[]
 | some c=>yie c (zzp ls k)
def kvF (f:List Int×Int):KV:=(f.1,[f.2])
end Go.Proofs.YtlhlhpgjnjjhnaaGreatDoor.A
open Go Go.RowKit Go.Proofs.YtlhlhpgjnjjhnaaGreatDoor.K Go.Proofs.YtlhlhpgjnjjhnaaGreatDoor.T
set_option linter.unusedVariables false
set_option linter.unusedSimpArgs false
namespace Go.Proofs.YtlhlhpgjnjjhnaaGreatDoor.A
variable {F F':Nat -> Option (List Value)} {M M':Nat -> Option zak} {N N':Nat} {K:zae} {E:zb2}
def zfe (l:List Dm):Prop:=0<l.length∧l.length≤4∧∀ d∈l,0<d.1∧d.1≤200
theorem zrp (m:List (Int×List Int)) (hc:∀ c∈m,0≤c.1∧c.1<65536):zfe (zjc m):=by
 unfold zjc
 split
 ·exact ⟨by decide,by decide,λd hd=>by simp at hd; subst hd; decide⟩
 ·rename_i h
  refine ⟨?_,by rw [List.length_map,List.length_take]; omega,λd hd=>?_⟩
  ·have := List.length_pos_iff.2 h;rw [List.length_map,List.length_take]; omega
  ·obtain ⟨c,hc',rfl⟩:=List.mem_map.1 hd;have := hc c (List.mem_of_mem_take hc');simp only [zgq]; omega
theorem zrq {l:List Dm} {ks:List (List Int)} {v:List Int} {f:Fc} (h:f∈zdy l ks v):(∃ c,f.1=keyOf l c)∧(f.2=0∨f.2∈v):=by
 obtain ⟨i,hi,rfl⟩:=List.mem_iff_getElem.1 h;refine ⟨⟨(ks.take 200)[i]'(by simpa [zdy] using hi),by simp [zdy]⟩,?_⟩;simp only [zdy,List.getElem_mapIdx];rw [List.getD_eq_getElem?_getD];cases hv:v[i%v.length]? with
 | none=>exact .inl rfl
 | some x=>exact .inr (List.mem_of_getElem? hv)
def lvs:List Dm -> List Int -> List Int -> Bool
 | d::l,a::x,b::y=>decide (¬ (a<0∨b<a∨b≥d.2.length+2))&&lvs l x y
 | _,_,_=>true
def ys2 (l:List Dm) (a b:List Int):Bool:=decide (a.length=l.length∧b.length=l.length)&&lvs l a b
def yra (l:List Dm) (t:List Rw) (a b:List Int):Nat:=if zd1 l=false then 30 else if ys2 l a b=false then 40 else if yh9 l.length t=false then 1 else 0
def ykw (l:List Dm) (t:List Rw) (a b:List Int):List Rw:=t.map λr=>(atF l a b r.1,r.2)
def yrw (l:List Dm) (t:List Rw) (a b:List Int):List Rw:=if yra l t a b=0 then tab (ykw l t a b) else []
theorem ye2 {l:List Dm} (h:zd1 l=true):l.length≤4:=by unfold zd1 at h; rw [Bool.and_eq_true] at h; exact (of_decide_eq_true h.1).2
def yxx (l:List Dm) (c least:List Int):List Int:=l.mapIdx λi d=>least.getD i 0+(c.getD i 0)%(d.2.length+2 - least.getD i 0)
def yxq (l:List Dm) (m:List Int):Prop:=∀ (i:Nat) (h:i<l.length),0≤m.getD i 0∧m.getD i 0<l[i].2.length+2
end Go.Proofs.YtlhlhpgjnjjhnaaGreatDoor.A
open Go
set_option linter.unusedVariables false
set_option linter.unusedSimpArgs false
namespace Go.Proofs.YtlhlhpgjnjjhnaaGreatDoor.A
def yxg (t:List Rw) (ls:List KV):List KV:=t.map λr=>(r.1,zzp ls r.1)
def total (t:List Rw):Int:=(t.map λr=>r.2.n).sum
end Go.Proofs.YtlhlhpgjnjjhnaaGreatDoor.A
open Go Go.RowKit Go.Proofs.YtlhlhpgjnjjhnaaGreatDoor.K Go.Proofs.YtlhlhpgjnjjhnaaGreatDoor.T
set_option linter.unusedVariables false
set_option linter.unusedSimpArgs false
namespace Go.Proofs.YtlhlhpgjnjjhnaaGreatDoor.A
variable {F F':Nat -> Option (List Value)} {M M':Nat -> Option zak} {N N':Nat} {K:zae} {E:zb2}
def reK (f:List Int -> List Int) (ls:List KV):List KV:=ls.map λx=>(f x.1,x.2)
def yo7 (l:List Dm) (k:List Int):Prop:=k.length=l.length∧∀ x∈k,0≤x∧x≤1000000
structure yxr (l:List Dm) (t:List Rw) (ls:List KV):Prop where
 has:yrg t ls
 srt:srt t
 key:∀ x∈ls,yo7 l x.1
 val:∀ x∈ls,∀ v∈x.2,i64 v
theorem yax:∀ (l:List Nat) (a:Nat),1≤a -> a*5 ^ l.length≤10000 -> chk a ((zkt a l).map (λn:Nat=>(n:Int)))=true
 | [],a,_,_=>rfl
 | b::l,a,h,hn=>by
  have h1:a*(2+b%4)≤a*5:=Nat.mul_le_mul_left _ (by omega);have h2:a*2≤a*(2+b%4):=Nat.mul_le_mul_left _ (by omega);have h5:1≤5 ^ l.length:=Nat.one_le_pow _ _ (by decide);have h3:a*5*5 ^ l.length≤10000:=by rw [List.length_cons,Nat.pow_succ,Nat.mul_comm (5 ^ l.length) 5,← Nat.mul_assoc] at hn; exact hn
  have h4:a*(2+b%4)*5 ^ l.length≤10000:=Nat.le_trans (Nat.mul_le_mul_right _ h1) h3;have h6:a*5*1≤10000:=Nat.le_trans (Nat.mul_le_mul_left _ h5) h3;simp only [zkt,List.map_cons,chk];rw [yax l (a*(2+b%4)) (by omega) h4,Bool.and_true];refine decide_eq_true ?_;have h7:((a*(2+b%4):Nat):Int)%(a:Int)=0:=by rw [← Int.natCast_emod,Nat.mul_mod_right]; rfl
  omega
theorem yit {c:Int×List Int} (hc:0≤c.1∧c.1<65536):zg5 (zgq c)=true:=by
 unfold zg5;have hl:((c.2.take 4).map Int.toNat).length≤4:=by simp; omega
 have h1:chk 1 (zgq c).2=true:=by
  refine yax _ 1 (Nat.le_refl _) ?_;rw [Nat.one_mul];exact Nat.le_trans (Nat.pow_le_pow_right (by decide) hl) (by decide)
 have h2:(zgq c).2.length≤4:=by simp only [zgq,List.length_map,ybg]; simp; omega
 have h3:1≤(zgq c).1∧(zgq c).1≤10000:=by simp only [zgq]; omega
 rw [h1,decide_eq_true ⟨h3.1,h3.2,h2⟩]; rfl
theorem yi5 {m:List (Int×List Int)} (hc:∀ c∈m,0≤c.1∧c.1<65536):zd1 (zjc m)=true:=by
 have hg:=zrp m hc;unfold zd1;rw [decide_eq_true ⟨hg.1,hg.2.1⟩,Bool.true_and,List.all_eq_true];intro d hd;unfold zjc at hd
 split at hd
 ·simp at hd; subst hd; decide +kernel
 ·obtain ⟨c,hc',rfl⟩:=List.mem_map.1 hd;exact yit (hc c (List.mem_of_mem_take hc'))
def yxz (l:List Dm) (a b:List Int):Prop:=a.length=l.length∧b.length=l.length∧∀ (i:Nat) (h:i<l.length),0≤a.getD i 0∧a.getD i 0≤b.getD i 0∧b.getD i 0<l[i].2.length+2
def ylv (n:Nat):List Int:=List.replicate n 0
theorem yek {l:List Dm} (h:zd1 l=true):∀ d∈l,zg5 d=true:=by
 unfold zd1 at h;rw [Bool.and_eq_true] at h;exact List.all_eq_true.1 h.2
theorem yge {d:Dm} (h:zg5 d=true):d.2.length≤4:=by unfold zg5 at h; rw [Bool.and_eq_true] at h; exact (of_decide_eq_true h.1).2.2
theorem zy8 {α:Type} {R:List Value -> α -> Prop} {sz:Nat} {rows:List (List Value)} {xs:List α} (h:zag R sz rows xs):∀ x∈xs,∃ r,R r x:=λx hx=>by
 obtain ⟨i,hi,rfl⟩:=List.mem_iff_getElem.1 hx;obtain ⟨r,_,h2,_⟩:=h.get (List.getElem?_eq_getElem hi);exact ⟨r,h2⟩
abbrev yre:(Nat -> Option (List Value)) -> List Value -> Int×Int×Int×Int -> Prop:=rP (rI .i64) (rP (rI .i64) (rP (rI .i64) (rI .i64)))
abbrev yy3:(Nat -> Option (List Value)) -> List Value -> List Int×Int×Int×Int×Int -> Prop:=rP (rS 1 (rI .i64)) yre
def yyi (y:List Int×Int×Int×Int×Int):Rw:=(y.1,⟨y.2.1,y.2.2.1,y.2.2.2.1,y.2.2.2.2⟩)
theorem zlz {x:Int} (h:(Lit.int .u16 x).wf=true):0≤x∧x<65536:=by
 have h':0≤x∧x≤65535:=by simpa [Lit.wf,IntKind.min,IntKind.max,IntKind.signed,IntKind.bits] using h
 omega
theorem yqw {x:Int} (h:(Lit.int .u8 x).wf=true):0≤x∧x<256:=by
 have h':0≤x∧x≤255:=by simpa [Lit.wf,IntKind.min,IntKind.max,IntKind.signed,IntKind.bits] using h
 omega
theorem yem {kk:IntKind} {cs:List Value} {l:List Int} (h:rS 1 (rI kk) F cs l):∃ v,cs=[v]∧sF F 1 v l.length (ick kk l)∧(∀ x∈l,(Lit.int kk x).wf=true)∧l.length≤140737488351232:=by
 obtain ⟨v,rows,rfl,h2⟩:=h;obtain ⟨h3,h4,h5⟩:=yn0 ⟨v,rows,rfl,h2⟩;exact ⟨v,rfl,h3,h4,h5⟩
theorem ynt {kk:IntKind} {v:Value} {l:List Int} (h:rS 1 (rI kk) F [v] l):sF F 1 v l.length (ick kk l)∧(∀ x∈l,(Lit.int kk x).wf=true)∧l.length≤140737488351232:=by
 obtain ⟨u,e,h⟩:=yem h
 injection e with e _
 subst e; exact h
theorem yb7 {kk:IntKind} {v:Value} {ls:List (List Int)} (h:rS 1 (rS 1 (rI kk)) F [v] ls):zqf kk F v ls∧ls.length≤140737488351232∧∀ l∈ls,∀ x∈l,(Lit.int kk x).wf=true:=by
 obtain ⟨v',rows,e,hv,hr,hl⟩:=h
 injection e with e _
 subst e
 have hr':zag (λr c=>(∃ u,r=[u]∧sF F 1 u c.length (ick kk c)∧c.length≤140737488351232)∧∀ x∈c,(Lit.int kk x).wf=true) 1 rows ls:=hr.mono λr c h=>by
  obtain ⟨u,rfl,h1,h2,h3⟩:=yem h;exact ⟨⟨u,rfl,h1,h3⟩,h2⟩
 exact ⟨⟨rows,hv,hr'.mono λ_ _ h=>h.1⟩,hl,λl hl=>by obtain ⟨r,h⟩:=zy8 hr' l hl; exact h.2⟩
abbrev yos:(Nat -> Option (List Value)) -> List Value -> Int×List Int -> Prop:=rP (rI .u16) (rS 1 (rI .u8))
theorem yna {v:Value} {y:List (Int×List Int)} (h:rS 2 yos F [v] y):zr8 F v y∧y.length≤140737488351232∧∀ c∈y,(0≤c.1∧c.1<65536)∧∀ x∈c.2,0≤x∧x<256:=by
 obtain ⟨v',rows,e,hv,hr,hl⟩:=h
 injection e with e _
 subst e
 have hr':zag (λr f=>zw4 F r f∧(0≤f.1∧f.1<65536)∧∀ x∈f.2,0≤x∧x<256) 2 rows y:=hr.mono λr f ⟨c1,c2,e,⟨ha,hb⟩,hc⟩=>by
  obtain ⟨u,rfl,h1,h2,h3⟩:=yem hc;exact ⟨⟨u,by rw [e,ha]; rfl,h1,h3⟩,zlz hb,λx hx=>yqw (h2 x hx)⟩
 exact ⟨⟨rows,hv,hr'.mono λ_ _ h=>h.1⟩,hl,λc hc=>by obtain ⟨r,h⟩:=zy8 hr' c hc; exact h.2⟩
abbrev yy2:(Nat -> Option (List Value)) -> List Value -> Int×List Int -> Prop:=rP (rI .i64) (rS 1 (rI .i64))
theorem yaf {p:Nat -> Bool} {n i:Nat} (hi:i<n) (h:p i=false):(List.range n).all p=false:=by
 rw [List.all_eq_false];exact ⟨i,List.mem_range.2 hi,by simp [h]⟩
theorem zws {p:Nat -> Bool} {i:Nat} (h:(List.range i).all p=true) (hp:p i=true):(List.range (i+1)).all p=true:=by
 rw [List.range_succ,List.all_append,h]; simp [hp]
def ycw (lo hi key:List Int):Bool:=decide (hi.length=lo.length∧key.length=lo.length)&&(List.range lo.length).all λi=>decide (lo.getD i 0≤key.getD i 0∧key.getD i 0<hi.getD i 0)
def yrp (l:List Dm) (lo hi:List Int):Bool:=decide (lo.length=l.length∧hi.length=l.length)&&(List.range lo.length).all λi=>decide (0≤lo.getD i 0∧lo.getD i 0≤hi.getD i 0∧hi.getD i 0≤(l.getD i (0,[])).1)
theorem zfr {α:Type} {l:List α} {i:Nat} (h:i<l.length) (d:α):l.getD i d=l[i]:=by rw [List.getD_eq_getElem?_getD,List.getElem?_eq_getElem h]; rfl
theorem yo1 {p:Nat -> Prop} {b:Nat} {e:TypeId} {cs:List Value} {tot:Nat} (hp:p b) (hM:M b=some (.cells e cs tot)):frzP F M p b=some cs:=by simp [frzP,hp,hM]
def yy1 (l:List Dm) (lo hi:List Int) (i:Nat):Bool:=decide (0≤lo.getD i 0∧lo.getD i 0≤hi.getD i 0∧hi.getD i 0≤(l.getD i (0,[])).1)
def yse (lo hi:List Int) (t:List Rw):List Rw:=t.filter λr=>ycw lo hi r.1
def lvP (l:List Dm) (m:List Int) (i:Nat):Bool:=decide (0≤m.getD i 0∧m.getD i 0<((l.getD i (0,[])).2.length+2:Nat))
def yu1 (l:List Dm) (m:List Int):Bool:=decide (m.length=l.length)&&(List.range l.length).all (lvP l m)
def yxf (F:Nat -> Option (List Value)) (cs:List Value) (m lo hi:List Int):Prop:=∃ a b c,cs=[a,b,c]∧sF F 1 a m.length (ic m)∧sF F 1 b lo.length (ic lo)∧sF F 1 c hi.length (ic hi)∧m.length≤140737488351232∧lo.length≤140737488351232∧hi.length≤140737488351232
def ygg (l:List Dm) (m lo hi:List Int):Nat:=if zd1 l=false then 30 else if yu1 l m=false then 40 else if yrp l lo hi=false then 60 else 0
def ydi (l:List Dm) (t:List Rw) (m lo hi:List Int):List Rw:=yrw l (yse lo hi t) (ylv l.length) m
def ysi (l:List Dm) (t:List Rw) (m lo hi:List Int):Nat:=if ygg l m lo hi=0 then (if yh9 l.length t=false then 1 else if (ydi l t m lo hi).length>500 then 61 else 0) else ygg l m lo hi
def yyb (l:List Dm) (t:List Rw) (m lo hi:List Int):List Rw:=if ysi l t m lo hi=0 then ydi l t m lo hi else []
def yxh (l:List Dm) (m lo hi:List Int):Prop:=l.length≤4∧(∀ d∈l,d.2.length≤4)∧m.length≤4∧lo.length≤4∧hi.length≤4
theorem yon {b:Nat} {x:Int} (h:F b=some [.int .i64 x]):sF F 1 (.slice (some ⟨b,0,none⟩) 1 1) [x].length (ic [x]):=znd h rfl (by decide)
def yxt (ts:List (List Rw)):Nat:=if (tab ts.flatten).length>500 then 61 else 0
def yxp (ts:List (List Rw)):List Rw:=if (tab ts.flatten).length>500 then [] else tab ts.flatten
def yxi (l:List Dm) (a b:List Int):List Int:=List.zipWith min (keyOf l a) (keyOf l b)
def yxw (l:List Dm) (a b:List Int):List Int:=List.zipWith (λx y=>max x y+1) (keyOf l a) (keyOf l b)
theorem yj7 {l:List Dm} {c:List Int} (hs:∀ d∈l,0<d.1∧d.1≤1000000) {i:Nat} (hi:i<(keyOf l c).length) (hl:i<l.length):0≤(keyOf l c)[i]∧(keyOf l c)[i]<l[i].1:=by
 obtain ⟨d1,d2⟩:=hs _ (List.getElem_mem hl);have e:(keyOf l c)[i]=(c.getD i 0)%l[i].1:=by simp [keyOf]
 rw [e];exact ⟨Int.emod_nonneg _ (by omega),Int.emod_lt_of_pos _ d1⟩
def yof (lo hi:List Int) (ls:List KV):List KV:=ls.filter λx=>ycw lo hi x.1
def yyh (l:List Dm) (m lo hi:List Int) (ls:List KV):List KV:=reK (atF l (ylv l.length) m) (yof lo hi ls)
abbrev En:=Int×List Fc
def ze2 (F:Nat -> Option (List Value)) (cs:List Value) (e:En):Prop:=∃ v,cs=[.int .u32 e.1,v]∧zbo F v e.2∧e.2.length≤140737488351232
theorem ze2.mono {cs:List Value} {e:En} (h:ze2 F cs e) (hF:za7 F F'):ze2 F' cs e:=let ⟨v,h1,h2,h3⟩:=h; ⟨v,h1,h2.mono hF,h3⟩
theorem zbo.form {v:Value} {t:List Fc} (h:zbo F v t):∃ a c,v=.slice a t.length c:=let ⟨rows,h1,_⟩:=h; let ⟨a,c,h2,_⟩:=h1.form; ⟨a,c,h2⟩
theorem ze2.one {cs:List Value} {e:En} (h:ze2 F cs e):cs.length=2∧∀ c∈cs,c.oneCell'=true:=by
 obtain ⟨v,rfl,hv,_⟩:=h;obtain ⟨a,c,rfl⟩:=hv.form;exact ⟨rfl,List.all_eq_true.1 rfl⟩
def zbx (h:List En):Prop:=h.Pairwise λa b=>a.1<b.1
def zbk:List En -> Int -> Nat
 | [],_=>0
 | e::h,t=>if e.1<t then zbk h t+1 else 0
theorem zlu:∀ (h:List En) (t:Int),zbk h t≤h.length
 | [],_=>Nat.le_refl _
 | e::h,t=>by unfold zbk; split; simp; exact zlu h t; simp
theorem zsg:∀ {h:List En} {t:Int} {i:Nat} (hi:i<h.length),i<zbk h t -> h[i].1<t
 | e::h,t,i,hi,hp=>by
  unfold zbk at hp
  split at hp
  ·cases i with
   | zero=>assumption
   | succ i=>exact zsg (h:=h) (by simpa using hi) (by omega)
  ·omega
theorem zoe:∀ {h:List En} {t:Int} (hs:zbx h) {i:Nat} (hi:i<h.length),zbk h t≤i -> t≤h[i].1
 | e::h,t,hs,i,hi,hp=>by
  obtain ⟨h1,h2⟩:=List.pairwise_cons.1 hs;unfold zbk at hp
  split at hp
  ·cases i with
   | zero=>omega
   | succ i=>exact zoe h2 (by simpa using hi) (by omega)
  ·rename_i hn
   cases i with
   | zero=>simp; omega
   | succ i=>
    have := h1 (h[i]'(by simpa using hi)) (List.getElem_mem _);simp only [List.getElem_cons_succ]; omega
def zdu (h:List En) (t:Int):Bool:=match h[zbk h t]? with
 | some e=>decide (e.1=t)
 | none=>false
theorem yi6 {a:Int} (k:(Hp.mk F M N).wf -> K (.bool false) ⟨F,M,N⟩):cF 271 #[.int .u32 a] K E ⟨F,M,N⟩:=by
 refine za4 za8 Tryz.func271 (by kernel_rfl) (yop _ E _) (λhw=>?_);refine zio (λh=>absurd rfl h) (λ_=>?_);exact λhc=>⟨_,za1 hc,λhw'=>k hw'⟩
def zst (a b:Int):Int:=if a<b then -1 else if a>b then 1 else 0
theorem yot {a b:Int} (k:(Hp.mk F M N).wf -> K (.int .i64 (zst a b)) ⟨F,M,N⟩):cF 220 #[.int .u32 a,.int .u32 b] K E ⟨F,M,N⟩:=by
 refine za4 za8 Tryz.func220 (by kernel_rfl) (yx9 _ E _ _) (λhw=>?_);refine yi6 (λ_=>yi6 (λ_=>?_));unfold zst at k;try simp only [sS]
 refine zat (λh=>?_) (λh=>?_)
 ·try simp only [sS]
  rw [if_pos h] at k;exact λhc=>⟨_,za1 hc,λhw'=>k hw'⟩
 rw [if_neg h] at k;try simp only [sS]
 refine zbw (λh2=>?_) (λh2=>?_)
 ·try simp only [sS]
  rw [if_pos h2] at k;exact λhc=>⟨_,za1 hc,λhw'=>k hw'⟩
 rw [if_neg h2] at k;try simp only [sS]
 exact λhc=>⟨_,za1 hc,λhw'=>k hw'⟩
theorem yd7 {cs:List Value} {e:En} {t:Int} (he:ze2 F cs e) (k:∀ N',N≤N' -> (Hp.mk F M N').wf -> K (.int .i64 (zst e.1 t)) ⟨F,M,N'⟩):cF 219 #[.agg cs.toArray,.int .u32 t] K E ⟨F,M,N⟩:=by
 refine za4 za8 Tryz.func219 (by kernel_rfl) (yth _ E _ _) (λhw=>?_);have hm:=hw.m;obtain ⟨v,rfl,hv,hvl⟩:=he;refine zap (cs:=[.int .u32 e.1,v]) (λb hb=>?_);try simp only [sS]
 refine ldM (v:=.int .u32 e.1) ?_;refine yot (λhw1=>?_);exact λhc=>⟨⟨F,M,b+1⟩,zn8 hc,λhw'=>k _ (by omega) hw'⟩
theorem zkj {α:Type} {R:List Value -> α -> Prop} {B sz:Nat} {e:TypeId} {v:Value} {l:List α} {rows:List (List Value)} {K:Value -> zae} (hv:own M B e sz v l.length rows.flatten) (hr:zag R sz rows l) (hz:0<sz) {i:Nat} (hi:i<l.length)
  (k:∀ p r,rows[i]?=some r -> R r l[i] -> r.length=sz -> (∀ x∈r,x.oneCell'=true) -> K p (.agg r.toArray) ⟨F,M,N⟩):pv (iaV none sz v (.int .i64 (i:Nat))) (λp=>ld true sz p (K p)) ⟨F,M,N⟩:=by
 rcases hv.2 with ⟨rfl,h0⟩ | ⟨b,c,rest,rfl,h1,h2,h3,h4⟩
 ·omega
 obtain ⟨r,hri,hR,_⟩:=hr.get (List.getElem?_eq_getElem hi);have hil:=(List.getElem?_eq_some_iff.1 hri).1;have hrm:r∈rows:=List.mem_of_getElem? hri;have hlen:=hr.len r hrm;have hfl:=hr.flen;have hle:i*sz+sz≤l.length*sz:=by rw [← Nat.succ_mul]; exact Nat.mul_le_mul_right _ hi
 have hd:(rows.flatten.drop (i*sz)).take sz=r:=by
  rw [zp4 rows i hr.len,List.drop_eq_getElem_cons hil,List.flatten_cons];rw [(List.getElem?_eq_some_iff.1 hri).2,← hlen,List.take_left]
 refine zct hi (zfo (yfr (zb4 h4) (by rw [List.length_append]; omega) ?_) (k _ r hri hR hlen (hr.one r hrm)));rw [Nat.zero_add,List.drop_append_of_le_length (by omega),List.take_append_of_le_length (by rw [List.length_drop]; omega),hd]
theorem yh4 {k:IntKind} {a:Nat} {h:Hp} (h1:a≤9223372036854775807) (kk:K (.int .u64 (a:Nat)) h):pv (cvV .u64 (.int k (a:Nat))) K h :=
 ⟨_,rfl,by rw [yk0 (by omega) (by omega)]; exact kk⟩
theorem yoo {a:Nat} {h:Hp} (h1:a≤9223372036854775807) (kk:K (.int .u64 ((a/2:Nat):Int)) h):pv (za2 .none .shr (.int .u64 (a:Nat)) (.int .u64 1)) K h:=by
 have e:za2 .none .shr (.int .u64 (a:Nat)) (.int .u64 1)=some (.int .u64 ((a:Int).fdiv 2)):=by kernel_rfl
 refine ⟨_,e,?_⟩;rw [Int.fdiv_eq_ediv_of_nonneg _ (by omega)];exact kk
theorem yd4 {a b:Int}:zst a b<0↔a<b:=by unfold zst; split<;>(try split)<;>omega
theorem yci {a b:Int}:zst a b=0↔a=b:=by unfold zst; split<;>(try split)<;>omega
theorem zsj {h:List En} {t:Int} (hi:zbk h t<h.length):zdu h t=decide (h[zbk h t].1=t):=by
 unfold zdu; rw [List.getElem?_eq_getElem hi]
theorem zxy {h:List En} {t:Int} (hi:¬ zbk h t<h.length):zdu h t=false:=by
 unfold zdu; rw [List.getElem?_eq_none (by omega)]
theorem yc2 {B:Nat} {v:Value} {rows:List (List Value)} {h:List En} {t:Int} (hv:own M B 143 2 v h.length rows.flatten) (hr:zag (ze2 F) 2 rows h) (hs:zbx h) (hl:h.length≤100000000000)
  (k:∀ N',N≤N' -> (Hp.mk F M N').wf -> K (.tuple #[.int .i64 (zbk h t:Nat),.bool (zdu h t)]) ⟨F,M,N'⟩):cF 166 #[v,.int .u32 t] K E ⟨F,M,N⟩:=by
 refine za4 za8 Tryz.func166 (by kernel_rfl) (yw2 _ E _ _) (λhw=>?_);refine za4 za8 Tryz.func218 (by kernel_rfl) (yu6 _ E _ _ _) (λhw=>?_);have hlv:zab v=some (.int .i64 (h.length:Nat)):=by obtain ⟨a,c,rfl,_⟩:=hv.form; rfl
 have hpl:=zlu h t;refine zaa hlv ?_
 refine zt4 (σ:=Nat×Nat) (λs=>.int .i64 (s.1:Nat)) (λs=>.int .i64 (s.2:Nat)) (λs h'=>∃ N',h'=⟨F,M,N'⟩∧N≤N'∧s.1≤zbk h t∧zbk h t≤s.2∧s.2≤h.length) (λs=>s.2 - s.1) (0,h.length) rfl rfl
  (λhw1=>⟨_,za1 hw1,N,rfl,Nat.le_refl _,Nat.zero_le _,hpl,Nat.le_refl _⟩) (λk1 s j h1 hI hw1 next=>?_)
 rw [zso];obtain ⟨N1,rfl,hN1,a1,a2,a3⟩:=hI;refine zat (λhlt=>?_) (λhge=>?_)
 ·try simp only [sS]
  refine zji (by omega) (yh4 (by omega) (yoo (by omega) (zn4 (by omega) ?_)));have hm:(s.1+s.2)/2<h.length:=by omega
  refine zkj hv hr (by decide) hm λp r _ hR _ _=>?_;refine yd7 hR (λN2 hN2 hw2=>?_);refine zat (λhc=>?_) (λhc=>?_)
  ·rw [yd4] at hc;have:¬ zbk h t≤(s.1+s.2)/2:=λe=>by have := zoe hs hm e; omega
   try simp only [sS]
   refine zas (by omega) ?_;exact next ((s.1+s.2)/2+1,s.2) _ _ (by simp only; omega) (λhw3=>⟨_,za1 hw3,N2,rfl,by omega,by simp only; omega,by simp only; omega,by simp only; omega⟩)
  ·rw [yd4] at hc;have:¬ (s.1+s.2)/2<zbk h t:=λe=>hc (zsg hm e);try simp only [sS]
   exact next (s.1,(s.1+s.2)/2) _ _ (by simp only; omega) (λhw3=>⟨_,za1 hw3,N2,rfl,by omega,by simp only; omega,by simp only; omega,by simp only; omega⟩)
 ·try simp only [sS]
  have e:s.1=zbk h t:=by omega
  rw [e];refine zat (λhc=>?_) (λhc=>?_)
  ·have hp:zbk h t<h.length:=by omega
   try simp only [sS]
   refine zkj hv hr (by decide) hp λp r _ hR _ _=>?_;refine yd7 hR (λN2 hN2 hw2=>?_);rw [zsj hp] at k;refine zau (λhz=>?_) (λhz=>?_)
   ·rw [yci] at hz;rw [decide_eq_true hz] at k;try simp only [sS]
    exact λhc=>⟨_,za1 hc,λhw3=>by
     try simp only [sS]
     exact λhc=>⟨_,za1 hc,λhw'=>k _ (by omega) hw'⟩⟩
   ·rw [yci] at hz;rw [decide_eq_false hz] at k;try simp only [sS]
    exact λhc=>⟨_,za1 hc,λhw3=>by
     try simp only [sS]
     exact λhc=>⟨_,za1 hc,λhw'=>k _ (by omega) hw'⟩⟩
  ·rw [zxy (by omega)] at k;try simp only [sS]
   exact λhc=>⟨_,za1 hc,λhw3=>by
    try simp only [sS]
    exact λhc=>⟨_,za1 hc,λhw'=>k _ (by omega) hw'⟩⟩
theorem yk9 {v:Value} {t:List Fc} {rows:List (List Value)} {p:Nat -> Prop} (ho:own M N 110 2 v t.length rows.flatten) (hr:zag (zcl F) 2 rows t) (hc:(Hp.mk F M N').wf) (hp:∀ q,v.ownBlock=some q -> p q):zbo (frzP F M p) v t :=
 ⟨rows,ho.frzP hp,hr.mono λ_ _ h=>h.mono (zc5 hc)⟩
theorem zz8 {v:Value} {l:List Fc} (hv:zbo F v l) (hl:l.length≤1000000000) (hk:∀ f∈l,f.1.length≤10000000000)
  (k:za5 M N -> ∀ v' F' M' N' rows,za7 F F' -> N≤N' -> own M' N 110 2 v' l.length rows.flatten -> zag (zcl F') 2 rows l -> (∀ q,q<N -> M' q=M q) -> za5 M' N' -> (Hp.mk F' M' N').wf -> ∃ h',(Hp.mk F' M' N').wk h'∧(h'.wf -> K v' h')) :
  cF 103 #[v] K E ⟨F,M,N⟩:=by
 refine za4 za8 Tryz.func103 (by kernel_rfl) (ybk _ E _) (λhw=>?_);have hm:za5 M N:=hw.m;obtain ⟨trs,hvs,hrs⟩:=hv;refine zb7 hvs ?_
 refine zsx (σ:=Nat×Value) (λs=>s.2) (λs=>.int .i64 (s.1:Nat))
  (λs h=>∃ F' M' N' rows,h=⟨F',M',N'⟩∧za7 F F'∧N≤N'∧(∀ q,q<N -> M' q=M q)∧za5 M' N'∧s.1≤l.length∧own M' N 110 2 s.2 s.1 rows.flatten∧zag (zcl F') 2 rows (l.take s.1)) (λs=>l.length - s.1) (0,.slice none 0 0) rfl rfl
  (λhw1=>⟨_,za1 hw1,F,M,N,[],rfl,za7.refl _,Nat.le_refl _,λ_ _=>rfl,hm,Nat.zero_le _,own.nil,zag.nil _ _⟩) (λk1 s j h1 hI hw1 next=>?_)
 rw [zt3];obtain ⟨F1,M1,N1,rows,rfl,hF1,hN1,hM1,hm1,hi',ho,hr⟩:=hI;refine zat (λhlt=>?_) (λhge=>?_)
 ·have h1:s.1<l.length:=by omega
  try simp only [sS]
  refine zih (hvs.mono hF1) (hrs.mono λ_ _ h=>h.mono hF1) (by decide) h1 (λp r _ hR hrl hr1=>?_);obtain ⟨kv,hre,hkv,hkl⟩:=hR;subst hre;refine zap (λb1 hb1=>?_);refine stM (cs':=[kv,.int .i64 l[s.1].2]) ?_ (za0 _ _ _) rfl rfl hr1;rw [zan];have hb2:=za0 M1 b1 (some (.cells 110 [kv,.int .i64 l[s.1].2] [Value.slice none 0 0,Value.int .i64 0].length));have hM2:∀ q,q<N -> upd M1 b1 (some (.cells 110 [kv,.int .i64 l[s.1].2] [Value.slice none 0 0,Value.int .i64 0].length)) q=M q:=λq hq=>(za3 _ _ (by omega)).trans (hM1 q hq);have ho2:=ho.box hm1 hb1 (some (.cells 110 [kv,.int .i64 l[s.1].2] [Value.slice none 0 0,Value.int .i64 0].length));have hm2:=hm1.new hb1 (some (.cells 110 [kv,.int .i64 l[s.1].2] [Value.slice none 0 0,Value.int .i64 0].length));generalize upd M1 b1 _=M2 at *;try simp only [sS]
  refine ldM (v:=kv) ?_ hb2;try simp only [sS]
  refine ldM (v:=.int .i64 l[s.1].2) ?_ hb2;refine zwy hm2 hkv.sR (by have := hk _ (List.getElem_mem h1); omega) (λkv' F3 N3 hw3 hF3 hN3 hkv'=>?_);refine ⟨zaz (zb4 hb2) rfl,?_⟩;have h1f:zcl F3 [kv',.int .i64 l[s.1].2] l[s.1]:=⟨kv',rfl,hkv',hkl⟩;obtain ⟨ak,ck,hkf,hck⟩:=hkv'.form;refine zaa (v:=.agg #[kv',.int .i64 l[s.1].2]) (by rw [hkf]; kernel_rfl) ?_;refine zhb (new:=[kv',.int .i64 l[s.1].2]) ho2 hw3.m (by omega) (by rw [hkf]; kernel_rfl) rfl h1f.one.2 (by omega) (by unfold maxLen; omega) (λp v' M4 N4 h4 h5 h6 h7=>?_);refine zas (by omega) ?_;refine next (s.1+1,v') _ _ (by simp only; omega) (λhw5=>⟨_,za1 hw5,F3,M4,N4,rows++[[kv',.int .i64 l[s.1].2]],rfl,hF1.trans hF3,by omega,λq hq=>?_,h7,h1,?_,?_⟩)
  ·exact ((h5 q (λe=>by have := (ho2.ge q e).1; omega) (by omega)).1).trans (hM2 q hq)
  ·simpa using h4
  ·simp only;rw [List.take_add_one,List.getElem?_eq_getElem h1,Option.toList_some];exact zca (hr.mono λ_ _ h=>h.mono hF3) h1f.one h1f
 ·try simp only [sS]
  rw [show s.1=l.length by omega] at ho;rw [List.take_of_length_le (by omega)] at hr;exact λhc=>k hm s.2 F1 M1 N1 rows hF1 hN1 ho hr hM1 hm1 hc
theorem zpq {v:Value} {t:List Fc} {rows:List (List Value)} (hc:(Hp.mk F M' N').wf) (ho:own M' N 110 2 v t.length rows.flatten) (hr:zag (zcl F) 2 rows t):zbo (zd3 F M' N) v t :=
 ⟨rows,ho.rd.frz hc (λb hb=>.inl (ho.ge b hb).1),hr.mono λ_ _ h=>h.mono (zb9 hc)⟩
theorem zzr {v:Value} {l:List Fc} (hv:zbo F v l) (hl:l.length≤1000000000) (hk:∀ f∈l,f.1.length≤10000000000)
  (k:∀ v' F' N',(Hp.mk F' M N').wf -> za7 F F' -> N≤N' -> zbo F' v' l -> K v' ⟨F',M,N'⟩) :
  cF 103 #[v] K E ⟨F,M,N⟩ :=
 zz8 hv hl hk (λhm v' F' M' N' rows hF hN ho hr hM _ hc=>⟨_,zdw hm hM hc,λhw'=>k _ _ _ hw' (hF.trans (zb9 hc)) hN (zpq hc ho hr)⟩)
theorem yj3 {v:Value} {l:List Fc} (hv:zbo F v l) (hl:l.length≤1000000000) (hk:∀ f∈l,f.1.length≤10000000000)
  (k:∀ v' F' M' N' rows,za7 F F' -> N≤N' -> own M' N 110 2 v' l.length rows.flatten -> zag (zcl F') 2 rows l -> (∀ q,q<N -> M' q=M q) -> za5 M' N' -> (Hp.mk F' M' N').wf -> K v' ⟨F',M',N'⟩) :
  cF 103 #[v] K E ⟨F,M,N⟩ :=
 zz8 hv hl hk (λ_ v' F' M' N' rows hF hN ho hr hM hm' hc=>⟨_,za1 hc,λhw'=>k v' F' M' N' rows hF hN ho hr hM hm' hw'⟩)
theorem szE:∀ w,(Go.sizeOf 143).run Tryz.prog w=.ok 2 w:=λw=>zba (i:=(Tryz.prog.info? 143).getD default) (by kernel_rfl) w
theorem yfe {b o l c b2 l2 c2:Nat} {e e2:TypeId} {cs cs2:List Value} {tot tot2:Nat} (h1:M b2=some (.cells e2 cs2 tot2)) (h2:M b=some (.cells e cs tot)) (hne:b2≠b) (ht:0<tot) (k:K (.bool false) ⟨F,M,N⟩) :
  cF 297 #[.slice (some ⟨b2,0,none⟩) l2 c2,.slice (some ⟨b,o,none⟩) l c] K E ⟨F,M,N⟩:=by
 refine .inr λw0 w r=>⟨.bool false,w,⟨F,M,N⟩,?_,r,k⟩;obtain ⟨_,_,_,arr2,a1,a2,_⟩:=r.cl b2 e2 cs2 tot2 h1;obtain ⟨_,_,_,arr,a3,a4,_⟩:=r.cl b e cs tot h2;rw [run_callFunc_extern Tryz.func297 (by kernel_rfl) (by kernel_rfl) (by kernel_rfl) (e:=Extern.SlicesOverlaps.overlaps #[47,47] #[4]) (by kernel_rfl)];have := Lib.run_overlaps_apart (P:=Tryz.prog) w 47 4 143 Tryz.underlying47 2 szE ⟨b2,0,none⟩ ⟨b,o,none⟩ l2 c2 l c hne e2 e arr2.size arr.size (by simp [World.shape?,a1]) (by simp [World.shape?,a3]) (by omega) (by simp [World.frozen?,a1]) (by simp [World.frozen?,a1]);have h3:zcp (zcp #[] #[.slice (some ⟨b2,0,none⟩) l2 c2,.slice (some ⟨b,o,none⟩) l c]) #[] = #[Value.slice (some ⟨b2,0,none⟩) l2 c2,.slice (some ⟨b,o,none⟩) l c]:=rfl;rw [h3,this]
 rfl
theorem ylg {α:Type} (L:List α) (n:Nat) (h:n≤L.length):∃ X Y,L=X++Y∧X.length=n:=⟨L.take n,L.drop n,(List.take_append_drop n L).symm,by simp; omega⟩
theorem yjv {b b2 n c:Nat} {A B:List (List Value)} {r rest:List Value} (hM:M b=some (.cells 143 ((A++B).flatten++rest) (c*2))) (hM2:M b2=some (.cells 143 r 2)) (hne:b2≠b) (hl:∀ r∈A++B,r.length=2) (h1:∀ r∈A++B,∀ c∈r,c.oneCell'=true)
  (hr:r.length=2) (hr1:∀ c∈r,c.oneCell'=true) (hn:(A++B).length=n) (hc:n≤c) (hcm:c≤maxLen) (hi:A.length<n) (hn2:n<100000000000)
  (k:∀ rest' b' c' N' X,(b'=b∨N≤b') -> (∀ k,k≠b -> k<N -> X k=M k) -> X b'=some (.cells 143 ((A++r::B).flatten++rest') (c'*2)) -> n+1≤c' -> c'≤maxLen -> N≤N' -> (Hp.mk F X N').wf -> K (.slice (some ⟨b',0,none⟩) (n+1) c') ⟨F,X,N'⟩) :
  cF 248 #[.slice (some ⟨b,0,none⟩) n c,.int .i64 (A.length:Nat),.slice (some ⟨b2,0,none⟩) 1 1] K E ⟨F,M,N⟩:=by
 refine zp3 hM rfl (by kernel_rfl) (λext hext=>?_);obtain ⟨R,hR⟩:∃ R,R=rest++ext:=⟨_,rfl⟩;rw [List.append_assoc,← hR] at hext;obtain ⟨M1,hM1⟩:∃ M1,M1=upd M b (some (.cells 143 ((A++B).flatten++R) (c*2))):=⟨_,rfl⟩;rw [show (Hp.mk F M N).set b (.cells 143 ((A++B).flatten++rest++ext) (c*2))=⟨F,M1,N⟩ by rw [hM1,hR,← List.append_assoc]; rfl];clear hM;have hM:M1 b=some (.cells 143 ((A++B).flatten++R) (c*2)):=by rw [hM1,za0]
 have hM2':M1 b2=some (.cells 143 r 2):=by rw [hM1,za3 _ _ hne]; exact hM2
 have hMo:∀ k,k≠b -> M1 k=M k:=λk hk=>by rw [hM1,za3 _ _ hk]
 clear hM1;refine zkm za8 Tryz.func248 (by kernel_rfl) (yoc _ E _ _ _) (λhw=>?_);have hA:A.flatten.length=A.length*2:=zed _ (λr hr=>hl r (by simp [hr]));have hB:B.flatten.length=B.length*2:=zed _ (λr hr=>hl r (by simp [hr]));have hBl:B.length=n - A.length:=by simp at hn; omega
 rw [List.flatten_append] at hM hext;simp only [List.length_append,hA,hB] at hext;have hm:=hw.m
 have key:∀ b,M1 b≠none -> b<N:=λq hq=>by
  rcases Nat.lt_or_ge q N with h | h
  ·exact h
  ·exact absurd (hm q h) hq
 have hbN:=key b (by rw [hM]; simp);have hb2N:=key b2 (by rw [hM2']; simp)
 have h1B:∀ c∈B.flatten,c.oneCell'=true:=λc hc=>by
  obtain ⟨q,hq,hc⟩:=List.mem_flatten.1 hc;exact h1 q (by simp [hq]) c hc
 refine zfj A.length (by omega) hc ?_;refine zaa rfl (zbj (by omega) (zaq ?_));refine zaa rfl (zbj (by omega) (zaq ?_));refine zas (by omega) (zaa rfl ?_)
 by_cases hgt:n+1>c
 ·refine yr6 (by omega) (zax ?_);refine zhj A.length (by omega) ?_;refine zas (by omega) ?_;refine zcr (by omega) (by omega) ?_;have e0:((n+1:Nat):Int) - (A.length:Nat)=((n+1 - A.length:Nat):Int):=by omega
  rw [e0];refine ⟨some ⟨b,0,none⟩,A.length,c,A.flatten,n+1 - A.length,.i64,rfl,rfl,⟨by rw [hA],.inr ⟨b,0,c,_,rfl,.inr ⟨.inr ⟨_,_,hM⟩,by rw [List.drop_zero,← hA,List.append_assoc,List.take_left]⟩⟩⟩,by omega,by omega,by omega,by simp [maxLen]; omega,λb' c' hb' hc' hcm'=>?_⟩;have e1:A.length+(n+1 - A.length)=n+1:=by omega
  rw [e1] at hc' ⊢;have hb'b:b'≠b:=by simp only at hb'; omega
  have hb'2:b'≠b2:=by simp only at hb'; omega
  have hZ:((List.replicate (n+1 - A.length) [Value.int .u32 0,.slice none 0 0]).flatten).length=2+B.length*2:=by
   rw [zed (sz:=2) _ (λr hr=>by rw [(List.mem_replicate.1 hr).2]; rfl),List.length_replicate]; omega
  obtain ⟨Z1,Z2,hZe,hZ1⟩:=ylg _ 2 (by rw [hZ]; omega);rw [hZe] at hZ ⊢;simp only [List.length_append,hZ1] at hZ;show pv _ _ (Hp.mk F (upd M1 b' (some (.cells 143 (A.flatten++(Z1++Z2)) (c'*2)))) (b'+1));refine zfj A.length (by omega) hc' ?_;rw [if_neg (by omega)];refine ⟨b',_,_,_,143,_,_,1,r,rfl,za0 _ _ _,⟨by rw [hr],.inr ⟨b2,0,1,r,rfl,.inr ⟨.inr ⟨_,_,(za3 _ _ (Ne.symm hb'2)).trans hM2'⟩,by rw [List.drop_zero,List.take_of_length_le (by omega)]⟩⟩⟩,λc hc=>hr1 c (List.mem_of_mem_take hc),by simp [hA,hZ1]; omega,?_⟩;have em:min 1 (n+1 - A.length)=1:=by omega
  rw [em,List.take_of_length_le (by omega:r.length≤1*2)]
  have es1:zb3 (A.flatten++(Z1++Z2)) (0+A.length*2) r=A.flatten++r++Z2:=by
   rw [← List.append_assoc,Nat.zero_add,← hA,zfu _ _ _ _ (by omega)]
  rw [es1];refine zas (by omega) ?_;refine zfj (A.length+1) (by omega) hc' ?_;rw [if_neg (by omega)];refine zfj A.length (by omega) hc ?_;rw [if_neg (by omega)];refine ⟨b',_,_,_,143,_,_,n - A.length,B.flatten,rfl,za0 _ _ _,⟨by rw [hB,hBl],.inr ⟨b,_,_,_,rfl,.inr ⟨.inr ⟨_,_,(za3 _ _ (Ne.symm hb'b)).trans ((za3 _ _ (Ne.symm hb'b)).trans hM)⟩,?_⟩⟩⟩,λc hc=>h1B c (List.mem_of_mem_take hc),?_,λhc2=>?_⟩
  ·rw [Nat.zero_add,← hA,List.append_assoc,List.drop_left,← hBl,← hB,List.take_left]
  ·simp [hA,hr]; omega
  have em2:min (n - A.length) (n+1 - (A.length+1))=B.length:=by omega
  rw [em2] at hc2 ⊢
  have es2:zb3 (A.flatten++r++Z2) (0+(A.length+1)*2) (B.flatten.take (B.length*2))=A.flatten++r++B.flatten:=by
   have:0+(A.length+1)*2=(A.flatten++r).length:=by simp [hA,hr]; omega
   rw [List.take_of_length_le (by omega),this];have h:=zfu (A.flatten++r) Z2 B.flatten [] (by omega)
   simpa using h
  rw [es2] at hc2 ⊢;refine ⟨_,za1 hc2,λhw'=>k [] b' c' _ _ (.inr hb') (λq hq hqN=>?_) ?_ hc' hcm' ?_ hw'⟩
  ·simp only at hb';exact (za3 _ _ (by omega)).trans ((za3 _ _ (by omega)).trans ((za3 _ _ (by omega)).trans (hMo q hq)))
  ·show upd _ _ _ _=_;rw [za0]; simp
  ·simp only at hb'; show N≤b'+1; omega
 ·refine zr2 (by omega) (zaq ?_);refine zas (by omega) ?_;refine zhj (n+1) (by omega) ?_;refine zas (by omega) ?_;refine zfj (A.length+1) (by omega) (by omega) ?_;rw [if_neg (by omega)];refine yfe hM2' hM hne (by omega) ?_;refine zaa rfl (zax ?_);refine zas (by omega) ?_;refine zfj (A.length+1) (by omega) (by omega) ?_;rw [if_neg (by omega)];refine zfj A.length (by omega) (by omega) ?_;rw [if_neg (by omega)];obtain ⟨X,Y,hXY,hX⟩:=ylg (B.flatten++R) 2 (by simp [hB]; omega);obtain ⟨Y1,R1,hY,hY1⟩:=ylg Y (B.length*2) (by have := congrArg List.length hXY; simp [hX,hB] at this; omega);subst hY;have hcs:A.flatten++B.flatten++R=A.flatten++X++Y1++R1:=by rw [List.append_assoc,hXY]; simp
  have em:min (n+1 - A.length) (n+1 - (A.length+1))=B.length:=by omega
  have hnews:((B.flatten++R).take ((n+1 - A.length)*2)).take (B.length*2)=B.flatten:=by
   rw [List.take_take,Nat.min_eq_left (by omega),← hB,List.take_left]
  refine ⟨b,_,_,_,143,_,_,n+1 - A.length,(B.flatten++R).take ((n+1 - A.length)*2),rfl,hM,⟨?_,.inr ⟨b,_,_,_,rfl,.inr ⟨.inr ⟨_,_,hM⟩,?_⟩⟩⟩,?_,?_,?_⟩
  ·rw [List.length_take,List.length_append,hB]; omega
  ·rw [Nat.zero_add,← hA,List.append_assoc,List.drop_left]
  ·rw [em,hnews]; exact h1B
  ·simp [hA,hB]; omega
  rw [em,hnews]
  have es1:zb3 (A.flatten++B.flatten++R) (0+(A.length+1)*2) B.flatten=A.flatten++X++B.flatten++R1:=by
   have:0+(A.length+1)*2=(A.flatten++X).length:=by simp [hA,hX]; omega
   rw [hcs,this,zfu _ _ _ _ (by omega)]
  rw [es1];refine zfj A.length (by omega) (by omega) ?_;rw [if_neg (by omega)];refine ⟨b,_,_,_,143,_,_,1,r,rfl,za0 _ _ _,⟨by rw [hr],.inr ⟨b2,0,1,r,rfl,.inr ⟨.inr ⟨_,_,(za3 _ _ hne).trans hM2'⟩,by rw [List.drop_zero,List.take_of_length_le (by omega)]⟩⟩⟩,λc hc=>hr1 c (List.mem_of_mem_take hc),by simp [hA,hB,hX]; omega,λhc2=>?_⟩;have em2:min 1 (n+1 - A.length)=1:=by omega
  rw [em2,List.take_of_length_le (by omega:r.length≤1*2)] at hc2 ⊢
  have es2:zb3 (A.flatten++X++B.flatten++R1) (0+A.length*2) r=A.flatten++r++B.flatten++R1:=by
   have h:=zfu A.flatten X r (B.flatten++R1) (by omega);rw [Nat.zero_add,← hA]
   simpa using h
  rw [es2] at hc2 ⊢;refine ⟨_,za1 hc2,λhw'=>k R1 b c _ _ (.inl rfl) (λq hq hqN=>?_) ?_ (by omega) hcm (Nat.le_refl _) hw'⟩
  ·exact (za3 _ _ hq).trans ((za3 _ _ hq).trans (hMo q hq))
  ·show upd _ _ _ _=_;rw [za0]; simp
theorem yri {B b2 i:Nat} {v:Value} {rows:List (List Value)} {r:List Value} {n:Nat} (hv:own M B 143 2 v n rows.flatten) (hm:za5 M N) (hB:B≤N) (hlen:rows.length=n) (hl:∀ q∈rows,q.length=2) (h1:∀ q∈rows,∀ c∈q,c.oneCell'=true)
  (hM2:M b2=some (.cells 143 r 2)) (hne:v.ownBlock≠some b2) (hr:r.length=2) (hr1:∀ c∈r,c.oneCell'=true) (hi:i≤n) (hn:n<100000000000)
  (k:∀ v' M' N',own M' B 143 2 v' (n+1) (rows.take i++r::rows.drop i).flatten -> (∀ q,v.ownBlock≠some q -> q<N -> M' q=M q∧v'.ownBlock≠some q) -> N≤N' -> za5 M' N' -> (Hp.mk F M' N').wf -> K v' ⟨F,M',N'⟩) :
  cF 248 #[v,.int .i64 (i:Nat),.slice (some ⟨b2,0,none⟩) 1 1] K E ⟨F,M,N⟩:=by
 have hrw:rows.flatten.length=n*2:=hv.1
 by_cases hin:i<n
 ·rcases hv.2 with ⟨rfl,h0⟩ | ⟨b,c,rest,rfl,g1,g2,g3,g4⟩
  ·omega
  have hA:(rows.take i).length=i:=by rw [List.length_take]; omega
  have hsp:rows.take i++rows.drop i=rows:=List.take_append_drop i rows;have hbN:b<N:=hm.lt g4;have hne':b2≠b:=λe=>hne (by rw [e]; rfl);have := yjv (F:=F) (N:=N) (K:=K) (E:=E) (A:=rows.take i) (B:=rows.drop i) (n:=n) (c:=c) (rest:=rest) (by rw [hsp]; exact g4) hM2 hne' (by rw [hsp]; exact hl) (by rw [hsp]; exact h1) hr hr1 (by rw [hsp]; exact hlen) g1 g2 (by omega) hn (λrest' b' c' N' X q1 q2 q3 q4 q5 q6 q7=>?_)
  ·rw [hA] at this; exact this
  ·refine k _ X N' ⟨?_,.inr ⟨b',c',rest',rfl,q4,q5,?_,q3⟩⟩ (λq hq hqN=>⟨q2 q (λe=>hq (by rw [e]; rfl)) hqN,λe=>?_⟩) q6 q7.m q7
   ·have h2:∀ q∈rows.take i++r::rows.drop i,q.length=2:=λq hq=>by
     rcases List.mem_append.1 hq with hq | hq
     ·exact hl q (List.mem_of_mem_take hq)
     ·rcases List.mem_cons.1 hq with rfl | hq
      ·exact hr
      ·exact hl q (List.mem_of_mem_drop hq)
    rw [zed _ h2,List.length_append,List.length_cons,List.length_take,List.length_drop]; omega
   ·rcases q1 with rfl | q1
    ·exact g3
    ·omega
   ·have e':b'=q:=by simpa [Value.ownBlock] using e
    rcases q1 with q1 | q1
    ·exact hq (by rw [← e',q1]; rfl)
    ·omega
 ·have e:i=n:=by omega
  subst e;have hform:=hv.form;obtain ⟨a,c,hvf,hc⟩:=hform;subst hvf;refine za4 za8 Tryz.func248 (by kernel_rfl) (yoc _ E _ _ _) (λhw=>?_);refine zor i i c (Nat.le_refl _) hc (Nat.le_refl _) ?_ (h4:=λ_=>⟨rfl,hc⟩);try simp only [sS]
  refine zbj (by omega) ?_;try simp only [sS]
  refine zeg rfl ?_;try simp only [sS]
  refine hv.app (m:=1) (news:=r) hm hB ⟨by rw [hr],.inr ⟨b2,0,1,r,rfl,Nat.le_refl _,.inr ⟨_,_,hM2⟩,by rw [List.drop_zero,List.take_of_length_le (by omega)]⟩⟩ hr1 (by omega) (by unfold maxLen; omega) (λv' M' N' h4 h5 h6 h7=>?_);refine λhc'=>⟨_,za1 hc',λhw'=>k v' M' N' ?_ h5 h6 h7 hw'⟩;rw [List.take_of_length_le (by omega),List.drop_eq_nil_of_le (by omega),List.flatten_append]
  simpa using h4
def inP (l:List Dm) (key:List Int) (i:Nat):Bool:=decide (0≤key.getD i 0∧key.getD i 0<(l.getD i (0,[])).1)
def inF (l:List Dm) (key:List Int):Bool:=decide (key.length=l.length)&&(List.range l.length).all (inP l key)
theorem yqz {cs:List Value} {d:Dm} {n:Int} (hd:zi6 F cs d) (k:∀ N',N≤N' -> (Hp.mk F M N').wf -> K (.bool (decide (0≤n∧n<d.1))) ⟨F,M,N'⟩) :
  cF 202 #[.agg cs.toArray,.int .i64 n] K E ⟨F,M,N⟩:=by
 refine za4 za8 Tryz.func202 (by kernel_rfl) (yuq _ E _ _) (λhw=>?_);have hm:=hw.m;obtain ⟨v,rfl,hv,hvl⟩:=hd;refine zap (cs:=[.int .i64 d.1,v]) (λb hb=>?_);refine zg8 (λh1=>?_) (λh1=>?_)
 ·try simp only [sS]
  refine ldM (v:=.int .i64 d.1) ?_;refine zat (λh2=>?_) (λh2=>?_)
  ·try simp only [sS]
   rw [decide_eq_true ⟨h1,h2⟩] at k;exact λhc=>⟨⟨F,M,b+1⟩,zn8 hc,λhw'=>k _ (by omega) hw'⟩
  ·try simp only [sS]
   rw [decide_eq_false λq=>h2 q.2] at k;exact λhc=>⟨⟨F,M,b+1⟩,zn8 hc,λhw'=>k _ (by omega) hw'⟩
 ·try simp only [sS]
  rw [decide_eq_false λq=>h1 q.1] at k;exact λhc=>⟨⟨F,M,b+1⟩,zn8 hc,λhw'=>k _ (by omega) hw'⟩
theorem yqt {v u:Value} {l:List Dm} {m:List Int} (hv:zeh F v l) (hu:sF F 1 u m.length (ic m)) (hl:l.length≤140737488351232) (k:∀ N',N≤N' -> (Hp.mk F M N').wf -> K (.bool (inF l m)) ⟨F,M,N'⟩) :
  cF 144 #[v,u] K E ⟨F,M,N⟩:=by
 refine za4 za8 Tryz.func144 (by kernel_rfl) (yts _ E _ _) (λhw=>?_);refine za4 za8 Tryz.func201 (by kernel_rfl) (ywc _ E _ _ _) (λhw=>?_);have hm:za5 M N:=hw.m;have hlv:zab v=some (.int .i64 (l.length:Nat)):=by obtain ⟨a,c,rfl⟩:=hv.form; rfl
 have hlu:zab u=some (.int .i64 (m.length:Nat)):=by obtain ⟨a,c,rfl,_⟩:=hu.form; rfl
 refine zaa hlv (zaa hlu ?_);refine zio (λh1=>?_) (λh1=>?_)
 ·try simp only [sS]
  refine λhc=>⟨_,za1 hc,λhw' hc=>⟨_,za1 hc,λhw'=>?_⟩⟩;have := k _ (Nat.le_refl _) hw';rw [show inF l m=false by unfold inF; rw [decide_eq_false (by omega)]; rfl] at this;exact this
 try simp only [sS]
 refine zaa hlv ?_;obtain ⟨rows,hv1,hv2⟩:=hv
 refine zt7 (σ:=Nat) (λi=>.int .i64 (i:Nat)) (λi h=>∃ N',h=⟨F,M,N'⟩∧N≤N'∧i≤l.length∧(List.range i).all (inP l m)=true) (λi=>l.length - i) 0 rfl
  (λhw1=>⟨_,za1 hw1,N,rfl,Nat.le_refl _,Nat.zero_le _,rfl⟩) (λk1 i j h1' hI hw1 next=>?_)
 rw [zt5];obtain ⟨N1,rfl,hN1,hi,he⟩:=hI;have hm1:za5 M N1:=hw1.m;refine zat (λhlt=>?_) (λhge=>?_)
 ·have i1:i<l.length:=by omega
  have i2:i<m.length:=by omega
  try simp only [sS]
  refine zih hv1 hv2 (by decide) i1 λp r _ hR hr2 hr1=>?_;have hR':=hR;obtain ⟨kv,hre,hkv,hkl⟩:=hR;subst hre;refine zap (λb1 hb1=>?_);refine stM (cs':=[.int .i64 l[i].1,kv]) ?_ (za0 _ _ _) rfl rfl hr1;rw [zan];refine zfm hu i2 λp=>?_;refine zb6 (vs:=[.int .i64 l[i].1,kv]) ?_;refine yqz hR' (λN2 hN2 hw2=>?_)
  have hp:inP l m i=decide (0≤m[i]∧m[i]<l[i].1):=by
   unfold inP;rw [zfr i1,zfr i2]
  rw [← hp];have hdrop:∀ {h:Hp},h=(⟨F,upd M b1 (some (.cells 108 [.int .i64 l[i].1,kv] 2)),N2⟩:Hp) -> h.wf -> h.wk ⟨F,M,N2⟩:=λe hc=>by subst e; exact zbl hc (zb5 (zbb _) (hm1 _ hb1))
  cases hpi:inP l m i
  ·try simp only [sS]
   refine λhc=>⟨⟨F,M,N2⟩,hdrop rfl hc,λhw' hc=>⟨_,za1 hc,λhw'=>?_⟩⟩;have := k N2 (by omega) hw';rw [show inF l m=false by unfold inF; rw [yaf i1 hpi]; simp] at this;exact this
  ·try simp only [sS]
   refine zas (by omega) ?_;exact next (i+1) _ _ (by omega) (λhw3=>⟨⟨F,M,N2⟩,hdrop rfl hw3,N2,rfl,by omega,i1,zws he hpi⟩)
 ·try simp only [sS]
  rw [show i=l.length by omega] at he;refine λhc=>⟨_,za1 hc,λhw' hc=>⟨_,za1 hc,λhw'=>?_⟩⟩;have := k _ hN1 hw';rw [show inF l m=true by unfold inF; rw [he,decide_eq_true (by omega)]; rfl] at this;exact this
theorem ynp {b g:Nat} {e1:TypeId} {t1:Nat} {hv dv:Value} {cs:List Value} {l:List Dm} {f:Fc} (hb:M b=some (.cells e1 [.pointer (some ⟨g,0,none⟩)] t1)) (hg:M g=some (.cells 141 [hv,dv] 2)) (hd:zeh F dv l) (hl:l.length≤140737488351232) (hf:zcl F cs f)
  (k:∀ N',N≤N' -> (Hp.mk F M N').wf -> K (.bool (!inF l f.1)) ⟨F,M,N'⟩):zbs Tryz.prog (.func (.func 143) #[] #[.pointer (some ⟨b,0,none⟩)]) #[.agg cs.toArray] K E ⟨F,M,N⟩:=by
 refine za4 za8 Tryz.func143 (by kernel_rfl) (ywd _ E _ _) (λhw=>?_);have hm:za5 M N:=hw.m;have hbN:=hm.lt hb;have hgN:=hm.lt hg;obtain ⟨kv,rfl,hkv,hkl⟩:=hf;refine zap (cs:=[kv,.int .i64 f.2]) (λb2 hb2=>?_);refine ldM (v:=.pointer (some ⟨g,0,none⟩)) ?_ ((za3 _ _ (by omega)).trans hb);try simp only [sS]
 refine ldM (v:=dv) ?_ ((za3 _ _ (by omega)).trans hg);try simp only [sS]
 refine ldM (v:=kv) ?_;refine yqt hd hkv hl (λN2 hN2 hw2=>?_);try simp only [sS]
 exact λhc=>⟨⟨F,M,N2⟩,zbl hc (zb5 (zbb _) (hm _ hb2)),λhw'=>k _ (by omega) hw'⟩
def zcc (l:List Dm) (fs:List Fc):Bool:=decide (fs.length≤200)&&fs.all λf=>inF l f.1
theorem ypo {b g:Nat} {e1:TypeId} {t1:Nat} {v hv dv:Value} {l:List Dm} {fs:List Fc} (hb:M b=some (.cells e1 [.pointer (some ⟨g,0,none⟩)] t1)) (hg:M g=some (.cells 141 [hv,dv] 2)) (hd:zeh F dv l) (hl:l.length≤140737488351232) (hf:zbo F v fs) (hfl:fs.length≤140737488351232)
  (k:∀ (r:Int) N',N≤N' -> (Hp.mk F M N').wf -> (decide (r≥0) = !fs.all λf=>inF l f.1) -> K (.int .i64 r) ⟨F,M,N'⟩) :
  cF 152 #[v,.func (.func 143) #[] #[.pointer (some ⟨b,0,none⟩)]] K E ⟨F,M,N⟩:=by
 refine za4 za8 Tryz.func152 (by kernel_rfl) (yj4 _ E _ _) (λhw=>?_);obtain ⟨rows,hv1,hv2⟩:=hf;refine zb7 hv1 ?_
 refine zjx (σ:=Nat) (λi=>.int .i64 (i:Nat)) (λi h=>∃ N',h=⟨F,M,N'⟩∧N≤N'∧i≤fs.length∧(fs.all λf=>inF l f.1)=((fs.drop i).all λf=>inF l f.1)) (λi=>fs.length - i) 0 rfl
  (λhw1=>⟨_,za1 hw1,N,rfl,Nat.le_refl _,Nat.zero_le _,rfl⟩) (λk1 i j h1 hI hw1 next=>?_)
 rw [zjw];obtain ⟨N1,rfl,hN1,hi,he⟩:=hI;refine zat (λhlt=>?_) (λhge=>?_)
 ·have h1:i<fs.length:=by omega
  try simp only [sS]
  refine zih hv1 hv2 (by decide) h1 λp r _ hR _ _=>ynp hb hg hd hl hR (λN2 hN2 hw2=>?_);rw [List.drop_eq_getElem_cons h1,List.all_cons] at he;cases hn:inF l fs[i].1
  ·try simp only [sS]
   refine λhc=>⟨_,za1 hc,λhw'=>k _ _ (by omega) hw' ?_⟩;rw [he,hn,decide_eq_true (by omega)]; rfl
  ·try simp only [sS]
   refine zas (by omega) ?_;refine next (i+1) _ _ (by omega) (λhw3=>⟨_,za1 hw3,N2,rfl,by omega,by omega,?_⟩);rw [he,hn,Bool.true_and]
 ·try simp only [sS]
  refine λhc=>⟨_,za1 hc,λhw'=>k _ _ hN1 hw' ?_⟩;rw [he,List.drop_eq_nil_of_le (by omega)]; rfl
theorem zvb {g:Nat} {v hv dv:Value} {l:List Dm} {fs:List Fc} (hg:M g=some (.cells 141 [hv,dv] 2)) (hd:zeh F dv l) (hl:l.length≤140737488351232) (hf:zbo F v fs) (hfl:fs.length≤140737488351232)
  (k:∀ N',N≤N' -> (Hp.mk F M N').wf -> K (.bool (zcc l fs)) ⟨F,M,N'⟩) :
  cF 98 #[.pointer (some ⟨g,0,none⟩),v] K E ⟨F,M,N⟩:=by
 refine za4 za8 Tryz.func98 (by kernel_rfl) (t98 _ E _ _) (λhw=>?_);have hm:za5 M N:=hw.m;have hgN:=hm.lt hg;have hlv:zab v=some (.int .i64 (fs.length:Nat)):=by obtain ⟨a,c,h⟩:=hf.form; rw [h]; rfl
 unfold zcc at k;refine zap (cs:=[.pointer (some ⟨g,0,none⟩)]) (λb1 hb1=>?_);refine zaa hlv ?_;refine zds (λh1=>?_) (λh1=>?_)
 ·rw [decide_eq_true (by omega),Bool.true_and] at k;try simp only [sS]
  refine za4 za8 Tryz.func142 (by kernel_rfl) (yq9 _ E _ _) (λhw=>?_);refine ypo (za0 _ _ _) ((za3 _ _ (by omega)).trans hg) hd hl hf hfl (λr N2 hN2 hw2 hr=>?_);cases ha:fs.all λf=>inF l f.1
  ·rw [ha] at hr k;refine yf3 (by simpa using hr) λhc=>⟨_,za1 hc,λhw'=>?_⟩;try simp only [sS]
   exact λhc=>⟨⟨F,M,N2⟩,zbl hc (zb5 (zbb _) (hm _ hb1)),λhw'=>k _ (by omega) hw'⟩
  ·rw [ha] at hr k;refine zqp (by simpa using hr) λhc=>⟨_,za1 hc,λhw'=>?_⟩;try simp only [sS]
   exact λhc=>⟨⟨F,M,N2⟩,zbl hc (zb5 (zbb _) (hm _ hb1)),λhw'=>k _ (by omega) hw'⟩
 ·rw [decide_eq_false (by omega),Bool.false_and] at k;try simp only [sS]
  exact λhc=>⟨⟨F,M,b1+1⟩,zbl hc (zb5 (zbb _) (hm _ hb1)),λhw'=>k _ (by omega) hw'⟩
def zmf (h:List En) (t:Int) (fs:List Fc):List En:=h.take (zbk h t)++(t,fs)::h.drop (zbk h t)
theorem yk1 (h:List En) (t:Int) (fs:List Fc):(zmf h t fs).length=h.length+1:=by
 have := zlu h t;unfold zmf;rw [List.length_append,List.length_cons,List.length_take,List.length_drop]; omega
theorem yei {h:List En} {t:Int} {fs:List Fc} (hs:zbx h) (ht:zdu h t=false):zbx (zmf h t fs):=by
 have hpl:=zlu h t;unfold zmf zbx
 have hgt:∀ x∈h.drop (zbk h t),t<x.1:=λx hx=>by
  obtain ⟨j,hj,rfl⟩:=List.mem_iff_getElem.1 hx;rw [List.getElem_drop];have hj2:zbk h t+j<h.length:=by rw [List.length_drop] at hj; omega
  have h1:=zoe (t:=t) hs hj2 (by omega)
  have h2:h[zbk h t+j].1≠t:=λe=>by
   have h3:zbk h t<h.length:=by omega
   rw [zsj h3] at ht;have h4:=of_decide_eq_false ht;have h5:=zoe (t:=t) hs h3 (Nat.le_refl _)
   rcases Nat.eq_zero_or_pos j with h0 | h0
   ·subst h0; exact h4 e
   ·have := List.pairwise_iff_getElem.1 hs (zbk h t) (zbk h t+j) h3 hj2 (by omega);omega
  omega
 have hlt:∀ x∈h.take (zbk h t),x.1<t:=λx hx=>by
  obtain ⟨j,hj,rfl⟩:=List.mem_iff_getElem.1 hx;rw [List.length_take] at hj;rw [List.getElem_take];exact zsg (by omega) (by omega)
 refine List.pairwise_append.2 ⟨hs.sublist (List.take_sublist _ _),List.pairwise_cons.2 ⟨λx hx=>hgt x hx,hs.sublist (List.drop_sublist _ _)⟩,λx hx y hy=>?_⟩;have h1:=hlt x hx
 rcases List.mem_cons.1 hy with rfl | hy
 ·exact h1
 ·have := hgt y hy; omega
theorem ycn {B:Nat} {v fv:Value} {rows:List (List Value)} {h:List En} {t:Int} {fs:List Fc} (hv:own M B 143 2 v h.length rows.flatten) (hB:B≤N) (hr:zag (ze2 F) 2 rows h) (hs:zbx h) (hl:h.length≤10000000000) (ht:zdu h t=false) (hf:zbo F fv fs) (hfl:fs.length≤1000000) (hk:∀ f∈fs,f.1.length≤10000000000)
  (k:∀ v' F' M' N' rows',za7 F F' -> own M' B 143 2 v' (zmf h t fs).length rows'.flatten -> zag (ze2 F') 2 rows' (zmf h t fs) -> (∀ q,v.ownBlock≠some q -> q<N -> M' q=M q∧v'.ownBlock≠some q) -> N≤N' -> za5 M' N' -> (Hp.mk F' M' N').wf -> K v' ⟨F',M',N'⟩) :
  cF 186 #[v,.int .u32 t,fv] K E ⟨F,M,N⟩:=by
 refine za4 za8 Tryz.func186 (by kernel_rfl) (yqa _ E _ _ _) (λhw=>?_);have hm:za5 M N:=hw.m;have hpl:=zlu h t;refine yc2 hv hr hs (by omega) (λN1 hN1 hw1=>?_);rw [ht];try simp only [sS]
 refine zzr hf (by omega) hk (λv2 F2 N2 hw2 hF2 hN2 hf2=>?_);have hm2:za5 M N2:=hw2.m;have he:ze2 F2 [.int .u32 t,v2] (t,fs):=⟨v2,rfl,hf2,by simp only; omega⟩;obtain ⟨a2,c2,e2⟩:=hf2.form;refine zaa (v:=.agg #[.int .u32 t,v2]) (by rw [e2]; kernel_rfl) ?_;refine zcx (cs:=[.int .u32 t,v2]) (by rw [e2]; kernel_rfl) (λb3 hb3=>?_);have hr2:zag (ze2 F2) 2 rows h:=hr.mono λ_ _ h=>h.mono hF2;have hvb:v.ownBlock≠some b3:=λe=>by have := hv.lt hm _ e; omega
 refine yri (i:=zbk h t) (r:=[.int .u32 t,v2]) (hv.box hm (by omega) _) (hm2.new hb3 _) (by omega) hr.all.1 hr.len hr.one (za0 _ _ _) hvb rfl he.one.2 hpl (by omega) (λv4 M4 N4 g1 g2 g3 g4 g5=>?_);refine λhc=>⟨_,za1 hc,λhw'=>k v4 F2 M4 N4 _ hF2 (by rw [yk1]; exact g1) ?_ (λq hq hqN=>?_) (by omega) g4 hw'⟩
 ·have h1:=zca (zag.nil (ze2 F2) 2) he.one he;exact zol (zye hr2 (zbk h t)) (by have := zol h1 (yg6 hr2 (zbk h t)); simpa using this)
 ·obtain ⟨x1,x2⟩:=g2 q hq (by omega);exact ⟨x1.trans (za3 _ _ (by omega)),x2⟩
structure zgg (F:Nat -> Option (List Value)) (M:Nat -> Option zak) (B g:Nat) (hv dv:Value) (rows:List (List Value)) (l:List Dm) (h:List En):Prop where
 gg:M g=some (.cells 141 [hv,dv] 2)
 gB:B≤g
 oo:own M B 143 2 hv h.length rows.flatten
 rr:zag (ze2 F) 2 rows h
 vg:hv.ownBlock≠some g
 dd:zeh F dv l
 rs:zbx h
def zkx (l:List Dm) (h:List En) (t:Int) (fs:List Fc):Nat:=if zcc l fs=false then 1 else if t=0∨zdu h t=true then 130 else if h.length≥5000 then 3 else 0
def zsn (l:List Dm) (h:List En) (t:Int) (fs:List Fc):List En:=if zkx l h t fs=0 then zmf h t fs else h
theorem zfw {l:List Dm} {fs:List Fc} (h:zcc l fs=true):fs.length≤200∧∀ f∈fs,inF l f.1=true:=by
 unfold zcc at h;rw [Bool.and_eq_true] at h;exact ⟨of_decide_eq_true h.1,λf hf=>List.all_eq_true.1 h.2 f hf⟩
theorem ybd {l:List Dm} {fs:List Fc} (h1:fs.length≤200) (h2:∀ f∈fs,inF l f.1=true):zcc l fs=true:=by
 unfold zcc;rw [decide_eq_true h1,List.all_eq_true.2 h2]; rfl
theorem zi0 {l:List Dm} {k:List Int} (h:inF l k=true):k.length=l.length:=by
 unfold inF at h;rw [Bool.and_eq_true] at h;exact of_decide_eq_true h.1
theorem yk8 {B g:Nat} {hv dv fv:Value} {rows:List (List Value)} {l:List Dm} {h:List En} {t:Int} {fs:List Fc} (hC:zgg F M B g hv dv rows l h) (hB:B≤N) (hdl:l.length≤1000) (hl:h.length≤5000) (ht0:0≤t) (hf:zbo F fv fs) (hfl:fs.length≤140737488351232)
  (k:∀ hv' F' M' N' rows',za7 F F' -> zgg F' M' B g hv' dv rows' l (zsn l h t fs) -> (∀ q,hv.ownBlock≠some q -> q≠g -> q<N -> M' q=M q∧hv'.ownBlock≠some q) -> N≤N' -> za5 M' N' -> (Hp.mk F' M' N').wf -> K (.int .u16 ((zkx l h t fs:Nat):Int)) ⟨F',M',N'⟩) :
  cF 135 #[.pointer (some ⟨g,0,none⟩),.int .u32 t,fv] K E ⟨F,M,N⟩:=by
 refine za4 za8 Tryz.func135 (by kernel_rfl) (yv5 _ E _ _ _) (λhw=>?_);have hm:za5 M N:=hw.m;have hlv:zab hv=some (.int .i64 (h.length:Nat)):=by obtain ⟨a,c,e,_⟩:=hC.oo.form; rw [e]; rfl
 have fin:∀ n:Nat,n≠0 -> n=zkx l h t fs -> ∀ N',N≤N' -> ∀ h',h'=(⟨F,M,N'⟩:Hp) -> h'.wf -> ∃ h'',h'.wk h''∧(h''.wf -> K (.int .u16 ((n:Nat):Int)) h''):=λn n0 e N' hN h' e' hc=>by
  subst e';refine ⟨_,za1 hc,λhw'=>?_⟩;rw [e];refine k hv F M N' rows (za7.refl _) ?_ (λ_ h _ _=>⟨rfl,h⟩) hN hw'.m hw';unfold zsn; rw [if_neg (by omega)]; exact hC
 try simp only [sS]
 refine ldM (v:=hv) ?_ hC.gg;refine yc2 hC.oo hC.rr hC.rs (by omega) (λN1 hN1 hw1=>?_);try simp only [sS]
 refine zvb hC.gg hC.dd (by omega) hf hfl (λN2 hN2 hw2=>?_);cases h1:zcc l fs
 ·try simp only [sS]
  exact fin 1 (by decide) (by unfold zkx; rw [if_pos h1]) N2 (by omega) _ rfl
 try simp only [sS]
 have last:(h2:¬ t=0) -> zkx l h t fs=(if zdu h t=true then 130 else if h.length≥5000 then 3 else 0):=λh2=>by
  unfold zkx; rw [if_neg (by rw [h1]; decide)]
  by_cases h3:zdu h t=true
  ·rw [if_pos (.inr h3),if_pos h3]
  ·rw [if_neg (by rintro (q | q); exact h2 q; exact h3 q),if_neg h3]
 refine zau (λh2=>?_) (λh2=>?_)
 ·try simp only [sS]
  rw [zkl];try simp only [sS]
  exact fin 130 (by decide) (by unfold zkx; rw [if_neg (by rw [h1]; decide),if_pos (.inl h2)]) N2 (by omega) _ rfl
 ·try simp only [sS]
  rw [zkl];cases h3:zdu h t
  ·try simp only [sS]
   refine ldM (v:=hv) ?_ hC.gg;refine zaa hlv ?_;refine zg8 (λh4=>?_) (λh4=>?_)
   ·try simp only [sS]
    exact fin 3 (by decide) (by rw [last h2,if_neg (by rw [h3]; decide),if_pos (by omega)]) N2 (by omega) _ rfl
   ·try simp only [sS]
    try simp only [sS]
    refine ldM (v:=hv) ?_ hC.gg;obtain ⟨f1,f2⟩:=zfw h1;refine ycn hC.oo (by omega) hC.rr hC.rs (by omega) h3 hf (by omega) (λf hf=>by have := zi0 (f2 f hf); omega) (λv' F3 M3 N3 rows' hF3 g1 g2 g3 g4 g5 g6=>?_);have hgN:=hm.lt hC.gg;obtain ⟨x1,x2⟩:=g3 g hC.vg (by omega);have hg3:M3 g=some (.cells 141 [hv,dv] 2):=x1.trans hC.gg;obtain ⟨a,c,e,_⟩:=g1.form;try simp only [sS]
    refine stM (cs':=[v',dv]) ?_ hg3 (by rw [e]; rfl) (by rw [e]; rfl) (by rw [e]; exact List.all_eq_true.1 rfl);have e0:zkx l h t fs=0:=by rw [last h2,if_neg (by rw [h3]; decide),if_neg (by omega)]
    refine λhc=>⟨_,za1 hc,λhw'=>?_⟩;rw [e0] at k;refine k v' F3 _ N3 rows' hF3 ?_ (λq hq hqg hqN=>?_) (by omega) (g5.set (g5.lt hg3) _) hw'
    ·unfold zsn; rw [if_pos e0];exact ⟨za0 _ _ _,hC.gB,g1.keep (λq hq=>za3 _ _ (λe=>x2 (e ▸ hq))) (Nat.le_refl _),g2,x2,hC.dd.mono hF3,yei hC.rs h3⟩
    ·obtain ⟨y1,y2⟩:=g3 q hq (by omega);exact ⟨(za3 _ _ hqg).trans y1,y2⟩
  ·try simp only [sS]
   exact fin 130 (by decide) (by rw [last h2,if_pos h3]) N2 (by omega) _ rfl
theorem yr0 {v:Value} {l:List Dm} (hv:zeh F v l) (hl:l.length≤140737488351232)
  (k1:zd1 l=false -> ∀ N',N≤N' -> (Hp.mk F M N').wf -> K (.pointer none) ⟨F,M,N'⟩)
  (k2:zd1 l=true -> ∀ g dv F' M' N',za7 F F' -> zgg F' M' N g (.slice none 0 0) dv [] l [] -> (∀ q,q<N -> M' q=M q) -> N≤N' -> za5 M' N' -> (Hp.mk F' M' N').wf -> K (.pointer (some ⟨g,0,none⟩)) ⟨F',M',N'⟩) :
  cF 87 #[v] K E ⟨F,M,N⟩:=by
 refine za4 za8 Tryz.func87 (by kernel_rfl) (t87 _ E _) (λhw=>?_);have hm:za5 M N:=hw.m;have hlv:zab v=some (.int .i64 (l.length:Nat)):=by obtain ⟨a,c,rfl⟩:=hv.form; rfl
 refine yks hv hl (λN1 hN1 hw1=>?_);cases hok:zd1 l
 ·try simp only [sS]
  exact λhc=>⟨_,za1 hc,λhw'=>k1 hok _ hN1 hw'⟩
 have hl4:=ye2 hok;try simp only [sS]
 refine zaa (v:=.agg #[.slice none 0 0,.slice none 0 0]) (by kernel_rfl) ?_;refine zap (cs:=[.slice none 0 0,.slice none 0 0]) (λg hg=>?_);refine zaa hlv ?_;obtain ⟨drs,hv1,hv2⟩:=hv
 refine zri (σ:=Nat) (λi=>.int .i64 (i:Nat))
  (λi h=>∃ F' M' N' dv rows,h=⟨F',M',N'⟩∧za7 F F'∧g<N'∧(∀ q,q<N -> M' q=M q)∧za5 M' N'∧i≤l.length∧M' g=some (.cells 141 [.slice none 0 0,dv] 2)∧own M' (g+1) 108 2 dv i rows.flatten∧zag (zi6 F') 2 rows (l.take i)) (λi=>l.length - i) 0 rfl
  (λhw2=>⟨_,za1 hw2,F,_,g+1,.slice none 0 0,[],rfl,za7.refl _,Nat.lt_succ_self _,λq hq=>za3 _ _ (by omega),(hm.up hN1).new hg _,Nat.zero_le _,za0 _ _ _,own.nil,zag.nil _ _⟩) (λkk i j h1 hI hw2 next=>?_)
 rw [zrg];obtain ⟨F1,M1,N2,dv,rows,rfl,hF1,hgN,hM1,hm1,hi,hbox,ho,hr⟩:=hI;obtain ⟨da,dc,hdf,_⟩:=ho.form;refine zat (λhlt=>?_) (λhge=>?_)
 ·have i1:i<l.length:=by omega
  try simp only [sS]
  refine zih (hv1.mono hF1) (hv2.mono λ_ _ h=>h.mono hF1) (by decide) i1 (λp r _ hR hrl hr1=>?_);obtain ⟨kv,hre,hkv,hkl⟩:=hR;subst hre;refine zap (λb1 hb1=>?_);refine stM (cs':=[.int .i64 l[i].1,kv]) ?_ (za0 _ _ _) rfl rfl hr1;rw [zan];have hb2:=za0 M1 b1 (some (.cells 108 [.int .i64 l[i].1,kv] [Value.int .i64 0,Value.slice none 0 0].length));have hg2:=(za3 M1 (b:=b1) (k:=g) (some (.cells 108 [.int .i64 l[i].1,kv] [Value.int .i64 0,Value.slice none 0 0].length)) (by omega)).trans hbox;have hM2:∀ q,q<N -> upd M1 b1 (some (.cells 108 [.int .i64 l[i].1,kv] [Value.int .i64 0,Value.slice none 0 0].length)) q=M q:=λq hq=>(za3 _ _ (by omega)).trans (hM1 q hq);have ho2:=ho.box hm1 hb1 (some (.cells 108 [.int .i64 l[i].1,kv] [Value.int .i64 0,Value.slice none 0 0].length));have hm2:=hm1.new hb1 (some (.cells 108 [.int .i64 l[i].1,kv] [Value.int .i64 0,Value.slice none 0 0].length));generalize upd M1 b1 _=M2 at *;try simp only [sS]
  refine ldM (v:=dv) ?_ hg2;try simp only [sS]
  refine ldM (v:=.int .i64 l[i].1) ?_ hb2;try simp only [sS]
  refine ldM (v:=kv) ?_ hb2;have hdl:=yge (yek hok _ (List.getElem_mem i1));refine zwy hm2 hkv.sR (by omega) (λkv' F3 N3 hw3 hF3 hN3 hkv'=>?_);refine ⟨zaz (zb4 hb2) rfl,zaz (zb4 hg2) rfl,?_⟩;have h1f:zi6 F3 [.int .i64 l[i].1,kv'] l[i]:=⟨kv',rfl,hkv',hkl⟩;obtain ⟨ak,ck,hkf,hck⟩:=hkv'.form;refine zaa (v:=.agg #[.int .i64 l[i].1,kv']) (by rw [hkf]; kernel_rfl) ?_;refine zcx (cs:=[.int .i64 l[i].1,kv']) (by rw [hkf]; kernel_rfl) (λb4 hb4=>?_);have hg4:=(za3 M2 (b:=b4) (k:=g) (some (.cells 108 [.int .i64 l[i].1,kv'] [Value.int .i64 l[i].1,kv'].length)) (by omega)).trans hg2;have hM4:∀ q,q<N -> upd M2 b4 (some (.cells 108 [.int .i64 l[i].1,kv'] [Value.int .i64 l[i].1,kv'].length)) q=M q:=λq hq=>(za3 _ _ (by omega)).trans (hM2 q hq);have hm3:za5 M2 N3:=hw3.m;have ho4:=ho2.box hm3 hb4 (some (.cells 108 [.int .i64 l[i].1,kv'] [Value.int .i64 l[i].1,kv'].length));have hm4:=hm3.new hb4 (some (.cells 108 [.int .i64 l[i].1,kv'] [Value.int .i64 l[i].1,kv'].length));have hx:=za0 M2 b4 (some (.cells 108 [.int .i64 l[i].1,kv'] [Value.int .i64 l[i].1,kv'].length));refine ⟨zaz (zb4 hg4) rfl,?_⟩;generalize upd M2 b4 _=M4 at *;refine ho4.app (m:=1) (news:=[.int .i64 l[i].1,kv']) hm4 (by omega) ⟨rfl,.inr ⟨b4,0,1,_,rfl,Nat.le_refl _,.inr ⟨_,_,hx⟩,rfl⟩⟩ h1f.one.2 (by omega) (by unfold maxLen; omega) (λdv' M5 N5 g1 g2 g3 g4=>?_);have hgd:dv.ownBlock≠some g:=λe=>by have := (ho4.ge g e).1; omega
  obtain ⟨y1,y2⟩:=g2 g hgd (by omega);obtain ⟨a5,c5,e5,_⟩:=g1.form;try simp only [sS]
  refine stM (cs':=[.slice none 0 0,dv']) ?_ (y1.trans hg4) (by rw [e5]; rfl) (by rw [e5]; rfl) (by rw [e5]; exact List.all_eq_true.1 rfl);refine zas (by omega) ?_;refine next (i+1) _ _ (by omega) (λhw6=>⟨_,za1 hw6,F3,_,N5,dv',rows++[[.int .i64 l[i].1,kv']],rfl,hF1.trans hF3,by omega,λq hq=>?_,g4.set (by omega) _,i1,za0 _ _ _,?_,?_⟩)
  ·exact (za3 _ _ (by omega)).trans (((g2 q (λe=>by have := (ho4.ge q e).1; omega) (by omega)).1).trans (hM4 q hq))
  ·refine own.keep (M:=M5) ?_ (λq hq=>za3 _ _ (λe=>y2 (e ▸ hq))) (Nat.le_refl _)
   simpa using g1
  ·rw [List.take_add_one,List.getElem?_eq_getElem i1,Option.toList_some];exact zca (hr.mono λ_ _ h=>h.mono hF3) h1f.one h1f
 ·try simp only [sS]
  rw [show i=l.length by omega] at ho;rw [List.take_of_length_le (by omega)] at hr;have hne:¬ dv.ownBlock=some g:=λe=>by have := (ho.ge g e).1; omega
  refine λhc=>⟨_,zog (p:=λq=>dv.ownBlock=some q) hc,λhw'=>k2 hok g dv _ _ N2 (hF1.trans (zc5 hc)) ⟨(zch hne).trans hbox,by omega,own.nil,zag.nil _ _,by simp [Value.ownBlock],⟨rows,ho.frzP (λq h=>h),hr.mono λ_ _ h=>h.mono (zc5 hc)⟩,.nil⟩ (λq hq=>(zch (λe=>by have := (ho.ge q e).1; omega)).trans (hM1 q hq)) (by omega) (zei hm1) hw'⟩
def zo1 (h:List En) (t:Int):Nat:=zbk h t+(if zdu h t=true then 1 else 0)
def yy0 (h:List En) (t:Int):List Fc:=((h.take (zo1 h t)).map (·.2)).flatten
def yy6 (h:List En) (i:Nat):List Fc:=((h.take i).map (·.2)).flatten
end Go.Proofs.YtlhlhpgjnjjhnaaGreatDoor.A
