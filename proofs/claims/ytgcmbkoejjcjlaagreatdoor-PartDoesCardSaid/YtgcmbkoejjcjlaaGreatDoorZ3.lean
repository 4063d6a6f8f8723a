import Derived.Test.YtgcmbkoejjcjlaaGreatDoorProg
import Derived.Test.YtgcmbkoejjcjlaaGreatDoorZ1
import Derived.Test.YtgcmbkoejjcjlaaGreatDoorZ2
import Derived.Shelf.SlSortCmp.InsertionK
import Derived.Shelf.SlLaysF0
import Derived.Ground.SlsfProg
import Derived.Shelf.SlSortCmp.WholeK
import Derived.Shelf.SlSortCmp.NoneTotal
set_option maxHeartbeats 4000000
open Go Go.RowKit Go.Proofs.YtgcmbkoejjcjlaaGreatDoor.K
set_option linter.unusedVariables false
set_option maxRecDepth 100000
namespace Go.Proofs.YtgcmbkoejjcjlaaGreatDoor.T
section
variable (K:zae) (E:zat) (k1 k2 k3 k4 k5:Env→Hp→Prop) (x0 x1 x2 x3 x4 x5 x6 x7 x8 x9 x10 x11 x12 x13 x14 x15 x16 x17 x18 x19 x20 x21 x22 x23 x24 x25 x26 x27 x28 x29 x30 x31 x32 x33 x34 x35 x36 x37 x38 x39 x40 x41 x42 x43 x44 x45 x46 x47 x48 x49 x50 x51 x52 x53 x54 x55 x56 x57 x58 x59 x60 x61 x62 x63 x64 x65 x66 x67 x68 x69 x70 x71 x72 x73 x74 x75 x76 x77 x78 x79 x80 x81 x82 x83 x84 x85 x86 x87 x88 x89 x90 x91 x92 x93 x94 x95 x96 x97 x98 x99 x100 x101 v0 v1 v2 v3 v4 v5 v6 v7 v8 v9 v10 v11 v12 v13 v14 v15 v16 v17 v18 v19 v20 v21 v22 v23 v24 v25 v26 v27 v28 v29 v30 v31 v32 v33 v34 v35 v36 v37 v38 v39 v40 v41 v42 v43 v44 v45 v46 v47 v48 v49 v50 v51 v52 v53 v54 v55 v56 v57 v58 v59 v60 v61 v62 v63 v64 v65 v66 v67 v68 v69 v70 v71 v72 v73 v74 v75 v76 v77 v78 v79 v80 v81 v82 v83 v84 v85 v86 v87 v88 v89 v90 v91 v92 v93 v94 v95 v96 v97 v98 v99 v100 v101:Value) (j:Nat→Value)
abbrev yoa:QD:=zab Tryz.prog Tryz.f183.results.toList K E
abbrev yot (p:List Nat):QD→Env→Hp→Prop:=den Tryz.prog (sel (za8 Tryz.f183) p)
theorem ysp:yot [] (yoa K E) #[x0,x1,U,U,U,U,U,U,U,U,U,U,U,U,U,U,U,U,U,U] =
 nw 88 (Value.cells x0).toList fun t1=>
 pv (za1 .none .eql x1 (.int .i64 0)) fun t2=>
 cnd t2 (
  K (.int .i64 1)) (
  pv (faV 1 t1) fun t3=>
  ld false 1 t3 fun t4=>
  pv (za9 t4) fun t5=>
  pv (za1 .none .gtr x1 t5) fun t6=>
  cnd t6 (
  K (.int .i64 0)) (
  pv (faV 1 t1) fun t7=>
  ld false 1 t7 fun t8=>
  pv (za1 .none .sub x1 (.int .i64 1)) fun t9=>
  pv (iaV none 1 t8 t9) fun t10=>
  ld false 1 t10 fun t11=>
  K t11)):=by kernel_rfl
abbrev yda:QD:=zab Tryz.prog Tryz.f184.results.toList K E
abbrev ycw (p:List Nat):QD→Env→Hp→Prop:=den Tryz.prog (sel (za8 Tryz.f184) p)
theorem yp5:ycw [] (yda K E) #[x0,x1,x2,U,U,U,U,U,U,U,U,U,U,U,U,U,U,U,U,U,U] =
 pv (cvV .u64 x1) fun t1=>
 pv (za1 .none .lss x1 (.int .i64 0)) fun t2=>
 cnd t2 (
  nws 5 1 (bsC #[(.int .u8 0)] 1 1 #[(0,(.int .u8 45))]) fun t3=>
  zbf 5 1 1 x0 t3 fun t4=>
  pv (unV .neg t1) fun t5=>
  ycw [1,1,1] (yda K E) #[t4,x1,x2,U,U,U,(.slice none 0 0),t5,x1,t1,x1,t2,x0,t3,t4,t1,t5,U,U,U,U]) (
  ycw [1,1,1] (yda K E) #[x0,x1,x2,U,U,U,(.slice none 0 0),t1,x1,t1,x1,t2,U,U,U,U,U,U,U,U,U]):=by kernel_rfl
theorem zss:ycw [1,1,1] (yda K E) #[x0,x1,x2,x3,x4,x5,x6,x7,x8,x9,x10,x11,x12,x13,x14,x15,x16,x17,x18,x19,x20] =
 za2 Tryz.prog (.func (.func 196) #[] #[]) #[x0,x7,x2] (fun t1=>
 K t1) E:=by kernel_rfl
abbrev ysk:QD:=zab Tryz.prog Tryz.f193.results.toList K E
abbrev ysm (p:List Nat):QD→Env→Hp→Prop:=den Tryz.prog (sel (za8 Tryz.f193) p)
theorem ysj:ysm [] (ysk K E) #[x0,x1,x2,x3,U,U,U,U,U,U,U,U,U,U,U,U,U,U,U,U,U,U,U,U,U,U,U,U,U,U,U,U,U,U,U,U,U,U,U,U,U,U,U,U,U,U,U,U,U,U,U,U,U,U,U,U,U,U,U,U,U,U,U,U,U] =
 nw 88 (Value.cells x0).toList fun t1=>
 ld true 2 t1 fun t2=>
 za2 Tryz.prog (.func (.func 112) #[] #[]) #[t2] (fun t3=>
 pv (unV .not t3) fun t4=>
 gdK t4 false (fun k=>k x1) fun t5=>
 gdK t4 false (fun k=>pv (za1 .none .lss t5 (.int .i64 0)) k) fun t6=>
 pv (zah t4 (.bool true) t6) fun t7=>
 gdK t7 false (fun k=>k x2) fun t8=>
 gdK t7 false (fun k=>k x1) fun t9=>
 gdK t7 false (fun k=>pv (za1 .none .lss t8 t9) k) fun t10=>
 pv (zah t7 (.bool true) t10) fun t11=>
 gdK t11 false (fun k=>k x2) fun t12=>
 gdK t11 false (fun k=>ld true 2 t1 k) fun t13=>
 gdK t11 false (fun k=>za2 Tryz.prog (.func (.func 171) #[] #[]) #[t13] k E) fun t14=>
 gdK t11 false (fun k=>pv (za1 .none .geq t12 t14) k) fun t15=>
 pv (zah t11 (.bool true) t15) fun t16=>
 gdK t16 false (fun k=>k x3) fun t17=>
 gdK t16 false (fun k=>pv (za1 .none .lss t17 (.int .i64 0)) k) fun t18=>
 pv (zah t16 (.bool true) t18) fun t19=>
 cnd t19 (
  K (.int .i64 (-1))) (
  pv (za1 .none .eql x1 x2) fun t20=>
  cnd t20 (
  K x3) (
  ld true 2 t1 fun t21=>
  za2 Tryz.prog (.func (.func 171) #[] #[]) #[t21] (fun t22=>
  pv (za1 .none .sub t22 (.int .i64 1)) fun t23=>
  pv (za1 .none .eql x2 t23) fun t24=>
  cnd t24 (
   K (.int .i64 0)) (
   pv (za1 .none .eql x1 (.int .i64 0)) fun t25=>
   cnd t25 (
   pv (faV 1 t1) fun t26=>
   ld false 1 t26 fun t27=>
   pv (za1 .none .sub x2 (.int .i64 1)) fun t28=>
   pv (iaV none 1 t27 t28) fun t29=>
   ld false 1 t29 fun t30=>
   pv (za1 .none .quo x3 t30) fun t31=>
   K t31) (
   pv (faV 1 t1) fun t32=>
   ld false 1 t32 fun t33=>
   pv (za1 .none .sub x2 (.int .i64 1)) fun t34=>
   pv (iaV none 1 t33 t34) fun t35=>
   ld false 1 t35 fun t36=>
   pv (faV 1 t1) fun t37=>
   ld false 1 t37 fun t38=>
   pv (za1 .none .sub x1 (.int .i64 1)) fun t39=>
   pv (iaV none 1 t38 t39) fun t40=>
   ld false 1 t40 fun t41=>
   pv (za1 .none .quo t36 t41) fun t42=>
   pv (za1 .none .quo x3 t42) fun t43=>
   K t43))) E))) E:=by kernel_rfl
abbrev yo7:QD:=zab Tryz.prog Tryz.f195.results.toList K E
abbrev yos (p:List Nat):QD→Env→Hp→Prop:=den Tryz.prog (sel (za8 Tryz.f195) p)
theorem ysr:yos [] (yo7 K E) #[x0,x1,U,U,U,U,U,U,U,U,U,U,U,U,U,U,U,U,U,U] =
 za2 Tryz.prog (.func (.func 200) #[] #[]) #[x0] (fun t1=>
 za2 Tryz.prog (.func (.func 200) #[] #[]) #[x1] (fun t2=>
 cnd t1 (
  cnd t2 (
  K (.int .i64 0)) (
  K (.int .i64 (-1)))) (
  cnd t2 (
  K (.int .i64 1)) (
  pv (za1 .none .lss x0 x1) fun t3=>
  cnd t3 (
   K (.int .i64 (-1))) (
   pv (za1 .none .gtr x0 x1) fun t4=>
   cnd t4 (
   K (.int .i64 1)) (
   K (.int .i64 0)))))) E) E:=by kernel_rfl
abbrev yqd:QD:=zab Tryz.prog Tryz.f196.results.toList K E
abbrev ysa (p:List Nat):QD→Env→Hp→Prop:=den Tryz.prog (sel (za8 Tryz.f196) p)
theorem ysh:ysa [] (yqd K E) #[x0,x1,x2,U,U,U,U,U,U,U,U,U,U,U,U,U,U,U,U,U,U,U,U,U,U,U,U,U,U,U,U,U,U,U,U,U] =
 pv (za1 .none .eql x2 (.int .i64 10)) fun t1=>
 cnd t1 (
  pv (za1 .none .lss x1 (.int .u64 100)) fun t2=>
  cnd t2 (
  pv (cvV .i64 x1) fun t3=>
  za2 Tryz.prog (.func (.func 201) #[] #[]) #[t3] (fun t4=>
  yra fun t5=>
  K t5) E) (
  nw 244 [(.int .u8 0),(.int .u8 0),(.int .u8 0),(.int .u8 0),(.int .u8 0),(.int .u8 0),(.int .u8 0),(.int .u8 0),(.int .u8 0),(.int .u8 0),(.int .u8 0),(.int .u8 0),(.int .u8 0),(.int .u8 0),(.int .u8 0),(.int .u8 0),(.int .u8 0),(.int .u8 0),(.int .u8 0),(.int .u8 0),(.int .u8 0),(.int .u8 0),(.int .u8 0),(.int .u8 0)] fun t6=>
  za2 Tryz.prog (.func (.func 202) #[] #[]) #[x1] (fun t7=>
  pv (slV 1 (zqu 24 t6) none (some t7) none) fun t8=>
  za2 Tryz.prog (.func (.func 203) #[] #[]) #[t8,x1] (fun t9=>
  pv (slV 1 (zqu 24 t6) none (some t7) none) fun t10=>
  zbf 5 1 1 x0 t10 fun t11=>
  K t11) E) E)) (
  za2 Tryz.prog (.func (.func 204) #[] #[]) #[x0,x1,x2,(.bool false),(.bool true)] (fun t12=>
  pv (exV 0 t12) fun t13=>
  pv (exV 1 t12) fun t14=>
  K t13) E):=by kernel_rfl
abbrev yr1:QD:=zab Tryz.prog Tryz.f200.results.toList K E
abbrev ypg (p:List Nat):QD→Env→Hp→Prop:=den Tryz.prog (sel (za8 Tryz.f200) p)
theorem yrw:ypg [] (yr1 K E) #[x0,U,U,U,U,U] =
 pv (za1 .none .neq x0 x0) fun t1=>
 K t1:=by kernel_rfl
abbrev zg8:QD:=zab Tryz.prog Tryz.f204.results.toList K E
abbrev zf2 (p:List Nat):QD→Env→Hp→Prop:=den Tryz.prog (sel (za8 Tryz.f204) p)
abbrev zuq:=za6 k1 (blk 2 (za6 (zf2 [1,1,1,1,1,0,1,1,1,1] (za6 (zf2 [1,1,1,1,1,1] (zg8 K E)) (zg8 K E))) (za6 (zf2 [1,1,1,1,1,1] (zg8 K E)) (zg8 K E))))
abbrev zso:=za6 k1 (blk 0 (za6 (zf2 [1,1,1,1,1,0,1,0,1,1,1,1] (za6 (zf2 [1,1,1,1,1,1] (zg8 K E)) (zg8 K E))) (za6 (zf2 [1,1,1,1,1,1] (zg8 K E)) (zg8 K E))))
def zb8 (j:Nat→Value):Env:=#[x0,v1,x2,x3,x4,x5,x6,x7,x8,x9,x10,x11,x12,v13,x14,x15,x16,x17,x18,x19,x20,x21,x22,x23,x24,x25,x26,x27,x28,x29,x30,x31,x32,x33,x34,x35,x36,x37,x38,x39,x40,x41,x42,x43,(j 44),(j 45),(j 46),(j 47),(j 48),(j 49),(j 50),(j 51),(j 52),(j 53),(j 54),(j 55),(j 56),(j 57),x58,x59,x60,x61,x62,x63,x64,x65,x66,x67,x68,x69,x70,x71,x72,x73,x74,x75,x76,x77,x78,x79,x80,x81,x82,x83,x84,x85,x86,x87,x88,x89,x90,x91,x92,x93,x94,x95,x96,x97,x98,x99,x100,x101]
def zbr (j:Nat→Value):Env:=#[x0,v1,x2,x3,x4,x5,x6,x7,x8,x9,x10,x11,x12,v13,x14,x15,x16,x17,(j 18),x19,x20,x21,x22,x23,x24,x25,x26,x27,x28,x29,x30,x31,x32,x33,x34,x35,x36,x37,x38,x39,x40,x41,x42,x43,x44,x45,x46,x47,x48,x49,x50,x51,x52,x53,x54,x55,x56,x57,x58,x59,x60,x61,x62,x63,x64,x65,(j 66),(j 67),(j 68),(j 69),(j 70),(j 71),(j 72),(j 73),(j 74),(j 75),(j 76),(j 77),(j 78),(j 79),(j 80),(j 81),(j 82),x83,x84,x85,x86,x87,x88,x89,x90,x91,x92,x93,x94,x95,x96,x97,x98,x99,x100,x101]
theorem ysg:zf2 [] (zg8 K E) #[x0,x1,x2,x3,x4,U,U,U,U,U,U,U,U,U,U,U,U,U,U,U,U,U,U,U,U,U,U,U,U,U,U,U,U,U,U,U,U,U,U,U,U,U,U,U,U,U,U,U,U,U,U,U,U,U,U,U,U,U,U,U,U,U,U,U,U,U,U,U,U,U,U,U,U,U,U,U,U,U,U,U,U,U,U,U,U,U,U,U,U,U,U,U,U,U,U,U,U,U,U,U,U,U] =
 pv (za1 .none .lss x2 (.int .i64 2)) fun t1=>
 gdK t1 false (fun k=>k x2) fun t2=>
 gdK t1 false (fun k=>pv (za1 .none .eql t2 (.int .i64 10)) k) fun t3=>
 pv (zah t1 (.bool true) t3) fun t4=>
 gdK t4 false (fun k=>k x2) fun t5=>
 gdK t4 false (fun k=>pv (za1 .none .gtr t5 (.int .i64 36)) k) fun t6=>
 pv (zah t4 (.bool true) t6) fun t7=>
 cnd t7 (
  pv (yb6 9 (.string ⟨#[115,116,114,99,111,110,118,58,32,105,108,108,101,103,97,108,32,65,112,112,101,110,100,73,110,116,47,70,111,114,109,97,116,73,110,116,32,98,97,115,101]⟩)) fun t8=>
  pnc t8 E fun _=>
  zf2 [1,1] (zg8 K E) #[x0,x1,x2,x3,x4,U,U,U,U,U,(.slice none 0 0),(.string ⟨#[]⟩),U,U,U,U,U,U,U,x2,t1,t1,t2,t3,t4,t4,t5,t6,t7,t8,U,U,U,U,U,U,U,U,U,U,U,U,U,U,U,U,U,U,U,U,U,U,U,U,U,U,U,U,U,U,U,U,U,U,U,U,U,U,U,U,U,U,U,U,U,U,U,U,U,U,U,U,U,U,U,U,U,U,U,U,U,U,U,U,U,U,U,U,U,U,U,U]) (
  zf2 [1,1] (zg8 K E) #[x0,x1,x2,x3,x4,U,U,U,U,U,(.slice none 0 0),(.string ⟨#[]⟩),U,U,U,U,U,U,U,x2,t1,t1,t2,t3,t4,t4,t5,t6,t7,U,U,U,U,U,U,U,U,U,U,U,U,U,U,U,U,U,U,U,U,U,U,U,U,U,U,U,U,U,U,U,U,U,U,U,U,U,U,U,U,U,U,U,U,U,U,U,U,U,U,U,U,U,U,U,U,U,U,U,U,U,U,U,U,U,U,U,U,U,U,U,U,U]):=by kernel_rfl
theorem yin:zf2 [1,1] (zg8 K E) #[x0,x1,x2,x3,x4,x5,x6,x7,x8,x9,x10,x11,x12,x13,x14,x15,x16,x17,x18,x19,x20,x21,x22,x23,x24,x25,x26,x27,x28,x29,x30,x31,x32,x33,x34,x35,x36,x37,x38,x39,x40,x41,x42,x43,x44,x45,x46,x47,x48,x49,x50,x51,x52,x53,x54,x55,x56,x57,x58,x59,x60,x61,x62,x63,x64,x65,x66,x67,x68,x69,x70,x71,x72,x73,x74,x75,x76,x77,x78,x79,x80,x81,x82,x83,x84,x85,x86,x87,x88,x89,x90,x91,x92,x93,x94,x95,x96,x97,x98,x99,x100,x101] =
 nw 252 [(.int .u8 0),(.int .u8 0),(.int .u8 0),(.int .u8 0),(.int .u8 0),(.int .u8 0),(.int .u8 0),(.int .u8 0),(.int .u8 0),(.int .u8 0),(.int .u8 0),(.int .u8 0),(.int .u8 0),(.int .u8 0),(.int .u8 0),(.int .u8 0),(.int .u8 0),(.int .u8 0),(.int .u8 0),(.int .u8 0),(.int .u8 0),(.int .u8 0),(.int .u8 0),(.int .u8 0),(.int .u8 0),(.int .u8 0),(.int .u8 0),(.int .u8 0),(.int .u8 0),(.int .u8 0),(.int .u8 0),(.int .u8 0),(.int .u8 0),(.int .u8 0),(.int .u8 0),(.int .u8 0),(.int .u8 0),(.int .u8 0),(.int .u8 0),(.int .u8 0),(.int .u8 0),(.int .u8 0),(.int .u8 0),(.int .u8 0),(.int .u8 0),(.int .u8 0),(.int .u8 0),(.int .u8 0),(.int .u8 0),(.int .u8 0),(.int .u8 0),(.int .u8 0),(.int .u8 0),(.int .u8 0),(.int .u8 0),(.int .u8 0),(.int .u8 0),(.int .u8 0),(.int .u8 0),(.int .u8 0),(.int .u8 0),(.int .u8 0),(.int .u8 0),(.int .u8 0),(.int .u8 0)] fun t1=>
 cnd x3 (
  pv (unV .neg x1) fun t2=>
  zf2 [1,1,1,1,1] (zg8 K E) #[x0,t2,x2,x3,x4,x5,x6,x7,x8,x9,x10,x11,t1,(.int .i64 65),x14,x15,x16,x17,x18,x19,x20,x21,x22,x23,x24,x25,x26,x27,x28,x29,x3,x1,t2,x33,x34,x35,x36,x37,x38,x39,x40,x41,x42,x43,x44,x45,x46,x47,x48,x49,x50,x51,x52,x53,x54,x55,x56,x57,x58,x59,x60,x61,x62,x63,x64,x65,x66,x67,x68,x69,x70,x71,x72,x73,x74,x75,x76,x77,x78,x79,x80,x81,x82,x83,x84,x85,x86,x87,x88,x89,x90,x91,x92,x93,x94,x95,x96,x97,x98,x99,x100,x101]) (
  zf2 [1,1,1,1,1] (zg8 K E) #[x0,x1,x2,x3,x4,x5,x6,x7,x8,x9,x10,x11,t1,(.int .i64 65),x14,x15,x16,x17,x18,x19,x20,x21,x22,x23,x24,x25,x26,x27,x28,x29,x3,x31,x32,x33,x34,x35,x36,x37,x38,x39,x40,x41,x42,x43,x44,x45,x46,x47,x48,x49,x50,x51,x52,x53,x54,x55,x56,x57,x58,x59,x60,x61,x62,x63,x64,x65,x66,x67,x68,x69,x70,x71,x72,x73,x74,x75,x76,x77,x78,x79,x80,x81,x82,x83,x84,x85,x86,x87,x88,x89,x90,x91,x92,x93,x94,x95,x96,x97,x98,x99,x100,x101]):=by kernel_rfl
theorem zvk:zf2 [1,1,1,1,1] (zg8 K E) #[x0,x1,x2,x3,x4,x5,x6,x7,x8,x9,x10,x11,x12,x13,x14,x15,x16,x17,x18,x19,x20,x21,x22,x23,x24,x25,x26,x27,x28,x29,x30,x31,x32,x33,x34,x35,x36,x37,x38,x39,x40,x41,x42,x43,x44,x45,x46,x47,x48,x49,x50,x51,x52,x53,x54,x55,x56,x57,x58,x59,x60,x61,x62,x63,x64,x65,x66,x67,x68,x69,x70,x71,x72,x73,x74,x75,x76,x77,x78,x79,x80,x81,x82,x83,x84,x85,x86,x87,x88,x89,x90,x91,x92,x93,x94,x95,x96,x97,x98,x99,x100,x101] =
 za2 Tryz.prog (.func (.func 208) #[] #[]) #[x2] (fun t1=>
 cnd t1 (
  pv (cvV .u64 x2) fun t2=>
  za2 Tryz.prog (.func (.func 209) #[] #[]) #[t2] (fun t3=>
  pv (cvV .u64 t3) fun t4=>
  pv (cvV .u64 x2) fun t5=>
  pv (cvV .u64 x2) fun t6=>
  pv (za1 .none .sub t6 (.int .u64 1)) fun t7=>
  lp (fun k1=>zf2 [1,1,1,1,1,0,1,0,1,1,1,0,0,0] (zso K E k1)) (zb8 x0 x2 x3 x4 x5 x6 x7 x8 x9 x10 x11 x12 t4 t5 t7 x17 x18 x19 x20 x21 x22 x23 x24 x25 x26 x27 x28 x29 x30 x31 x32 x2 t1 x2 t2 t3 t4 x2 t5 x2 t6 t7 x58 x59 x60 x61 x62 x63 x64 x65 x66 x67 x68 x69 x70 x71 x72 x73 x74 x75 x76 x77 x78 x79 x80 x81 x82 x83 x84 x85 x86 x87 x88 x89 x90 x91 x92 x93 x94 x95 x96 x97 x98 x99 x100 x101 x1 x13 (jf #[U,U,U,U,U,U,U,U,U,U,U,U,U,U,U,U,U,U,U,U,U,U,U,U,U,U,U,U,U,U,U,U,U,U,U,U,U,U,U,U,U,U,U,U,x44,x45,x46,x47,x48,x49,x50,x51,x52,x53,x54,x55,x56,x57]))) E) (
  pv (cvV .u64 x2) fun t8=>
  lp (fun k1=>zf2 [1,1,1,1,1,0,1,1,1,0,0,0] (zuq K E k1)) (zbr x0 x2 x3 x4 x5 x6 x7 x8 x9 x10 x11 x12 x14 x15 x16 t8 x19 x20 x21 x22 x23 x24 x25 x26 x27 x28 x29 x30 x31 x32 x2 t1 x35 x36 x37 x38 x39 x40 x41 x42 x43 x44 x45 x46 x47 x48 x49 x50 x51 x52 x53 x54 x55 x56 x57 x58 x59 x60 x61 x62 x63 x2 t8 x83 x84 x85 x86 x87 x88 x89 x90 x91 x92 x93 x94 x95 x96 x97 x98 x99 x100 x101 x1 x13 (jf #[U,U,U,U,U,U,U,U,U,U,U,U,U,U,U,U,U,U,x18,U,U,U,U,U,U,U,U,U,U,U,U,U,U,U,U,U,U,U,U,U,U,U,U,U,U,U,U,U,U,U,U,U,U,U,U,U,U,U,U,U,U,U,U,U,U,U,x66,x67,x68,x69,x70,x71,x72,x73,x74,x75,x76,x77,x78,x79,x80,x81,x82])))) E:=by kernel_rfl
theorem zs0:zf2 [1,1,1,1,1,0,1,0,1,1,1,0,0,0] (zso K E k1) (zb8 x0 x2 x3 x4 x5 x6 x7 x8 x9 x10 x11 x12 x14 x15 x16 x17 x18 x19 x20 x21 x22 x23 x24 x25 x26 x27 x28 x29 x30 x31 x32 x33 x34 x35 x36 x37 x38 x39 x40 x41 x42 x43 x58 x59 x60 x61 x62 x63 x64 x65 x66 x67 x68 x69 x70 x71 x72 x73 x74 x75 x76 x77 x78 x79 x80 x81 x82 x83 x84 x85 x86 x87 x88 x89 x90 x91 x92 x93 x94 x95 x96 x97 x98 x99 x100 x101 v1 v13 j) =
 pv (za1 .none .geq v1 x15) fun t1=>
 cnd t1 (
  pv (za1 .none .sub v13 (.int .i64 1)) fun t2=>
  pv (za1 .none .and v1 x16) fun t3=>
  pv (ixV (.string ⟨#[48,49,50,51,52,53,54,55,56,57,97,98,99,100,101,102,103,104,105,106,107,108,109,110,111,112,113,114,115,116,117,118,119,120,121,122]⟩) t3) fun t4=>
  pv (iaV (some 65) 1 x12 t2) fun t5=>
  st 1 t5 t4 fun _=>
  pv (za1 .none .shr v1 x14) fun t6=>
  k1 (zb8 x0 x2 x3 x4 x5 x6 x7 x8 x9 x10 x11 x12 x14 x15 x16 x17 x18 x19 x20 x21 x22 x23 x24 x25 x26 x27 x28 x29 x30 x31 x32 x33 x34 x35 x36 x37 x38 x39 x40 x41 x42 x43 x58 x59 x60 x61 x62 x63 x64 x65 x66 x67 x68 x69 x70 x71 x72 x73 x74 x75 x76 x77 x78 x79 x80 x81 x82 x83 x84 x85 x86 x87 x88 x89 x90 x91 x92 x93 x94 x95 x96 x97 x98 x99 x100 x101 t6 t2 (jf #[U,U,U,U,U,U,U,U,U,U,U,U,U,U,U,U,U,U,U,U,U,U,U,U,U,U,U,U,U,U,U,U,U,U,U,U,U,U,U,U,U,U,U,U,v1,x15,t1,v13,t2,t2,v1,x16,t3,t4,t5,v1,x14,t6]))) (
  pv (za1 .none .sub v13 (.int .i64 1)) fun t7=>
  pv (ixV (.string ⟨#[48,49,50,51,52,53,54,55,56,57,97,98,99,100,101,102,103,104,105,106,107,108,109,110,111,112,113,114,115,116,117,118,119,120,121,122]⟩) v1) fun t8=>
  pv (iaV (some 65) 1 x12 t7) fun t9=>
  st 1 t9 t8 fun _=>
  zf2 [1,1,1,1,1,1] (zg8 K E) #[x0,v1,x2,x3,x4,x5,x6,x7,x8,x9,x10,x11,x12,t7,x14,x15,x16,x17,x18,x19,x20,x21,x22,x23,x24,x25,x26,x27,x28,x29,x30,x31,x32,x33,x34,x35,x36,x37,x38,x39,x40,x41,x42,x43,v1,x15,t1,(j 47),(j 48),(j 49),(j 50),(j 51),(j 52),(j 53),(j 54),(j 55),(j 56),(j 57),v13,t7,t7,v1,t8,t9,x64,x65,x66,x67,x68,x69,x70,x71,x72,x73,x74,x75,x76,x77,x78,x79,x80,x81,x82,x83,x84,x85,x86,x87,x88,x89,x90,x91,x92,x93,x94,x95,x96,x97,x98,x99,x100,x101]):=by kernel_rfl
theorem zjf:zf2 [1,1,1,1,1,0,1,1,1,0,0,0] (zuq K E k1) (zbr x0 x2 x3 x4 x5 x6 x7 x8 x9 x10 x11 x12 x14 x15 x16 x17 x19 x20 x21 x22 x23 x24 x25 x26 x27 x28 x29 x30 x31 x32 x33 x34 x35 x36 x37 x38 x39 x40 x41 x42 x43 x44 x45 x46 x47 x48 x49 x50 x51 x52 x53 x54 x55 x56 x57 x58 x59 x60 x61 x62 x63 x64 x65 x83 x84 x85 x86 x87 x88 x89 x90 x91 x92 x93 x94 x95 x96 x97 x98 x99 x100 x101 v1 v13 j) =
 pv (za1 .none .geq v1 x17) fun t1=>
 cnd t1 (
  pv (za1 .none .sub v13 (.int .i64 1)) fun t2=>
  pv (za1 .none .quo v1 x17) fun t3=>
  pv (za1 .none .mul t3 x17) fun t4=>
  pv (za1 .none .sub v1 t4) fun t5=>
  pv (ixV (.string ⟨#[48,49,50,51,52,53,54,55,56,57,97,98,99,100,101,102,103,104,105,106,107,108,109,110,111,112,113,114,115,116,117,118,119,120,121,122]⟩) t5) fun t6=>
  pv (iaV (some 65) 1 x12 t2) fun t7=>
  st 1 t7 t6 fun _=>
  k1 (zbr x0 x2 x3 x4 x5 x6 x7 x8 x9 x10 x11 x12 x14 x15 x16 x17 x19 x20 x21 x22 x23 x24 x25 x26 x27 x28 x29 x30 x31 x32 x33 x34 x35 x36 x37 x38 x39 x40 x41 x42 x43 x44 x45 x46 x47 x48 x49 x50 x51 x52 x53 x54 x55 x56 x57 x58 x59 x60 x61 x62 x63 x64 x65 x83 x84 x85 x86 x87 x88 x89 x90 x91 x92 x93 x94 x95 x96 x97 x98 x99 x100 x101 t3 t2 (jf #[U,U,U,U,U,U,U,U,U,U,U,U,U,U,U,U,U,U,t3,U,U,U,U,U,U,U,U,U,U,U,U,U,U,U,U,U,U,U,U,U,U,U,U,U,U,U,U,U,U,U,U,U,U,U,U,U,U,U,U,U,U,U,U,U,U,U,v1,x17,t1,v13,t2,v1,x17,t3,t2,v1,t3,x17,t4,t5,t6,t7,t3]))) (
  pv (za1 .none .sub v13 (.int .i64 1)) fun t8=>
  pv (ixV (.string ⟨#[48,49,50,51,52,53,54,55,56,57,97,98,99,100,101,102,103,104,105,106,107,108,109,110,111,112,113,114,115,116,117,118,119,120,121,122]⟩) v1) fun t9=>
  pv (iaV (some 65) 1 x12 t8) fun t10=>
  st 1 t10 t9 fun _=>
  zf2 [1,1,1,1,1,1] (zg8 K E) #[x0,v1,x2,x3,x4,x5,x6,x7,x8,x9,x10,x11,x12,t8,x14,x15,x16,x17,(j 18),x19,x20,x21,x22,x23,x24,x25,x26,x27,x28,x29,x30,x31,x32,x33,x34,x35,x36,x37,x38,x39,x40,x41,x42,x43,x44,x45,x46,x47,x48,x49,x50,x51,x52,x53,x54,x55,x56,x57,x58,x59,x60,x61,x62,x63,x64,x65,v1,x17,t1,(j 69),(j 70),(j 71),(j 72),(j 73),(j 74),(j 75),(j 76),(j 77),(j 78),(j 79),(j 80),(j 81),(j 82),v13,t8,t8,v1,t9,t10,x89,x90,x91,x92,x93,x94,x95,x96,x97,x98,x99,x100,x101]):=by kernel_rfl
theorem zrl:zf2 [1,1,1,1,1,1] (zg8 K E) #[x0,x1,x2,x3,x4,x5,x6,x7,x8,x9,x10,x11,x12,x13,x14,x15,x16,x17,x18,x19,x20,x21,x22,x23,x24,x25,x26,x27,x28,x29,x30,x31,x32,x33,x34,x35,x36,x37,x38,x39,x40,x41,x42,x43,x44,x45,x46,x47,x48,x49,x50,x51,x52,x53,x54,x55,x56,x57,x58,x59,x60,x61,x62,x63,x64,x65,x66,x67,x68,x69,x70,x71,x72,x73,x74,x75,x76,x77,x78,x79,x80,x81,x82,x83,x84,x85,x86,x87,x88,x89,x90,x91,x92,x93,x94,x95,x96,x97,x98,x99,x100,x101] =
 cnd x3 (
  pv (za1 .none .sub x13 (.int .i64 1)) fun t1=>
  pv (iaV (some 65) 1 x12 t1) fun t2=>
  st 1 t2 (.int .u8 45) fun _=>
  zf2 [1,1,1,1,1,1,1] (zg8 K E) #[x0,x1,x2,x3,x4,x5,x6,x7,x8,x9,x10,x11,x12,t1,x14,x15,x16,x17,x18,x19,x20,x21,x22,x23,x24,x25,x26,x27,x28,x29,x30,x31,x32,x33,x34,x35,x36,x37,x38,x39,x40,x41,x42,x43,x44,x45,x46,x47,x48,x49,x50,x51,x52,x53,x54,x55,x56,x57,x58,x59,x60,x61,x62,x63,x64,x65,x66,x67,x68,x69,x70,x71,x72,x73,x74,x75,x76,x77,x78,x79,x80,x81,x82,x83,x84,x85,x86,x87,x88,x3,x13,t1,t1,t2,x94,x95,x96,x97,x98,x99,x100,x101]) (
  zf2 [1,1,1,1,1,1,1] (zg8 K E) #[x0,x1,x2,x3,x4,x5,x6,x7,x8,x9,x10,x11,x12,x13,x14,x15,x16,x17,x18,x19,x20,x21,x22,x23,x24,x25,x26,x27,x28,x29,x30,x31,x32,x33,x34,x35,x36,x37,x38,x39,x40,x41,x42,x43,x44,x45,x46,x47,x48,x49,x50,x51,x52,x53,x54,x55,x56,x57,x58,x59,x60,x61,x62,x63,x64,x65,x66,x67,x68,x69,x70,x71,x72,x73,x74,x75,x76,x77,x78,x79,x80,x81,x82,x83,x84,x85,x86,x87,x88,x3,x90,x91,x92,x93,x94,x95,x96,x97,x98,x99,x100,x101]):=by kernel_rfl
theorem zp1:zf2 [1,1,1,1,1,1,1] (zg8 K E) #[x0,x1,x2,x3,x4,x5,x6,x7,x8,x9,x10,x11,x12,x13,x14,x15,x16,x17,x18,x19,x20,x21,x22,x23,x24,x25,x26,x27,x28,x29,x30,x31,x32,x33,x34,x35,x36,x37,x38,x39,x40,x41,x42,x43,x44,x45,x46,x47,x48,x49,x50,x51,x52,x53,x54,x55,x56,x57,x58,x59,x60,x61,x62,x63,x64,x65,x66,x67,x68,x69,x70,x71,x72,x73,x74,x75,x76,x77,x78,x79,x80,x81,x82,x83,x84,x85,x86,x87,x88,x89,x90,x91,x92,x93,x94,x95,x96,x97,x98,x99,x100,x101] =
 cnd x4 (
  pv (slV 1 (zqu 65 x12) (some x13) none none) fun t1=>
  zbf 5 1 1 x0 t1 fun t2=>
  K (.tuple #[t2,x11])) (
  pv (slV 1 (zqu 65 x12) (some x13) none none) fun t3=>
  bs t3 fun t4=>
  K (.tuple #[x10,t4])):=by kernel_rfl
abbrev yqb:QD:=zab Tryz.prog Tryz.f208.results.toList K E
abbrev yph (p:List Nat):QD→Env→Hp→Prop:=den Tryz.prog (sel (za8 Tryz.f208) p)
theorem yr3:yph [] (yqb K E) #[x0,U,U,U,U,U,U,U] =
 pv (za1 .none .sub x0 (.int .i64 1)) fun t1=>
 pv (za1 .none .and x0 t1) fun t2=>
 pv (za1 .none .eql t2 (.int .i64 0)) fun t3=>
 K t3:=by kernel_rfl
end
section
variable {K:zae} {E:zat} {k1 k2 k3 k4 k5:Env→Hp→Prop} {σ:Type} {x0 x1 x2 x3 x4 x5 x6 x7 x8 x9 x10 x11 x12 x13 x14 x15 x16 x17 x18 x19 x20 x21 x22 x23 x24 x25 x26 x27 x28 x29 x30 x31 x32 x33 x34 x35 x36 x37 x38 x39 x40 x41 x42 x43 x44 x45 x46 x47 x48 x49 x50 x51 x52 x53 x54 x55 x56 x57 x58 x59 x60 x61 x62 x63 x64 x65 x66 x67 x68 x69 x70 x71 x72 x73 x74 x75 x76 x77 x78 x79 x80 x81 x82 x83 x84 x85 x86 x87 x88 x89 x90 x91 x92 x93 x94 x95 x96 x97 x98 x99 x100 x101 v0 v1 v2 v3 v4 v5 v6 v7 v8 v9 v10 v11 v12 v13 v14 v15 v16 v17 v18 v19 v20 v21 v22 v23 v24 v25 v26 v27 v28 v29 v30 v31 v32 v33 v34 v35 v36 v37 v38 v39 v40 v41 v42 v43 v44 v45 v46 v47 v48 v49 v50 v51 v52 v53 v54 v55 v56 v57 v58 v59 v60 v61 v62 v63 v64 v65 v66 v67 v68 v69 v70 v71 v72 v73 v74 v75 v76 v77 v78 v79 v80 v81 v82 v83 v84 v85 v86 v87 v88 v89 v90 v91 v92 v93 v94 v95 v96 v97 v98 v99 v100 v101:Value} {h:Hp} {j:Nat→Value}
theorem zs7 (f1 f13:σ→Value) (I:σ→Hp→Prop) (μ:σ→Nat) (s0:σ) (e1:v1=f1 s0) (e13:v13=f13 s0) (h0:h.wf→∃ h',h.wk h'∧I s0 h')
 (round:∀ (k1:Env→Hp→Prop) (s:σ) (j:Nat→Value) (h:Hp),I s h→h.wf→(∀ s' j' h',μ s'<μ s→(h'.wf→∃ h'',h'.wk h''∧I s' h'')→k1 (zb8 x0 x2 x3 x4 x5 x6 x7 x8 x9 x10 x11 x12 x14 x15 x16 x17 x18 x19 x20 x21 x22 x23 x24 x25 x26 x27 x28 x29 x30 x31 x32 x33 x34 x35 x36 x37 x38 x39 x40 x41 x42 x43 x58 x59 x60 x61 x62 x63 x64 x65 x66 x67 x68 x69 x70 x71 x72 x73 x74 x75 x76 x77 x78 x79 x80 x81 x82 x83 x84 x85 x86 x87 x88 x89 x90 x91 x92 x93 x94 x95 x96 x97 x98 x99 x100 x101 (f1 s') (f13 s') j') h')→zf2 [1,1,1,1,1,0,1,0,1,1,1,0,0,0] (zso K E k1) (zb8 x0 x2 x3 x4 x5 x6 x7 x8 x9 x10 x11 x12 x14 x15 x16 x17 x18 x19 x20 x21 x22 x23 x24 x25 x26 x27 x28 x29 x30 x31 x32 x33 x34 x35 x36 x37 x38 x39 x40 x41 x42 x43 x58 x59 x60 x61 x62 x63 x64 x65 x66 x67 x68 x69 x70 x71 x72 x73 x74 x75 x76 x77 x78 x79 x80 x81 x82 x83 x84 x85 x86 x87 x88 x89 x90 x91 x92 x93 x94 x95 x96 x97 x98 x99 x100 x101 (f1 s) (f13 s) j) h) :
 lp (fun k1=>zf2 [1,1,1,1,1,0,1,0,1,1,1,0,0,0] (zso K E k1)) (zb8 x0 x2 x3 x4 x5 x6 x7 x8 x9 x10 x11 x12 x14 x15 x16 x17 x18 x19 x20 x21 x22 x23 x24 x25 x26 x27 x28 x29 x30 x31 x32 x33 x34 x35 x36 x37 x38 x39 x40 x41 x42 x43 x58 x59 x60 x61 x62 x63 x64 x65 x66 x67 x68 x69 x70 x71 x72 x73 x74 x75 x76 x77 x78 x79 x80 x81 x82 x83 x84 x85 x86 x87 x88 x89 x90 x91 x92 x93 x94 x95 x96 x97 x98 x99 x100 x101 v1 v13 j) h:=by
 subst e1
 subst e13
 exact zaj (fun s j=>zb8 x0 x2 x3 x4 x5 x6 x7 x8 x9 x10 x11 x12 x14 x15 x16 x17 x18 x19 x20 x21 x22 x23 x24 x25 x26 x27 x28 x29 x30 x31 x32 x33 x34 x35 x36 x37 x38 x39 x40 x41 x42 x43 x58 x59 x60 x61 x62 x63 x64 x65 x66 x67 x68 x69 x70 x71 x72 x73 x74 x75 x76 x77 x78 x79 x80 x81 x82 x83 x84 x85 x86 x87 x88 x89 x90 x91 x92 x93 x94 x95 x96 x97 x98 x99 x100 x101 (f1 s) (f13 s) j) I μ round s0 j h0
theorem zjg (f1 f13:σ→Value) (I:σ→Hp→Prop) (μ:σ→Nat) (s0:σ) (e1:v1=f1 s0) (e13:v13=f13 s0) (h0:h.wf→∃ h',h.wk h'∧I s0 h')
 (round:∀ (k1:Env→Hp→Prop) (s:σ) (j:Nat→Value) (h:Hp),I s h→h.wf→(∀ s' j' h',μ s'<μ s→(h'.wf→∃ h'',h'.wk h''∧I s' h'')→k1 (zbr x0 x2 x3 x4 x5 x6 x7 x8 x9 x10 x11 x12 x14 x15 x16 x17 x19 x20 x21 x22 x23 x24 x25 x26 x27 x28 x29 x30 x31 x32 x33 x34 x35 x36 x37 x38 x39 x40 x41 x42 x43 x44 x45 x46 x47 x48 x49 x50 x51 x52 x53 x54 x55 x56 x57 x58 x59 x60 x61 x62 x63 x64 x65 x83 x84 x85 x86 x87 x88 x89 x90 x91 x92 x93 x94 x95 x96 x97 x98 x99 x100 x101 (f1 s') (f13 s') j') h')→zf2 [1,1,1,1,1,0,1,1,1,0,0,0] (zuq K E k1) (zbr x0 x2 x3 x4 x5 x6 x7 x8 x9 x10 x11 x12 x14 x15 x16 x17 x19 x20 x21 x22 x23 x24 x25 x26 x27 x28 x29 x30 x31 x32 x33 x34 x35 x36 x37 x38 x39 x40 x41 x42 x43 x44 x45 x46 x47 x48 x49 x50 x51 x52 x53 x54 x55 x56 x57 x58 x59 x60 x61 x62 x63 x64 x65 x83 x84 x85 x86 x87 x88 x89 x90 x91 x92 x93 x94 x95 x96 x97 x98 x99 x100 x101 (f1 s) (f13 s) j) h) :
 lp (fun k1=>zf2 [1,1,1,1,1,0,1,1,1,0,0,0] (zuq K E k1)) (zbr x0 x2 x3 x4 x5 x6 x7 x8 x9 x10 x11 x12 x14 x15 x16 x17 x19 x20 x21 x22 x23 x24 x25 x26 x27 x28 x29 x30 x31 x32 x33 x34 x35 x36 x37 x38 x39 x40 x41 x42 x43 x44 x45 x46 x47 x48 x49 x50 x51 x52 x53 x54 x55 x56 x57 x58 x59 x60 x61 x62 x63 x64 x65 x83 x84 x85 x86 x87 x88 x89 x90 x91 x92 x93 x94 x95 x96 x97 x98 x99 x100 x101 v1 v13 j) h:=by
 subst e1
 subst e13
 exact zaj (fun s j=>zbr x0 x2 x3 x4 x5 x6 x7 x8 x9 x10 x11 x12 x14 x15 x16 x17 x19 x20 x21 x22 x23 x24 x25 x26 x27 x28 x29 x30 x31 x32 x33 x34 x35 x36 x37 x38 x39 x40 x41 x42 x43 x44 x45 x46 x47 x48 x49 x50 x51 x52 x53 x54 x55 x56 x57 x58 x59 x60 x61 x62 x63 x64 x65 x83 x84 x85 x86 x87 x88 x89 x90 x91 x92 x93 x94 x95 x96 x97 x98 x99 x100 x101 (f1 s) (f13 s) j) I μ round s0 j h0
end
theorem q0 (Q:QD) (x0 x1 x2:Value):den Tryz.prog (sel (za8 Tryz.f42) [0]) Q #[x0,x1,x2,undef,undef,undef,undef,undef,undef,undef,undef,undef,undef,undef,undef,undef,undef,undef,undef,undef,undef,undef,undef,undef,undef,undef,undef,undef,undef,undef,undef,undef,undef,undef,undef,undef,undef,undef,undef,undef,undef,undef,undef,undef,undef,undef,undef,undef,undef,undef,undef]=nw 55 (Value.cells x1).toList fun t1=>Q .normal #[x0,x1,x2,undef,t1,undef,(.slice none 0 0),(.int .u16 0),undef,undef,undef,undef,undef,undef,undef,undef,undef,undef,undef,undef,undef,undef,undef,undef,undef,undef,undef,undef,undef,undef,undef,undef,undef,undef,undef,undef,undef,undef,undef,undef,undef,undef,undef,undef,undef,undef,undef,undef,undef,undef,undef]:=by kernel_rfl
theorem q1 (Q:QD) (x0 x1 x2 t1:Value):den Tryz.prog (sel (za8 Tryz.f42) [1,0]) Q #[x0,x1,x2,undef,t1,undef,(.slice none 0 0),(.int .u16 0),undef,undef,undef,undef,undef,undef,undef,undef,undef,undef,undef,undef,undef,undef,undef,undef,undef,undef,undef,undef,undef,undef,undef,undef,undef,undef,undef,undef,undef,undef,undef,undef,undef,undef,undef,undef,undef,undef,undef,undef,undef,undef,undef]=pv (zan x0) fun t2=>pv (faV 0 t2) fun t3=>ld false 1 t3 fun t4=>za2 Tryz.prog (.func (.func 72) #[] #[]) #[t4,x2] (fun t5=>pv (exV 0 t5) fun t6=>pv (exV 1 t5) fun t7=>Q .normal #[x0,x1,x2,undef,t1,undef,(.slice none 0 0),(.int .u16 0),t6,t7,undef,undef,undef,t5,x0,t2,t3,t4,x2,t5,t6,t7,undef,undef,undef,undef,undef,undef,undef,undef,undef,undef,undef,undef,undef,undef,undef,undef,undef,undef,undef,undef,undef,undef,undef,undef,undef,undef,undef,undef,undef]) (fun c=>Q (.panic c) #[x0,x1,x2,undef,t1,undef,(.slice none 0 0),(.int .u16 0),undef,undef,undef,undef,undef,undef,x0,t2,t3,t4,x2,undef,undef,undef,undef,undef,undef,undef,undef,undef,undef,undef,undef,undef,undef,undef,undef,undef,undef,undef,undef,undef,undef,undef,undef,undef,undef,undef,undef,undef,undef,undef,undef]):=by kernel_rfl
theorem q2 (Q:QD) (x0 x1 x2 t1 t2 t3 t4 t5 t6 t7:Value):den Tryz.prog (sel (za8 Tryz.f42) [1,1,0]) Q #[x0,x1,x2,undef,t1,undef,(.slice none 0 0),(.int .u16 0),t6,t7,undef,undef,undef,t5,x0,t2,t3,t4,x2,t5,t6,t7,undef,undef,undef,undef,undef,undef,undef,undef,undef,undef,undef,undef,undef,undef,undef,undef,undef,undef,undef,undef,undef,undef,undef,undef,undef,undef,undef,undef,undef]=cnd t7 (pv (za1 .none .add t6 (.int .i64 1)) fun t8=>Q .normal #[x0,x1,x2,undef,t1,undef,(.slice none 0 0),(.int .u16 0),t8,t7,undef,undef,undef,t5,x0,t2,t3,t4,x2,t5,t6,t7,t7,t6,t8,undef,undef,undef,undef,undef,undef,undef,undef,undef,undef,undef,undef,undef,undef,undef,undef,undef,undef,undef,undef,undef,undef,undef,undef,undef,undef]) (Q .normal #[x0,x1,x2,undef,t1,undef,(.slice none 0 0),(.int .u16 0),t6,t7,undef,undef,undef,t5,x0,t2,t3,t4,x2,t5,t6,t7,t7,undef,undef,undef,undef,undef,undef,undef,undef,undef,undef,undef,undef,undef,undef,undef,undef,undef,undef,undef,undef,undef,undef,undef,undef,undef,undef,undef,undef]):=by kernel_rfl
theorem t42 (K:zae) (E:zat) (x0 x1 x2:Value)  : den Tryz.prog (sel (za8 Tryz.f42) []) (zab Tryz.prog Tryz.f42.results.toList K E) #[x0,x1,x2,undef,undef,undef,undef,undef,undef,undef,undef,undef,undef,undef,undef,undef,undef,undef,undef,undef,undef,undef,undef,undef,undef,undef,undef,undef,undef,undef,undef,undef,undef,undef,undef,undef,undef,undef,undef,undef,undef,undef,undef,undef,undef,undef,undef,undef,undef,undef,undef] =
 nw 55 (Value.cells x1).toList fun t1=>
 pv (zan x0) fun t2=>
 pv (faV 0 t2) fun t3=>
 ld false 1 t3 fun t4=>
 za2 Tryz.prog (.func (.func 72) #[] #[]) #[t4,x2] (fun t5=>
 pv (exV 0 t5) fun t6=>
 pv (exV 1 t5) fun t7=>
 cnd t7 (
  pv (za1 .none .add t6 (.int .i64 1)) fun t8=>
  den Tryz.prog (sel (za8 Tryz.f42) [1,1,1]) (zab Tryz.prog Tryz.f42.results.toList K E) #[x0,x1,x2,undef,t1,undef,(.slice none 0 0),(.int .u16 0),t8,t7,undef,undef,undef,t5,x0,t2,t3,t4,x2,t5,t6,t7,t7,t6,t8,undef,undef,undef,undef,undef,undef,undef,undef,undef,undef,undef,undef,undef,undef,undef,undef,undef,undef,undef,undef,undef,undef,undef,undef,undef,undef]) (
  den Tryz.prog (sel (za8 Tryz.f42) [1,1,1]) (zab Tryz.prog Tryz.f42.results.toList K E) #[x0,x1,x2,undef,t1,undef,(.slice none 0 0),(.int .u16 0),t6,t7,undef,undef,undef,t5,x0,t2,t3,t4,x2,t5,t6,t7,t7,undef,undef,undef,undef,undef,undef,undef,undef,undef,undef,undef,undef,undef,undef,undef,undef,undef,undef,undef,undef,undef,undef,undef,undef,undef,undef,undef,undef])) E:=by
 refine (show _=den Tryz.prog (sel (za8 Tryz.f42) [0]) (za6 (den Tryz.prog (sel (za8 Tryz.f42) [1]) (zab Tryz.prog Tryz.f42.results.toList K E)) (zab Tryz.prog Tryz.f42.results.toList K E)) #[x0,x1,x2,undef,undef,undef,undef,undef,undef,undef,undef,undef,undef,undef,undef,undef,undef,undef,undef,undef,undef,undef,undef,undef,undef,undef,undef,undef,undef,undef,undef,undef,undef,undef,undef,undef,undef,undef,undef,undef,undef,undef,undef,undef,undef,undef,undef,undef,undef,undef,undef] from by kernel_rfl).trans ?_
 rw [q0]
 refine congrArg (nw 55 (Value.cells x1).toList) (funext fun t1=>?_)
 show den Tryz.prog (sel (za8 Tryz.f42) [1]) (zab Tryz.prog Tryz.f42.results.toList K E) #[x0,x1,x2,undef,t1,undef,(.slice none 0 0),(.int .u16 0),undef,undef,undef,undef,undef,undef,undef,undef,undef,undef,undef,undef,undef,undef,undef,undef,undef,undef,undef,undef,undef,undef,undef,undef,undef,undef,undef,undef,undef,undef,undef,undef,undef,undef,undef,undef,undef,undef,undef,undef,undef,undef,undef]=_
 refine (show _=den Tryz.prog (sel (za8 Tryz.f42) [1,0]) (za6 (den Tryz.prog (sel (za8 Tryz.f42) [1,1]) (zab Tryz.prog Tryz.f42.results.toList K E)) (zab Tryz.prog Tryz.f42.results.toList K E)) #[x0,x1,x2,undef,t1,undef,(.slice none 0 0),(.int .u16 0),undef,undef,undef,undef,undef,undef,undef,undef,undef,undef,undef,undef,undef,undef,undef,undef,undef,undef,undef,undef,undef,undef,undef,undef,undef,undef,undef,undef,undef,undef,undef,undef,undef,undef,undef,undef,undef,undef,undef,undef,undef,undef,undef] from by kernel_rfl).trans ?_
 rw [q1]
 refine congrArg (pv (zan x0)) (funext fun t2=>congrArg (pv (faV 0 t2)) (funext fun t3=>congrArg (ld false 1 t3) (funext fun t4=>?_)))
 refine congrArg (fun X=>za2 Tryz.prog (.func (.func 72) #[] #[]) #[t4,x2] X E) (funext fun t5=>congrArg (pv (exV 0 t5)) (funext fun t6=>congrArg (pv (exV 1 t5)) (funext fun t7=>?_)))
 show den Tryz.prog (sel (za8 Tryz.f42) [1,1]) (zab Tryz.prog Tryz.f42.results.toList K E) #[x0,x1,x2,undef,t1,undef,(.slice none 0 0),(.int .u16 0),t6,t7,undef,undef,undef,t5,x0,t2,t3,t4,x2,t5,t6,t7,undef,undef,undef,undef,undef,undef,undef,undef,undef,undef,undef,undef,undef,undef,undef,undef,undef,undef,undef,undef,undef,undef,undef,undef,undef,undef,undef,undef,undef]=_
 refine (show _=den Tryz.prog (sel (za8 Tryz.f42) [1,1,0]) (za6 (den Tryz.prog (sel (za8 Tryz.f42) [1,1,1]) (zab Tryz.prog Tryz.f42.results.toList K E)) (zab Tryz.prog Tryz.f42.results.toList K E)) #[x0,x1,x2,undef,t1,undef,(.slice none 0 0),(.int .u16 0),t6,t7,undef,undef,undef,t5,x0,t2,t3,t4,x2,t5,t6,t7,undef,undef,undef,undef,undef,undef,undef,undef,undef,undef,undef,undef,undef,undef,undef,undef,undef,undef,undef,undef,undef,undef,undef,undef,undef,undef,undef,undef,undef] from by kernel_rfl).trans ?_
 rw [q2]
 rfl
theorem zx8 (K:zae) (E:zat) (x0 x1 x2 x3 x4 x5 x6 x7 x8 x9 x10 x11 x12 x13 x14 x15 x16 x17 x18 x19 x20 x21 x22 x23 x24 x25 x26 x27 x28 x29 x30 x31 x32 x33 x34 x35 x36 x37 x38 x39 x40 x41 x42 x43 x44 x45 x46 x47 x48 x49 x50:Value)  : den Tryz.prog (sel (za8 Tryz.f42) [1,1,1]) (zab Tryz.prog Tryz.f42.results.toList K E) #[x0,x1,x2,x3,x4,x5,x6,x7,x8,x9,x10,x11,x12,x13,x14,x15,x16,x17,x18,x19,x20,x21,x22,x23,x24,x25,x26,x27,x28,x29,x30,x31,x32,x33,x34,x35,x36,x37,x38,x39,x40,x41,x42,x43,x44,x45,x46,x47,x48,x49,x50] =
 pv (zan x0) fun t1=>
 pv (faV 0 t1) fun t2=>
 ld false 1 t2 fun t3=>
 pv (slV 2 t3 none (some x8) none) fun t4=>
 pv (za9 t4) fun t5=>
 lp (fun k1=>den Tryz.prog (sel (za8 Tryz.f42) [1,1,1,1,0,1,0,0]) (za6 k1 (blk 0 (za6 (den Tryz.prog (sel (za8 Tryz.f42) [1,1,1,1,1]) (zab Tryz.prog Tryz.f42.results.toList K E)) (zab Tryz.prog Tryz.f42.results.toList K E))))) #[x0,x1,x2,x3,x4,x5,x6,x7,x8,x9,(.slice none 0 0),x11,x12,x13,x14,x15,x16,x17,x18,x19,x20,x21,x22,x23,x24,x0,t1,t2,t3,x8,t4,t5,(.int .i64 0),x33,x34,x35,x36,x37,x38,x39,x40,x41,x42,x43,x44,x45,x46,x47,x48,x49,x50]:=by kernel_rfl
def zdf (x0 x1 x2 x3 x4 x5 x6 x7 x8 x9 x11 x13 x14 x15 x16 x17 x18 x19 x20 x21 x22 x23 x24 x25 x26 x27 x28 x29 x30 x31 x41 x42 x43 x44 x45 x46 x47 x48 x49 x50:Value) (v10 v32:Value) (j:Nat→Value):Env:=#[x0,x1,x2,x3,x4,x5,x6,x7,x8,x9,v10,x11,(j 12),x13,x14,x15,x16,x17,x18,x19,x20,x21,x22,x23,x24,x25,x26,x27,x28,x29,x30,x31,v32,(j 33),(j 34),(j 35),(j 36),(j 37),(j 38),(j 39),(j 40),x41,x42,x43,x44,x45,x46,x47,x48,x49,x50]
theorem zo6 (K:zae) (E:zat) (k1:Env→Hp→Prop) (x0 x1 x2 x3 x4 x5 x6 x7 x8 x9 x11 x13 x14 x15 x16 x17 x18 x19 x20 x21 x22 x23 x24 x25 x26 x27 x28 x29 x30 x31 x41 x42 x43 x44 x45 x46 x47 x48 x49 x50 v10 v32:Value) (j:Nat→Value):den Tryz.prog (sel (za8 Tryz.f42) [1,1,1,1,0,1,0,0]) (za6 k1 (blk 0 (za6 (den Tryz.prog (sel (za8 Tryz.f42) [1,1,1,1,1]) (zab Tryz.prog Tryz.f42.results.toList K E)) (zab Tryz.prog Tryz.f42.results.toList K E)))) (zdf x0 x1 x2 x3 x4 x5 x6 x7 x8 x9 x11 x13 x14 x15 x16 x17 x18 x19 x20 x21 x22 x23 x24 x25 x26 x27 x28 x29 x30 x31 x41 x42 x43 x44 x45 x46 x47 x48 x49 x50 v10 v32 j) =
 pv (za1 .none .lss v32 x31) fun t1=>
 cnd t1 (
  pv (iaV none 2 x30 v32) fun t2=>
  ld true 2 t2 fun t3=>
  nw 74 [(.int .u32 0),(.slice none 0 0)] fun t4=>
  st 2 t4 t3 fun _=>
  pv (faV 1 t4) fun t5=>
  ld false 1 t5 fun t6=>
  zbf 90 2 32 v10 t6 fun t7=>
  pv (za1 .none .add v32 (.int .i64 1)) fun t8=>
  k1 (zdf x0 x1 x2 x3 x4 x5 x6 x7 x8 x9 x11 x13 x14 x15 x16 x17 x18 x19 x20 x21 x22 x23 x24 x25 x26 x27 x28 x29 x30 x31 x41 x42 x43 x44 x45 x46 x47 x48 x49 x50 t7 t8 (jf #[x0,x1,x2,x3,x4,x5,x6,x7,x8,x9,t7,x11,t4,x13,x14,x15,x16,x17,x18,x19,x20,x21,x22,x23,x24,x25,x26,x27,x28,x29,x30,x31,t8,t1,t2,t3,v10,t5,t6,t7,t8,x41,x42,x43,x44,x45,x46,x47,x48,x49,x50]))) (
  den Tryz.prog (sel (za8 Tryz.f42) [1,1,1,1,1]) (zab Tryz.prog Tryz.f42.results.toList K E) #[x0,x1,x2,x3,x4,x5,x6,x7,x8,x9,v10,x11,(j 12),x13,x14,x15,x16,x17,x18,x19,x20,x21,x22,x23,x24,x25,x26,x27,x28,x29,x30,x31,v32,t1,(j 34),(j 35),(j 36),(j 37),(j 38),(j 39),(j 40),x41,x42,x43,x44,x45,x46,x47,x48,x49,x50]):=by kernel_rfl
theorem zy7 (K:zae) (E:zat) (x0 x1 x2 x3 x4 x5 x6 x7 x8 x9 x10 x11 x12 x13 x14 x15 x16 x17 x18 x19 x20 x21 x22 x23 x24 x25 x26 x27 x28 x29 x30 x31 x32 x33 x34 x35 x36 x37 x38 x39 x40 x41 x42 x43 x44 x45 x46 x47 x48 x49 x50:Value)  : den Tryz.prog (sel (za8 Tryz.f42) [1,1,1,1,1]) (zab Tryz.prog Tryz.f42.results.toList K E) #[x0,x1,x2,x3,x4,x5,x6,x7,x8,x9,x10,x11,x12,x13,x14,x15,x16,x17,x18,x19,x20,x21,x22,x23,x24,x25,x26,x27,x28,x29,x30,x31,x32,x33,x34,x35,x36,x37,x38,x39,x40,x41,x42,x43,x44,x45,x46,x47,x48,x49,x50] =
 pv (zan x0) fun t1=>
 pv (faV 1 t1) fun t2=>
 ld false 1 t2 fun t3=>
 ld true 3 x4 fun t4=>
 za2 Tryz.prog (.func (.func 74) #[] #[]) #[x10] (fun t5 h6=>(ldV h6 true 3 x4 t4)∧(ldV h6 false 1 t2 t3)∧(
  za2 Tryz.prog (.func (.func 73) #[] #[]) #[t3,t5,t4] (fun t7=>
  pv (exV 0 t7) fun t8=>
  pv (exV 1 t7) fun t9=>
  K (.tuple #[t8,t9])) E) h6) E:=by kernel_rfl
theorem zo3 {K:zae} {E:zat} {σ:Type} {x0 x1 x2 x3 x4 x5 x6 x7 x8 x9 x11 x13 x14 x15 x16 x17 x18 x19 x20 x21 x22 x23 x24 x25 x26 x27 x28 x29 x30 x31 x41 x42 x43 x44 x45 x46 x47 x48 x49 x50 v10 v32 y12 y33 y34 y35 y36 y37 y38 y39 y40:Value} {h:Hp} (f10 f32:σ→Value) (I:σ→Hp→Prop) (μ:σ→Nat) (s0:σ) (e10:v10=f10 s0) (e32:v32=f32 s0) (h0:h.wf→∃ h',h.wk h'∧I s0 h')
 (round:∀ (k1:Env→Hp→Prop) (s:σ) (j:Nat→Value) (h:Hp),I s h→h.wf→(∀ s' j' h',μ s'<μ s→(h'.wf→∃ h'',h'.wk h''∧I s' h'')→k1 (zdf x0 x1 x2 x3 x4 x5 x6 x7 x8 x9 x11 x13 x14 x15 x16 x17 x18 x19 x20 x21 x22 x23 x24 x25 x26 x27 x28 x29 x30 x31 x41 x42 x43 x44 x45 x46 x47 x48 x49 x50 (f10 s') (f32 s') j') h')→(
 pv (za1 .none .lss (f32 s) x31) fun t1=>
 cnd t1 (
  pv (iaV none 2 x30 (f32 s)) fun t2=>
  ld true 2 t2 fun t3=>
  nw 74 [(.int .u32 0),(.slice none 0 0)] fun t4=>
  st 2 t4 t3 fun _=>
  pv (faV 1 t4) fun t5=>
  ld false 1 t5 fun t6=>
  zbf 90 2 32 (f10 s) t6 fun t7=>
  pv (za1 .none .add (f32 s) (.int .i64 1)) fun t8=>
  k1 (zdf x0 x1 x2 x3 x4 x5 x6 x7 x8 x9 x11 x13 x14 x15 x16 x17 x18 x19 x20 x21 x22 x23 x24 x25 x26 x27 x28 x29 x30 x31 x41 x42 x43 x44 x45 x46 x47 x48 x49 x50 t7 t8 (jf #[x0,x1,x2,x3,x4,x5,x6,x7,x8,x9,t7,x11,t4,x13,x14,x15,x16,x17,x18,x19,x20,x21,x22,x23,x24,x25,x26,x27,x28,x29,x30,x31,t8,t1,t2,t3,(f10 s),t5,t6,t7,t8,x41,x42,x43,x44,x45,x46,x47,x48,x49,x50]))) (
  den Tryz.prog (sel (za8 Tryz.f42) [1,1,1,1,1]) (zab Tryz.prog Tryz.f42.results.toList K E) #[x0,x1,x2,x3,x4,x5,x6,x7,x8,x9,(f10 s),x11,(j 12),x13,x14,x15,x16,x17,x18,x19,x20,x21,x22,x23,x24,x25,x26,x27,x28,x29,x30,x31,(f32 s),t1,(j 34),(j 35),(j 36),(j 37),(j 38),(j 39),(j 40),x41,x42,x43,x44,x45,x46,x47,x48,x49,x50])) h) :
 lp (fun k1=>den Tryz.prog (sel (za8 Tryz.f42) [1,1,1,1,0,1,0,0]) (za6 k1 (blk 0 (za6 (den Tryz.prog (sel (za8 Tryz.f42) [1,1,1,1,1]) (zab Tryz.prog Tryz.f42.results.toList K E)) (zab Tryz.prog Tryz.f42.results.toList K E))))) #[x0,x1,x2,x3,x4,x5,x6,x7,x8,x9,v10,x11,y12,x13,x14,x15,x16,x17,x18,x19,x20,x21,x22,x23,x24,x25,x26,x27,x28,x29,x30,x31,v32,y33,y34,y35,y36,y37,y38,y39,y40,x41,x42,x43,x44,x45,x46,x47,x48,x49,x50] h:=by
 subst e10
 subst e32
 have e:(#[x0,x1,x2,x3,x4,x5,x6,x7,x8,x9,(f10 s0),x11,y12,x13,x14,x15,x16,x17,x18,x19,x20,x21,x22,x23,x24,x25,x26,x27,x28,x29,x30,x31,(f32 s0),y33,y34,y35,y36,y37,y38,y39,y40,x41,x42,x43,x44,x45,x46,x47,x48,x49,x50]:Env)=zdf x0 x1 x2 x3 x4 x5 x6 x7 x8 x9 x11 x13 x14 x15 x16 x17 x18 x19 x20 x21 x22 x23 x24 x25 x26 x27 x28 x29 x30 x31 x41 x42 x43 x44 x45 x46 x47 x48 x49 x50 (f10 s0) (f32 s0) (jf #[x0,x1,x2,x3,x4,x5,x6,x7,x8,x9,(f10 s0),x11,y12,x13,x14,x15,x16,x17,x18,x19,x20,x21,x22,x23,x24,x25,x26,x27,x28,x29,x30,x31,(f32 s0),y33,y34,y35,y36,y37,y38,y39,y40,x41,x42,x43,x44,x45,x46,x47,x48,x49,x50]):=by kernel_rfl
 rw [e]
 exact zaj (fun s j=>zdf x0 x1 x2 x3 x4 x5 x6 x7 x8 x9 x11 x13 x14 x15 x16 x17 x18 x19 x20 x21 x22 x23 x24 x25 x26 x27 x28 x29 x30 x31 x41 x42 x43 x44 x45 x46 x47 x48 x49 x50 (f10 s) (f32 s) j) I μ (fun k s j h hI hw next=>by rw [zo6]; exact round k s j h hI hw next) s0 (jf #[x0,x1,x2,x3,x4,x5,x6,x7,x8,x9,(f10 s0),x11,y12,x13,x14,x15,x16,x17,x18,x19,x20,x21,x22,x23,x24,x25,x26,x27,x28,x29,x30,x31,(f32 s0),y33,y34,y35,y36,y37,y38,y39,y40,x41,x42,x43,x44,x45,x46,x47,x48,x49,x50]) h0
end Go.Proofs.YtgcmbkoejjcjlaaGreatDoor.T
open Go Go.RowKit Go.Proofs.YtgcmbkoejjcjlaaGreatDoor.K Go.Proofs.YtgcmbkoejjcjlaaGreatDoor.T
set_option linter.unusedVariables false
set_option linter.unusedSimpArgs false
namespace Go.Proofs.YtgcmbkoejjcjlaaGreatDoor.A
theorem mixed:Tryz.prog.follows .mixedOrders=true:=by kernel_rfl
variable {F F':Nat→Option (List Value)} {M M':Nat→Option zak} {N N':Nat} {K:zae} {E:zat}
theorem ybo (k:∀ g bm N',N≤bm→bm<g→g<N'→(Hp.mk F (upd (upd M bm (some (.obj (.map #[] 0)))) g (some (.cells 201 [.slice none 0 0,.map (some bm)] 2))) N').wf→K (.pointer (some ⟨g,0,none⟩)) ⟨F,upd (upd M bm (some (.obj (.map #[] 0)))) g (some (.cells 201 [.slice none 0 0,.map (some bm)] 2)),N'⟩) :
  za2 Tryz.prog (.func (.func 108) #[] #[]) #[] K E ⟨F,M,N⟩:=by
 refine za3 mixed Tryz.func108 (by kernel_rfl) (yp6 _ E) (fun hw=>?_)
 refine yjx (fun bm hbm=>?_)
 refine zaa (v:=.agg #[.slice none 0 0,.map (some bm)]) (by kernel_rfl) ?_
 refine zal (fun g hg hc=>?_)
 exact ⟨_,za0 hc,fun hw'=>k g bm _ hbm (by omega) (by omega) hw'⟩
end Go.Proofs.YtgcmbkoejjcjlaaGreatDoor.A
open Go Go.RowKit Go.Proofs.YtgcmbkoejjcjlaaGreatDoor.K Go.Proofs.YtgcmbkoejjcjlaaGreatDoor.T
set_option linter.unusedVariables false
set_option linter.unusedSimpArgs false
namespace Go.Proofs.YtgcmbkoejjcjlaaGreatDoor.A
variable {F F':Nat→Option (List Value)} {M M':Nat→Option zak} {N N':Nat} {K:zae} {E:zat}
structure CE where
 n:Int
 s:Int
 lo:Int
 hi:Int
 deriving DecidableEq
def CE.cs (c:CE):List Value:=[.int .i64 c.n,.int .i64 c.s,.int .i64 c.lo,.int .i64 c.hi]
theorem ym2 {v:Int} (k:∀ N',N≤N'→(Hp.mk F M N').wf→K (.agg (CE.mk 1 v v v).cs.toArray) ⟨F,M,N'⟩):za2 Tryz.prog (.func (.func 110) #[] #[]) #[.int .i64 v] K E ⟨F,M,N⟩:=by
 refine za3 mixed Tryz.func110 (by kernel_rfl) (yry _ E _) (fun hw=>?_)
 have hm:=hw.m
 refine zal (fun b hb=>?_)
 refine zaa (v:=.agg #[.int .i64 1,.int .i64 v,.int .i64 v,.int .i64 v]) (by kernel_rfl) ?_
 refine stM ?_
 refine zas fun hc=>?_
 exact ⟨⟨F,M,b+1⟩,zc3 hc,fun hw'=>k _ (by omega) hw'⟩
def CE.add (a b:CE):CE :=
 if b=⟨0,0,0,0⟩ then a else if a=⟨0,0,0,0⟩ then b else
  ⟨IntKind.i64.wrap (a.n+b.n),IntKind.i64.wrap (a.s+b.s),if b.lo<a.lo then b.lo else a.lo,if b.hi>a.hi then b.hi else a.hi⟩
theorem zvb {a b:CE} {h:Hp} (k:K (.bool (decide (a=b))) h):pv (ze0 .eql [0,0,0,0] (.agg a.cs.toArray) (.agg b.cs.toArray)) K h:=by
 refine ⟨_,?_,k⟩
 obtain ⟨a1,a2,a3,a4⟩:=a
 obtain ⟨b1,b2,b3,b4⟩:=b
 simp only [ze0,CE.cs]
 have hd:∀ x y:Int,(x == y)=decide (x=y):=fun _ _=>rfl
 by_cases h1:a1=b1<;>by_cases h2:a2=b2<;>by_cases h3:a3=b3<;>by_cases h4:a4=b4<;>simp [zht,zl7,hd,h1,h2,h3,h4]
theorem ynn {g:Nat} {ty:TypeId} {a b:CE} (hM:M g=some (.cells ty a.cs 4)) (k:∀ N',N≤N'→(Hp.mk F (upd M g (some (.cells ty (a.add b).cs 4))) N').wf→K (.tuple #[]) ⟨F,upd M g (some (.cells ty (a.add b).cs 4)),N'⟩) :
  za2 Tryz.prog (.func (.func 169) #[] #[]) #[.pointer (some ⟨g,0,none⟩),.agg b.cs.toArray] K E ⟨F,M,N⟩:=by
 refine za3 mixed Tryz.func169 (by kernel_rfl) (yqm _ E _ _) (fun hw=>?_)
 have hm:=hw.m
 have hg:g<N:=by
  rcases Nat.lt_or_ge g N with h | h
  ·exact h
  ·rw [hm g h] at hM; cases hM
 refine zal (cs:=b.cs) (fun b1 hb1=>?_)
 refine zaa (v:=.agg #[.int .i64 0,.int .i64 0,.int .i64 0,.int .i64 0]) (by kernel_rfl) ?_
 refine zal (fun b2 hb2=>?_)
 refine stM ?_
 refine zas (vs:=b.cs) ?_
 refine zas (vs:=(CE.mk 0 0 0 0).cs) ?_
 refine zvb ?_
 by_cases hb0:b=⟨0,0,0,0⟩
 ·rw [decide_eq_true hb0]
  refine zdd fun hc=>?_
  have e:a.add b=a:=by unfold CE.add; rw [if_pos hb0]
  rw [e] at k
  have e2:upd M g (some (.cells ty a.cs 4))=M:=by
   funext q
   by_cases hq:q=g
   ·rw [hq,za5,hM]
   ·rw [za4 _ _ hq]
  rw [e2] at k
  exact ⟨⟨F,M,b2+1⟩,zc3 hc,fun hw'=>k _ (by omega) hw'⟩
 rw [decide_eq_false hb0]
 refine zc8 (zaa rfl (zaa rfl ?_))
 refine zas (vs:=a.cs) ?_
 refine zas (vs:=(CE.mk 0 0 0 0).cs) ?_
 refine zvb ?_
 by_cases ha0:a=⟨0,0,0,0⟩
 ·rw [decide_eq_true ha0]
  refine zdd ?_
  refine zas (vs:=b.cs) ?_
  refine zaa rfl (zaa rfl (stM (cs':=b.cs) ?_))
  have e:a.add b=b:=by unfold CE.add; rw [if_neg hb0,if_pos ha0]
  rw [e] at k
  refine fun hc=>⟨⟨F,upd M g (some (.cells ty b.cs 4)),b2+1⟩,zbp hc (zx2 ?_),fun hw'=>k _ (by omega) hw'⟩
  exact zav (zav (zav (zb6 _) (hm _ (by omega))) (hm _ (by omega))) (hm _ (by omega))
 rw [decide_eq_false ha0]
 have e:a.add b=⟨IntKind.i64.wrap (a.n+b.n),IntKind.i64.wrap (a.s+b.s),if b.lo<a.lo then b.lo else a.lo,if b.hi>a.hi then b.hi else a.hi⟩:=by unfold CE.add; rw [if_neg hb0,if_neg ha0]
 rw [e] at k
 refine zc8 (zaa rfl (zaa rfl (zaa rfl ?_)))
 refine ldM (v:=.int .i64 a.n) ?_
 refine zaa rfl (ldM (v:=.int .i64 b.n) ?_)
 refine zaa (v:=.int .i64 (IntKind.i64.wrap (a.n+b.n))) (by simp [za1,zg0]) ?_
 refine zaa rfl (zaa rfl (zaa rfl ?_))
 refine stM (cs':=[.int .i64 (IntKind.i64.wrap (a.n+b.n)),.int .i64 a.s,.int .i64 a.lo,.int .i64 a.hi]) ?_
 refine zaa rfl (zaa rfl (zaa rfl ?_))
 refine ldM (v:=.int .i64 a.s) ?_
 refine zaa rfl (ldM (v:=.int .i64 b.s) ?_)
 refine zaa (v:=.int .i64 (IntKind.i64.wrap (a.s+b.s))) (by simp [za1,zg0]) ?_
 refine zaa rfl (zaa rfl (zaa rfl ?_))
 refine stM (cs':=[.int .i64 (IntKind.i64.wrap (a.n+b.n)),.int .i64 (IntKind.i64.wrap (a.s+b.s)),.int .i64 a.lo,.int .i64 a.hi]) ?_
 refine zaa rfl (zaa rfl (zaa rfl ?_))
 refine ldM (v:=.int .i64 a.lo) ?_
 refine zaa rfl (ldM (v:=.int .i64 b.lo) ?_)
 refine zaa (v:=.int .i64 (if b.lo<a.lo then b.lo else a.lo)) (by simp [mm]) ?_
 refine zaa rfl (zaa rfl (zaa rfl ?_))
 refine stM (cs':=[.int .i64 (IntKind.i64.wrap (a.n+b.n)),.int .i64 (IntKind.i64.wrap (a.s+b.s)),.int .i64 (if b.lo<a.lo then b.lo else a.lo),.int .i64 a.hi]) ?_
 refine zaa rfl (zaa rfl (zaa rfl ?_))
 refine ldM (v:=.int .i64 a.hi) ?_
 refine zaa rfl (ldM (v:=.int .i64 b.hi) ?_)
 refine zaa (v:=.int .i64 (if b.hi>a.hi then b.hi else a.hi)) (by simp [mm]) ?_
 refine zaa rfl (zaa rfl (zaa rfl ?_))
 refine stM (cs':=[.int .i64 (IntKind.i64.wrap (a.n+b.n)),.int .i64 (IntKind.i64.wrap (a.s+b.s)),.int .i64 (if b.lo<a.lo then b.lo else a.lo),.int .i64 (if b.hi>a.hi then b.hi else a.hi)]) ?_
 intro hc
 refine ⟨⟨F,upd M g (some (.cells ty (CE.mk (IntKind.i64.wrap (a.n+b.n)) (IntKind.i64.wrap (a.s+b.s)) (if b.lo<a.lo then b.lo else a.lo) (if b.hi>a.hi then b.hi else a.hi)).cs 4)),b2+1⟩,zbp hc fun q c hq=>?_,fun hw'=>k _ (by omega) hw'⟩
 by_cases hqg:q=g
 ·subst hqg; rw [za5] at hq ⊢; exact hq
 ·rw [za4 _ _ hqg] at hq
  have:q<N:=by
   rcases Nat.lt_or_ge q N with h | h
   ·exact h
   ·rw [hm q h] at hq; cases hq
  rw [za4 _ _ hqg,za4 _ _ hqg,za4 _ _ hqg,za4 _ _ hqg,za4 _ _ (by omega),za4 _ _ (by omega),za4 _ _ (by omega)]
  exact hq
def CE.merge (a b:CE):CE:=if 0=a.n then b else if 0=b.n then a else a.add b
theorem yku {a b:CE} (k:∀ N',N≤N'→(Hp.mk F M N').wf→K (.agg (a.merge b).cs.toArray) ⟨F,M,N'⟩):za2 Tryz.prog (.func (.func 144) #[] #[]) #[.agg a.cs.toArray,.agg b.cs.toArray] K E ⟨F,M,N⟩:=by
 refine za3 mixed Tryz.func144 (by kernel_rfl) (yqk _ E _ _) (fun hw=>?_)
 have hm:=hw.m
 refine zal (cs:=a.cs) (fun b1 hb1=>?_)
 refine zal (cs:=b.cs) (fun b2 hb2=>?_)
 refine zal (fun b3 hb3=>?_)
 refine zaa rfl (ldM (v:=.int .i64 a.n) ?_)
 refine zba (fun ha=>?_) (fun ha=>?_)
 ·have e:a.merge b=b:=by unfold CE.merge; rw [if_pos ha]
  rw [e] at k
  refine zdd (zas (vs:=b.cs) ?_)
  refine stM (cs':=b.cs) ?_
  refine zas (vs:=b.cs) fun hc=>?_
  exact ⟨⟨F,M,b3+1⟩,zc3 hc,fun hw'=>k _ (by omega) hw'⟩
 refine zc8 (zaa rfl (ldM (v:=.int .i64 b.n) ?_))
 refine zba (fun hb=>?_) (fun hb=>?_)
 ·have e:a.merge b=a:=by unfold CE.merge; rw [if_neg ha,if_pos hb]
  rw [e] at k
  refine zdd (zas (vs:=a.cs) ?_)
  refine stM (cs':=a.cs) ?_
  refine zas (vs:=a.cs) fun hc=>?_
  exact ⟨⟨F,M,b3+1⟩,zc3 hc,fun hw'=>k _ (by omega) hw'⟩
 have e:a.merge b=a.add b:=by unfold CE.merge; rw [if_neg ha,if_neg hb]
 rw [e] at k
 refine zc8 (zas (vs:=a.cs) ?_)
 refine zaa (v:=.agg a.cs.toArray) (by kernel_rfl) ?_
 refine zal (fun b4 hb4=>?_)
 refine stM (cs':=a.cs) ?_
 refine zas (vs:=b.cs) ?_
 refine ynn (a:=a) (b:=b) (ty:=224) (za5 _ _ _) (fun N' hN' hw'=>?_)
 refine zaa rfl (zas (vs:=(a.add b).cs) ?_)
 refine stM (cs':=(a.add b).cs) ?_
 refine zas (vs:=(a.add b).cs) fun hc=>?_
 exact ⟨⟨F,M,N'⟩,zc3 hc,fun hw'=>k _ (by omega) hw'⟩
def ic (l:List Int):List Value:=l.map (.int .i64)
theorem zmg {v:Value} {l:List Int} (hm0:∀ q,N≤q→M q=none) (hv:sR F M 1 v l.length (ic l)) (hl:l.length≤10000000000000)
  (k:∀ v' F' N',(Hp.mk F' M N').wf→zac F F'→N≤N'→sF F' 1 v' l.length (ic l)→K v' ⟨F',M,N'⟩):za2 Tryz.prog (.func (.func 65) #[] #[]) #[v] K E ⟨F,M,N⟩:=by
 refine za3 mixed Tryz.func65 (by kernel_rfl) (t65 _ E _) (fun hw=>?_)
 obtain ⟨a,c,rfl,hc⟩:=hv.form
 cases a with
 | none=>
  have h0:l.length=0:=by rcases hv.2 with ⟨a',c',h1,h2⟩ | ⟨b,o,c',cs,h1,_⟩; exact h2; simp at h1
  have hl0:l=[]:=List.eq_nil_of_length_eq_zero h0
  refine zaa rfl (zdd fun hc=>⟨_,za0 hc,fun hw'=>k _ F N hw' (zac.refl _) (Nat.le_refl _) ?_⟩)
  rw [hl0]; exact sF.nil _ _ _
 | some ad=>
  refine zaa rfl (zc8 ?_)
  refine zde (cs:=[]) (by kernel_rfl) (fun b0 hb0=>?_)
  refine ya5 (n:=0) (cs:=[]) (m:=l.length) (news:=ic l) (yah (za5 _ _ _) rfl) (hv.new hw.m hb0).read (zg5 _) (by omega) (by simp [maxLen]; omega) (fun h=>by cases h) (fun _ b c' hb hmc hcm hc=>?_)
  have hb':N≤b:=by rcases hb with h | h; omega; simp [Value.ownBlock] at h; omega
  rw [Nat.zero_add] at hmc
  refine ⟨⟨upd F b (some (ic l)),M,max (b0+1) (b+1)⟩,yg5 (M0:=M) hc ?_ (hm0 b hb') (za5 _ _ _),fun hw'=>k _ _ _ hw' (zac.upd (hw.f b hb')) (by omega) ?_⟩
  ·intro q c hq
   have hqN:q<N:=by
    rcases Nat.lt_or_ge q N with h | h
    ·exact h
    ·rw [hm0 q h] at hq; cases hq
   exact (za4 _ _ (by omega)).trans ((zlp _ (by simp [Value.ownBlock]; omega)).trans ((za4 _ _ (by omega)).trans hq))
  ·rw [Nat.zero_add]
   exact ya8 (by simp [ic]) hmc
theorem ynv {v:Int} (k:∀ N',N≤N'→(Hp.mk F M N').wf→K (.agg (CE.mk 1 v v v).cs.toArray) ⟨F,M,N'⟩):za2 Tryz.prog (.func (.func 151) #[] #[]) #[.int .i64 v] K E ⟨F,M,N⟩:=by
 refine za3 mixed Tryz.func151 (by kernel_rfl) (yrx _ E _) (fun hw=>?_)
 have hm:=hw.m
 refine zal (fun b hb=>?_)
 refine zaa (v:=.agg #[.int .i64 1,.int .i64 v,.int .i64 v,.int .i64 v]) (by kernel_rfl) ?_
 refine stM ?_
 refine zas fun hc=>?_
 exact ⟨⟨F,M,b+1⟩,zc3 hc,fun hw'=>k _ (by omega) hw'⟩
def CE.sum (a b:CE):CE:=⟨IntKind.i64.wrap (a.n+b.n),IntKind.i64.wrap (a.s+b.s),if b.lo<a.lo then b.lo else a.lo,if b.hi>a.hi then b.hi else a.hi⟩
def CE.rmerge (a b:CE):CE:=if a.n=0 then b else if b.n=0 then a else a.sum b
theorem yiw {a b:CE} (k:∀ N',N≤N'→(Hp.mk F M N').wf→K (.agg (a.rmerge b).cs.toArray) ⟨F,M,N'⟩):za2 Tryz.prog (.func (.func 178) #[] #[]) #[.agg a.cs.toArray,.agg b.cs.toArray] K E ⟨F,M,N⟩:=by
 refine za3 mixed Tryz.func178 (by kernel_rfl) (yst _ E _ _) (fun hw=>?_)
 have hm:=hw.m
 refine zal (cs:=a.cs) (fun b1 hb1=>?_)
 refine zal (cs:=b.cs) (fun b2 hb2=>?_)
 refine zal (fun b3 hb3=>?_)
 refine zaa rfl (ldM (v:=.int .i64 a.n) ?_)
 refine zba (fun ha=>?_) (fun ha=>?_)
 ·have e:a.rmerge b=b:=by unfold CE.rmerge; rw [if_pos ha]
  rw [e] at k
  refine zdd (zas (vs:=b.cs) ?_)
  refine stM (cs':=b.cs) ?_
  refine zas (vs:=b.cs) fun hc=>?_
  exact ⟨⟨F,M,b3+1⟩,zc3 hc,fun hw'=>k _ (by omega) hw'⟩
 refine zc8 (zaa rfl (ldM (v:=.int .i64 b.n) ?_))
 refine zba (fun hb=>?_) (fun hb=>?_)
 ·have e:a.rmerge b=a:=by unfold CE.rmerge; rw [if_neg ha,if_pos hb]
  rw [e] at k
  refine zdd (zas (vs:=a.cs) ?_)
  refine stM (cs':=a.cs) ?_
  refine zas (vs:=a.cs) fun hc=>?_
  exact ⟨⟨F,M,b3+1⟩,zc3 hc,fun hw'=>k _ (by omega) hw'⟩
 have e:a.rmerge b=a.sum b:=by unfold CE.rmerge; rw [if_neg ha,if_neg hb]
 rw [e] at k
 refine zc8 (zaa rfl (ldM (v:=.int .i64 a.n) ?_))
 refine zaa rfl (ldM (v:=.int .i64 b.n) ?_)
 refine zaa (v:=.int .i64 (IntKind.i64.wrap (a.n+b.n))) (by simp [za1,zg0]) ?_
 refine zaa rfl (ldM (v:=.int .i64 a.s) ?_)
 refine zaa rfl (ldM (v:=.int .i64 b.s) ?_)
 refine zaa (v:=.int .i64 (IntKind.i64.wrap (a.s+b.s))) (by simp [za1,zg0]) ?_
 refine zaa rfl (ldM (v:=.int .i64 a.lo) ?_)
 refine zaa rfl (ldM (v:=.int .i64 b.lo) ?_)
 refine zaa (v:=.int .i64 (if b.lo<a.lo then b.lo else a.lo)) (by simp [mm]) ?_
 refine zaa rfl (ldM (v:=.int .i64 a.hi) ?_)
 refine zaa rfl (ldM (v:=.int .i64 b.hi) ?_)
 refine zaa (v:=.int .i64 (if b.hi>a.hi then b.hi else a.hi)) (by simp [mm]) ?_
 refine zaa (v:=.agg (a.sum b).cs.toArray) (by kernel_rfl) ?_
 refine stM (cs':=(a.sum b).cs) ?_
 refine zas (vs:=(a.sum b).cs) fun hc=>?_
 exact ⟨⟨F,M,b3+1⟩,zc3 hc,fun hw'=>k _ (by omega) hw'⟩
end Go.Proofs.YtgcmbkoejjcjlaaGreatDoor.A
open Go
namespace Go.Proofs.YtgcmbkoejjcjlaaGreatDoor.A
theorem yhu (a b:CE):a.merge b=a.rmerge b:=by
 unfold CE.merge CE.rmerge
 by_cases ha:a.n=0
 ·rw [if_pos ha.symm,if_pos ha]
 rw [if_neg (fun e=>ha e.symm),if_neg ha]
 by_cases hb:b.n=0
 ·rw [if_pos hb.symm,if_pos hb]
 rw [if_neg (fun e=>hb e.symm),if_neg hb]
 unfold CE.add CE.sum
 rw [if_neg (fun e=>hb (by rw [e])),if_neg (fun e=>ha (by rw [e]))]
end Go.Proofs.YtgcmbkoejjcjlaaGreatDoor.A
open Go
set_option linter.unusedVariables false
set_option linter.unusedSimpArgs false
namespace Go.Proofs.YtgcmbkoejjcjlaaGreatDoor.A
def zbn:List Int→List Int→Int
 | [],[]=>0
 | [],_::_=>-1
 | _::_,[]=>1
 | a::l,b::m=>if a<b then -1 else if a>b then 1 else zbn l m
theorem zgi:∀ a,zbn a a=0
 | []=>rfl
 | a::l=>by simp [zbn,zgi l]
theorem zkj:∀ {a b:List Int},zbn a b=0→a=b
 | [],[],_=>rfl
 | [],b::m,h=>by simp [zbn] at h
 | a::l,[],h=>by simp [zbn] at h
 | a::l,b::m,h=>by
  simp only [zbn] at h
  split at h
  ·omega
  ·split at h
   ·omega
   ·have := zkj h
    rw [this,show a=b by omega]
theorem zjm:∀ (a b:List Int),zbn b a = - zbn a b
 | [],[]=>rfl
 | [],b::m=>rfl
 | a::l,[]=>rfl
 | a::l,b::m=>by
  simp only [zbn]
  rcases Int.lt_trichotomy a b with h | h | h
  ·rw [if_neg (by omega),if_pos (by omega),if_pos h]; rfl
  ·subst h; simp [zjm l m]
  ·rw [if_pos (by omega),if_neg (by omega),if_pos (by omega)]
theorem ziw:∀ {a b c:List Int},zbn a b<0→zbn b c<0→zbn a c<0
 | [],[],c,h,_=>by simp [zbn] at h
 | [],b::m,[],_,h=>by simp [zbn] at h
 | [],b::m,c::o,_,_=>by simp [zbn]
 | a::l,[],c,h,_=>by simp [zbn] at h
 | a::l,b::m,[],_,h=>by simp [zbn] at h
 | a::l,b::m,c::o,h1,h2=>by
  simp only [zbn] at h1 h2 ⊢
  by_cases ha:a<b
  ·by_cases hb:b<c
   ·rw [if_pos (by omega)]; decide
   ·rw [if_neg hb] at h2
    by_cases hc:b>c
    ·rw [if_pos hc] at h2; omega
    ·rw [if_pos (by omega)]; decide
  ·rw [if_neg ha] at h1
   by_cases ha2:a>b
   ·rw [if_pos ha2] at h1; omega
   ·rw [if_neg ha2] at h1
    have:a=b:=by omega
    subst this
    by_cases hb:a<c
    ·rw [if_pos hb]; decide
    ·rw [if_neg hb] at h2 ⊢
     by_cases hc:a>c
     ·rw [if_pos hc] at h2; omega
     ·rw [if_neg hc] at h2 ⊢
      exact ziw h1 h2
abbrev Rw:=List Int×CE
def zbc:List Rw→List Int→Option CE
 | [],_=>none
 | (k',c)::t,k=>if k'=k then some c else zbc t k
theorem zh8:∀ {t:List Rw} {k:List Int},zbc t k=none↔∀ x∈t,x.1≠k
 | [],k=>by simp [zbc]
 | (k',c)::t,k=>by
  simp only [zbc]
  split
  ·rename_i h; simp [h]
  ·rename_i h; rw [zh8]; simp [h]
def nodup (t:List Rw):Prop:=t.Pairwise fun a b=>a.1≠b.1
theorem zhc:∀ {t:List Rw} {k:List Int} {c:CE},nodup t→(zbc t k=some c↔(k,c)∈t)
 | [],k,c,_=>by simp [zbc]
 | (k',c')::t,k,c,h=>by
  have h':=List.pairwise_cons.1 h
  simp only [zbc]
  split
  ·rename_i e
   subst e
   constructor
   ·intro e; cases e; simp
   ·intro e
    rcases List.mem_cons.1 e with e | e
    ·cases e; rfl
    ·exact absurd rfl (h'.1 (k',c) e)
  ·rename_i e
   rw [zhc h'.2]
   simp [Ne.symm e]
def srt (t:List Rw):Prop:=t.Pairwise fun a b=>zbn a.1 b.1<0
theorem srt.nodup {t:List Rw} (h:srt t):nodup t:=h.imp fun {a b} h e=>by rw [e,zgi] at h; omega
theorem nodup.perm {a b:List Rw} (h:nodup a) (p:a.Perm b):nodup b:=p.pairwise h (fun {x y} h=>Ne.symm h)
theorem yej {a b:List Rw} (h:nodup a) (p:a.Perm b) (k:List Int):zbc a k=zbc b k:=by
 cases hb:zbc b k with
 | none=>
  rw [zh8] at hb ⊢
  exact fun x hx=>hb x (p.mem_iff.1 hx)
 | some c=>
  rw [zhc h]
  exact p.mem_iff.2 ((zhc (h.perm p)).1 hb)
theorem zw5:∀ {a b:List Rw},srt a→srt b→(∀ k,zbc a k=zbc b k)→a=b
 | [],[],_,_,_=>rfl
 | [],(k,c)::b,_,_,h=>by have := h k; simp [zbc] at this
 | (k,c)::a,[],_,_,h=>by have := h k; simp [zbc] at this
 | (k,c)::a,(k',c')::b,ha,hb,h=>by
  have ha':=List.pairwise_cons.1 ha
  have hb':=List.pairwise_cons.1 hb
  have hk:k=k':=by
   have h1:(k,c)∈(k',c')::b:=(zhc hb.nodup).1 (by rw [← h k]; simp [zbc])
   have h2:(k',c')∈(k,c)::a:=(zhc ha.nodup).1 (by rw [h k']; simp [zbc])
   rcases List.mem_cons.1 h1 with e | e
   ·cases e; rfl
   ·rcases List.mem_cons.1 h2 with e' | e'
    ·cases e'; rfl
    ·have := ha'.1 _ e'
     have := hb'.1 _ e
     have h3:=zjm k k'
     simp only at *
     omega
  subst hk
  have hc:c=c':=by have := h k; simpa [zbc] using this
  subst hc
  have:a=b:=zw5 ha'.2 hb'.2 fun q=>by
   by_cases hq:k=q
   ·subst hq
    rw [zh8.2 (fun x hx e=>by have := ha'.1 x hx; rw [e,zgi] at this; omega),zh8.2 (fun x hx e=>by have := hb'.1 x hx; rw [e,zgi] at this; omega)]
   ·have := h q
    simpa [zbc,hq] using this
  rw [this]
def mrg (o:Option CE) (c:CE):CE:=match o with
 | none=>c
 | some c'=>c'.merge c
def zey:List Rw→List Int→CE→List Rw
 | [],k,c=>[(k,c)]
 | (k',c')::t,k,c=>if k'=k then (k',c'.merge c)::t else (k',c')::zey t k c
theorem zs6:∀ {t:List Rw} {i:Nat} {k:List Int} {c c':CE},nodup t→t[i]?=some (k,c')→zey t k c=t.set i (k,c'.merge c)
 | [],i,k,c,c',_,h=>by simp at h
 | (k1,c1)::t,0,k,c,c',_,h=>by simp at h; obtain ⟨rfl,rfl⟩:=h; simp [zey]
 | (k1,c1)::t,i+1,k,c,c',hn,h=>by
  have hn':=List.pairwise_cons.1 hn
  have h':t[i]?=some (k,c'):=by simpa using h
  have:k1≠k:=hn'.1 _ (List.mem_of_getElem? h')
  simp [zey,this,zs6 hn'.2 h']
theorem zou:∀ {t:List Rw} {k:List Int} {c:CE},(∀ x∈t,x.1≠k)→zey t k c=t++[(k,c)]
 | [],k,c,_=>rfl
 | (k1,c1)::t,k,c,h=>by
  have := h (k1,c1) (by simp)
  simp only at this
  simp [zey,this,zou (fun x hx=>h x (List.mem_cons_of_mem _ hx))]
theorem zxu:∀ (t:List Rw) (k:List Int) (c:CE) (x:Rw),x∈zey t k c→x.1=k∨∃ y∈t,y.1=x.1
 | [],k,c,x,h=>by simp [zey] at h; exact .inl (by rw [h])
 | (k1,c1)::t,k,c,x,h=>by
  simp only [zey] at h
  split at h
  ·rename_i e
   rcases List.mem_cons.1 h with h | h
   ·exact .inl (by rw [h]; exact e)
   ·exact .inr ⟨x,by simp [h],rfl⟩
  ·rcases List.mem_cons.1 h with h | h
   ·exact .inr ⟨(k1,c1),by simp,by rw [h]⟩
   ·rcases zxu t k c x h with h | ⟨y,hy,e⟩
    ·exact .inl h
    ·exact .inr ⟨y,by simp [hy],e⟩
theorem zke:∀ {t:List Rw} {k:List Int} {c:CE},nodup t→nodup (zey t k c)
 | [],k,c,_=>by simp [zey,nodup]
 | (k1,c1)::t,k,c,h=>by
  have h':=List.pairwise_cons.1 h
  simp only [zey]
  split
  ·exact List.pairwise_cons.2 ⟨h'.1,h'.2⟩
  ·rename_i hk
   refine List.pairwise_cons.2 ⟨fun x hx=>?_,zke h'.2⟩
   rcases zxu t k c x hx with e | ⟨y,hy,e⟩
   ·rw [e]; exact hk
   ·rw [← e]; exact h'.1 y hy
theorem zxo:∀ (t:List Rw) (k:List Int) (c:CE) (q:List Int),zbc (zey t k c) q=if k=q then some (mrg (zbc t k) c) else zbc t q
 | [],k,c,q=>by simp [zey,zbc,mrg]
 | (k1,c1)::t,k,c,q=>by
  simp only [zey]
  by_cases h:k1=k
  ·subst h
   rw [if_pos rfl]
   simp only [zbc,if_true]
   by_cases h2:k1=q
   ·simp [h2,mrg]
   ·simp [h2]
  ·rw [if_neg h]
   simp only [zbc,if_neg h]
   rw [zxo t k c q]
   by_cases h2:k1=q
   ·rw [if_pos h2,if_neg (fun e=>h (by rw [h2,e])),if_pos h2]
   ·rw [if_neg h2,if_neg h2]
def layR:List Rw→List Int→CE→List Rw
 | [],k,c=>[(k,c)]
 | (k',c')::t,k,c=>if zbn k' k<0 then (k',c')::layR t k c else if zbn k' k=0 then (k,c'.merge c)::t else (k,c)::(k',c')::t
theorem zpd:∀ (t:List Rw) (k:List Int) (c:CE) (x:Rw),x∈layR t k c→x.1=k∨x∈t
 | [],k,c,x,h=>by simp [layR] at h; exact .inl (by rw [h])
 | (k1,c1)::t,k,c,x,h=>by
  simp only [layR] at h
  split at h
  ·rcases List.mem_cons.1 h with h | h
   ·exact .inr (by rw [h]; simp)
   ·rcases zpd t k c x h with h | h
    ·exact .inl h
    ·exact .inr (by simp [h])
  ·split at h
   ·rcases List.mem_cons.1 h with h | h
    ·exact .inl (by rw [h])
    ·exact .inr (by simp [h])
   ·rcases List.mem_cons.1 h with h | h
    ·exact .inl (by rw [h])
    ·exact .inr h
theorem znq:∀ {t:List Rw} {k:List Int} {c:CE},srt t→srt (layR t k c)
 | [],k,c,_=>by simp [layR,srt]
 | (k1,c1)::t,k,c,h=>by
  have h':=List.pairwise_cons.1 h
  simp only [layR]
  split
  ·rename_i hk
   refine List.pairwise_cons.2 ⟨fun x hx=>?_,znq h'.2⟩
   rcases zpd t k c x hx with e | e
   ·rw [e]; exact hk
   ·exact h'.1 x e
  ·split
   ·rename_i hk
    have := zkj hk
    subst this
    exact List.pairwise_cons.2 ⟨h'.1,h'.2⟩
   ·rename_i h1 h2
    have h3:zbn k k1<0:=by rw [zjm k1 k]; omega
    refine List.pairwise_cons.2 ⟨fun x hx=>?_,h⟩
    rcases List.mem_cons.1 hx with e | e
    ·rw [e]; exact h3
    ·exact ziw h3 (h'.1 x e)
theorem zp0:∀ {t:List Rw} (k:List Int) (c:CE) (q:List Int),srt t→zbc (layR t k c) q=if k=q then some (mrg (zbc t k) c) else zbc t q
 | [],k,c,q,_=>by simp [layR,zbc,mrg]
 | (k1,c1)::t,k,c,q,h=>by
  have h':=List.pairwise_cons.1 h
  simp only [layR]
  split
  ·rename_i hk
   have hne:k1≠k:=fun e=>by rw [e,zgi] at hk; omega
   simp only [zbc,if_neg hne]
   rw [zp0 k c q h'.2]
   by_cases h2:k1=q
   ·rw [if_pos h2,if_neg (fun e=>hne (by rw [h2,e])),if_pos h2]
   ·rw [if_neg h2,if_neg h2]
  ·split
   ·rename_i hk
    have := zkj hk
    subst this
    simp only [zbc,if_true]
    by_cases h2:k1=q
    ·simp [h2,mrg]
    ·simp [h2]
   ·rename_i h1 h2
    have hne:k1≠k:=fun e=>h2 (by rw [e,zgi])
    have hno:zbc t k=none:=zh8.2 fun x hx e=>by
     have h3:=h'.1 x hx
     rw [e] at h3
     exact h1 h3
    simp only [zbc,if_neg hne,hno,mrg]
def tab (l:List Rw):List Rw:=l.foldl (fun t r=>layR t r.1 r.2) []
def zgy (l:List Rw):List Rw:=l.foldl (fun t r=>zey t r.1 r.2) []
theorem yhm (l:List Rw) (r:Rw):tab (l++[r])=layR (tab l) r.1 r.2:=by simp [tab]
theorem zua (l:List Rw) (r:Rw):zgy (l++[r])=zey (zgy l) r.1 r.2:=by simp [zgy]
theorem yis (l:List Rw):∀ t,srt t→srt (l.foldl (fun t r=>layR t r.1 r.2) t):=by
 induction l with
 | nil=>exact fun t h=>h
 | cons r l ih=>exact fun t h=>ih _ (znq h)
theorem yd3 (l:List Rw):∀ t,nodup t→nodup (l.foldl (fun t r=>zey t r.1 r.2) t):=by
 induction l with
 | nil=>exact fun t h=>h
 | cons r l ih=>exact fun t h=>ih _ (zke h)
theorem zpe (l:List Rw):srt (tab l):=yis l [] .nil
theorem ybe (l:List Rw):nodup (zgy l):=yd3 l [] .nil
theorem yeq (l:List Rw):∀ (s t:List Rw),srt t→(∀ q,zbc s q=zbc t q)→∀ q,zbc (l.foldl (fun t r=>zey t r.1 r.2) s) q=zbc (l.foldl (fun t r=>layR t r.1 r.2) t) q:=by
 induction l with
 | nil=>exact fun s t _ h=>h
 | cons r l ih=>
  intro s t ht h
  refine ih _ _ (znq ht) fun q=>?_
  rw [zxo,zp0 _ _ _ ht,h,h]
theorem yd4 (l:List Rw) (q:List Int):zbc (zgy l) q=zbc (tab l) q:=yeq l [] [] .nil (fun _=>rfl) q
theorem zp3 {l d:List Rw} (p:(zgy l).Perm d) (h:srt d):d=tab l :=
 zw5 h (zpe l) fun q=>by rw [← yej (ybe l) p,yd4]
theorem ya9 (t:List Rw) (k:List Int) (c:CE):(zey t k c).length≤t.length+1:=by
 induction t with
 | nil=>simp [zey]
 | cons x t ih=>
  obtain ⟨k1,c1⟩:=x
  simp only [zey]
  split
  ·simp
  ·simp; omega
theorem yij (t:List Rw) (k:List Int) (c:CE):(layR t k c).length≤t.length+1:=by
 induction t with
 | nil=>simp [layR]
 | cons x t ih=>
  obtain ⟨k1,c1⟩:=x
  simp only [layR]
  split
  ·simp; omega
  ·split<;>simp
end Go.Proofs.YtgcmbkoejjcjlaaGreatDoor.A
open Go Go.RowKit Go.Proofs.YtgcmbkoejjcjlaaGreatDoor.K Go.Proofs.YtgcmbkoejjcjlaaGreatDoor.T
set_option linter.unusedVariables false
set_option linter.unusedSimpArgs false
namespace Go.Proofs.YtgcmbkoejjcjlaaGreatDoor.A
variable {F F':Nat→Option (List Value)} {M M':Nat→Option zak} {N N':Nat} {K:zae} {E:zat}
def za7 (M:Nat→Option zak) (N:Nat):Prop:=∀ k,N≤k→M k=none
theorem za7.new (h:za7 M N) {b:Nat} (hb:N≤b) (x:Option zak):za7 (upd M b x) (b+1):=fun k hk=>(za4 _ _ (by omega)).trans (h k (by omega))
theorem za7.up (h:za7 M N) (hN:N≤N'):za7 M N':=fun k hk=>h k (by omega)
theorem za7.set (h:za7 M N) {b:Nat} (hb:b<N) (x:Option zak):za7 (upd M b x) N:=fun k hk=>(za4 _ _ (by omega)).trans (h k hk)
theorem za7.lt (h:za7 M N) {b:Nat} {c:zak} (hb:M b=some c):b<N:=by
 rcases Nat.lt_or_ge b N with h' | h'
 ·exact h'
 ·rw [h b h'] at hb; cases hb
def own (M:Nat→Option zak) (B:Nat) (e:TypeId) (sz:Nat) (v:Value) (n:Nat) (cs:List Value):Prop :=
 cs.length=n*sz∧((v=.slice none 0 0∧n=0)∨∃ b c rest,v=.slice (some ⟨b,0,none⟩) n c∧n≤c∧c≤maxLen∧B≤b∧M b=some (.cells e (cs++rest) (c*sz)))
theorem own.nil {B:Nat} {e:TypeId} {sz:Nat}:own M B e sz (.slice none 0 0) 0 []:=⟨by simp,.inl ⟨rfl,rfl⟩⟩
theorem own.os {B:Nat} {e:TypeId} {sz n:Nat} {v:Value} {cs:List Value} (h:own M B e sz v n cs):yjh M e sz v n cs :=
 ⟨h.1,h.2.imp id fun ⟨b,c,rest,h1,h2,h3,_,h5⟩=>⟨b,c,h1,h2,h3,rest,h5⟩⟩
theorem own.rd {B:Nat} {e:TypeId} {sz n:Nat} {v:Value} {cs:List Value} (h:own M B e sz v n cs):sR F M sz v n cs:=by
 refine ⟨h.1,?_⟩
 rcases h.2 with ⟨rfl,rfl⟩ | ⟨b,c,rest,rfl,h2,h3,h4,h5⟩
 ·exact .inl ⟨_,_,rfl,rfl⟩
 ·exact .inr ⟨b,0,c,cs++rest,rfl,h2,.inr ⟨_,_,h5⟩,by rw [List.drop_zero,← h.1,List.take_left]⟩
theorem own.form {B:Nat} {e:TypeId} {sz n:Nat} {v:Value} {cs:List Value} (h:own M B e sz v n cs):∃ a c,v=.slice a n c∧n≤c:=by
 rcases h.2 with ⟨rfl,rfl⟩ | ⟨b,c,rest,rfl,h2,h3,h4,h5⟩
 ·exact ⟨_,_,rfl,Nat.le_refl _⟩
 ·exact ⟨_,_,rfl,h2⟩
theorem own.one {B:Nat} {e:TypeId} {sz n:Nat} {v:Value} {cs:List Value} (h:own M B e sz v n cs):v.oneCell'=true:=by
 obtain ⟨a,c,rfl,_⟩:=h.form; rfl
theorem own.ge {B:Nat} {e:TypeId} {sz n:Nat} {v:Value} {cs:List Value} (h:own M B e sz v n cs):∀ q,v.ownBlock=some q→B≤q∧M q≠none:=by
 rcases h.2 with ⟨rfl,rfl⟩ | ⟨b,c,rest,rfl,h2,h3,h4,h5⟩
 ·intro q hq; simp [Value.ownBlock] at hq
 ·intro q hq; simp [Value.ownBlock] at hq; subst hq; exact ⟨h4,by rw [h5]; simp⟩
theorem own.lt {B:Nat} {e:TypeId} {sz n:Nat} {v:Value} {cs:List Value} (h:own M B e sz v n cs) (hm:za7 M N):∀ q,v.ownBlock=some q→q<N:=fun q hq=>by
 have := (h.ge q hq).2
 cases hq:M q with
 | none=>exact absurd hq this
 | some c=>exact hm.lt hq
theorem own.keep {B B':Nat} {e:TypeId} {sz n:Nat} {v:Value} {cs:List Value} (h:own M B e sz v n cs) (hM:∀ q,v.ownBlock=some q→M' q=M q) (hB:B'≤B:=by omega):own M' B' e sz v n cs :=
 ⟨h.1,h.2.imp id fun ⟨b,c,rest,h1,h2,h3,h4,h5⟩=>⟨b,c,rest,h1,h2,h3,by omega,(hM b (by rw [h1]; rfl)).trans h5⟩⟩
def fr (M M':Nat→Option zak) (N:Nat) (v v':Value):Prop:=∀ q,v.ownBlock≠some q→q<N→M' q=M q∧v'.ownBlock≠some q
theorem fr.trans {M'':Nat→Option zak} {v v' v'':Value} (h:fr M M' N v v') (k:fr M' M'' N' v' v'') (hN:N≤N'):fr M M'' N v v'':=fun q hq hl=>
 ⟨((k q (h q hq hl).2 (by omega)).1).trans (h q hq hl).1,(k q (h q hq hl).2 (by omega)).2⟩
theorem fr.refl {v:Value}:fr M M N v v:=fun q hq _=>⟨rfl,hq⟩
theorem own.app {B:Nat} {e:TypeId} {sz bytes n m:Nat} {v x:Value} {cs news:List Value} (h:own M B e sz v n cs) (hm:za7 M N) (hB:B≤N) (hx:sR F M sz x m news) (h1:∀ c∈news,c.oneCell'=true) (hb:(n+m)*bytes≤140737488355328) (hmx:n+m≤maxLen)
  (k:∀ v' M' N',own M' B e sz v' (n+m) (cs++news)→fr M M' N v v'→N≤N'→za7 M' N'→K v' ⟨F,M',N'⟩):zbf e sz bytes v x K ⟨F,M,N⟩:=by
 have hlen:(cs++news).length=(n+m)*sz:=by rw [List.length_append,h.1,hx.1,Nat.add_mul]
 refine ya5 h.os hx.read h1 hb hmx (fun hv h0=>?_) (fun _ b c hb hc hcm=>?_)
 ·subst hv; subst h0
  have hn:news=[]:=List.eq_nil_of_length_eq_zero (by simpa using hx.1)
  subst hn
  have hn0:n=0:=by
   rcases h.2 with ⟨_,h⟩ | ⟨b,c,rest,h1,_⟩
   ·exact h
   ·cases h1
  subst hn0
  exact k _ _ _ ⟨hlen,.inl ⟨rfl,rfl⟩⟩ fr.refl (Nat.le_refl _) hm
 ·have hlt:=h.lt hm
  have hbB:B≤b:=by rcases hb with hb | hb; omega; exact (h.ge b hb).1
  have hfn:∀ q,zgg M v q=M q∨v.ownBlock=some q:=fun q=>by
   by_cases hq:v.ownBlock=some q
   ·exact .inr hq
   ·exact .inl (zlp _ hq)
  refine k _ _ _ ⟨hlen,.inr ⟨b,c,[],rfl,hc,hcm,hbB,by rw [za5,List.append_nil]⟩⟩ (fun q hq hqN=>?_) (Nat.le_max_left _ _) (fun q hq=>?_)
  ·have hqb:q≠b:=by rcases hb with hb | hb; omega; exact fun e=>hq (e ▸ hb)
   exact ⟨(za4 _ _ hqb).trans (zlp _ hq),by simp [Value.ownBlock]; omega⟩
  ·rw [za4 _ _ (by omega)]
   rcases hfn q with hf | hf
   ·rw [hf]; exact hm q (by omega)
   ·have := hlt q hf; omega
theorem ycv {a:Option Addr} {n c:Nat} {h:Hp} (k:K (.int .i64 n) h):pv (za9 (.slice a n c)) K h:=⟨_,rfl,k⟩
theorem inV {e:EqK} {op:BinOp} {k:IntKind} {a b:Int} (hop:op≠.shl∧op≠.shr:=by decide):za1 e op (.int k a) (.int k b)=zg0 op k a b:=by
 cases op<;>simp_all [za1]
theorem zgn {e:EqK} {a b:Nat} {h:Hp} (h1:b≤a) (h2:a≤9223372036854775807) (k:K (.int .i64 ((a - b:Nat):Int)) h):pv (za1 e .sub (.int .i64 a) (.int .i64 b)) K h :=
 zjz (by omega) (by omega) (by rw [← Int.ofNat_sub h1]; exact k)
theorem znc {e:EqK} {a b:Nat} {h:Hp} (h2:a+b≤9223372036854775807) (k:K (.int .i64 ((a+b:Nat):Int)) h):pv (za1 e .add (.int .i64 a) (.int .i64 b)) K h :=
 zyp (by omega) (by omega) (by rw [← Int.natCast_add]; exact k)
theorem yb2 {x:Int} (h0:0≤x) (h1:x<18446744073709551616):IntKind.u64.wrap x=x:=by
 unfold IntKind.wrap
 simp [IntKind.bits,IntKind.signed]
 omega
theorem yop {e:EqK} {a b:Nat} {h:Hp} (h1:0<b) (h2:a<18446744073709551616) (k:K (.int .u64 ((a/b:Nat):Int)) h):pv (za1 e .quo (.int .u64 a) (.int .u64 b)) K h :=
 ⟨_,by rw [inV]; simp only [zg0]; rw [if_neg (by omega)],by
  rw [show (Int.tdiv (a:Int) (b:Int))=((a/b:Nat):Int) by rfl,yb2 (Int.natCast_nonneg _) (Int.ofNat_lt.2 (Nat.lt_of_le_of_lt (Nat.div_le_self a b) h2))]; exact k⟩
theorem ymw {e:EqK} {a b:Nat} {h:Hp} (h2:a*b<18446744073709551616) (k:K (.int .u64 ((a*b:Nat):Int)) h):pv (za1 e .mul (.int .u64 a) (.int .u64 b)) K h :=
 ⟨_,by rw [inV]; rfl,by rw [← Int.natCast_mul,yb2 (by omega) (by omega)]; exact k⟩
theorem ys6 {e:EqK} {a b:Nat} {h:Hp} (h1:b≤a) (h2:a<18446744073709551616) (k:K (.int .u64 ((a - b:Nat):Int)) h):pv (za1 e .sub (.int .u64 a) (.int .u64 b)) K h :=
 ⟨_,by rw [inV]; rfl,by rw [← Int.ofNat_sub h1,yb2 (by omega) (by omega)]; exact k⟩
theorem zbe {α:Type} (f:Nat→Option α) (b:Nat) (x y:Option α):upd (upd f b x) b y=upd f b y:=by funext q; simp only [upd]; split<;>rfl
theorem za7.set' (h:za7 M N) {b:Nat} (hb:N≤b) (hbN:b<N') {x:Option zak}:za7 (upd M b x) N':=fun k hk=>(za4 _ _ (by omega)).trans (h k (by omega))
theorem iaA {b o n sz:Nat} {k:IntKind} {i:Nat} {h:Hp} (h1:i<n) (kk:K (.pointer (some ⟨b,o+i*sz,none⟩)) h):pv (iaV (some n) sz (.pointer (some ⟨b,o,none⟩)) (.int k (i:Nat))) K h :=
 ⟨_,by simp [iaV]; omega,kk⟩
noncomputable def zbj (M:Nat→Option zak) (p:Nat→Prop):Nat→Option zak:=fun q=>open Classical in if p q then M q else none
theorem zay {p:Nat→Prop} {q:Nat} (h:p q):zbj M p q=M q:=if_pos h
theorem zoa (M:Nat→Option zak) (p:Nat→Prop):zk7 (zbj M p) M:=fun k c h=>by
 unfold zbj at h
 split at h
 ·exact h
 ·cases h
theorem zcl {p:Nat→Prop} (h:za7 M N):za7 (zbj M p) N:=fun k hk=>by
 unfold zbj
 split
 ·exact h k hk
 ·rfl
def zsn (N:Nat) (v:Value) (q:Nat):Prop:=q<N∨v.ownBlock=some q
theorem ybu {v v':Value} (h:∀ q,v.ownBlock≠some q→q<N→M' q=M q∧v'.ownBlock≠some q):fr M (zbj M' (zsn N v')) N v v':=fun q hq hl=>
 ⟨(zay (.inl hl)).trans (h q hq hl).1,(h q hq hl).2⟩
theorem own.trim {B:Nat} {e:TypeId} {sz n:Nat} {v:Value} {cs:List Value} (h:own M B e sz v n cs):own (zbj M (zsn N v)) B e sz v n cs:=h.keep (fun q hq=>zay (.inr hq)) (Nat.le_refl _)
theorem ysy {A:zae→Hp→Prop}:gdK (.bool true) true A K=A K:=by funext h; unfold gdK; rw [if_pos (by simp [isB])]
theorem ypq {A:zae→Hp→Prop}:gdK (.bool false) false A K=A K:=by funext h; unfold gdK; rw [if_pos (by simp [isB])]
theorem ysf {A:zae→Hp→Prop}:gdK (.bool true) false A K=K undef:=by funext h; unfold gdK; rw [if_neg (by simp [isB])]
theorem yqe {A:zae→Hp→Prop}:gdK (.bool false) true A K=K undef:=by funext h; unfold gdK; rw [if_neg (by simp [isB])]
theorem pvS {v:Value}:pv (some v) K=K v:=by funext h; exact propext ⟨fun ⟨u,h1,h2⟩=>by cases h1; exact h2,fun h=>⟨_,rfl,h⟩⟩
theorem yni {a b:Value}:zah (.bool true) a b=some a:=rfl
theorem yo1 {a b:Value}:zah (.bool false) a b=some b:=rfl
theorem faP {b o off:Nat}:faV off (.pointer (some ⟨b,o,none⟩))=some (.pointer (some ⟨b,o+off,none⟩)):=rfl
theorem ys4 {a:Option Addr} {n c:Nat}:za9 (.slice a n c)=some (.int .i64 n):=rfl
theorem yrt {a:Option Addr} {n c:Nat}:zr0 (.slice a n c)=some (.int .i64 c):=rfl
theorem yr6 {a:Addr}:zan (.pointer (some a))=some (.pointer (some a)):=rfl
theorem exA {a:Value} {l:List Value}:exV 0 (.tuple ⟨a::l⟩)=some a:=rfl
theorem exB {a b:Value} {l:List Value}:exV 1 (.tuple ⟨a::b::l⟩)=some b:=rfl
theorem exC {a b c:Value} {l:List Value}:exV 2 (.tuple ⟨a::b::c::l⟩)=some c:=rfl
theorem yql {b:Bool}:unV .not (.bool b)=some (.bool !b):=rfl
theorem yqg {A B:Hp→Prop}:cnd (.bool true) A B=A:=by funext h; exact propext ⟨fun ⟨t,h1,h2⟩=>by cases h1; simpa using h2,fun h=>⟨true,rfl,by simpa using h⟩⟩
theorem yrg {A B:Hp→Prop}:cnd (.bool false) A B=B:=by funext h; exact propext ⟨fun ⟨t,h1,h2⟩=>by cases h1; simpa using h2,fun h=>⟨false,rfl,by simpa using h⟩⟩
theorem sS:(∀ (A:zae→Hp→Prop) (K:zae),gdK (.bool true) true A K=A K)∧(∀ (A:zae→Hp→Prop) (K:zae),gdK (.bool false) false A K=A K)∧(∀ (A:zae→Hp→Prop) (K:zae),gdK (.bool true) false A K=K undef)∧(∀ (A:zae→Hp→Prop) (K:zae),gdK (.bool false) true A K=K undef) ∧
  (∀ (v:Value) (K:zae),pv (some v) K=K v)∧(∀ (a b:Value),zah (.bool true) a b=some a)∧(∀ (a b:Value),zah (.bool false) a b=some b)∧(∀ (b o off:Nat),faV off (.pointer (some ⟨b,o,none⟩))=some (.pointer (some ⟨b,o+off,none⟩))) ∧
  (∀ (a:Option Addr) (n c:Nat),za9 (.slice a n c)=some (.int .i64 n))∧(∀ (a:Option Addr) (n c:Nat),zr0 (.slice a n c)=some (.int .i64 c))∧(∀ (a:Addr),zan (.pointer (some a))=some (.pointer (some a))) ∧
  (∀ (a:Value) (l:List Value),exV 0 (.tuple ⟨a::l⟩)=some a)∧(∀ (a b:Value) (l:List Value),exV 1 (.tuple ⟨a::b::l⟩)=some b)∧(∀ (a b c:Value) (l:List Value),exV 2 (.tuple ⟨a::b::c::l⟩)=some c) ∧
  (∀ (b:Bool),unV .not (.bool b)=some (.bool !b))∧(∀ (A B:Hp→Prop),cnd (.bool true) A B=A)∧(∀ (A B:Hp→Prop),cnd (.bool false) A B=B)∧((!true)=false)∧((!false)=true)∧(∀ n:Nat,0+n=n)∧(∀ n:Nat,n+0=n) :=
 ⟨fun _ _=>ysy,fun _ _=>ypq,fun _ _=>ysf,fun _ _=>yqe,fun _ _=>pvS,fun _ _=>yni,fun _ _=>yo1,fun _ _ _=>faP,fun _ _ _=>ys4,fun _ _ _=>yrt,fun _=>yr6,fun _ _=>exA,fun _ _ _=>exB,fun _ _ _ _=>exC,fun _=>yql,fun _ _=>yqg,fun _ _=>yrg,Bool.not_true,Bool.not_false,Nat.zero_add,Nat.add_zero⟩
def dig (d:Nat):Int:=if d<10 then 48+d else 87+d
def num (u:Nat):List Int:=if h:u<36 then [dig u] else num (u/36)++[dig (u%36)]
termination_by u
decreasing_by omega
def txt (i:Int):List Int:=if i<0 then 45::num i.natAbs else num i.natAbs
def text (l:List Int):List Int:=l.flatMap (fun v=>txt v++[32])
def ye5 (c:Int):Nat:=if c<58 then (c - 48).toNat else (c - 87).toNat
def val (l:List Int):Nat:=l.foldl (fun a c=>a*36+ye5 c) 0
theorem zx6 (d:Nat):ye5 (dig d)=d:=by unfold ye5 dig; split<;>split<;>omega
theorem ygg (d:Nat):dig d≠32∧dig d≠45:=by unfold dig; split<;>omega
theorem yck (u:Nat):val (num u)=u:=by
 induction u using Nat.strongRecOn with
 | _ u ih=>
  rw [num]
  split
  ·simp [val,zx6]
  ·rename_i h
   have hi:=ih (u/36) (by omega)
   unfold val at hi ⊢
   rw [List.foldl_append,hi]
   simp [zx6]
   omega
theorem zu2 (u:Nat):∀ c∈num u,c≠32∧c≠45:=by
 induction u using Nat.strongRecOn with
 | _ u ih=>
  rw [num]
  split
  ·intro c hc; simp at hc; subst hc; exact ygg u
  ·rename_i h
   intro c hc
   rcases List.mem_append.1 hc with h1 | h1
   ·exact ih _ (by omega) c h1
   ·simp at h1; subst h1; exact ygg _
theorem ycb {u v:Nat} (h:num u=num v):u=v:=by rw [← yck u,h,yck]
theorem yfu (i:Int):∀ c∈txt i,c≠32:=by
 intro c hc
 unfold txt at hc
 split at hc
 ·rcases List.mem_cons.1 hc with rfl | h
  ·omega
  ·exact (zu2 _ c h).1
 ·exact (zu2 _ c hc).1
theorem ykd {i j:Int} (h:txt i=txt j):i=j:=by
 unfold txt at h
 split at h<;>split at h
 ·injection h with _ h; have := ycb h; omega
 ·have := (zu2 j.natAbs 45 (by rw [← h]; simp)).2; simp at this
 ·have := (zu2 i.natAbs 45 (by rw [h]; simp)).2; simp at this
 ·have := ycb h; omega
theorem yl3 {a b s t:List Int} (ha:∀ c∈a,c≠32) (hb:∀ c∈b,c≠32) (h:a++32::s=b++32::t):a=b∧s=t:=by
 induction a generalizing b with
 | nil=>
  cases b with
  | nil=>exact ⟨rfl,by simpa using h⟩
  | cons y b=>simp at h; exact absurd h.1.symm (hb y (by simp))
 | cons x a ih=>
  cases b with
  | nil=>simp at h; exact absurd h.1 (ha x (by simp))
  | cons y b=>
   simp at h
   obtain ⟨h1,h2⟩:=ih (fun c hc=>ha c (by simp [hc])) (fun c hc=>hb c (by simp [hc])) h.2
   exact ⟨by rw [h.1,h1],h2⟩
theorem yas:∀ {a b:List Int},text a=text b→a=b
 | [],[],_=>rfl
 | [],y::b,h=>by simp [text] at h
 | x::a,[],h=>by simp [text] at h
 | x::a,y::b,h=>by
  have h':txt x++32::text a=txt y++32::text b:=by simpa [text] using h
  obtain ⟨h1,h2⟩:=yl3 (yfu x) (yfu y) h'
  rw [ykd h1,yas h2]
theorem ycl (k:Nat):∀ u,u<36 ^ (k+1)→(num u).length≤k+1:=by
 induction k with
 | zero=>intro u h; rw [num,dif_pos (by simpa using h)]; simp
 | succ k ih=>
  intro u h
  rw [num]
  split
  ·simp
  ·have := ih (u/36) (by rw [Nat.div_lt_iff_lt_mul (by decide)]; rw [Nat.pow_succ] at h; exact h)
   simp; omega
theorem ykv (u:Nat):0<(num u).length:=by
 rw [num]; split<;>simp
def bts (l:List Int):List Value:=l.map (.int .u8)
theorem yk9:∀ d:Fin 36,((#[48,49,50,51,52,53,54,55,56,57,97,98,99,100,101,102,103,104,105,106,107,108,109,110,111,112,113,114,115,116,117,118,119,120,121,122]:Array UInt8)[d.val]?).map (fun b=>(b.toNat:Int))=some (dig d.val):=by decide
theorem ygd {d:Nat} (hd:d<36) {k:IntKind}:ixV (.string ⟨#[48,49,50,51,52,53,54,55,56,57,97,98,99,100,101,102,103,104,105,106,107,108,109,110,111,112,113,114,115,116,117,118,119,120,121,122]⟩) (.int k (d:Nat))=some (.int .u8 (dig d)):=by
 have h:=yk9 ⟨d,hd⟩
 simp only [ixV]
 rw [if_pos (by omega)]
 simp only [Int.toNat_natCast]
 have e:∀ (a:Array UInt8) (i:Nat),(ByteArray.mk a)[i]?=a[i]?:=fun a i=>by
  simp only [getElem?_def]; rfl
 rw [e]
 simp only at h
 rw [Option.map_eq_some_iff] at h
 obtain ⟨b,h1,h2⟩:=h
 rw [h1,← h2]; rfl
theorem yan {l:List Value} {i:Nat} (h:i<l.length) (x:Value):(l.set i x).drop i=x::l.drop (i+1):=by
 induction l generalizing i with
 | nil=>simp at h
 | cons a l ih=>
  cases i with
  | zero=>simp
  | succ i=>simpa using ih (by simpa using h)
theorem ziv {l:List Value} {i:Nat} (h:i<l.length) (x:Value):zbs l i [x]=l.set i x:=by
 rw [zme (by simp; omega),zux]
structure fbS (u:Nat) (s:Nat×List Int) (l:List Value):Prop where
 len:l.length=65
 num:num u=A.num s.1++s.2
 tail:l.drop (65 - s.2.length)=bts s.2
 room:u<18446744073709551616
 lt:s.1<18446744073709551616
theorem fbS.short {u:Nat} {s:Nat×List Int} {l:List Value} (h:fbS u s l):s.2.length≤12:=by
 have h1:=ycl 12 u (by have := h.room; omega)
 have h2:=congrArg List.length h.num
 have h3:=ykv s.1
 simp at h2; omega
theorem yng {h:Hp} (k:K (.bool false) h):za2 Tryz.prog (.func (.func 208) #[] #[]) #[.int .i64 36] K E h:=by
 obtain ⟨F,M,N⟩:=h
 refine za3 mixed Tryz.func208 (by kernel_rfl) (yr3 _ E _) (fun hw=>?_)
 refine zjz (by decide) (by decide) ?_
 refine zaa (v:=.int .i64 32) (by kernel_rfl) ?_
 refine zhl (by decide) fun hc=>?_
 exact ⟨_,za0 hc,fun _=>k⟩
theorem ysw {B n u:Nat} {v:Value} {cs:List Value} (h:own M B 5 1 v n cs) (hm:za7 M N) (hB:B≤N) (hu:u<18446744073709551616) (hn:n≤1099511627776)
  (k:∀ v' M' N',own M' B 5 1 v' (n+(num u).length) (cs++bts (num u))→fr M M' N v v'→N≤N'→za7 M' N'→(Hp.mk F M' N').wf→K (.tuple #[v',.string ⟨#[]⟩]) ⟨F,M',N'⟩) :
  za2 Tryz.prog (.func (.func 204) #[] #[]) #[v,.int .u64 (u:Nat),.int .i64 36,.bool false,.bool true] K E ⟨F,M,N⟩:=by
 refine za3 mixed Tryz.func204 (by kernel_rfl) (ysg _ E _ _ _ _ _) (fun hw=>?_)
 refine zh2 (by decide) (zzh (zzh (zhl (by decide) (zaa (v:=.bool false) rfl ?_))))
 refine zzh (zzh (yjz (by decide) (zaa (v:=.bool false) rfl ?_)))
 refine zc8 ?_
 rw [yin]
 refine zal (fun b hb=>?_)
 refine zc8 ?_
 rw [zvk]
 refine yng ?_
 refine zc8 ?_
 refine zaa (v:=.int .u64 36) (by kernel_rfl) ?_
 refine zjg (σ:=Nat×List Int) (fun s=>.int .u64 (s.1:Nat)) (fun s=>.int .i64 ((65 - s.2.length:Nat):Int))
  (fun s h=>∃ l N',h=⟨F,upd M b (some (.cells 252 l 65)),N'⟩∧b<N'∧fbS u s l) (fun s=>s.1) (u,[]) rfl rfl (fun hw1=>⟨_,za0 hw1,_,_,rfl,Nat.lt_succ_self _,⟨rfl,by simp,rfl,hu,hu⟩⟩) (fun k1 s j h1 hI hw1 next=>?_)
 rw [zjf]
 obtain ⟨l,N1,rfl,hbN,hs⟩:=hI
 have hl:=hs.len
 have hsh:=hs.short
 have hlt:=hs.lt
 refine ze1 (fun hq=>?_) (fun hq=>?_)
 ·refine zdd ?_
  refine zgn (b:=1) (by omega) (by omega) ?_
  refine yop (b:=36) (by decide) hlt ?_
  refine ymw (b:=36) (by omega) ?_
  refine ys6 (by omega) hlt ?_
  rw [show s.1 - s.1/36*36=s.1%36 by omega,show 65 - s.2.length - 1=65 - (s.2.length+1) by omega]
  refine zaa (ygd (Nat.mod_lt _ (by decide))) ?_
  refine iaA (by omega) ?_
  refine stM (cs':=l.set (65 - (s.2.length+1)) (.int .u8 (dig (s.1%36)))) ?_ (za5 _ _ _) (by rw [Nat.zero_add,Nat.mul_one]; exact ziv (by omega) _) rfl (List.all_eq_true.1 rfl) (by omega)
  refine next (s.1/36,dig (s.1%36)::s.2) _ _ (by simp only; omega) (fun hw2=>⟨_,za0 hw2,_,_,by rw [zbe],hbN,⟨by simpa using hl,?_,?_,hu,by simp only; omega⟩⟩)
  ·rw [hs.num]
   simp only
   rw [num,dif_neg (by omega)]; simp
  ·have h1:=hs.tail
   simp only [List.length_cons]
   rw [yan (by omega),show 65 - (s.2.length+1)+1=65 - s.2.length by omega,h1]; rfl
 ·refine zc8 ?_
  refine zgn (b:=1) (by omega) (by omega) ?_
  rw [show 65 - s.2.length - 1=65 - (s.2.length+1) by omega]
  refine zaa (ygd (by omega)) ?_
  refine iaA (by omega) ?_
  refine stM (cs':=l.set (65 - (s.2.length+1)) (.int .u8 (dig s.1))) ?_ (za5 _ _ _) (by rw [Nat.zero_add,Nat.mul_one]; exact ziv (by omega) _) rfl (List.all_eq_true.1 rfl) (by omega)
  rw [zbe]
  rw [zrl]
  refine zc8 ?_
  rw [zp1]
  refine zdd ?_
  have hnum:num u=dig s.1::s.2:=by rw [hs.num,num,dif_pos (by omega)]; rfl
  have hnl:(num u).length=s.2.length+1:=by rw [hnum]; rfl
  refine zgu (65 - (s.2.length+1)) (by omega) (by omega) ?_
  rw [if_neg (by omega)]
  have hx:sR F (upd M b (some (.cells 252 (l.set (65 - (s.2.length+1)) (.int .u8 (dig s.1))) 65))) 1 (.slice (some ⟨b,0+(65 - (s.2.length+1))*1,none⟩) (65 - (65 - (s.2.length+1))) (65 - (65 - (s.2.length+1)))) (num u).length (bts (num u)):=by
   refine ⟨by simp [bts],.inr ⟨b,_,_,_,by rw [show 65 - (65 - (s.2.length+1))=(num u).length by omega],Nat.le_refl _,.inr ⟨_,_,za5 _ _ _⟩,?_⟩⟩
   rw [show 0+(65 - (s.2.length+1))*1=65 - (s.2.length+1) by omega,yan (by omega),show 65 - (s.2.length+1)+1=65 - s.2.length by omega,hs.tail,hnum,List.take_of_length_le (by simp [bts])]
   rfl
  have hbne:v.ownBlock≠some b:=fun e=>by have := h.lt hm b e; omega
  have hk1:own (upd M b (some (.cells 252 (l.set (65 - (s.2.length+1)) (.int .u8 (dig s.1))) 65))) B 5 1 v n cs:=h.keep (fun q hq=>za4 _ _ (fun e=>hbne (e ▸ hq))) (Nat.le_refl _)
  refine hk1.app (N:=N1) (hm.set' hb hbN) (by omega) hx (fun c hc=>by obtain ⟨x,_,rfl⟩:=List.mem_map.1 hc; rfl) (by simp [hnl]; omega) (by simp [maxLen]; omega) (fun v' M' N' hv' hfr hN' hm' hc=>?_)
  exact ⟨_,zbp hc (zoa _ (zsn N v')),fun hw'=>k v' _ N' hv'.trim (ybu fun q hq hqN=>⟨((hfr q hq (by omega)).1).trans (za4 _ _ (by omega)),(hfr q hq (by omega)).2⟩) (by omega) (zcl hm') hw'⟩
def yiu (F:Nat→Option (List Value)) (M:Nat→Option zak) (N B n:Nat) (v:Value) (cs out:List Value) (K:zae):Prop :=
 ∀ v' M' N',own M' B 5 1 v' (n+out.length) (cs++out)→fr M M' N v v'→N≤N'→za7 M' N'→(Hp.mk F M' N').wf→K v' ⟨F,M',N'⟩
theorem zwy (l:List Int):(bts l).length=l.length:=by simp [bts]
theorem ylm {B n u:Nat} {v:Value} {cs:List Value} (h:own M B 5 1 v n cs) (hm:za7 M N) (hB:B≤N) (hu:u<18446744073709551616) (hn:n≤1099511627776) (k:yiu F M N B n v cs (bts (num u)) K) :
  za2 Tryz.prog (.func (.func 196) #[] #[]) #[v,.int .u64 (u:Nat),.int .i64 36] K E ⟨F,M,N⟩:=by
 refine za3 mixed Tryz.func196 (by kernel_rfl) (ysh _ E _ _ _) (fun hw=>?_)
 refine zhl (by decide) (zc8 ?_)
 refine ysw h hm hB hu hn (fun v' M' N' h1 h2 h3 h4 h5=>?_)
 refine zaa rfl (zaa rfl fun hc=>⟨_,za0 hc,fun hw'=>k v' M' N' (by rw [zwy]; exact h1) h2 h3 h4 hw'⟩)
theorem yex {u:Nat} (hu:u<18446744073709551616):(num u).length≤13:=ycl 12 u (by omega)
theorem yr4 {B n:Nat} {i:Int} {v:Value} {cs:List Value} (h:own M B 5 1 v n cs) (hm:za7 M N) (hB:B≤N) (h0:-9223372036854775808≤i) (h1:i≤9223372036854775807) (hn:n≤549755813888) (k:yiu F M N B n v cs (bts (txt i)) K) :
  za2 Tryz.prog (.func (.func 184) #[] #[]) #[v,.int .i64 i,.int .i64 36] K E ⟨F,M,N⟩:=by
 refine za3 mixed Tryz.func184 (by kernel_rfl) (yp5 _ E _ _ _) (fun hw=>?_)
 have wr:∀ x:Int,IntKind.u64.wrap x=x%18446744073709551616:=fun x=>by
  unfold IntKind.wrap
  simp [IntKind.bits,IntKind.signed]
 refine zaa rfl ?_
 refine zaf (fun hi=>?_) (fun hi=>?_)
 ·refine zdd (zde (cs:=[.int .u8 45]) (by kernel_rfl) (fun b hb=>?_))
  have hbne:v.ownBlock≠some b:=fun e=>by have := h.lt hm b e; omega
  have h2:own (upd M b (some (.cells 5 [.int .u8 45] [Value.int .u8 45].length))) B 5 1 v n cs:=h.keep (fun q hq=>za4 _ _ (fun e=>hbne (e ▸ hq))) (Nat.le_refl _)
  refine h2.app (m:=1) (news:=[.int .u8 45]) (hm.new hb _) (by omega) ⟨rfl,.inr ⟨b,0,1,_,rfl,Nat.le_refl _,.inr ⟨_,_,za5 _ _ _⟩,rfl⟩⟩ (List.all_eq_true.1 rfl) (by omega) (by simp [maxLen]; omega) (fun v1 M1 N1 h3 h4 h5 h6=>?_)
  have e:unV .neg (.int .u64 (IntKind.u64.wrap i))=some (.int .u64 (i.natAbs:Nat)):=by
   simp only [unV,wr]; congr 2; omega
  refine zaa e ?_
  rw [zss]
  refine ylm h3 h6 (by omega) (by omega) (by omega) (fun v' M' N' h7 h8 h9 h10 h11 hc=>?_)
  have h12:fr M (zbj M' (zsn N v')) N v v':=ybu fun q hq hqN=>by
   obtain ⟨a1,a2⟩:=h4 q hq (by omega)
   obtain ⟨a3,a4⟩:=h8 q a2 (by omega)
   exact ⟨a3.trans (a1.trans (za4 _ _ (by omega))),a4⟩
  refine ⟨_,zbp hc (zoa _ (zsn N v')),fun hw'=>k v' _ N' ?_ h12 (by omega) (zcl h10) hw'⟩
  have e2:txt i=45::num i.natAbs:=by unfold txt; rw [if_pos hi]
  have h13:=h7.trim (N:=N)
  rw [e2]
  simpa [bts,Nat.add_assoc,Nat.add_comm] using h13
 ·refine zc8 ?_
  have e:IntKind.u64.wrap i=(i.natAbs:Nat):=by rw [wr]; omega
  rw [e,zss]
  refine ylm h hm hB (by omega) (by omega) (fun v' M' N' h7 h8 h9 h10 h11 hc=>?_)
  have e2:txt i=num i.natAbs:=by unfold txt; rw [if_neg hi]
  exact ⟨_,za0 hc,fun hw'=>k v' M' N' (by rw [e2]; exact h7) h8 h9 h10 hw'⟩
theorem ynz {B n:Nat} {i:Int} {v:Value} {cs:List Value} (h:own M B 5 1 v n cs) (hm:za7 M N) (hB:B≤N) (h0:-9223372036854775808≤i) (h1:i≤9223372036854775807) (hn:n≤549755813888) (k:yiu F M N B n v cs (bts (txt i)) K) :
  za2 Tryz.prog (.func (.func 168) #[] #[]) #[v,.int .i64 i,.int .i64 36] K E ⟨F,M,N⟩:=by
 refine za3 mixed Tryz.func168 (by kernel_rfl) (ys7 _ E _ _ _) (fun hw=>?_)
 refine yr4 h hm hB h0 h1 hn (fun v' M' N' h7 h8 h9 h10 h11 hc=>?_)
 exact ⟨_,za0 hc,fun hw'=>k v' M' N' h7 h8 h9 h10 hw'⟩
def i64 (x:Int):Prop:=-9223372036854775808≤x∧x≤9223372036854775807
def zp9 (k:List Int):ByteArray:=⟨((text k).map (fun n=>UInt8.ofNat (Int.toNat n))).toArray⟩
theorem yjy (d:Nat) (h:d<36):0≤dig d∧dig d<256:=by unfold dig; split<;>omega
theorem yjo (u:Nat):∀ c∈num u,0≤c∧c<256:=by
 induction u using Nat.strongRecOn with
 | _ u ih=>
  rw [num]
  split
  ·rename_i h; intro c hc; simp at hc; subst hc; exact yjy u h
  ·rename_i h
   intro c hc
   rcases List.mem_append.1 hc with h1 | h1
   ·exact ih _ (by omega) c h1
   ·simp at h1; subst h1; exact yjy _ (by omega)
theorem yg8 (k:List Int):∀ c∈text k,0≤c∧c<256:=by
 intro c hc
 simp only [text,List.mem_flatMap] at hc
 obtain ⟨x,_,hx⟩:=hc
 rcases List.mem_append.1 hx with h1 | h1
 ·unfold txt at h1
  split at h1
  ·rcases List.mem_cons.1 h1 with rfl | h
   ·omega
   ·exact yjo _ c h
  ·exact yjo _ c h1
 ·simp at h1; omega
theorem yi4 {a b:List Int} (h:zp9 a=zp9 b):a=b:=by
 apply yas
 have h1:(text a).map (fun n=>UInt8.ofNat (Int.toNat n))=(text b).map (fun n=>UInt8.ofNat (Int.toNat n)):=by
  unfold zp9 at h
  injection h with h
  simpa using h
 have key:∀ (x y:List Int),(∀ c∈x,0≤c∧c<256)→(∀ c∈y,0≤c∧c<256)→x.map (fun n=>UInt8.ofNat (Int.toNat n))=y.map (fun n=>UInt8.ofNat (Int.toNat n))→x=y:=by
  intro x
  induction x with
  | nil=>intro y _ _ h; cases y with | nil=>rfl | cons _ _=>simp at h
  | cons p x ih=>
   intro y hx hy h
   cases y with
   | nil=>simp at h
   | cons q y=>
    simp only [List.map_cons,List.cons.injEq] at h
    obtain ⟨a1,a2⟩:=hx p (by simp)
    obtain ⟨b1,b2⟩:=hy q (by simp)
    have h3:=congrArg UInt8.toNat h.1
    simp only [UInt8.toNat_ofNat'] at h3
    rw [show p=q by omega,ih y (fun c hc=>hx c (by simp [hc])) (fun c hc=>hy c (by simp [hc])) h.2]
 exact key _ _ (yg8 a) (yg8 b) h1
theorem ybx {i:Int} (h:i64 i):(txt i).length≤14:=by
 unfold txt
 have := yex (u:=i.natAbs) (by have := h.1; have := h.2; omega)
 split
 ·simp; omega
 ·omega
theorem zzo:∀ {l:List Int},(∀ x∈l,i64 x)→(text l).length≤15*l.length
 | [],_=>by simp [text]
 | x::l,h=>by
  have h1:=zzo (l:=l) (fun y hy=>h y (by simp [hy]))
  have h2:=ybx (h x (by simp))
  simp only [text,List.flatMap_cons,List.length_append,List.length_cons,List.length_nil] at h1 ⊢
  omega
theorem ye8 (l:List Int) (x:Int):text (l++[x])=text l++txt x++[32]:=by simp [text]
theorem ymi {v:Value} {l:List Int} (hv:sF F 1 v l.length (ic l)) (hl:l.length≤17179869184) (hi:∀ x∈l,i64 x) (k:∀ N',N≤N'→(Hp.mk F M N').wf→K (.string (zp9 l)) ⟨F,M,N'⟩) :
  za2 Tryz.prog (.func (.func 143) #[] #[]) #[v] K E ⟨F,M,N⟩:=by
 refine za3 mixed Tryz.func143 (by kernel_rfl) (yp9 _ E _) (fun hw=>?_)
 have hm:za7 M N:=hw.m
 obtain ⟨a,c,rfl,hac⟩:=hv.form
 refine ycv ?_
 refine zqv (σ:=Nat×Value) (fun s=>s.2) (fun s=>.int .i64 (s.1:Nat))
  (fun s h=>∃ M' N',h=⟨F,M',N'⟩∧N≤N'∧(∀ q,q<N→M' q=M q)∧za7 M' N'∧s.1≤l.length∧own M' N 5 1 s.2 (text (l.take s.1)).length (bts (text (l.take s.1)))) (fun s=>l.length - s.1)
  (0,.slice none 0 0) rfl rfl (fun hw1=>⟨_,za0 hw1,_,_,rfl,Nat.le_refl _,fun _ _=>rfl,hm,Nat.zero_le _,own.nil⟩) (fun k1 s j h1 hI hw1 next=>?_)
 rw [zre]
 obtain ⟨M1,N1,rfl,hN1,hM1,hm1,hs,ho⟩:=hI
 refine zaf (fun hlt=>?_) (fun hge=>?_)
 ·have hlt':s.1<l.length:=by omega
  obtain ⟨b,o,c',hab,cs,hF,hcl,hcs⟩:=hv.at (by decide) hlt'
  cases hab
  refine zdd (zbz hlt' ?_)
  have hx:(ic l)[s.1]?=some (.int .i64 l[s.1]):=by simp [ic,hlt']
  refine zfj (zao (zdi hF) (by rw [Nat.mul_one,hcs s.1 (by omega)]; exact hx)) ?_
  have htk:(text (l.take s.1)).length≤15*s.1:=by
   have := zzo (l:=l.take s.1) (fun x hx=>hi x (List.mem_of_mem_take hx))
   rw [List.length_take,Nat.min_eq_left (by omega)] at this; exact this
  have hxi:=hi l[s.1] (List.getElem_mem _)
  refine ynz ho hm1 hN1 hxi.1 hxi.2 (by omega) (fun v2 M2 N2 h2 h3 h4 h5 h6=>?_)
  refine zde (cs:=[.int .u8 32]) (by kernel_rfl) (fun b1 hb1=>?_)
  have h7:own (upd M2 b1 (some (.cells 5 [.int .u8 32] [Value.int .u8 32].length))) N 5 1 v2 _ _:=h2.keep (fun q hq=>za4 _ _ (fun e=>by have := h2.lt h5 q hq; omega)) (Nat.le_refl _)
  have htx:=ybx hxi
  refine h7.app (m:=1) (news:=[.int .u8 32]) (h5.new hb1 _) (by omega) ⟨rfl,.inr ⟨b1,0,1,_,rfl,Nat.le_refl _,.inr ⟨_,_,za5 _ _ _⟩,rfl⟩⟩ (List.all_eq_true.1 rfl) (by rw [zwy]; omega) (by simp [maxLen,zwy]; omega) (fun v3 M3 N3 h8 h9 h10 h11=>?_)
  refine zai (by omega) ?_
  refine next (s.1+1,v3) _ _ (by simp only; omega) (fun hw2=>⟨_,za0 hw2,M3,N3,rfl,by omega,fun q hq=>?_,h11,by simp only; omega,?_⟩)
  ·have q1:s.2.ownBlock≠some q:=fun e=>by have := (ho.ge q e).1; omega
   obtain ⟨a1,a2⟩:=h3 q q1 (by omega)
   obtain ⟨a3,a4⟩:=h9 q a2 (by omega)
   exact a3.trans ((za4 _ _ (by omega)).trans (a1.trans (hM1 q hq)))
  ·simp only
   rw [List.take_add_one,List.getElem?_eq_getElem hlt',Option.toList_some,ye8]
   simpa [bts,Nat.add_assoc] using h8
 ·refine zc8 ?_
  have e:l.take s.1=l:=List.take_of_length_le (by omega)
  rw [e] at ho
  refine ⟨_,⟨(text l).length,text l,ho.rd.read,rfl⟩,fun hc=>⟨⟨F,M,N1⟩,zbp hc (fun q c hq=>?_),fun hw'=>k N1 hN1 hw'⟩⟩
  rw [hM1 q (hm.lt hq)]; exact hq
def zi8 (a b:Int):Int:=if a<b then -1 else if a>b then 1 else 0
theorem yk1 {a:Int} {h:Hp} (k:K (.bool false) h):za2 Tryz.prog (.func (.func 200) #[] #[]) #[.int .i64 a] K E h:=by
 obtain ⟨F,M,N⟩:=h
 refine za3 mixed Tryz.func200 (by kernel_rfl) (yrw _ E _) (fun hw=>?_)
 exact zit rfl fun hc=>⟨_,za0 hc,fun _=>k⟩
theorem zxc {a b:Int} {h:Hp} (k:K (.int .i64 (zi8 a b)) h):za2 Tryz.prog (.func (.func 195) #[] #[]) #[.int .i64 a,.int .i64 b] K E h:=by
 obtain ⟨F,M,N⟩:=h
 refine za3 mixed Tryz.func195 (by kernel_rfl) (ysr _ E _ _) (fun hw=>?_)
 refine yk1 (yk1 (zc8 (zc8 ?_)))
 refine zaf (fun h1=>zdd fun hc=>⟨_,za0 hc,fun _=>?_⟩) (fun h1=>zc8 (zbu (fun h2=>zdd fun hc=>⟨_,za0 hc,fun _=>?_⟩) (fun h2=>zc8 fun hc=>⟨_,za0 hc,fun _=>?_⟩)))
 ·unfold zi8 at k; rw [if_pos h1] at k; exact k
 ·unfold zi8 at k; rw [if_neg h1,if_pos h2] at k; exact k
 ·unfold zi8 at k; rw [if_neg h1,if_neg h2] at k; exact k
theorem yc3 {a b:List Int} {i:Nat} (ha:i<a.length) (hb:i<b.length):zbn (a.drop i) (b.drop i)=if zi8 a[i] b[i]=0 then zbn (a.drop (i+1)) (b.drop (i+1)) else zi8 a[i] b[i]:=by
 rw [List.drop_eq_getElem_cons ha,List.drop_eq_getElem_cons hb]
 simp only [zbn,zi8]
 split
 ·rw [if_neg (by decide)]
 ·split
  ·rw [if_neg (by decide)]
  ·rw [if_pos rfl]
theorem yaa {a b:List Int} {i:Nat} (h:i=min a.length b.length):zbn (a.drop i) (b.drop i)=zi8 a.length b.length:=by
 unfold zi8
 rcases Nat.lt_trichotomy a.length b.length with hl | hl | hl
 ·rw [if_pos (by omega),List.drop_eq_nil_of_le (by omega),List.drop_eq_getElem_cons (by omega)]; rfl
 ·rw [if_neg (by omega),if_neg (by omega),List.drop_eq_nil_of_le (by omega),List.drop_eq_nil_of_le (by omega)]; rfl
 ·rw [if_neg (by omega),if_pos (by omega),show b.drop i=[] from List.drop_eq_nil_of_le (by omega),List.drop_eq_getElem_cons (by omega)]; rfl
theorem zpp {v:Value} {l:List Int} (hv:sF F 1 v l.length (ic l)) {i:Nat} (hi:i<l.length) :
  ∃ b o c cs,v=.slice (some ⟨b,o,none⟩) l.length c∧F b=some cs∧cs[o+i*1]?=some (.int .i64 l[i]):=by
 obtain ⟨b,o,c,hab,cs,hF,_,hcs⟩:=hv.at (by decide) hi
 exact ⟨b,o,c,cs,hab,hF,by rw [Nat.mul_one,hcs i (by omega)]; simp [ic,hi]⟩
theorem zax {v:Value} {l:List Int} (hv:sF F 1 v l.length (ic l)) {i:Nat} {K:Value→zae} (hi:i<l.length) (k:∀ p,K p (.int .i64 l[i]) ⟨F,M,N⟩) :
  pv (iaV none 1 v (.int .i64 (i:Nat))) (fun p=>ld false 1 p (K p)) ⟨F,M,N⟩:=by
 obtain ⟨b,o,c,cs,rfl,hF,hc⟩:=zpp hv hi
 exact zbz hi (zfj (zao (zdi hF) hc) (k _))
theorem zam {v:Value} {sz n:Nat} {cs:List Value} (hv:sF F sz v n cs) {h:Hp} (k:K (.int .i64 n) h):pv (za9 v) K h:=by
 obtain ⟨a,c,rfl,_⟩:=hv.form
 exact ycv k
theorem yki {u v:Value} {a b:List Int} (hu:sF F 1 u a.length (ic a)) (hv:sF F 1 v b.length (ic b)) (hla:a.length≤9223372036854775807) (k:K (.int .i64 (zbn a b)) ⟨F,M,N⟩) :
  za2 Tryz.prog (.func (.func 182) #[] #[]) #[u,v] K E ⟨F,M,N⟩:=by
 refine za3 mixed Tryz.func182 (by kernel_rfl) (yp4 _ E _ _) (fun hw=>?_)
 refine zam hu (zam hv ?_)
 have e:mm false (.int .i64 a.length) (.int .i64 b.length)=some (.int .i64 ((min a.length b.length:Nat):Int)):=by
  simp only [mm]
  congr 2
  simp only [Bool.false_eq_true,if_false]
  split<;>omega
 refine zaa e ?_
 refine zwq (σ:=Nat) (fun i=>.int .i64 (i:Nat)) (fun i h=>h=⟨F,M,N⟩∧i≤min a.length b.length∧zbn a b=zbn (a.drop i) (b.drop i)) (fun i=>min a.length b.length - i) 0 rfl
  (fun hw1=>⟨_,za0 hw1,rfl,Nat.zero_le _,rfl⟩) (fun k1 i j h1 hI hw1 next=>?_)
 rw [zvg]
 obtain ⟨rfl,hi,he⟩:=hI
 refine zaf (fun hlt=>?_) (fun hge=>?_)
 ·have h1:i<a.length:=by omega
  have h2:i<b.length:=by omega
  refine zdd (zax hu h1 fun p=>zax hv h2 fun p'=>zxc ?_)
  rw [yc3 h1 h2] at he
  refine zc9 (fun hn=>?_) (fun hn=>?_)
  ·refine zdd fun hc=>⟨_,za0 hc,fun _=>?_⟩
   rw [if_neg hn] at he; rw [← he]; exact k
  ·refine zc8 (zai (by omega) ?_)
   rw [if_pos (by omega)] at he
   exact next (i+1) _ _ (by omega) (fun hw2=>⟨_,za0 hw2,rfl,by omega,he⟩)
 ·refine zc8 ?_
  refine zam hu (zam hv (zxc fun hc=>⟨_,za0 hc,fun _=>?_⟩))
  rw [yaa (by omega)] at he
  rw [← he]; exact k
theorem yjp {u v:Value} {a b:List Int} (hu:sF F 1 u a.length (ic a)) (hv:sF F 1 v b.length (ic b)) (hla:a.length≤9223372036854775807) (k:K (.int .i64 (zbn a b)) ⟨F,M,N⟩) :
  za2 Tryz.prog (.func (.func 165) #[] #[]) #[u,v] K E ⟨F,M,N⟩:=by
 refine za3 mixed Tryz.func165 (by kernel_rfl) (yro _ E _ _) (fun hw=>?_)
 exact yki hu hv hla fun hc=>⟨_,za0 hc,fun _=>k⟩
def zd5 (F:Nat→Option (List Value)) (cs:List Value) (r:Rw):Prop:=∃ v,cs=v::r.2.cs∧sF F 1 v r.1.length (ic r.1)∧r.1.length≤140737488351232
theorem zd5.mono {cs:List Value} {r:Rw} (h:zd5 F cs r) (hF:zac F F'):zd5 F' cs r:=let ⟨v,h1,h2,h3⟩:=h; ⟨v,h1,h2.mono hF,h3⟩
theorem zd5.one {cs:List Value} {r:Rw} (h:zd5 F cs r):cs.length=5∧∀ c∈cs,c.oneCell'=true:=by
 obtain ⟨v,rfl,hv,_⟩:=h
 obtain ⟨a,c,rfl,_⟩:=hv.form
 exact ⟨rfl,List.all_eq_true.1 rfl⟩
theorem yn6 {cs ds:List Value} {r q:Rw} (hr:zd5 F cs r) (hq:zd5 F ds q) (k:∀ N',N≤N'→(Hp.mk F M N').wf→K (.int .i64 (zbn r.1 q.1)) ⟨F,M,N'⟩) :
  za2 Tryz.prog (.func (.func 137) #[] #[]) #[.agg cs.toArray,.agg ds.toArray] K E ⟨F,M,N⟩:=by
 refine za3 mixed Tryz.func137 (by kernel_rfl) (ymn _ E _ _) (fun hw=>?_)
 have hm:=hw.m
 obtain ⟨v,rfl,hv,hvl⟩:=hr
 obtain ⟨u,rfl,hu,_⟩:=hq
 refine zal (cs:=v::r.2.cs) (fun b1 hb1=>?_)
 refine zal (cs:=u::q.2.cs) (fun b2 hb2=>?_)
 refine zaa rfl (ldM (v:=v) ?_)
 refine zaa rfl (ldM (v:=u) ?_)
 refine yjp hv hu (by omega) fun hc=>?_
 exact ⟨⟨F,M,b2+1⟩,zc3 hc,fun hw'=>k _ (by omega) hw'⟩
open Go.MapKept
def zj3 (es:Array MapEntry) (t:List Rw):Prop:=es.toList.length=t.length∧∀ (i:Nat) (x:MapEntry),es.toList[i]?=some x→∃ r,t[i]?=some r∧x.key=.string (zp9 r.1)∧x.val=.int .i64 (i:Nat)
theorem zj3.keys {es:Array MapEntry} {t:List Rw} (h:zj3 es t):∀ x∈es.toList,IsKey .string x.key:=fun x hx=>by
 obtain ⟨i,hi,rfl⟩:=List.mem_iff_getElem.1 hx
 obtain ⟨r,_,h2,_⟩:=h.2 i _ (List.getElem?_eq_getElem hi)
 rw [h2]; trivial
theorem zj3.push {es:Array MapEntry} {t:List Rw} (h:zj3 es t) (r:Rw) (ck:Nat):zj3 (es.push ⟨.string (zp9 r.1),.int .i64 (t.length:Nat),ck⟩) (t++[r]):=by
 refine ⟨by simp [← h.1],fun i x hx=>?_⟩
 rw [Array.toList_push] at hx
 rcases Nat.lt_or_ge i es.toList.length with hi | hi
 ·rw [List.getElem?_append_left hi] at hx
  obtain ⟨q,h1,h2⟩:=h.2 i x hx
  exact ⟨q,by rw [List.getElem?_append_left (by rw [← h.1]; exact hi)]; exact h1,h2⟩
 ·rw [List.getElem?_append_right hi] at hx
  have h0:i - es.toList.length=0:=by
   have := (List.getElem?_eq_some_iff.1 hx).1
   simp at this; simpa using this
  rw [h0] at hx
  simp only [List.getElem?_cons_zero,Option.some.injEq] at hx
  have hit:i=t.length:=by rw [← h.1]; omega
  subst hx
  exact ⟨r,by rw [hit]; simp,rfl,by rw [hit]⟩
theorem zj3.set {es:Array MapEntry} {t:List Rw} (h:zj3 es t) {i:Nat} {k:List Int} {c c':CE} (ht:t[i]?=some (k,c)):zj3 es (t.set i (k,c')):=by
 refine ⟨by simp [← h.1],fun j x hx=>?_⟩
 obtain ⟨q,h1,h2,h3⟩:=h.2 j x hx
 by_cases hj:i=j
 ·subst hj
  rw [ht] at h1; cases h1
  exact ⟨(k,c'),by rw [List.getElem?_set_self (List.getElem?_eq_some_iff.1 ht).1],h2,h3⟩
 ·exact ⟨q,by rw [List.getElem?_set_ne hj]; exact h1,h2,h3⟩
structure zgf (F:Nat→Option (List Value)) (M:Nat→Option zak) (B g bm:Nat) (v:Value) (rows:List (List Value)) (t:List Rw):Prop where
 gg:M g=some (.cells 201 [v,.map (some bm)] 2)
 gB:B≤g
 bB:B≤bm
 mp:∃ es clock,M bm=some (.obj (.map es clock))∧zj3 es t
 oo:own M B 110 5 v t.length rows.flatten
 rr:zad (zd5 F) 5 rows t
 nd:nodup t
theorem zgf.vg {B g bm:Nat} {v:Value} {rows:List (List Value)} {t:List Rw} (h:zgf F M B g bm v rows t):v.ownBlock≠some g∧v.ownBlock≠some bm:=by
 obtain ⟨es,clock,hm,_⟩:=h.mp
 rcases h.oo.2 with ⟨rfl,_⟩ | ⟨b,c,rest,rfl,_,_,_,h5⟩
 ·simp [Value.ownBlock]
 ·simp only [Value.ownBlock,if_true,ne_eq,Option.some.injEq]
  refine ⟨fun e=>?_,fun e=>?_⟩
  ·have e':b=g:=by simpa using e
   subst e'; rw [h.gg] at h5; injection h5 with h5; injection h5 with h5; cases h5
  ·have e':b=bm:=by simpa using e
   subst e'; rw [hm] at h5; cases h5
theorem zgf.keep {B g bm:Nat} {v:Value} {rows:List (List Value)} {t:List Rw} (h:zgf F M B g bm v rows t) (hF:zac F F') (hM:∀ q,M q≠none→M' q=M q):zgf F' M' B g bm v rows t:=by
 obtain ⟨es,clock,hm,ho⟩:=h.mp
 exact ⟨(hM g (by rw [h.gg]; simp)).trans h.gg,h.gB,h.bB,⟨es,clock,(hM bm (by rw [hm]; simp)).trans hm,ho⟩,h.oo.keep (fun q hq=>hM q (h.oo.ge q hq).2) (Nat.le_refl _),h.rr.mono fun r x hr=>hr.mono hF,h.nd⟩
theorem zs5 (hm:za7 M N) {b:Nat} (hb:N≤b) (x:Option zak):∀ q,M q≠none→upd M b x q=M q:=fun q hq=>za4 _ _ (fun e=>hq (hm q (by omega)))
theorem zzm {sz:Nat}:∀ (rows:List (List Value)) (i:Nat) (r:List Value),(∀ r∈rows,r.length=sz)→r.length=sz→i<rows.length→zbs rows.flatten (i*sz) r=(rows.set i r).flatten
 | [],i,r,_,_,h=>by simp at h
 | x::rows,0,r,hl,hr,_=>by
  have hx:=hl x (by simp)
  simp only [Nat.zero_mul,List.flatten_cons,List.set_cons_zero]
  have := zie [] x r rows.flatten (by rw [hx,hr])
  simpa using this
 | x::rows,i+1,r,hl,hr,h=>by
  have hx:=hl x (by simp)
  have ih:=zzm rows i r (fun y hy=>hl y (by simp [hy])) hr (by simpa using h)
  simp only [List.flatten_cons,List.set_cons_succ]
  rw [← ih]
  unfold zbs
  rw [Nat.succ_mul,show i*sz+sz=x.length+i*sz by omega,List.take_length_add_append,show x.length+i*sz+r.length=x.length+(i*sz+r.length) by omega,List.drop_length_add_append]
  simp
open Go.MapKept
theorem yc4:Tryz.prog.underlying 199=some (.map 9 3):=by kernel_rfl
theorem ybv:Tryz.prog.underlying 9=some .string:=by kernel_rfl
theorem ygt (w:World):(zeroValue 3).run Tryz.prog w=.ok (.int .i64 0) w:=by kernel_rfl
theorem zts {a b vs:List Value} {o:Nat} (h:o+vs.length≤a.length):zbs (a++b) o vs=zbs a o vs++b:=by
 unfold zbs
 rw [List.take_append_of_le_length (by omega),List.drop_append_of_le_length (by omega)]
 simp
theorem yb9 {l:List Value} {o:Nat} {x:Value} {vs:List Value} (hx:l[o]?=some x) (h:o+1+vs.length≤l.length):zbs l (o+1) vs=zbs l o (x::vs):=by
 rw [zme (by simp; omega)]
 congr 1
 obtain ⟨h1,h2⟩:=List.getElem?_eq_some_iff.1 hx
 rw [← h2,List.set_getElem_self]
theorem yjv {B g bm:Nat} {v kv:Value} {rows:List (List Value)} {t:List Rw} {key:List Int} {c:CE} (h:zgf F M B g bm v rows t) (hm:za7 M N) (hB:B≤N) (hkv:sF F 1 kv key.length (ic key)) (hkl:key.length≤17179869184) (hki:∀ x∈key,i64 x) (ht:t.length≤1099511627776)
  (k:∀ F' M' N' v' rows',zac F F'→N≤N'→zgf F' M' B g bm v' rows' (zey t key c)→(∀ q,q<B→M' q=M q)→za7 M' N'→(Hp.mk F' M' N').wf→K (.tuple #[]) ⟨F',M',N'⟩) :
  za2 Tryz.prog (.func (.func 109) #[] #[]) #[.pointer (some ⟨g,0,none⟩),kv,.agg c.cs.toArray] K E ⟨F,M,N⟩:=by
 refine za3 mixed Tryz.func109 (by kernel_rfl) (yqo _ E _ _ _) (fun hw=>?_)
 refine zal (cs:=c.cs) (fun b1 hb1=>?_)
 refine ymi hkv hkl hki (fun N1 hN1 hw1=>?_)
 have hm1:za7 (upd M b1 (some (.cells 108 c.cs c.cs.length))) N1:=hw1.m
 have h1:zgf F (upd M b1 (some (.cells 108 c.cs c.cs.length))) B g bm v rows t:=h.keep (zac.refl _) (zs5 hm hb1 _)
 have hb1M:(upd M b1 (some (.cells 108 c.cs c.cs.length))) b1=some (.cells 108 c.cs c.cs.length):=za5 _ _ _
 have hM1:∀ q,q<B→(upd M b1 (some (.cells 108 c.cs c.cs.length))) q=M q:=fun q hq=>za4 _ _ (by omega)
 have hb1v:v.ownBlock≠some b1:=fun e=>by have := h.oo.lt hm b1 e; omega
 have hgb1:g≠b1:=fun e=>by have := hm.lt h.gg; omega
 have hmb1:bm≠b1:=fun e=>by obtain ⟨es,ck,hx,_⟩:=h.mp; have := hm.lt hx; omega
 have hb1N:=hm1.lt hb1M
 generalize upd M b1 (some (.cells 108 c.cs c.cs.length))=M1 at *
 have hgg:=h1.gg
 obtain ⟨es,clock,hmp,hmo⟩:=h1.mp
 have hfl:=h1.rr.flen
 refine zaa rfl (zaa rfl (ldM ?_))
 refine yr8 yc4 ybv ygt (d:=.string) trivial hmo.keys hmp (fun hmiss=>?_) (fun j x hj hx=>?_)
 ·have hno:∀ r∈t,r.1≠key:=fun r hr e=>by
   obtain ⟨i,hi,rfl⟩:=List.mem_iff_getElem.1 hr
   have hil:i<es.toList.length:=by rw [hmo.1]; exact hi
   obtain ⟨q,h2,h3,_⟩:=hmo.2 i _ (List.getElem?_eq_getElem hil)
   rw [List.getElem?_eq_getElem hi] at h2; cases h2
   exact hmiss _ (List.getElem_mem hil) (by rw [h3,e])
  rw [zou hno] at k
  refine zaa rfl (zaa rfl (zc8 ?_))
  refine zaa rfl (zaa rfl (ldM ?_))
  refine zaa rfl (zaa rfl (ldM ?_))
  obtain ⟨av,cv,hvf,hvc⟩:=h1.oo.form
  rw [hvf]
  refine ycv ?_
  refine ym0 yc4 ybv (d:=.string) trivial hmo.keys hmp (fun _=>?_) (fun j x hj hx=>(hmiss x (List.mem_of_getElem? hj) hx).elim)
  have hne:bm≠g:=fun e=>by rw [e,hgg] at hmp; cases hmp
  have hm2:=hm1.set (hm1.lt hmp) (some (.obj (.map (es.push ⟨.string (zp9 key),.int .i64 (t.length:Nat),clock⟩) (clock+1))))
  have hmo2:=hmo.push (key,c) clock
  generalize hes:es.push ⟨.string (zp9 key),.int .i64 (t.length:Nat),clock⟩=es2 at *
  generalize hM2:upd M1 bm (some (.obj (.map es2 (clock+1))))=M2 at *
  have hgg2:M2 g=some (.cells 201 [v,.map (some bm)] 2):=by rw [← hM2]; exact (za4 _ _ (Ne.symm hne)).trans hgg
  have hb2:M2 b1=some (.cells 108 c.cs c.cs.length):=by rw [← hM2]; exact (za4 _ _ (Ne.symm hmb1)).trans hb1M
  have ho2:own M2 B 110 5 v t.length rows.flatten:=h1.oo.keep (fun q hq=>by rw [← hM2]; exact za4 _ _ (fun e=>h1.vg.2 (e ▸ hq))) (Nat.le_refl _)
  refine zaa rfl (zaa rfl (ldM ?_))
  refine zas (vs:=c.cs) ?_
  refine zmg hm2 hkv.sR (by omega) (fun kv' F' N2 hw2 hF hN2 hkv'=>?_)
  obtain ⟨ak,ck,rfl,hck⟩:=hkv'.form
  refine ⟨zfx (zaq hb2) (by exact Nat.le_of_ble_eq_true rfl) rfl,zao (zaq hgg2) rfl,?_⟩
  refine zaa (v:=.agg (.slice ak key.length ck::c.cs).toArray) (by kernel_rfl) ?_
  refine zde (cs:=.slice ak key.length ck::c.cs) (by kernel_rfl) (fun b3 hb3=>?_)
  have hm2':=hm2.up hN2
  have hgN:=hm2'.lt hgg2
  have hg3:g≠b3:=by omega
  refine ⟨zao (zaq ((za4 _ _ hg3).trans hgg2)) rfl,?_⟩
  have ho3:own (upd M2 b3 (some (.cells 110 (.slice ak key.length ck::c.cs) (Value.slice ak key.length ck::c.cs).length))) B 110 5 v t.length rows.flatten:=ho2.keep (fun q hq=>za4 _ _ (fun e=>by have := ho2.lt hm2' q hq; omega)) (Nat.le_refl _)
  refine ho3.app (m:=1) (news:=.slice ak key.length ck::c.cs) (hm2'.new hb3 _) (by omega) ⟨rfl,.inr ⟨b3,0,1,_,rfl,Nat.le_refl _,.inr ⟨_,_,za5 _ _ _⟩,rfl⟩⟩ (List.all_eq_true.1 rfl) (by omega) (by simp [maxLen]; omega) (fun v' M3 N3 h4 h5 h6 h7=>?_)
  have hgg3:M3 g=some (.cells 201 [v,.map (some bm)] 2):=((h5 g h1.vg.1 (by omega)).1).trans ((za4 _ _ hg3).trans hgg2)
  have hbmN:bm<N2:=hm2'.lt (b:=bm) (by rw [← hM2,za5])
  have hbm3:M3 bm=some (.obj (.map es2 (clock+1))):=((h5 bm h1.vg.2 (by omega)).1).trans ((za4 _ _ (by omega)).trans (by rw [← hM2,za5]))
  refine zaa rfl (zaa rfl ?_)
  refine stM (cs':=[v',.map (some bm)]) ?_ hgg3 (by obtain ⟨a,c,rfl,_⟩:=h4.form; rfl) (by obtain ⟨a,c,rfl,_⟩:=h4.form; rfl) (by obtain ⟨a,c,rfl,_⟩:=h4.form; exact List.all_eq_true.1 rfl)
  have hv'g:=(h5 g h1.vg.1 (by omega)).2
  have hv'm:=(h5 bm h1.vg.2 (by omega)).2
  refine fun hc=>⟨_,za0 hc,fun hw'=>k _ _ _ v' (rows++[.slice ak key.length ck::c.cs]) hF (by omega) ⟨za5 _ _ _,h1.gB,h1.bB,⟨es2,_,(za4 _ _ hne).trans hbm3,hmo2⟩,?_,?_,?_⟩ (fun q hq=>?_) (h7.set (by omega) _) hw'⟩
  ·have h8:own (upd M3 g (some (.cells 201 [v',.map (some bm)] 2))) B 110 5 v' (t.length+1) (rows.flatten ++ .slice ak key.length ck::c.cs):=h4.keep (fun q hq=>za4 _ _ (fun e=>hv'g (e ▸ hq))) (Nat.le_refl _)
   simpa using h8
  ·have hr1:zd5 F' (.slice ak key.length ck::c.cs) (key,c):=⟨_,rfl,hkv',by simp only; omega⟩
   exact (h1.rr.mono fun r x hr=>hr.mono hF).snoc hr1.one.1 hr1.one.2 hr1
  ·rw [← zou hno]; exact zke h.nd
  ·have q1:v.ownBlock≠some q:=fun e=>by have := (h1.oo.ge q e).1; omega
   have hgB:=h1.gB
   have hbB:=h1.bB
   rw [za4 _ _ (by omega),(h5 q q1 (by omega)).1,za4 _ _ (by omega),← hM2,za4 _ _ (by omega)]; exact hM1 q hq
 ·obtain ⟨⟨key',c'⟩,htj,hxk,hxv⟩:=hmo.2 j x hj
  have hkk:key'=key:=by
   rw [hxk] at hx
   injection hx with hx
   exact yi4 hx
  subst hkk
  rw [zs6 h.nd htj] at k
  rw [hxv]
  refine zaa rfl (zaa rfl (zdd ?_))
  have hjt:=(List.getElem?_eq_some_iff.1 htj).1
  obtain ⟨row,hrow,⟨kv1,hrw,hkv1,hkvl⟩,hread,hle,hrl⟩:=h1.rr.get htj
  simp only at hrw
  subst hrw
  obtain ⟨hol,ho⟩:=h1.oo
  rcases ho with ⟨_,h0⟩ | ⟨b,cp,rest,rfl,hlc,hcm,hbB,hMb⟩
  ·omega
  have hbg:b≠g:=fun e=>h1.vg.1 (by rw [e]; rfl)
  have hbm':b≠bm:=fun e=>h1.vg.2 (by rw [e]; rfl)
  have hlen:j*5+5≤rows.flatten.length:=hle
  have hget:∀ i,i<5→rows.flatten[j*5+i]?=(kv1::c'.cs)[i]?:=fun i hi=>by
   rw [← hread,List.getElem?_take,if_pos hi,List.getElem?_drop]
  refine zaa rfl (zaa rfl (ldM (v:=.slice (some ⟨b,0,none⟩) t.length cp) ?_))
  refine zaa rfl (zaa rfl (ldM (v:=.slice (some ⟨b,0,none⟩) t.length cp) ?_))
  refine zbz hjt (zaa rfl ?_)
  refine zfj (zfx (vs:=c'.cs) (zaq hMb) (by rw [List.length_append]; omega) ?_) ?_
  ·have e:(0+j*5+1)=j*5+1:=by omega
   rw [e,List.drop_append_of_le_length (by omega),List.take_append_of_le_length (by rw [List.length_drop]; omega)]
   have h3:=congrArg (List.drop 1) hread
   rw [List.drop_take,List.drop_drop] at h3
   simpa using h3
  refine zas (vs:=c.cs) ?_
  refine yku (fun N2 hN2 hw2=>?_)
  refine ⟨zao (zaq hgg) rfl,?_⟩
  refine zbz hjt (zaa rfl ?_)
  refine stM (cs':=(rows.set j (kv1::(c'.merge c).cs)).flatten++rest) ?_ hMb ?_ rfl (List.all_eq_true.1 rfl) (by rw [List.length_append]; omega)
  ·refine fun hc=>⟨_,za0 hc,fun hw'=>k _ _ _ (.slice (some ⟨b,0,none⟩) t.length cp) (rows.set j (kv1::(c'.merge c).cs)) (zac.refl _) (by omega) ⟨(za4 _ _ (Ne.symm hbg)).trans hgg,h1.gB,h1.bB,⟨es,clock,(za4 _ _ (Ne.symm hbm')).trans hmp,hmo.set htj⟩,?_,?_,?_⟩ (fun q hq=>(za4 _ _ (by omega)).trans (hM1 q hq)) hw'.m hw'⟩
   ·refine ⟨?_,.inr ⟨b,cp,rest,by simp,by simpa using hlc,hcm,hbB,za5 _ _ _⟩⟩
    rw [zck (sz:=5)]
    ·simp [h1.rr.all.1]
    ·intro r hr
     rcases List.mem_or_eq_of_mem_set hr with hr | rfl
     ·exact h1.rr.len r hr
     ·rfl
   ·have hr1:zd5 F (kv1::(c'.merge c).cs) (key',c'.merge c):=⟨kv1,rfl,hkv1,hkvl⟩
    refine ⟨fun r hr=>?_,fun r hr=>?_,by simp [h1.rr.all.1],fun i r x hr hx=>?_⟩
    ·rcases List.mem_or_eq_of_mem_set hr with hr | rfl
     ·exact h1.rr.len r hr
     ·rfl
    ·rcases List.mem_or_eq_of_mem_set hr with hr | rfl
     ·exact h1.rr.one r hr
     ·exact hr1.one.2
    ·by_cases hij:j=i
     ·subst hij
      have hjr:j<rows.length:=by rw [h1.rr.all.1]; exact hjt
      rw [List.getElem?_set_self hjr] at hr
      rw [List.getElem?_set_self hjt] at hx
      cases hr; cases hx; exact hr1
     ·rw [List.getElem?_set_ne hij] at hr hx
      exact h1.rr.all.2 i r x hr hx
   ·rw [← zs6 h.nd htj]; exact zke h.nd
  ·have e:(0+j*5+1)=j*5+1:=by omega
   have hjr:j<rows.length:=by rw [h1.rr.all.1]; exact hjt
   rw [e]
   show zbs (rows.flatten++rest) (j*5+1) (c'.merge c).cs=_
   have h4:(c'.merge c).cs.length=4:=rfl
   rw [zts (by omega),yb9 (x:=kv1) (by have := hget 0 (by decide); simpa using this) (by omega),zzm rows j _ h1.rr.len rfl hjr]
open Go.Sort hiding Below
theorem yl2 {sz:Nat} {rows:List (List Value)} (hl:∀ r∈rows,r.length=sz) {i j:Nat} {r:List Value} (hi:rows[i]?=some r) (hj:j<sz):rows.flatten[i*sz+j]?=r[j]?:=by
 have h:=zks rows i r hl hi
 rw [← h,List.getElem?_take,if_pos hj,List.getElem?_drop]
theorem ydk {W w':World} (h:Below W.heap.size W w') (hd:W.drawn≤w'.drawn):∃ q os',w'=grow (W.drewN q) os':=by
 refine ⟨w'.drawn - W.drawn,w'.heap.extract W.heap.size w'.heap.size,?_⟩
 have hh:w'.heap=W.heap++w'.heap.extract W.heap.size w'.heap.size:=by
  apply Array.ext_getElem?
  intro k
  have hs:=h.size
  rw [Array.getElem?_append]
  split
  ·rename_i hk; exact h.block k hk
  ·rename_i hk
   rw [Array.getElem?_extract]
   split
   ·rw [show W.heap.size+(k - W.heap.size)=k by omega]
   ·exact Array.getElem?_eq_none (by omega)
 obtain ⟨hp,tp,dr,os,out⟩:=w'
 simp only at hh hd
 have h1:=h.os; have h2:=h.tape; have h3:=h.output
 simp only at h1 h2 h3
 unfold grow World.drewN
 subst h1 h2 h3
 rw [← hh]
 congr 1
 simp only; omega
theorem yhs {W:World} (hF:∀ bk cs,F bk=some cs→∃ arr e z,W.heap[bk]?=some (.cells arr e z)∧cs <+: arr.toList) {sz m:Nat} {v:Value} {cells:List Value} (h:sF F sz v m cells):sF (F0 W) sz v m cells:=by
 refine ⟨h.1,h.2.imp id fun ⟨b,o,c,cs,h1,h2,h3,h4⟩=>?_⟩
 obtain ⟨arr,e,z,h5,h6⟩:=hF b cs h3
 refine ⟨b,o,c,arr.toList,h1,h2,by simp [F0,h5],?_⟩
 obtain ⟨t,ht⟩:=h6
 rw [← ht]
 have hl:=congrArg List.length h4
 rw [List.length_take,List.length_drop,h.1] at hl
 rcases Nat.eq_zero_or_pos (m*sz) with h0 | h0
 ·rw [← h4,h0]; simp
 ·rw [List.drop_append_of_le_length (by omega),List.take_append_of_le_length (by rw [List.length_drop]; omega)]; exact h4
theorem yff {cs ds:List Value} {r q:Rw} (hr:zd5 F cs r) (hq:zd5 F ds q) (k:∀ N',K (.int .i64 (zbn r.1 q.1)) ⟨F,M,N'⟩) :
  call Tryz.prog 137 #[.agg cs.toArray,.agg ds.toArray] K E ⟨F,M,N⟩:=by
 refine zlf mixed Tryz.func137 (by kernel_rfl) (ymn _ E _ _) (fun hw=>?_)
 have hm:=hw.m
 obtain ⟨v,rfl,hv,hvl⟩:=hr
 obtain ⟨u,rfl,hu,_⟩:=hq
 refine zal (cs:=v::r.2.cs) (fun b1 hb1=>?_)
 refine zal (cs:=u::q.2.cs) (fun b2 hb2=>?_)
 refine zaa rfl (ldM (v:=v) ?_)
 refine zaa rfl (ldM (v:=u) ?_)
 refine yjp hv hu (by omega) fun hc=>?_
 exact ⟨⟨F,M,b2+1⟩,zc3 hc,fun hw'=>k _⟩
abbrev zfz (F:Nat→Option (List Value)):={ x:List Value×Rw // zd5 F x.1 x.2 }
theorem yfz:∀ (rows:List (List Value)) (t:List Rw),zad (zd5 F) 5 rows t→∃ d:List (zfz F),d.map (·.1.1)=rows∧d.map (·.1.2)=t
 | [],[],_=>⟨[],rfl,rfl⟩
 | [],_::_,h=>by have := h.all.1; simp at this
 | _::_,[],h=>by have := h.all.1; simp at this
 | r::rows,x::t,h=>by
  obtain ⟨d,h1,h2⟩:=yfz rows t ⟨fun r hr=>h.len r (by simp [hr]),fun r hr=>h.one r (by simp [hr]),by have := h.all.1; simp at this; exact this,fun i r x hr hx=>h.all.2 (i+1) r x (by simpa using hr) (by simpa using hx)⟩
  exact ⟨⟨(r,x),h.all.2 0 r x rfl rfl⟩::d,by simp [h1],by simp [h2]⟩
theorem ya0 (d:List (zfz F)):zad (zd5 F) 5 (d.map (·.1.1)) (d.map (·.1.2)):=by
 refine ⟨fun r hr=>?_,fun r hr=>?_,by simp,fun i r x hr hx=>?_⟩
 ·obtain ⟨x,_,rfl⟩:=List.mem_map.1 hr; exact x.2.one.1
 ·obtain ⟨x,_,rfl⟩:=List.mem_map.1 hr; exact x.2.one.2
 ·rw [List.getElem?_map] at hr hx
  cases hd:d[i]? with
  | none=>rw [hd] at hr; simp at hr
  | some y=>rw [hd] at hr hx; simp at hr hx; subst hr; subst hx; exact y.2
theorem ylf:SWO (ltOf fun (x y:zfz F)=>zbn x.1.2.1 y.1.2.1):=by
 refine ⟨fun x=>by simp [ltOf,zgi],fun x y z h1 h2=>?_,fun x y z h1 h2=>?_⟩
 ·simp only [ltOf,decide_eq_true_eq] at h1 h2 ⊢
  exact ziw h1 h2
 ·simp only [ltOf,decide_eq_false_iff_not] at h1 h2 ⊢
  intro h3
  have e1:=zjm x.1.2.1 y.1.2.1
  have e2:=zjm y.1.2.1 z.1.2.1
  rcases Int.lt_or_eq_of_le (show 0≤zbn x.1.2.1 y.1.2.1 by omega) with h4 | h4
  ·have h5:zbn y.1.2.1 x.1.2.1<0:=by omega
   have := ziw h5 h3
   omega
  ·have := zkj h4.symm
   rw [this] at h3
   omega
open Go.Sort hiding Below
section
variable {α:Type} [Inhabited α] {enc:α→List Value} {kk n off:Nat} {w:World} {blk q:Nat} {d:Array α} {os:Array Obj}
theorem zzz (hq:q≠blk) (hl:q<w.heap.size):(sortWorldK enc kk w blk off n d os).heap[q]?=w.heap[q]?:=by
 unfold sortWorldK putRowK putRow mapBlock grow Sort.ahead
 simp only
 rw [Array.getElem?_append_left (by simpa using hl),Array.getElem?_modify,if_neg (fun e=>hq e.symm)]
theorem ynb {arr:Array Value} {e:TypeId} {z:Nat×Nat} (h:w.heap[blk]?=some (.cells arr e z)):(sortWorldK enc kk w blk off n d os).heap[blk]?=some (.cells (putCells id off (flatK enc kk d) arr) e z):=by
 have hl:blk<w.heap.size:=(Array.getElem?_eq_some_iff.1 h).1
 unfold sortWorldK putRowK putRow mapBlock grow Sort.ahead
 simp only
 rw [Array.getElem?_append_left (by simpa using hl),Array.getElem?_modify,if_pos rfl,h]
 rfl
theorem ybt:w.heap.size≤(sortWorldK enc kk w blk off n d os).heap.size:=by
 unfold sortWorldK putRowK putRow mapBlock grow Sort.ahead
 simp
end
theorem ztp (d:List (zfz F)) [Inhabited (zfz F)] (j:Nat) (hj:j<d.length*5):(flatK (fun x:zfz F=>x.1.1) 5 d.toArray)[j]?=(d.map (·.1.1)).flatten[j]?:=by
 have h5:j/5<d.length:=by omega
 have hz:j<d.toArray.size*5:=by simpa using hj
 have e1:(flatK (fun x:zfz F=>x.1.1) 5 d.toArray)[j]?=some ((flatK (fun x:zfz F=>x.1.1) 5 d.toArray)[j]!):=by
  rw [getElem!_def,Array.getElem?_eq_getElem (by simpa using hj)]
 rw [e1,get_flatK _ _ _ _ hz]
 have hr:=ya0 d
 have hg:(d.map (·.1.1))[j/5]?=some (d[j/5].1.1):=by simp [h5]
 have h6:=yl2 hr.len hg (Nat.mod_lt j (by decide:0<5))
 rw [show j/5*5+j%5=j by omega] at h6
 rw [h6]
 have e2:d.toArray[j/5]! = d[j/5]:=by rw [getElem!_def]; simp [h5]
 rw [e2]
 have hl:(d[j/5].1.1).length=5:=d[j/5].2.one.1
 rw [List.getElem?_eq_getElem (by omega),getElem!_def,List.getElem?_eq_getElem (by omega)]
theorem yaw (d:List (zfz F)) [Inhabited (zfz F)]:(flatK (fun x:zfz F=>x.1.1) 5 d.toArray).toList=(d.map (·.1.1)).flatten:=by
 have hl:=zck (d.map (·.1.1)) (ya0 d).len
 apply List.ext_getElem?
 intro j
 rw [Array.getElem?_toList]
 rcases Nat.lt_or_ge j (d.length*5) with h | h
 ·exact ztp d j h
 ·rw [Array.getElem?_eq_none (by simpa using h),List.getElem?_eq_none (by rw [hl]; simpa using h)]
theorem ydu {a b rest:List Value} {B arr:Array Value} (hb:B.toList=b) (hab:a.length=b.length) (h:a++rest <+: arr.toList):b++rest <+: (putCells id 0 B arr).toList:=by
 have hsz:B.size=b.length:=by rw [← hb]; simp
 obtain ⟨t,ht⟩:=h
 have hlen:=congrArg List.length ht
 simp only [List.length_append,Array.length_toList] at hlen
 refine ⟨t,?_⟩
 apply List.ext_getElem?
 intro i
 refine Eq.trans ?_ (Array.getElem?_toList).symm
 unfold putCells
 rw [Array.getElem?_mapIdx]
 rcases Nat.lt_or_ge i b.length with hi | hi
 ·rw [List.append_assoc,List.getElem?_append_left hi,Array.getElem?_eq_getElem (by omega)]
  simp only [Option.map_some]
  rw [if_pos ⟨Nat.zero_le _,by omega⟩]
  have:B[i]?=b[i]?:=by rw [← hb,Array.getElem?_toList]
  rw [← this,getElem!_def,Array.getElem?_eq_getElem (by omega)]
  simp [hsz,hi]
 ·have e:arr[i]?=(a++rest++t)[i]?:=by rw [ht,Array.getElem?_toList]
  have e2:(a++rest++t)[i]?=(rest++t)[i - b.length]?:=by rw [List.append_assoc,List.getElem?_append_right (by omega),hab]
  rw [List.append_assoc,List.getElem?_append_right hi,e,e2]
  cases hx:(rest++t)[i - b.length]? with
  | none=>rfl
  | some v=>simp only [Option.map_some]; rw [if_neg (by omega)]
theorem zix {α:Type} {R:List Value→α→Prop} {sz:Nat} {v:Value} {l:List α} {rows:List (List Value)} (hv:sF F sz v l.length rows.flatten) (hr:zad R sz rows l) (hz:0<sz) {i:Nat} (hi:i<l.length) :
  ∃ b o c cs r,v=.slice (some ⟨b,o,none⟩) l.length c∧F b=some cs∧rows[i]?=some r∧R r l[i]∧r.length=sz∧(∀ x∈r,x.oneCell'=true)∧o+i*sz+sz≤cs.length∧(cs.drop (o+i*sz)).take sz=r∧∀ j,j<sz→cs[o+i*sz+j]?=r[j]?:=by
 obtain ⟨b,o,c,hab,cs,hF,hle,hcs⟩:=hv.at hz hi
 obtain ⟨r,h1,h2,h3,h4,h5⟩:=hr.get (List.getElem?_eq_getElem hi)
 have hfl:=hr.flen
 have hj:∀ j,j<sz→cs[o+i*sz+j]?=r[j]?:=fun j hj=>by
  rw [Nat.add_assoc,hcs (i*sz+j) (by rw [hfl] at h4; omega),← h3,List.getElem?_take,if_pos hj,List.getElem?_drop]
 refine ⟨b,o,c,cs,r,hab,hF,h1,h2,h5,hr.one r (List.mem_of_getElem? h1),by rw [hfl] at h4; omega,?_,hj⟩
 apply List.ext_getElem?
 intro j
 rw [List.getElem?_take]
 split
 ·rename_i h; rw [List.getElem?_drop]; exact hj j h
 ·rw [List.getElem?_eq_none (by omega)]
theorem zcr {α:Type} {R:List Value→α→Prop} {sz:Nat} {v:Value} {l:List α} {rows:List (List Value)} {K:Value→zae} (hv:sF F sz v l.length rows.flatten) (hr:zad R sz rows l) (hz:0<sz) {i:Nat} (hi:i<l.length)
  (k:∀ p r,rows[i]?=some r→R r l[i]→r.length=sz→(∀ x∈r,x.oneCell'=true)→K p (.agg r.toArray) ⟨F,M,N⟩):pv (iaV none sz v (.int .i64 (i:Nat))) (fun p=>ld true sz p (K p)) ⟨F,M,N⟩:=by
 obtain ⟨b,o,c,cs,r,rfl,hF,hrr,hR,hl,h1,hle,ht,_⟩:=zix hv hr hz hi
 exact zbz hi (zfj (zfx (zdi hF) hle ht) (k _ r hrr hR hl h1))
theorem zbb {α:Type} {R:List Value→α→Prop} {sz:Nat} {v:Value} {l:List α} {rows:List (List Value)} {K:Value→Value→zae} (hv:sF F sz v l.length rows.flatten) (hr:zad R sz rows l) (hz:0<sz) {i:Nat} (hi:i<l.length) {off:Nat} (ho:off<sz)
  (k:∀ p q r x,R r l[i]→r.length=sz→r[off]?=some x→K p q x ⟨F,M,N⟩):pv (iaV none sz v (.int .i64 (i:Nat))) (fun p=>pv (faV off p) fun q=>ld false 1 q (K p q)) ⟨F,M,N⟩:=by
 obtain ⟨b,o,c,cs,r,rfl,hF,_,hR,hl,h1,hle,ht,hj⟩:=zix hv hr hz hi
 have hx:r[off]?=some (r[off]'(by omega)):=List.getElem?_eq_getElem _
 exact zbz hi (zaa rfl (zfj (zao (zdi hF) ((hj off ho).trans hx)) (k _ _ r _ hR hl hx)))
def zbt (F:Nat→Option (List Value)) (v:Value) (t:List Rw):Prop:=∃ rows,sF F 5 v t.length rows.flatten∧zad (zd5 F) 5 rows t
theorem zbt.mono {v:Value} {t:List Rw} (h:zbt F v t) (hF:zac F F'):zbt F' v t:=let ⟨rows,h1,h2⟩:=h; ⟨rows,h1.mono hF,h2.mono fun _ _ hr=>hr.mono hF⟩
theorem zbt.form {v:Value} {t:List Rw} (h:zbt F v t):∃ a c,v=.slice a t.length c:=let ⟨rows,h1,_⟩:=h; let ⟨a,c,h2,_⟩:=h1.form; ⟨a,c,h2⟩
theorem zbt.nil {c:Nat}:zbt F (.slice none 0 c) []:=⟨[],sF.nil _ _ _,zad.nil _ _⟩
abbrev Fc:=List Int×Int
def zc1 (F:Nat→Option (List Value)) (cs:List Value) (f:Fc):Prop:=∃ v,cs=[v,.int .i64 f.2]∧sF F 1 v f.1.length (ic f.1)∧f.1.length≤140737488351232
theorem zc1.mono {cs:List Value} {f:Fc} (h:zc1 F cs f) (hF:zac F F'):zc1 F' cs f:=let ⟨v,h1,h2,h3⟩:=h; ⟨v,h1,h2.mono hF,h3⟩
theorem zc1.one {cs:List Value} {r:Fc} (h:zc1 F cs r):cs.length=2∧∀ c∈cs,c.oneCell'=true:=by
 obtain ⟨v,rfl,hv,_⟩:=h
 obtain ⟨a,c,rfl,_⟩:=hv.form
 exact ⟨rfl,List.all_eq_true.1 rfl⟩
def zar (F:Nat→Option (List Value)) (v:Value) (l:List Fc):Prop:=∃ rows,sF F 2 v l.length rows.flatten∧zad (zc1 F) 2 rows l
theorem zar.mono {v:Value} {t:List Fc} (h:zar F v t) (hF:zac F F'):zar F' v t:=let ⟨rows,h1,h2⟩:=h; ⟨rows,h1.mono hF,h2.mono fun _ _ hr=>hr.mono hF⟩
def okK (k:List Int):Prop:=k.length≤10000000000∧∀ x∈k,i64 x
def ofC (v:Int):CE:=⟨1,v,v,v⟩
theorem zmo {v:Value} {t:List Rw} {rows:List (List Value)} (hc:(Hp.mk F M' N').wf) (ho:own M' N 110 5 v t.length rows.flatten) (hr:zad (zd5 F) 5 rows t):zbt (zdh F M' N) v t :=
 ⟨rows,ho.rd.frz hc (fun b hb=>.inl (ho.ge b hb).1),hr.mono fun _ _ h=>h.mono (zag hc)⟩
theorem zb7 (hm:za7 M N) (hk:∀ q,q<N→M' q=M q) (hc:(Hp.mk F M' N').wf):(Hp.mk F M' N').wk ⟨zdh F M' N,M,N'⟩:=ylo hm hk hc
theorem ymb {α:Type} {R:List Value→α→Prop} {sz:Nat} {v:Value} {l:List α} {rows:List (List Value)} {K:Value→Value→zae} (hv:sF F sz v l.length rows.flatten) (hr:zad R sz rows l) (hz:0<sz) {i:Nat} (hi:i<l.length) {off n:Nat} (ho:off+n≤sz)
  (k:∀ p q r,R r l[i]→r.length=sz→K p q (.agg ((r.drop off).take n).toArray) ⟨F,M,N⟩):pv (iaV none sz v (.int .i64 (i:Nat))) (fun p=>pv (faV off p) fun q=>ld true n q (K p q)) ⟨F,M,N⟩:=by
 obtain ⟨b,o,c,cs,r,rfl,hF,_,hR,hl,h1,hle,ht,hj⟩:=zix hv hr hz hi
 refine zbz hi (zaa rfl (zfj (zfx (zdi hF) (by omega) ?_) (k _ _ r hR hl)))
 apply List.ext_getElem?
 intro j
 rw [List.getElem?_take,List.getElem?_take,List.getElem?_drop,List.getElem?_drop]
 split
 ·rw [show o+i*sz+off+j=o+i*sz+(off+j) by omega,hj _ (by omega)]
 ·rfl
theorem zi2 {v:Value} {t:List Rw} {rows:List (List Value)} {K:Value→Value→zae} (hv:sF F 5 v t.length rows.flatten) (hr:zad (zd5 F) 5 rows t) {i:Nat} (hi:i<t.length)
  (k:∀ p q kv,sF F 1 kv t[i].1.length (ic t[i].1)→t[i].1.length≤140737488351232→K p q kv ⟨F,M,N⟩):pv (iaV none 5 v (.int .i64 (i:Nat))) (fun p=>pv (faV 0 p) fun q=>ld false 1 q (K p q)) ⟨F,M,N⟩ :=
 zbb hv hr (by decide) hi (by decide) fun p q r x hR _ hx=>by
  obtain ⟨kv,rfl,h1,h2⟩:=hR
  simp at hx; subst hx
  exact k p q _ h1 h2
theorem zpc {v:Value} {t:List Rw} {rows:List (List Value)} {K:Value→Value→zae} (hv:sF F 5 v t.length rows.flatten) (hr:zad (zd5 F) 5 rows t) {i:Nat} (hi:i<t.length)
  (k:∀ p q,K p q (.agg t[i].2.cs.toArray) ⟨F,M,N⟩):pv (iaV none 5 v (.int .i64 (i:Nat))) (fun p=>pv (faV 1 p) fun q=>ld true 4 q (K p q)) ⟨F,M,N⟩ :=
 ymb hv hr (by decide) hi (by decide) fun p q r hR _=>by
  obtain ⟨kv,rfl,h1,h2⟩:=hR
  exact k p q
theorem zo8 {u v:Value} {a b:List Int} (hu:sF F 1 u a.length (ic a)) (hv:sF F 1 v b.length (ic b)) (hla:a.length≤140737488351232) (k:K (.int .i64 (zbn a b)) ⟨F,M,N⟩) :
  za2 Tryz.prog (.func (.func 44) #[] #[]) #[u,v] K E ⟨F,M,N⟩:=by
 refine za3 mixed Tryz.func44 (by kernel_rfl) (t44 _ E _ _) (fun hw=>?_)
 obtain ⟨ua,uc,rfl,_⟩:=hu.form
 obtain ⟨va,vc,rfl,_⟩:=hv.form
 refine zy0 (σ:=Nat) (fun i=>.int .i64 (i:Nat)) (fun i h=>h=⟨F,M,N⟩∧i≤min a.length b.length∧zbn a b=zbn (a.drop i) (b.drop i)) (fun i=>min a.length b.length - i) 0 rfl
  (fun hw1=>⟨_,za0 hw1,rfl,Nat.zero_le _,rfl⟩) (fun k1 i j h1 hI hw1 next=>?_)
 rw [zxz]
 obtain ⟨rfl,hi,he⟩:=hI
 have fin:i=min a.length b.length→zbn a b=zi8 a.length b.length:=fun h=>by rw [he,yaa h]
 have tail:i=min a.length b.length→∀ (X:zae),(∀ v,v=zbn a b→X (.int .i64 v) ⟨F,M,N⟩)→pv (za1 .none .lss (.int .i64 (a.length:Nat)) (.int .i64 (b.length:Nat))) (fun t3=>cnd t3 (X (.int .i64 (-1))) (pv (za1 .none .gtr (.int .i64 (a.length:Nat)) (.int .i64 (b.length:Nat))) fun t6=>cnd t6 (X (.int .i64 1)) (X (.int .i64 0)))) ⟨F,M,N⟩:=by
  intro hi X hX
  have := fin hi
  unfold zi8 at this
  refine zaf (fun h=>zdd (hX _ ?_)) (fun h=>zc8 (zbu (fun h'=>zdd (hX _ ?_)) (fun h'=>zc8 (hX _ ?_))))
  ·rw [this,if_pos h]
  ·rw [this,if_neg h,if_pos h']
  ·rw [this,if_neg h,if_neg h']
 try simp only [sS]
 refine zaf (fun hlt=>?_) (fun hge=>?_)
 ·try simp only [sS]
  refine zaf (fun hlt2=>?_) (fun hge2=>?_)
  ·try simp only [sS]
   have h1:i<a.length:=by omega
   have h2:i<b.length:=by omega
   rw [yc3 h1 h2] at he
   refine zax hu h1 fun p1=>zax hv h2 fun p2=>?_
   refine zaf (fun h=>?_) (fun h=>?_)
   ·try simp only [sS]
    refine fun hc=>⟨_,za0 hc,fun _=>?_⟩
    unfold zi8 at he
    rw [if_pos h,if_neg (by decide)] at he; rw [← he]; exact k
   ·try simp only [sS]
    refine zax hu h1 fun p1=>zax hv h2 fun p2=>?_
    refine zbu (fun h'=>?_) (fun h'=>?_)
    ·try simp only [sS]
     refine fun hc=>⟨_,za0 hc,fun _=>?_⟩
     unfold zi8 at he
     rw [if_neg h,if_pos h',if_neg (by decide)] at he; rw [← he]; exact k
    ·try simp only [sS]
     refine zai (by omega) ?_
     have h0:zi8 a[i] b[i]=0:=by unfold zi8; rw [if_neg h,if_neg h']
     rw [if_pos h0] at he
     exact next (i+1) _ _ (by omega) (fun hw2=>⟨_,za0 hw2,rfl,by omega,he⟩)
  ·try simp only [sS]
   try simp only [sS]
   refine tail (by omega) (fun v h=>h.wf→∃ h',h.wk h'∧(h'.wf→K v h')) (fun v e hc=>⟨_,za0 hc,fun _=>by rw [e]; exact k⟩)
 ·try simp only [sS]
  try simp only [sS]
  refine tail (by omega) (fun v h=>h.wf→∃ h',h.wk h'∧(h'.wf→K v h')) (fun v e hc=>⟨_,za0 hc,fun _=>by rw [e]; exact k⟩)
theorem ygc {v:Value} {l:List Int} (hm0:za7 M N) (hv:sR F M 1 v l.length (ic l)) (hl:l.length≤10000000000000)
  (k:∀ v' F' N',(Hp.mk F' M N').wf→zac F F'→N≤N'→sF F' 1 v' l.length (ic l)→K v' ⟨F',M,N'⟩):za2 Tryz.prog (.func (.func 177) #[] #[]) #[v] K E ⟨F,M,N⟩:=by
 refine za3 mixed Tryz.func177 (by kernel_rfl) (yri _ E _) (fun hw=>?_)
 refine own.app (B:=N) own.nil hm0 (Nat.le_refl _) hv (zg5 _) (by omega) (by simp [maxLen]; omega) (fun v' M' N' h1 h2 h3 h4 hc=>?_)
 have hMM:∀ q,q<N→M' q=M q:=fun q hq=>(h2 q (by simp [Value.ownBlock]) hq).1
 refine ⟨_,zb7 hm0 hMM hc,fun hw'=>k v' _ N' hw' (zag hc) (by omega) ?_⟩
 have := h1.rd.frz hc (fun b hb=>.inl (h1.ge b hb).1)
 simpa using this
theorem yll {a b:CE} {h:Hp} (k:K (.bool (!decide (a=b))) h):pv (ze0 .neq [0,0,0,0] (.agg a.cs.toArray) (.agg b.cs.toArray)) K h:=by
 refine ⟨_,?_,k⟩
 obtain ⟨a1,a2,a3,a4⟩:=a
 obtain ⟨b1,b2,b3,b4⟩:=b
 simp only [ze0,CE.cs]
 have hd:∀ x y:Int,(x == y)=decide (x=y):=fun _ _=>rfl
 by_cases h1:a1=b1<;>by_cases h2:a2=b2<;>by_cases h3:a3=b3<;>by_cases h4:a4=b4<;>simp [zht,zl7,hd,h1,h2,h3,h4]
theorem ymo {u v:Value} {a b:List Rw} (hu:zbt F u a) (hv:zbt F v b) (hla:a.length≤140737488351232) (k:K (.bool (decide (a=b))) ⟨F,M,N⟩) :
  za2 Tryz.prog (.func (.func 21) #[] #[]) #[u,v] K E ⟨F,M,N⟩:=by
 refine za3 mixed Tryz.func21 (by kernel_rfl) (t21 _ E _ _) (fun hw=>?_)
 obtain ⟨ru,hu1,hu2⟩:=hu
 obtain ⟨rv,hv1,hv2⟩:=hv
 have hlen:=hu1
 obtain ⟨ua,uc,rfl,huc⟩:=hu1.form
 obtain ⟨va,vc,rfl,_⟩:=hv1.form
 try simp only [sS]
 refine zc9 (fun hne=>?_) (fun hne=>?_)
 ·try simp only [sS]
  have e:¬ a=b:=fun e=>hne (by rw [e])
  rw [decide_eq_false e] at k
  exact fun hc=>⟨_,za0 hc,fun _=>k⟩
 have hab:a.length=b.length:=by omega
 try simp only [sS]
 refine ztz (σ:=Nat) (fun i=>.int .i64 (i:Nat)) (fun i h=>h=⟨F,M,N⟩∧i≤a.length∧a.take i=b.take i) (fun i=>a.length - i) 0 rfl
  (fun hw1=>⟨_,za0 hw1,rfl,Nat.zero_le _,rfl⟩) (fun k1 i j h1 hI hw1 next=>?_)
 rw [zun]
 obtain ⟨rfl,hi,he⟩:=hI
 have no:∀ (h1:i<a.length) (h2:i<b.length),a[i]≠b[i]→decide (a=b)=false:=fun h1 h2 hn=>decide_eq_false fun e=>by subst e; exact hn rfl
 try simp only [sS]
 refine zaf (fun hlt=>?_) (fun hge=>?_)
 ·try simp only [sS]
  have h1:i<a.length:=by omega
  have h2:i<b.length:=by omega
  refine zi2 hu1 hu2 h1 fun p q kv hkv hkl=>zi2 hv1 hv2 h2 fun p' q' kv' hkv' hkl'=>?_
  refine zo8 hkv hkv' hkl ?_
  refine zc9 (fun hn=>?_) (fun hn=>?_)
  ·try simp only [sS]
   rw [no h1 h2 (fun e=>hn (by rw [e,zgi]))] at k
   exact fun hc=>⟨_,za0 hc,fun _=>k⟩
  ·try simp only [sS]
   refine zpc hu1 hu2 h1 fun p q=>zpc hv1 hv2 h2 fun p' q'=>?_
   have hk:=zkj (show zbn a[i].1 b[i].1=0 by omega)
   refine yll ?_
   by_cases hcc:a[i].2=b[i].2
   ·rw [decide_eq_true hcc]
    try simp only [sS]
    refine zai (by omega) ?_
    refine next (i+1) _ _ (by omega) (fun hw2=>⟨_,za0 hw2,rfl,by omega,?_⟩)
    rw [List.take_add_one,List.take_add_one,he,List.getElem?_eq_getElem h1,List.getElem?_eq_getElem h2,show a[i]=b[i] from Prod.ext hk hcc]
   ·rw [decide_eq_false hcc]
    try simp only [sS]
    rw [no h1 h2 (fun e=>hcc (by rw [e]))] at k
    exact fun hc=>⟨_,za0 hc,fun _=>k⟩
 ·try simp only [sS]
  rw [List.take_of_length_le (by omega),List.take_of_length_le (by omega)] at he
  rw [decide_eq_true he] at k
  exact fun hc=>⟨_,za0 hc,fun _=>k⟩
theorem zxr:∀ (t:List Rw) (k:List Int) (c:CE) (i:Nat),(∀ x∈t.take i,zbn x.1 k<0)→layR t k c=t.take i++layR (t.drop i) k c
 | [],k,c,i,_=>by simp
 | (k1,c1)::t,k,c,0,_=>by simp
 | (k1,c1)::t,k,c,i+1,h=>by
  have h1:zbn k1 k<0:=h (k1,c1) (by simp)
  have := zxr t k c i (fun x hx=>h x (by simp [hx]))
  simp [layR,h1,this]
theorem zlr {kv:Value} {c:CE} {key:List Int} (hkv:sF F 1 kv key.length (ic key)):(kv::c.cs).length=5∧(∀ x∈kv::c.cs,x.oneCell'=true):=by
 obtain ⟨a,n,rfl,_⟩:=hkv.form
 exact ⟨rfl,List.all_eq_true.1 rfl⟩
theorem zga {α:Type} {R:List Value→α→Prop} {sz:Nat} {r1 r2:List (List Value)} {x1 x2:List α} (h1:zad R sz r1 x1) (h2:zad R sz r2 x2):zad R sz (r1++r2) (x1++x2):=by
 refine ⟨fun r hr=>?_,fun r hr=>?_,by simp [h1.all.1,h2.all.1],fun i r x hr hx=>?_⟩
 ·rcases List.mem_append.1 hr with h | h; exact h1.len r h; exact h2.len r h
 ·rcases List.mem_append.1 hr with h | h; exact h1.one r h; exact h2.one r h
 ·have hl:=h1.all.1
  rcases Nat.lt_or_ge i r1.length with hi | hi
  ·rw [List.getElem?_append_left hi] at hr
   rw [List.getElem?_append_left (by omega)] at hx
   exact h1.all.2 i r x hr hx
  ·rw [List.getElem?_append_right hi] at hr
   rw [List.getElem?_append_right (by omega)] at hx
   rw [← hl] at hx
   exact h2.all.2 _ r x hr hx
theorem zib {α:Type} {R:List Value→α→Prop} {sz:Nat} {rows:List (List Value)} {xs:List α} (h:zad R sz rows xs) (i:Nat):zad R sz (rows.drop i) (xs.drop i) :=
 ⟨fun r hr=>h.len r (List.mem_of_mem_drop hr),fun r hr=>h.one r (List.mem_of_mem_drop hr),by simp [h.all.1],fun j r x hr hx=>h.all.2 (i+j) r x (by simpa [List.getElem?_drop] using hr) (by simpa [List.getElem?_drop] using hx)⟩
theorem zh7 {α:Type} {R:List Value→α→Prop} {sz:Nat} {rows:List (List Value)} {xs:List α} (h:zad R sz rows xs) (i:Nat):zad R sz (rows.take i) (xs.take i) :=
 ⟨fun r hr=>h.len r (List.mem_of_mem_take hr),fun r hr=>h.one r (List.mem_of_mem_take hr),by simp [h.all.1],fun j r x hr hx=>by
  rw [List.getElem?_take] at hr hx
  split at hr
  ·rename_i hj; rw [if_pos hj] at hx; exact h.all.2 j r x hr hx
  ·cases hr⟩
theorem zkv {sz:Nat}:∀ (rows:List (List Value)) (i:Nat),(∀ r∈rows,r.length=sz)→rows.flatten.drop (i*sz)=(rows.drop i).flatten
 | [],i,_=>by simp
 | x::rows,0,_=>by simp
 | x::rows,i+1,h=>by
  have hx:=h x (by simp)
  rw [List.flatten_cons,List.drop_succ_cons,← zkv rows i (fun r hr=>h r (by simp [hr])),Nat.succ_mul,show i*sz+sz=x.length+i*sz by omega,List.drop_length_add_append]
theorem yju {α:Type} {R:List Value→α→Prop} {sz:Nat} {v:Value} {l:List α} {rows:List (List Value)} {K:zae} {ki:IntKind} (hv:sF F sz v l.length rows.flatten) (hr:zad R sz rows l) {i:Nat} (hi:i≤l.length)
  (k:∀ v',sF F sz v' (l.drop i).length (rows.drop i).flatten→K v' ⟨F,M,N⟩):pv (slV sz v (some (.int ki (i:Nat))) none none) K ⟨F,M,N⟩:=by
 have hfd:=zkv rows i hr.len
 have hfl:=(zib hr i).flen
 have hc:∃ a c,v=.slice a l.length c∧l.length≤c:=hv.form
 obtain ⟨a,c,rfl,hlc⟩:=hc
 refine zrx i l.length c hi hlc (Nat.le_refl _) ?_ (h4:=fun _=>⟨rfl,hlc⟩)
 refine k _ ⟨hfl,?_⟩
 rcases hv.2 with ⟨a',c',h1,h2⟩ | ⟨b,o,c',cs,h1,h2,h3,h4⟩
 ·exact .inl ⟨_,_,by rw [show l.length - i=0 by omega],by simp; omega⟩
 ·injection h1 with h1 _ h1'
  subst h1; subst h1'
  rcases Nat.lt_or_ge i c with hic | hic
  ·rw [if_neg (by omega)]
   refine .inr ⟨b,o+i*sz,c - i,cs,by simp [Addr.add_plain],by simp; omega,h3,?_⟩
   rw [← hfd,← h4,List.drop_take,List.drop_drop]
   congr 1
   rw [List.length_drop,Nat.sub_mul]
  ·exact .inl ⟨_,_,by rw [show l.length - i=0 by omega],by simp; omega⟩
theorem zry {X:zae} {B b2 i':Nat} {u v kv:Value} {t pre:List Rw} {rows prs:List (List Value)} {key:List Int} {c:CE} (hM2:M b2=some (.cells 110 (kv::c.cs) 5)) (hkv:sF F 1 kv key.length (ic key)) (hm:za7 M N) (hB:B≤N)
  (ho:own M B 110 5 u pre.length prs.flatten) (hub:u.ownBlock≠some b2) (hp:zad (zd5 F) 5 prs pre) (hv1:sF F 5 v t.length rows.flatten) (hv2:zad (zd5 F) 5 rows t) (hi:i'≤t.length) (hl:pre.length+t.length≤1000000000000)
  (hX:∀ v' M' N',own M' B 110 5 v' (pre.length+1+(t.drop i').length) ((prs++[kv::c.cs])++rows.drop i').flatten→(∀ q,q<B→M' q=M q)→N≤N'→za7 M' N'→X v' ⟨F,M',N'⟩) :
  (ld true 5 (.pointer (some ⟨b2,0,none⟩)) fun t1=>nws 110 1 (bsC #[(.slice none 0 0),(.int .i64 0),(.int .i64 0),(.int .i64 0),(.int .i64 0)] 5 1 #[(0,t1)]) fun t2=>
   zbf 110 5 56 u t2 fun t3=>pv (slV 5 v (some (.int .i64 (i':Nat))) none none) fun t4=>zbf 110 5 56 t3 t4 fun t5=>X t5) ⟨F,M,N⟩:=by
 have hrc:=zlr (c:=c) hkv
 obtain ⟨ka,kc,rfl,_⟩:=hkv.form
 refine zas (vs:=.slice ka key.length kc::c.cs) ?_ hM2
 refine zde (cs:=.slice ka key.length kc::c.cs) (by kernel_rfl) (fun b5 hb5=>?_)
 have ho2:own (upd M b5 (some (.cells 110 (.slice ka key.length kc::c.cs) (Value.slice ka key.length kc::c.cs).length))) B 110 5 u pre.length prs.flatten:=ho.keep (fun q hq=>za4 _ _ (fun e=>by have := ho.lt hm q hq; omega)) (Nat.le_refl _)
 refine ho2.app (m:=1) (news:=.slice ka key.length kc::c.cs) (hm.new hb5 _) (by omega) ⟨rfl,.inr ⟨b5,0,1,_,rfl,Nat.le_refl _,.inr ⟨_,_,za5 _ _ _⟩,rfl⟩⟩ hrc.2 (by omega) (by simp [maxLen]; omega) (fun u2 M2 N2 h4 h5 h6 h7=>?_)
 refine yju hv1 hv2 hi (fun v2 hv'=>?_)
 have hrd:=zib hv2 i'
 refine h4.app h7 (by omega) hv'.sR hrd.f1 (by rw [List.length_drop]; omega) (by rw [List.length_drop]; simp [maxLen]; omega) (fun u3 M3 N3 h8 h9 h10 h11=>?_)
 refine hX u3 M3 N3 (by simpa using h8) (fun q hq=>?_) (by omega) h11
 have q1:u.ownBlock≠some q:=fun e=>by have := (ho.ge q e).1; omega
 obtain ⟨a1,a2⟩:=h5 q q1 (by omega)
 exact ((h9 q a2 (by omega)).1).trans (a1.trans (za4 _ _ (by omega)))
theorem yfk {v kv:Value} {t:List Rw} {key:List Int} {c:CE} (hv:zbt F v t) (hkv:sF F 1 kv key.length (ic key)) (hkl:key.length≤10000000000) (ht:t.length≤100000000000)
  (k:∀ v' F' N',(Hp.mk F' M N').wf→zac F F'→N≤N'→zbt F' v' (layR t key c)→K v' ⟨F',M,N'⟩) :
  za2 Tryz.prog (.func (.func 150) #[] #[]) #[v,.agg (kv::c.cs).toArray] K E ⟨F,M,N⟩:=by
 refine za3 mixed Tryz.func150 (by kernel_rfl) (yqx _ E _ _) (fun hw=>?_)
 have hm:za7 M N:=hw.m
 obtain ⟨rows,hv1,hv2⟩:=hv
 obtain ⟨va,vc,hvf,hvc⟩:=hv1.form
 have hrc:=zlr (c:=c) hkv
 have hlv:za9 v=some (.int .i64 (t.length:Nat)):=by rw [hvf]; rfl
 refine zal (cs:=kv::c.cs) (fun b0 hb0=>?_)
 refine zr9 (σ:=Nat×Value) (fun s=>s.2) (fun s=>.int .i64 (s.1:Nat))
  (fun s h=>∃ M' N',h=⟨F,M',N'⟩∧b0<N'∧(∀ q,q<N→M' q=M q)∧M' b0=some (.cells 110 (kv::c.cs) 5)∧za7 M' N'∧s.1≤t.length∧own M' N 110 5 s.2 s.1 (rows.take s.1).flatten∧s.2.ownBlock≠some b0∧∀ x∈t.take s.1,zbn x.1 key<0) (fun s=>t.length - s.1)
  (0,.slice none 0 0) rfl rfl (fun hw1=>⟨_,za0 hw1,_,_,rfl,Nat.lt_succ_self _,fun q hq=>za4 _ _ (by omega),by rw [za5]; rfl,hm.new hb0 _,Nat.zero_le _,own.nil,by simp [Value.ownBlock],by simp⟩) (fun k1 s j h1 hI hw1 next=>?_)
 rw [zrw]
 obtain ⟨M1,N1,rfl,hbN,hM1,hb1,hm1,hs,ho,hob,hlt⟩:=hI
 have hrl:=hv2.all.1
 by_cases hgo:∃ h:s.1<t.length,zbn (t[s.1].1) key<0
 ·obtain ⟨h1,hl⟩:=hgo
  try simp only [hlv]
  try simp only [sS]
  refine zh0 (by omega) ?_
  try simp only [sS]
  refine zi2 hv1 hv2 h1 fun p q kv1 hkv1 hkl1=>?_
  refine ldM (v:=kv) ?_ hb1
  refine zo8 hkv1 hkv hkl1 ?_
  refine zh0 hl ?_
  try simp only [sS]
  refine zcr hv1 hv2 (by decide) h1 (fun p r hrr hR hr5 hr1=>?_)
  obtain ⟨kv2,rfl,hkv2,hkl2⟩:=hR
  obtain ⟨ka,kc,rfl,_⟩:=hkv2.form
  refine zde (cs:=.slice ka t[s.1].1.length kc::t[s.1].2.cs) (by kernel_rfl) (fun b5 hb5=>?_)
  have hb5v:s.2.ownBlock≠some b5:=fun e=>by have := ho.lt hm1 b5 e; omega
  have ho2:own (upd M1 b5 (some (.cells 110 (.slice ka t[s.1].1.length kc::t[s.1].2.cs) (Value.slice ka t[s.1].1.length kc::t[s.1].2.cs).length))) N 110 5 s.2 s.1 (rows.take s.1).flatten:=ho.keep (fun q hq=>za4 _ _ (fun e=>hb5v (e ▸ hq))) (Nat.le_refl _)
  refine ho2.app (m:=1) (news:=.slice ka t[s.1].1.length kc::t[s.1].2.cs) (hm1.new hb5 _) (by omega) ⟨rfl,.inr ⟨b5,0,1,_,rfl,Nat.le_refl _,.inr ⟨_,_,za5 _ _ _⟩,rfl⟩⟩ hr1 (by omega) (by simp [maxLen]; omega) (fun u2 M2 N2 h4 h5 h6 h7=>?_)
  refine zai (by omega) ?_
  refine next (s.1+1,u2) _ _ (by simp only; omega) (fun hw2=>⟨_,za0 hw2,M2,N2,rfl,by omega,fun q hq=>?_,((h5 b0 hob (by omega)).1).trans ((za4 _ _ (by omega)).trans hb1),h7,by simp only; omega,?_,(h5 b0 hob (by omega)).2,?_⟩)
  ·have q1:s.2.ownBlock≠some q:=fun e=>by have := (ho.ge q e).1; omega
   exact ((h5 q q1 (by omega)).1).trans ((za4 _ _ (by omega)).trans (hM1 q hq))
  ·simp only
   rw [List.take_add_one,hrr,Option.toList_some,List.flatten_append]
   simpa using h4
  ·simp only
   intro x hx
   rw [List.take_add_one,List.getElem?_eq_getElem h1] at hx
   rcases List.mem_append.1 hx with hx | hx
   ·exact hlt x hx
   ·simp at hx; rw [hx]; exact hl
 ·have hstop:∀ h:s.1<t.length,¬ zbn (t[s.1].1) key<0:=fun h hk=>hgo ⟨h,hk⟩
  have htk:(t.take s.1).length=s.1:=by rw [List.length_take]; omega
  have hlay:=zxr t key c s.1 hlt
  try simp only [hlv]
  try simp only [sS]
  refine zaf (fun hlt1=>?_) (fun hge1=>?_)
  have h1:s.1<t.length:=by omega
  try simp only [sS]
  refine zi2 hv1 hv2 h1 fun p q kv1 hkv1 hkl1=>?_
  refine ldM (v:=kv) ?_ hb1
  refine zo8 hkv1 hkv hkl1 ?_
  refine zh2 (hstop h1) ?_
  all_goals
   try simp only [sS]
   try simp only [sS]
   refine ldM (v:=kv) ?_ hb1
   refine zas (vs:=c.cs) ?_ hb1
   refine ⟨?_,?_⟩
  all_goals
   first
   | (refine ygc hm1 hkv.sR (by omega) (fun kv' F2 N2 hw2 hF2 hN2 hkv'=>?_)
      refine ⟨zfx (zaq hb1) (by exact Nat.le_of_ble_eq_true rfl) rfl,?_⟩
      obtain ⟨ka,kc,rfl,_⟩:=hkv'.form
      refine zaa (v:=.agg (.slice ka key.length kc::c.cs).toArray) (by kernel_rfl) ?_
      refine zal (fun b2 hb2=>?_)
      have hb1':∀ x,upd M1 b2 x b0=some (.cells 110 (kv::c.cs) 5):=fun x=>(za4 _ _ (by omega)).trans hb1
      refine ⟨zfx (zaq (hb1' _)) (by exact Nat.le_of_ble_eq_true rfl) rfl,?_⟩
      obtain ⟨N3,hN3⟩:∃ n,n=b2+1:=⟨_,rfl⟩
      have hbn:b2<N3∧N2≤b2∧N1≤b2:=by omega
      rw [← hN3])
   | (refine zal (fun b2 hb2=>?_)
      have hb1':∀ x,upd M1 b2 x b0=some (.cells 110 (kv::c.cs) 5):=fun x=>(za4 _ _ (by omega)).trans hb1
      refine ⟨zfx (zaq (hb1' _)) (by exact Nat.le_of_ble_eq_true rfl) rfl,zao (zaq (hb1' _)) rfl,?_⟩
      refine ygc (hm1.new hb2 _) hkv.sR (by omega) (fun kv' F2 N2 hw2 hF2 hN2 hkv'=>?_)
      refine ⟨zfx (zaq (hb1' _)) (by exact Nat.le_of_ble_eq_true rfl) rfl,?_⟩
      obtain ⟨ka,kc,rfl,_⟩:=hkv'.form
      refine zaa (v:=.agg (.slice ka key.length kc::c.cs).toArray) (by kernel_rfl) ?_
      obtain ⟨N3,hN3⟩:∃ n,n=N2:=⟨_,rfl⟩
      have hbn:b2<N3∧N1≤b2∧N1≤b2:=by omega
      rw [← hN3])
  all_goals
   have hrc':=zlr (c:=c) hkv'
   refine stM (cs':=.slice ka key.length kc::c.cs) ?_ (za5 _ _ _)
   rw [zbe]
   have hx:∀ x,upd M1 b2 x b2=x:=fun x=>za5 _ _ _
   have hv1':=hv1.mono hF2
   have hv2':zad (zd5 F2) 5 rows t:=hv2.mono fun _ _ h=>h.mono hF2
   have fin:∀ (nc:CE) (i':Nat) (M2:Nat→Option zak) (N4:Nat),layR (t.drop s.1) key c=(key,nc)::t.drop i'→i'≤t.length→M2=upd M1 b2 (some (.cells 110 (.slice ka key.length kc::nc.cs) 5))→N3≤N4 →
     ∀ (u:Value) (M':Nat→Option zak) (N':Nat),own M' N 110 5 u ((t.take s.1).length+1+(t.drop i').length) ((rows.take s.1++[.slice ka key.length kc::nc.cs])++rows.drop i').flatten→(∀ q,q<N→M' q=M2 q)→N4≤N'→za7 M' N'→(Hp.mk F2 M' N').wf→∃ h',(Hp.mk F2 M' N').wk h'∧(h'.wf→K u h'):=by
    intro nc i' M2 N4 e1 e2 e3 e4 u M' N' e5 e6 e7 e8 hc
    have hMM:∀ q,q<N→M' q=M q:=fun q hq=>by rw [e6 q hq,e3,za4 _ _ (by omega)]; exact hM1 q hq
    have hr1:zd5 F2 (.slice ka key.length kc::nc.cs) (key,nc):=⟨_,rfl,hkv',by simp only; omega⟩
    have hrows:zad (zd5 F2) 5 ((rows.take s.1++[.slice ka key.length kc::nc.cs])++rows.drop i') ((t.take s.1++[(key,nc)])++t.drop i'):=zga ((zh7 hv2' s.1).snoc hr1.one.1 hr1.one.2 hr1) (zib hv2' i')
    have e9:layR t key c=(t.take s.1++[(key,nc)])++t.drop i':=by rw [hlay,e1]; simp
    refine ⟨_,zb7 hm hMM hc,fun hw'=>k u _ N' hw' (hF2.trans (zag hc)) (by omega) ?_⟩
    rw [e9]
    refine zmo hc (rows:=(rows.take s.1++[.slice ka key.length kc::nc.cs])++rows.drop i') ?_ hrows
    have:((t.take s.1++[(key,nc)])++t.drop i').length=(t.take s.1).length+1+(t.drop i').length:=by simp; omega
    rw [this]; exact e5
   have hown:∀ x,own (upd M1 b2 x) N 110 5 s.2 (t.take s.1).length (rows.take s.1).flatten:=fun x=>by
    rw [htk]; exact ho.keep (fun q hq=>za4 _ _ (fun e=>by have := ho.lt hm1 q hq; omega)) (Nat.le_refl _)
   have hub:s.2.ownBlock≠some b2:=fun e=>by have := ho.lt hm1 b2 e; omega
   try simp only [hlv]
   try simp only [sS]
   by_cases h2:s.1<t.length
   ·refine zh0 (by omega) ?_
    try simp only [sS]
    refine zi2 hv1' hv2' h2 fun p q kv1 hkv1 hkl1=>?_
    refine ldM (v:=kv) ?_ (hb1' _)
    refine zo8 hkv1 (hkv.mono hF2) hkl1 ?_
    by_cases heq:zbn t[s.1].1 key=0
    ·refine zi3 heq ?_
     try simp only [sS]
     refine zpc hv1' hv2' h2 fun p q=>?_
     refine zas (vs:=c.cs) ?_ (hb1' _)
     refine yiw (fun N4 hN4 hw4=>?_)
     refine stM (cs':=.slice ka key.length kc::(t[s.1].2.rmerge c).cs) ?_ (za5 _ _ _)
     rw [zbe]
     refine zai (by omega) ?_
     rw [zi9]
     refine zry (kv:=.slice ka key.length kc) (c:=t[s.1].2.rmerge c) (i':=s.1+1) (t:=t) (rows:=rows) (pre:=t.take s.1) (prs:=rows.take s.1) (hx _) hkv' (hm1.set' (by omega) (by omega)) (by omega) (hown _) hub (zh7 hv2' s.1) hv1' hv2' h2 (by rw [htk]; omega)
      (fin (t[s.1].2.rmerge c) (s.1+1) _ N4 ?_ h2 rfl hN4)
     rw [List.drop_eq_getElem_cons h2]
     simp only [layR]
     rw [if_neg (by omega),if_pos heq,yhu]
    ·refine zhl heq ?_
     try simp only [sS]
     rw [zi9]
     refine zry (kv:=.slice ka key.length kc) (c:=c) (i':=s.1) (t:=t) (rows:=rows) (pre:=t.take s.1) (prs:=rows.take s.1) (hx _) hkv' (hm1.set' (by omega) (by omega)) (by omega) (hown _) hub (zh7 hv2' s.1) hv1' hv2' hs (by rw [htk]; omega)
      (fin c s.1 _ N3 ?_ hs rfl (Nat.le_refl _))
     rw [List.drop_eq_getElem_cons h2]
     simp only [layR]
     rw [if_neg (hstop h2),if_neg heq]
   ·refine zh2 (by omega) ?_
    try simp only [sS]
    rw [zi9]
    refine zry (kv:=.slice ka key.length kc) (c:=c) (i':=s.1) (t:=t) (rows:=rows) (pre:=t.take s.1) (prs:=rows.take s.1) (hx _) hkv' (hm1.set' (by omega) (by omega)) (by omega) (hown _) hub (zh7 hv2' s.1) hv1' hv2' hs (by rw [htk]; omega)
     (fin c s.1 _ N3 ?_ hs rfl (Nat.le_refl _))
    rw [show t.drop s.1=[] from List.drop_eq_nil_of_le (by omega)]
    rfl
end Go.Proofs.YtgcmbkoejjcjlaaGreatDoor.A
namespace Go.Proofs
open Go.Shelf
def Tryz.sortRow_ren:Go.Shelf.Ren:=⟨fun | 6=>145 | 15=>99 | 14=>170 | 28=>130 | 29=>131 | 20=>185 | 21=>186 | 22=>187 | 23=>188 | 24=>189 | 25=>190 | 26=>191 | 27=>192 | 46=>197 | 47=>156 | 48=>157 | 49=>198 | 50=>199 | 57=>205 | n=>n,fun | 22=>59 | 24=>110 | 25=>195 | 3=>3 | 39=>161 | 0=>0 | 53=>30 | 55=>176 | 4=>4 | 46=>185 | 45=>184 | 50=>138 | 5=>5 | 9=>9 | 66=>211 | 70=>215 | 76=>227 | 77=>228 | n=>n,fun | n=>n⟩
theorem Tryz.sortRow:Go.Proofs.SlLaysF0.n6 Tryz.prog Tryz.sortRow_ren:={
 mixed:=by kernel_rfl
 f6:=⟨Tryz.f145.name,by decide,Tryz.func145.trans (congrArg some (by kernel_rfl))⟩
 f14:=⟨Tryz.f170.name,by decide,Tryz.func170.trans (congrArg some (by kernel_rfl))⟩
 f15:=Tryz.func99.trans (congrArg some (by kernel_rfl))
 f20:=⟨Tryz.f185.name,by decide,Tryz.func185.trans (congrArg some (by kernel_rfl))⟩
 f21:=⟨Tryz.f186.name,by decide,Tryz.func186.trans (congrArg some (by kernel_rfl))⟩
 f22:=⟨Tryz.f187.name,by decide,Tryz.func187.trans (congrArg some (by kernel_rfl))⟩
 f23:=⟨Tryz.f188.name,by decide,Tryz.func188.trans (congrArg some (by kernel_rfl))⟩
 f24:=⟨Tryz.f189.name,by decide,Tryz.func189.trans (congrArg some (by kernel_rfl))⟩
 f25:=⟨Tryz.f190.name,by decide,Tryz.func190.trans (congrArg some (by kernel_rfl))⟩
 f26:=⟨Tryz.f191.name,by decide,Tryz.func191.trans (congrArg some (by kernel_rfl))⟩
 f27:=⟨Tryz.f192.name,by decide,Tryz.func192.trans (congrArg some (by kernel_rfl))⟩
 f28:=Tryz.func130.trans (congrArg some (by kernel_rfl))
 f29:=Tryz.func131.trans (congrArg some (by kernel_rfl))
 f46:=⟨Tryz.f197.name,by decide,Tryz.func197.trans (congrArg some (by kernel_rfl))⟩
 f47:=Tryz.func156.trans (congrArg some (by kernel_rfl))
 f48:=Tryz.func157.trans (congrArg some (by kernel_rfl))
 f49:=⟨Tryz.f198.name,by decide,Tryz.func198.trans (congrArg some (by kernel_rfl))⟩
 f50:=⟨Tryz.f199.name,by decide,Tryz.func199.trans (congrArg some (by kernel_rfl))⟩
 f57:=⟨Tryz.f205.name,by decide,Tryz.func205.trans (congrArg some (by kernel_rfl))⟩
 t0:=Tryz.underlying0
 a0:=Tryz.isAgg0
 z0:=Tryz.sizeOf0
 v0:=Tryz.zeroValue0
 t3:=Tryz.underlying3
 a3:=Tryz.isAgg3
 z3:=Tryz.sizeOf3
 v3:=Tryz.zeroValue3
 t4:=Tryz.underlying4
 a4:=Tryz.isAgg4
 z4:=Tryz.sizeOf4
 v4:=Tryz.zeroValue4
 t5:=Tryz.underlying5
 a5:=Tryz.isAgg5
 z5:=Tryz.sizeOf5
 v5:=Tryz.zeroValue5
 t9:=Tryz.underlying9
 a9:=Tryz.isAgg9
 z9:=Tryz.sizeOf9
 v9:=Tryz.zeroValue9
 t22:=Tryz.underlying59
 a22:=Tryz.isAgg59
 z22:=Tryz.sizeOf59
 v22:=Tryz.zeroValue59
 t25:=Tryz.underlying195
 a25:=Tryz.isAgg195
 z25:=Tryz.sizeOf195
 v25:=Tryz.zeroValue195
 t39:=Tryz.underlying161
 a39:=Tryz.isAgg161
 z39:=Tryz.sizeOf161
 v39:=Tryz.zeroValue161
 t45:=Tryz.underlying184
 a45:=Tryz.isAgg184
 z45:=Tryz.sizeOf184
 v45:=Tryz.zeroValue184
 t46:=Tryz.underlying185
 a46:=Tryz.isAgg185
 z46:=Tryz.sizeOf185
 v46:=Tryz.zeroValue185
 t50:=Tryz.underlying138
 a50:=Tryz.isAgg138
 z50:=Tryz.sizeOf138
 v50:=Tryz.zeroValue138
 t53:=Tryz.underlying30
 a53:=Tryz.isAgg30
 z53:=Tryz.sizeOf30
 v53:=Tryz.zeroValue30
 t55:=Tryz.underlying176
 a55:=Tryz.isAgg176
 z55:=Tryz.sizeOf176
 v55:=Tryz.zeroValue176
 t66:=Tryz.underlying211
 a66:=Tryz.isAgg211
 z66:=Tryz.sizeOf211
 v66:=Tryz.zeroValue211
 t70:=Tryz.underlying215
 a70:=Tryz.isAgg215
 z70:=Tryz.sizeOf215
 v70:=Tryz.zeroValue215
 t76:=Tryz.underlying227
 a76:=Tryz.isAgg227
 z76:=Tryz.sizeOf227
 v76:=Tryz.zeroValue227
 t77:=Tryz.underlying228
 a77:=Tryz.isAgg228
 z77:=Tryz.sizeOf228
 v77:=Tryz.zeroValue228 }
end Go.Proofs
open Go Go.RowKit Go.Proofs.YtgcmbkoejjcjlaaGreatDoor.K Go.Proofs.YtgcmbkoejjcjlaaGreatDoor.T
set_option linter.unusedVariables false
set_option linter.unusedSimpArgs false
namespace Go.Proofs.YtgcmbkoejjcjlaaGreatDoor.A
variable {F F':Nat→Option (List Value)} {M M':Nat→Option zak} {N N':Nat} {K:zae} {E:zat}
open Go.Sort hiding Below
open Go.Shelf
theorem yka (w:World):(isAgg 110).run Tryz.prog w=.ok true w:=by kernel_rfl
theorem yi6 (w:World):(Go.sizeOf 110).run Tryz.prog w=.ok 5 w:=by kernel_rfl
theorem ygr [Inhabited (zfz F)] {w:World} {blk size:Nat} (hF:∀ bk cs,F bk=some cs→bk≠blk∧bk<w.heap.size∧∃ arr e z,w.heap[bk]?=some (.cells arr e z)∧cs <+: arr.toList) :
  CmpLays Tryz.prog 137 #[] (fun x:zfz F=>x.1.1) 5 (fun x y=>zbn x.1.2.1 y.1.2.1) blk 0 size w:=by
 intro m os dk _ x y
 have hW:∀ bk cs,F bk=some cs→∃ arr e z,(sortWorldK (fun x:zfz F=>x.1.1) 5 w blk 0 m dk os).heap[bk]?=some (.cells arr e z)∧cs <+: arr.toList:=fun bk cs h=>by
  obtain ⟨h1,h2,arr,e,z,h3,h4⟩:=hF bk cs h
  exact ⟨arr,e,z,(zzz h1 h2).trans h3,h4⟩
 have up:∀ z:zfz F,zd5 (F0 (sortWorldK (fun x:zfz F=>x.1.1) 5 w blk 0 m dk os)) z.1.1 z.1.2:=fun z=>by
  obtain ⟨v,h1,h2,h3⟩:=z.2
  exact ⟨v,h1,yhs hW h2,h3⟩
 have h:=yn3 (P:=Tryz.prog) (w:=sortWorldK (fun x:zfz F=>x.1.1) 5 w blk 0 m dk os) (K:=fun v=>v=.int .i64 (zbn x.1.2.1 y.1.2.1))
  (yff (K:=fun v _=>v=.int .i64 (zbn x.1.2.1 y.1.2.1)) (E:=fun _ _=>False) (up x) (up y) (fun N'=>rfl))
 refine Calls.mono h fun e w' ⟨⟨v,he,hv⟩,hb,hd⟩=>?_
 exact ⟨by rw [he,hv],ydk hb hd⟩
theorem yqa {α β:Type} {a b:List α} (f:α→β) (h:a.Perm b):(a.map f).Perm (b.map f):=h.map f
theorem ylx {b cap tot:Nat} {rows:List (List Value)} {t:List Rw} {rest:List Value} (hM:M b=some (.cells 110 (rows.flatten++rest) tot)) (hr:zad (zd5 F) 5 rows t) (hn:nodup t) (h0:0<t.length) (hl:t.length<4611686018427387904)
  (k:∀ N' rows' t',N≤N'→zad (zd5 F) 5 rows' t'→t.Perm t'→srt t'→K (.tuple #[]) ⟨F,upd M b (some (.cells 110 (rows'.flatten++rest) tot)),N'⟩) :
  za2 Tryz.prog (.func (.func 145) #[] #[]) #[.slice (some ⟨b,0,none⟩) t.length cap,.func (.func 137) #[] #[]] K E ⟨F,M,N⟩:=by
 refine .inl ⟨by kernel_rfl,fun w0 w _ r=>?_⟩
 obtain ⟨d,hd1,hd2⟩:=yfz rows t hr
 have hdl:d.length=t.length:=by rw [← hd2]; simp
 have hne:d≠[]:=fun e=>by rw [e] at hdl; simp at hdl; omega
 obtain ⟨x0,d0,hd0⟩:=List.exists_cons_of_ne_nil hne
 haveI:Inhabited (zfz F):=⟨x0⟩
 obtain ⟨h1,h2,h3,arr,h4,h5,h6⟩:=r.cl b _ _ _ hM
 have hbw:b<w.heap.size:=(Array.getElem?_eq_some_iff.1 h4).1
 have hfl:=hr.flen
 have hH:HoldsK (fun x:zfz F=>x.1.1) 5 w b 0 d.toArray:=by
  intro j hj
  have hj':j<d.length*5:=by simpa using hj
  have e1:=ztp d j hj'
  rw [hd1] at e1
  have e2:rows.flatten[j]?=some (id (flatK (fun x:zfz F=>x.1.1) 5 d.toArray)[j]!):=by
   rw [← e1,id,getElem!_def,Array.getElem?_eq_getElem (by simpa using hj')]
  refine ⟨?_,by simp [World.frozen?,h4]⟩
  rw [Nat.zero_add]
  refine r.cell (cs:=rows.flatten++rest) (.inr ⟨_,_,hM⟩) ?_
  rw [List.getElem?_append_left (by omega)]; exact e2
 have hF:∀ bk cs,F bk=some cs→bk≠b∧bk<w.heap.size∧∃ arr e z,w.heap[bk]?=some (.cells arr e z)∧cs <+: arr.toList:=fun bk cs h=>by
  obtain ⟨a1,arr',e,z,a2,a3⟩:=r.fr bk cs h
  exact ⟨fun e=>(by subst e; simp only at h3; rw [h] at h3; cases h3),(Array.getElem?_eq_some_iff.1 a2).1,arr',e,z,a2,a3⟩
 have eg:∀ args w,(callFunc 137 args).run Tryz.prog w=.ok (.enter 137 args) w:=enters_of Tryz.func137 (by kernel_rfl) rfl
 have hcon:=AnyQ.slices_SortFunc Tryz.sortRow 5 yka yi6 (fun x:zfz F=>x.1.1) (fun x=>x.2.one.1) (fun x v hv=>x.2.one.2 v hv) (fun x y=>zbn x.1.2.1 y.1.2.1) ylf 137 #[] b 0 cap d.toArray w eg (ygr hF) hH hbw (by simpa [hdl] using hl)
 change Calls Tryz.prog 145 _ _ _ at hcon
 have hsz:d.toArray.size=t.length:=by simpa using hdl
 rw [hsz] at hcon
 refine Calls.mono hcon fun e w' ⟨he,d',n,os,hp,hs,hw⟩=>?_
 subst he
 have hsz':d'.size=t.length:=by rw [hp.1,hsz]
 have hp2:d'.toList.Perm d:=by
  have h7:=hp.2.2
  rw [← hsz,Array.extract_size] at h7
  rw [show d'.extract 0 d.toArray.size=d' from by rw [hsz,← hsz',Array.extract_size]] at h7
  simpa using h7
 have hr':=ya0 d'.toList
 have hperm:t.Perm (d'.toList.map (·.1.2)):=by rw [← hd2]; exact hp2.symm.map _
 have hsrt:srt (d'.toList.map (·.1.2)):=by
  have hnd:=hn.perm hperm
  unfold srt
  rw [List.pairwise_iff_getElem]
  intro i j hi hj hij
  have hnd':=List.pairwise_iff_getElem.1 hnd i j hi hj hij
  simp only [List.length_map,Array.length_toList] at hi hj
  have h8:=hs i j (Nat.zero_le _) hij (by omega)
  simp only [ltOf,decide_eq_false_iff_not] at h8
  rw [getElem!_pos d' j (by omega),getElem!_pos d' i (by omega)] at h8
  simp only [List.getElem_map,Array.getElem_toList] at hnd' ⊢
  have h9:=zjm d'[i].1.2.1 d'[j].1.2.1
  have h10:zbn d'[i].1.2.1 d'[j].1.2.1≠0:=fun e=>hnd' (zkj e)
  omega
 refine ⟨⟨F,upd M b (some (.cells 110 ((d'.toList.map (·.1.1)).flatten++rest) tot)),w'.heap.size⟩,?_,k _ _ _ (Nat.le_trans r.nx (hw ▸ ybt)) hr' hperm hsrt⟩
 have hat:=ynb (enc:=fun x:zfz F=>x.1.1) (kk:=5) (n:=n) (off:=0) (d:=d') (os:=os) h4
 have hsw:w.heap.size≤w'.heap.size:=hw ▸ ybt
 refine r.turn (w':=w') (b:=b) h2 h3 (by rw [hw]; rfl) (by rw [hw]; rfl) (by rw [hw]; rfl) hsw (by omega) (fun q hq hql=>by rw [hw]; exact zzz hq hql) (some _) w'.heap.size (Nat.le_trans r.nx hsw) (Nat.le_refl _) (by omega) ?_ (by rw [hw]; exact Nat.le_add_right _ _)
 refine ⟨_,by rw [hw]; exact hat,by simpa [putCells] using h5,?_⟩
 have hfl2:=yaw d'.toList
 rw [Array.toArray_toList] at hfl2
 exact ydu (a:=rows.flatten) hfl2 (by rw [hfl,hr'.flen]; simp [hsz']) h6
theorem yge {a:Option Addr} {c:Nat} (k:∀ N',N≤N'→K (.tuple #[]) ⟨F,M,N'⟩):za2 Tryz.prog (.func (.func 145) #[] #[]) #[.slice a 0 c,.func (.func 137) #[] #[]] K E ⟨F,M,N⟩:=by
 refine .inl ⟨by kernel_rfl,fun w0 w _ r=>?_⟩
 have hcon:=AnyF.slices_SortFunc_none Tryz.sortRow a c (.func (.func 137) #[] #[]) w
 change Calls Tryz.prog 145 _ _ _ at hcon
 refine Calls.mono hcon fun e w' ⟨he,hw⟩=>?_
 subst he; subst hw
 exact ⟨⟨F,M,N⟩,r,k N (Nat.le_refl _)⟩
end Go.Proofs.YtgcmbkoejjcjlaaGreatDoor.A
open Go Go.RowKit Go.Proofs.YtgcmbkoejjcjlaaGreatDoor.K Go.Proofs.YtgcmbkoejjcjlaaGreatDoor.T
set_option linter.unusedVariables false
set_option linter.unusedSimpArgs false
namespace Go.Proofs.YtgcmbkoejjcjlaaGreatDoor.A
variable {F F':Nat→Option (List Value)} {M M':Nat→Option zak} {N N':Nat} {K:zae} {E:zat}
theorem yao {B g bm:Nat} {v:Value} {rows:List (List Value)} {t:List Rw} (h:zgf F M B g bm v rows t) (hm:za7 M N) (hl:t.length≤1099511627776)
  (k:∀ M' N' rows' t',N≤N'→own M' B 110 5 v t'.length rows'.flatten→zad (zd5 F) 5 rows' t'→t.Perm t'→srt t'→(∀ q,q<B→M' q=M q)→za7 M' N'→(Hp.mk F M' N').wf→K v ⟨F,M',N'⟩) :
  za2 Tryz.prog (.func (.func 111) #[] #[]) #[.pointer (some ⟨g,0,none⟩)] K E ⟨F,M,N⟩:=by
 refine za3 mixed Tryz.func111 (by kernel_rfl) (ypx _ E _) (fun hw=>?_)
 have hgg:=h.gg
 refine zaa rfl (zaa rfl (ldM (v:=v) ?_))
 rcases Nat.eq_zero_or_pos t.length with h0 | h0
 ·have ht:t=[]:=List.eq_nil_of_length_eq_zero h0
  subst ht
  have hoo:=h.oo
  obtain ⟨a,c,hv,_⟩:=h.oo.form
  rw [hv]
  refine yge (fun N' hN=>?_)
  refine zaa rfl (zaa rfl (ldM (v:=v) fun hc=>⟨_,za0 hc,fun hw'=>k M N' rows [] hN h.oo h.rr (List.Perm.refl _) .nil (fun _ _=>rfl) (hm.up hN) hw'⟩))
 ·rcases h.oo.2 with ⟨_,hz⟩ | ⟨b,c,rest,rfl,hc1,hc2,hbB,hMb⟩
  ·omega
  refine ylx hMb h.rr h.nd h0 (by omega) (fun N' rows' t' hN hr' hp hs=>?_)
  have hbg:g≠b:=fun e=>h.vg.1 (by rw [e]; rfl)
  have hbN:=hm.lt hMb
  refine zaa rfl (zaa rfl (ldM (v:=.slice (some ⟨b,0,none⟩) t.length c) ?_ ((za4 _ _ hbg).trans hgg)))
  refine fun hc=>⟨_,za0 hc,fun hw'=>k _ _ rows' t' hN ⟨hr'.flen,.inr ⟨b,c,rest,by rw [hp.length_eq],by rw [← hp.length_eq]; exact hc1,hc2,hbB,za5 _ _ _⟩⟩ hr' hp hs (fun q hq=>za4 _ _ (by omega)) ((hm.set hbN _).up hN) hw'⟩
def fr1 (f:Fc):Rw:=(f.1,ofC f.2)
theorem ylp {v:Value} {l:List Fc} (hv:zar F v l) (hl:l.length≤1000000000) (hk:∀ f∈l,okK f.1)
  (k:∀ v' F' N',(Hp.mk F' M N').wf→zac F F'→N≤N'→zbt F' v' (tab (l.map fr1))→K v' ⟨F',M,N'⟩) :
  za2 Tryz.prog (.func (.func 74) #[] #[]) #[v] K E ⟨F,M,N⟩:=by
 refine za3 mixed Tryz.func74 (by kernel_rfl) (t74 _ E _) (fun hw=>?_)
 have hm:za7 M N:=hw.m
 refine ybo (fun g bm N1 hbm hg hN1 hw1=>?_)
 obtain ⟨frs,hvs,hrs⟩:=hv
 refine zam hvs ?_
 refine zu7 (σ:=Nat) (fun i=>.int .i64 (i:Nat))
  (fun i h=>∃ F' M' N' v' rows,h=⟨F',M',N'⟩∧zac F F'∧N≤N'∧(∀ q,q<N→M' q=M q)∧za7 M' N'∧i≤l.length∧zgf F' M' N g bm v' rows (zgy ((l.take i).map fr1))) (fun i=>l.length - i) 0 rfl
  (fun hwx=>⟨_,za0 hwx,F,_,N1,.slice none 0 0,[],rfl,zac.refl _,by omega,fun q hq=>(za4 _ _ (by omega)).trans (za4 _ _ (by omega)),hw1.m,Nat.zero_le _,
   ⟨za5 _ _ _,by omega,hbm,⟨#[],0,(za4 _ _ (by omega)).trans (za5 _ _ _),by simp [zj3,zgy]⟩,own.nil,zad.nil _ _,.nil⟩⟩) (fun k1 i j h1 hI hwx next=>?_)
 rw [ztv]
 obtain ⟨F1,M1,N2,v1,rows,rfl,hF1,hN2,hM1,hm1,hi,hS⟩:=hI
 have hsl:∀ i,(zgy ((l.take i).map fr1)).length≤1000000000:=fun i=>by
  have:∀ (m:List Rw) (s:List Rw),(m.foldl (fun t r=>zey t r.1 r.2) s).length≤s.length+m.length:=by
   intro m
   induction m with
   | nil=>intro s; simp
   | cons r m ih=>intro s; have := ih (zey s r.1 r.2); have h2:=ya9 s r.1 r.2; simp at this ⊢; omega
  have h3:=this ((l.take i).map fr1) []
  unfold zgy
  rw [List.length_map,List.length_take] at h3
  simp at h3 ⊢; omega
 refine zaf (fun hlt=>?_) (fun hge=>?_)
 ·have hlt':i<l.length:=by omega
  refine zdd ?_
  refine zcr (hvs.mono hF1) (hrs.mono fun _ _ h=>h.mono hF1) (by decide) hlt' (fun p r _ hR hrl hr1=>?_)
  obtain ⟨kv,hre,hkv,hkl⟩:=hR
  subst hre
  refine zal (fun b1 hb1=>?_)
  refine stM (cs':=[kv,.int .i64 l[i].2]) ?_ (za5 _ _ _) rfl rfl (by obtain ⟨a,c,rfl,_⟩:=hkv.form; exact List.all_eq_true.1 rfl)
  refine zaa rfl (ldM (v:=kv) (zaa rfl (ldM (v:=.int .i64 l[i].2) ?_)))
  refine ym2 (fun N3 hN3 hw3=>?_)
  refine ⟨zao (zaq (za5 _ _ _)) rfl,?_⟩
  rw [zbe] at hw3 ⊢
  have hok:=hk l[i] (List.getElem_mem _)
  refine yjv (hS.keep (zac.refl _) (zs5 hm1 hb1 _)) hw3.m (by omega) hkv (Nat.le_trans hok.1 (by decide)) hok.2 (by have := hsl i; omega) (fun F4 M4 N4 v4 rows4 hF4 hN4 hS4 hM4 hm4 hw4=>?_)
  refine zai (by omega) ?_
  refine next (i+1) _ _ (by omega) (fun hw5=>⟨_,za0 hw5,F4,M4,N4,v4,rows4,rfl,hF1.trans hF4,by omega,fun q hq=>(hM4 q hq).trans ((za4 _ _ (by omega)).trans (hM1 q hq)),hm4,by omega,?_⟩)
  rw [List.take_add_one,List.getElem?_eq_getElem hlt',Option.toList_some,List.map_append,List.map_singleton,zua]
  exact hS4
 ·refine zc8 ?_
  have e:l.take i=l:=List.take_of_length_le (by omega)
  have hs2:=hsl i
  rw [e] at hS hs2
  refine yao hS hm1 (by omega) (fun M4 N4 rows4 t' hN4 ho4 hr4 hp hs hM4 hm4 hw4 hc=>?_)
  rw [zp3 hp hs] at ho4 hr4
  have hMM:∀ q,q<N→M4 q=M q:=fun q hq=>(hM4 q hq).trans (hM1 q hq)
  exact ⟨_,zb7 hm hMM hc,fun hw'=>k v1 _ N4 hw' (hF1.trans (zag hc)) (by omega) (zmo hc ho4 hr4)⟩
theorem yb3 (l:List Rw):∀ t:List Rw,(l.foldl (fun t r=>layR t r.1 r.2) t).length≤t.length+l.length:=by
 induction l with
 | nil=>intro t; simp
 | cons r l ih=>intro t; have := ih (layR t r.1 r.2); have h2:=yij t r.1 r.2; simp at this ⊢; omega
theorem zkk (l:List Rw):(tab l).length≤l.length:=by have := yb3 l []; simpa [tab] using this
theorem yag {α:Type} (f:α→Rw) (l:List α) {i:Nat} (h:i<l.length):tab ((l.take (i+1)).map f)=layR (tab ((l.take i).map f)) (f l[i]).1 (f l[i]).2:=by
 rw [List.take_add_one,List.getElem?_eq_getElem h,Option.toList_some,List.map_append,List.map_singleton,yhm]
theorem yl9 {v:Value} {l:List Fc} (hv:zar F v l) (hl:l.length≤1000000000) (hk:∀ f∈l,f.1.length≤10000000000)
  (k:∀ v' F' N',(Hp.mk F' M N').wf→zac F F'→N≤N'→zbt F' v' (tab (l.map fr1))→K v' ⟨F',M,N'⟩) :
  za2 Tryz.prog (.func (.func 116) #[] #[]) #[v] K E ⟨F,M,N⟩:=by
 refine za3 mixed Tryz.func116 (by kernel_rfl) (yrq _ E _) (fun hw=>?_)
 obtain ⟨rows,hv1,hv2⟩:=hv
 have hlv:za9 v=some (.int .i64 (l.length:Nat)):=by obtain ⟨a,c,rfl,_⟩:=hv1.form; rfl
 refine zs4 (σ:=Nat×Value) (fun s=>s.2) (fun s=>.int .i64 (s.1:Nat)) (fun s h=>∃ F' N',h=⟨F',M,N'⟩∧zac F F'∧N≤N'∧s.1≤l.length∧zbt F' s.2 (tab ((l.take s.1).map fr1))) (fun s=>l.length - s.1) (0,.slice none 0 0) rfl rfl
  (fun hw1=>⟨_,za0 hw1,_,_,rfl,zac.refl _,Nat.le_refl _,Nat.zero_le _,zbt.nil⟩) (fun k1 s j h1 hI hw1 next=>?_)
 rw [zr2]
 obtain ⟨F1,N1,rfl,hF,hN,hi,ht⟩:=hI
 try simp only [hlv]
 try simp only [sS]
 refine zaf (fun hlt=>?_) (fun hge=>?_)
 ·have h1:s.1<l.length:=by omega
  try simp only [sS]
  obtain ⟨b,o,c,cs,r,rfl,hFb,hrr,⟨kv,hr,hkv,hkl⟩,hrl,hr1,hle,htk,hj⟩:=zix (hv1.mono hF) (hv2.mono fun _ _ h=>h.mono hF) (by decide) h1
  subst hr
  have hx:=hj 0 (by decide)
  refine zbz h1 ?_
  try simp only [sS]
  refine zfj (zao (zdi hFb) hx) ?_
  refine zbz h1 ?_
  try simp only [sS]
  refine zfj (zao (zdi hFb) (hj 1 (by decide))) ?_
  refine ynv (fun N2 hN2 hw2=>?_)
  refine ⟨zao (zdi hFb) hx,?_⟩
  obtain ⟨ka,kc,rfl,_⟩:=hkv.form
  refine zaa (v:=.agg (.slice ka l[s.1].1.length kc::(ofC l[s.1].2).cs).toArray) (by kernel_rfl) ?_
  have hln:=zkk ((l.take s.1).map fr1)
  rw [List.length_map,List.length_take] at hln
  refine yfk ht hkv (hk _ (List.getElem_mem _)) (by omega) (fun v' F2 N3 hw3 hF2 hN3 ht'=>?_)
  refine zai (by omega) ?_
  refine next (s.1+1,v') _ _ (by simp only; omega) (fun hw4=>⟨_,za0 hw4,F2,N3,rfl,hF.trans hF2,by omega,by simp only; omega,?_⟩)
  simp only
  rw [yag fr1 l h1]
  exact ht'
 ·try simp only [sS]
  rw [List.take_of_length_le (by omega)] at ht
  exact fun hc=>⟨_,za0 hc,fun hw'=>k _ _ _ hw' hF hN ht⟩
def CE.ok (c:CE):Bool:=if c.n≤0 then decide (c=⟨0,0,0,0⟩) else decide (c.lo≤c.hi∧(c.n>1∨(c.s=c.lo∧c.lo=c.hi)))
theorem yjl {c:CE} (k:∀ N',N≤N'→(Hp.mk F M N').wf→K (.bool c.ok) ⟨F,M,N'⟩):za2 Tryz.prog (.func (.func 173) #[] #[]) #[.agg c.cs.toArray] K E ⟨F,M,N⟩:=by
 refine za3 mixed Tryz.func173 (by kernel_rfl) (yoq _ E _) (fun hw=>?_)
 have hm:=hw.m
 refine zal (cs:=c.cs) (fun b hb=>?_)
 have fin:∀ v,v=c.ok→∀ h',h'=(⟨F,upd M b (some (.cells 108 c.cs c.cs.length)),b+1⟩:Hp)→h'.wf→∃ h'',h'.wk h''∧(h''.wf→K (.bool v) h''):=fun v e h' e' hc=>by
  subst e; subst e'
  exact ⟨⟨F,M,b+1⟩,zc3 hc,fun hw'=>k _ (by omega) hw'⟩
 unfold CE.ok at fin
 try simp only [sS]
 refine ldM (v:=.int .i64 c.n) ?_
 refine zfd (fun h=>?_) (fun h=>?_)
 ·try simp only [sS]
  refine zas (vs:=c.cs) ?_
  refine zaa (v:=.agg (CE.mk 0 0 0 0).cs.toArray) (by kernel_rfl) ?_
  refine zvb (fin _ (by rw [if_pos h]) _ rfl)
 ·try simp only [sS]
  rw [if_neg h] at fin
  refine ldM (v:=.int .i64 c.lo) ?_
  refine ldM (v:=.int .i64 c.hi) ?_
  refine zfd (fun h1=>?_) (fun h1=>?_)
  ·try simp only [sS]
   refine ldM (v:=.int .i64 c.n) ?_
   refine zbu (fun h2=>?_) (fun h2=>?_)
   ·try simp only [sS]
    exact fin _ (decide_eq_true ⟨h1,.inl h2⟩).symm _ rfl
   ·try simp only [sS]
    refine ldM (v:=.int .i64 c.s) (ldM (v:=.int .i64 c.lo) ?_)
    refine zba (fun h3=>?_) (fun h3=>?_)
    ·try simp only [sS]
     refine ldM (v:=.int .i64 c.lo) (ldM (v:=.int .i64 c.hi) ?_)
     refine zba (fun h4=>?_) (fun h4=>?_)
     ·try simp only [sS]
      exact fin _ (decide_eq_true ⟨h1,.inr ⟨h3,h4⟩⟩).symm _ rfl
     ·try simp only [sS]
      exact fin _ (decide_eq_false fun q=>by rcases q.2 with q | q; exact h2 q; exact h4 q.2).symm _ rfl
    ·try simp only [sS]
     exact fin _ (decide_eq_false fun q=>by rcases q.2 with q | q; exact h2 q; exact h3 q.1).symm _ rfl
  ·try simp only [sS]
   exact fin _ (decide_eq_false fun q=>h1 q.1).symm _ rfl
theorem ykw {c:CE} (k:∀ N',N≤N'→(Hp.mk F M N').wf→K (.bool c.ok) ⟨F,M,N'⟩):za2 Tryz.prog (.func (.func 162) #[] #[]) #[.agg c.cs.toArray] K E ⟨F,M,N⟩:=by
 refine za3 mixed Tryz.func162 (by kernel_rfl) (yqi _ E _) (fun hw=>?_)
 have hm:=hw.m
 refine zal (cs:=c.cs) (fun b hb=>?_)
 have fin:∀ v,v=c.ok→∀ N',b+1≤N'→∀ h',h'=(⟨F,upd M b (some (.cells 108 c.cs c.cs.length)),N'⟩:Hp)→h'.wf→∃ h'',h'.wk h''∧(h''.wf→K (.bool v) h''):=fun v e N' hN h' e' hc=>by
  subst e; subst e'
  exact ⟨⟨F,M,N'⟩,zc3 hc,fun hw'=>k _ (by omega) hw'⟩
 unfold CE.ok at fin
 try simp only [sS]
 refine ldM (v:=.int .i64 c.n) ?_
 refine zfd (fun h=>?_) (fun h=>?_)
 ·try simp only [sS]
  refine zas (vs:=c.cs) ?_
  refine zaa (v:=.agg (CE.mk 0 0 0 0).cs.toArray) (by kernel_rfl) ?_
  refine zvb (fin _ (by rw [if_pos h]) _ (Nat.le_refl _) _ rfl)
 ·try simp only [sS]
  rw [if_neg h] at fin
  refine ldM (v:=.int .i64 c.n) ?_
  refine zba (fun h1=>?_) (fun h1=>?_)
  ·try simp only [sS]
   refine zas (vs:=c.cs) (ldM (v:=.int .i64 c.s) ?_)
   refine ym2 (fun N1 hN1 hw1=>?_)
   refine ⟨zfx (zaq (za5 _ _ _)) (by exact Nat.le_of_ble_eq_true rfl) rfl,?_⟩
   refine zvb (fin _ ?_ _ hN1 _ rfl)
   obtain ⟨c1,c2,c3,c4⟩:=c
   simp only at h1 h ⊢
   subst h1
   congr 1
   simp
   omega
  ·try simp only [sS]
   refine ldM (v:=.int .i64 c.lo) (ldM (v:=.int .i64 c.hi) ?_)
   refine zfd (fun h2=>?_) (fun h2=>?_)
   ·exact fin _ (decide_eq_true ⟨h2,.inl (by omega)⟩).symm _ (Nat.le_refl _) _ rfl
   ·exact fin _ (decide_eq_false fun q=>h2 q.1).symm _ (Nat.le_refl _) _ rfl
theorem ynt {a:Int} {h:Hp} (k:K (.bool (decide (a<0))) h):za2 Tryz.prog (.func (.func 164) #[] #[]) #[.int .i64 a] K E h:=by
 obtain ⟨F,M,N⟩:=h
 refine za3 mixed Tryz.func164 (by kernel_rfl) (yqc _ E _) (fun hw=>?_)
 refine zaf (fun h=>?_) (fun h=>?_)
 ·rw [decide_eq_true h] at k; exact fun hc=>⟨_,za0 hc,fun _=>k⟩
 ·rw [decide_eq_false h] at k; exact fun hc=>⟨_,za0 hc,fun _=>k⟩
def zfr (l:List Int):Bool:=l.any fun x=>decide (x<0)
theorem ynp {v:Value} {l:List Int} (hv:sF F 1 v l.length (ic l)) (hl:l.length≤140737488351232) (k:∀ r:Int,(decide (r≥0)=zfr l)→K (.int .i64 r) ⟨F,M,N⟩) :
  za2 Tryz.prog (.func (.func 181) #[] #[]) #[v,.func (.func 164) #[] #[]] K E ⟨F,M,N⟩:=by
 refine za3 mixed Tryz.func181 (by kernel_rfl) (yrc _ E _ _) (fun hw=>?_)
 refine zam hv ?_
 refine zvl (σ:=Nat) (fun i=>.int .i64 (i:Nat)) (fun i h=>h=⟨F,M,N⟩∧i≤l.length∧zfr l=zfr (l.drop i)) (fun i=>l.length - i) 0 rfl
  (fun hw1=>⟨_,za0 hw1,rfl,Nat.zero_le _,rfl⟩) (fun k1 i j h1 hI hw1 next=>?_)
 rw [zwv]
 obtain ⟨rfl,hi,he⟩:=hI
 refine zaf (fun hlt=>?_) (fun hge=>?_)
 ·have h1:i<l.length:=by omega
  try simp only [sS]
  refine zax hv h1 fun p=>ynt ?_
  rw [List.drop_eq_getElem_cons h1] at he
  by_cases hn:l[i]<0
  ·rw [decide_eq_true hn]
   try simp only [sS]
   refine fun hc=>⟨_,za0 hc,fun _=>k _ ?_⟩
   rw [he,decide_eq_true (by omega)]
   unfold zfr; rw [List.any_cons,decide_eq_true hn]; rfl
  ·rw [decide_eq_false hn]
   try simp only [sS]
   refine zai (by omega) ?_
   refine next (i+1) _ _ (by omega) (fun hw2=>⟨_,za0 hw2,rfl,by omega,?_⟩)
   rw [he]; unfold zfr; rw [List.any_cons,decide_eq_false hn]; rfl
 ·try simp only [sS]
  refine fun hc=>⟨_,za0 hc,fun _=>k _ ?_⟩
  rw [he,List.drop_eq_nil_of_le (by omega)]; rfl
theorem ymh {v:Value} {l:List Int} (hv:sF F 1 v l.length (ic l)) (hl:l.length≤140737488351232) (k:K (.bool (zfr l)) ⟨F,M,N⟩) :
  za2 Tryz.prog (.func (.func 163) #[] #[]) #[v,.func (.func 164) #[] #[]] K E ⟨F,M,N⟩:=by
 refine za3 mixed Tryz.func163 (by kernel_rfl) (yrm _ E _ _) (fun hw=>?_)
 refine ynp hv hl (fun r hr=>?_)
 refine ze1 (fun h=>?_) (fun h=>?_)
 ·rw [decide_eq_true h] at hr; rw [← hr] at k; exact fun hc=>⟨_,za0 hc,fun _=>k⟩
 ·rw [decide_eq_false h] at hr; rw [← hr] at k; exact fun hc=>⟨_,za0 hc,fun _=>k⟩
def zf8 (p:Int) (r:Rw):Bool:=decide ((r.1.length:Int)=p)&&decide (r.2.n>0)&&r.2.ok && !zfr r.1
theorem ykb {cs:List Value} {r:Rw} {p:Int} (hr:zd5 F cs r) (k:∀ N',N≤N'→(Hp.mk F M N').wf→K (.bool (zf8 p r)) ⟨F,M,N'⟩) :
  za2 Tryz.prog (.func (.func 136) #[] #[]) #[.agg cs.toArray,.int .i64 p] K E ⟨F,M,N⟩:=by
 refine za3 mixed Tryz.func136 (by kernel_rfl) (yp7 _ E _ _) (fun hw=>?_)
 have hm:=hw.m
 obtain ⟨v,rfl,hv,hvl⟩:=hr
 refine zal (cs:=v::r.2.cs) (fun b hb=>?_)
 have fin:∀ v',v'=zf8 p r→∀ N',b+1≤N'→∀ h',h'=(⟨F,upd M b (some (.cells 110 (v::r.2.cs) (v::r.2.cs).length)),N'⟩:Hp)→h'.wf→∃ h'',h'.wk h''∧(h''.wf→K (.bool v') h''):=fun v' e N' hN h' e' hc=>by
  subst e; subst e'
  exact ⟨⟨F,M,N'⟩,zc3 hc,fun hw'=>k _ (by omega) hw'⟩
 unfold zf8 at fin
 try simp only [sS]
 refine ldM (v:=v) (zam hv ?_)
 refine zba (fun h=>?_) (fun h=>?_)
 ·rw [decide_eq_true h] at fin
  try simp only [sS]
  refine ldM (v:=.int .i64 r.2.n) ?_
  refine zbu (fun h1=>?_) (fun h1=>?_)
  ·rw [decide_eq_true h1] at fin
   try simp only [sS]
   refine zas (vs:=r.2.cs) ?_
   refine ykw (fun N1 hN1 hw1=>?_)
   cases hk:r.2.ok
   ·rw [hk] at fin
    try simp only [sS]
    exact fin _ (by simp) _ hN1 _ rfl
   ·rw [hk] at fin
    try simp only [sS]
    refine ldM (v:=v) (ymh hv hvl ?_)
    try simp only [sS]
    exact fin _ (by simp) _ hN1 _ rfl
  ·rw [decide_eq_false h1] at fin
   try simp only [sS]
   exact fin _ (by simp) _ (Nat.le_refl _) _ rfl
 ·rw [decide_eq_false h] at fin
  try simp only [sS]
  exact fin _ (by simp) _ (Nat.le_refl _) _ rfl
def zgd (p:Int):Option (List Int)→List Rw→Bool
 | _,[]=>true
 | o,r::t=>zf8 p r&&(match o with | none=>true | some k=>decide (zbn k r.1<0))&&zgd p (some r.1) t
def zdy (p:Int) (t:List Rw):Bool:=zgd p none t
def zlg (t:List Rw) (i:Nat):Option (List Int):=if i=0 then none else (t[i - 1]?).map (·.1)
theorem ydi {t:List Rw} {i:Nat} (h:i<t.length):zlg t (i+1)=some t[i].1:=by simp [zlg,h]
theorem zx3 {p:Int} {t:List Rw} {i:Nat} (h:i<t.length):zgd p (zlg t i) (t.drop i)=(zf8 p t[i]&&(if h0:0<i then decide (zbn (t[i - 1]'(by omega)).1 t[i].1<0) else true)&&zgd p (zlg t (i+1)) (t.drop (i+1))):=by
 rw [List.drop_eq_getElem_cons h,ydi h]
 simp only [zgd]
 congr 2
 unfold zlg
 by_cases h0:i=0
 ·simp [h0]
 ·have:t[i - 1]?=some (t[i - 1]'(by omega)):=List.getElem?_eq_getElem _
  rw [if_neg h0,this,dif_pos (by omega)]
  rfl
theorem yad {v:Value} {t:List Rw} {p:Int} (hv:zbt F v t) (hl:t.length≤140737488351232) (k:∀ N',N≤N'→(Hp.mk F M N').wf→K (.bool (zdy p t)) ⟨F,M,N'⟩) :
  za2 Tryz.prog (.func (.func 104) #[] #[]) #[v,.int .i64 p] K E ⟨F,M,N⟩:=by
 refine za3 mixed Tryz.func104 (by kernel_rfl) (yqr _ E _ _) (fun hw=>?_)
 have hm:za7 M N:=hw.m
 obtain ⟨rows,hv1,hv2⟩:=hv
 refine zam hv1 ?_
 refine zvs (σ:=Nat) (fun i=>.int .i64 (i:Nat)) (fun i h=>∃ N',h=⟨F,M,N'⟩∧N≤N'∧i≤t.length∧zdy p t=zgd p (zlg t i) (t.drop i)) (fun i=>t.length - i) 0 rfl
  (fun hw1=>⟨_,za0 hw1,_,rfl,Nat.le_refl _,Nat.zero_le _,rfl⟩) (fun k1 i j h1 hI hw1 next=>?_)
 rw [zwe]
 obtain ⟨N1,rfl,hN,hi,he⟩:=hI
 refine zaf (fun hlt=>?_) (fun hge=>?_)
 ·have h1:i<t.length:=by omega
  rw [zx3 h1] at he
  try simp only [sS]
  refine zcr hv1 hv2 (by decide) h1 fun p' r _ hR _ _=>?_
  have hRR:=hR
  obtain ⟨kv,rfl,hkv,hkl⟩:=hR
  refine zal (fun b hb=>?_)
  refine stM (cs':=kv::t[i].2.cs) ?_ (za5 _ _ _) rfl rfl (by obtain ⟨a,c,rfl,_⟩:=hkv.form; exact List.all_eq_true.1 rfl)
  refine zas (vs:=kv::t[i].2.cs) ?_
  refine ykb hRR (fun N2 hN2 hw2=>?_)
  have fin:∀ v',v'=zdy p t→∀ N',N2≤N'→∀ h',h'=(⟨F,upd (upd M b (some (.cells 110 [(.slice none 0 0),(.int .i64 0),(.int .i64 0),(.int .i64 0),(.int .i64 0)] [(Value.slice none 0 0),(.int .i64 0),(.int .i64 0),(.int .i64 0),(.int .i64 0)].length))) b (some (.cells 110 (kv::t[i].2.cs) [(Value.slice none 0 0),(.int .i64 0),(.int .i64 0),(.int .i64 0),(.int .i64 0)].length)),N'⟩:Hp)→h'.wf→∃ h'',h'.wk h''∧(h''.wf→K (.bool v') h''):=fun v' e N' hN h' e' hc=>by
   subst e; subst e'
   exact ⟨⟨F,M,N'⟩,zbp hc (zav (zav (zb6 _) (hm _ (by omega))) (hm _ (by omega))),fun hw'=>k _ (by omega) hw'⟩
  cases hok:zf8 p t[i]
  ·rw [hok] at he
   try simp only [sS]
   exact fin _ (by rw [he]; rfl) _ (Nat.le_refl _) _ rfl
  ·rw [hok] at he
   try simp only [sS]
   have nxt:(if h0:0<i then decide (zbn (t[i - 1]'(by omega)).1 t[i].1<0) else true)=true→∀ N',N2≤N'→∀ (X:Value) (jj:Nat→Value),X=.int .i64 ((i+1:Nat):Int)→∀ h',h'=(⟨F,upd (upd M b (some (.cells 110 [(.slice none 0 0),(.int .i64 0),(.int .i64 0),(.int .i64 0),(.int .i64 0)] [(Value.slice none 0 0),(.int .i64 0),(.int .i64 0),(.int .i64 0),(.int .i64 0)].length))) b (some (.cells 110 (kv::t[i].2.cs) [(Value.slice none 0 0),(.int .i64 0),(.int .i64 0),(.int .i64 0),(.int .i64 0)].length)),N'⟩:Hp)→h'.wf→∃ h'',h'.wk h''∧(∃ N',h''=⟨F,M,N'⟩∧N≤N'∧i+1≤t.length∧zdy p t=zgd p (zlg t (i+1)) (t.drop (i+1))):=fun e N' hN X jj hX h' e' hc=>by
    subst e'
    exact ⟨⟨F,M,N'⟩,zbp hc (zav (zav (zb6 _) (hm _ (by omega))) (hm _ (by omega))),N',rfl,by omega,h1,by rw [he,e]; rfl⟩
   refine zbu (fun hi0=>?_) (fun hi0=>?_)
   ·have hi0':0<i:=by omega
    rw [dif_pos hi0'] at he nxt
    try simp only [sS]
    refine zgn (b:=1) (by omega) (by omega) ?_
    refine zcr hv1 hv2 (by decide) (show i - 1<t.length by omega) fun p'' r' _ hR' _ _=>?_
    refine zas (vs:=kv::t[i].2.cs) ?_
    refine yn6 hR' hRR (fun N3 hN3 hw3=>?_)
    refine ze1 (fun hc=>?_) (fun hc=>?_)
    ·try simp only [sS]
     exact fin _ (by rw [he,decide_eq_false (by omega)]; rfl) _ hN3 _ rfl
    ·try simp only [sS]
     refine zai (by omega) ?_
     exact next (i+1) _ _ (by omega) (fun hw4=>nxt (decide_eq_true (by omega)) _ hN3 _ (fun _=>undef) rfl _ rfl hw4)
   ·rw [dif_neg (by omega)] at he nxt
    try simp only [sS]
    refine zai (by omega) ?_
    exact next (i+1) _ _ (by omega) (fun hw4=>nxt rfl _ (Nat.le_refl _) _ (fun _=>undef) rfl _ rfl hw4)
 ·try simp only [sS]
  rw [List.drop_eq_nil_of_le (by omega)] at he
  have e2:zdy p t=true:=by rw [he]; rfl
  rw [e2] at k
  exact fun hc=>⟨_,za0 hc,fun hw'=>k _ hN hw'⟩
theorem ylr {c:CE} (h:c.ok=true):(c.n>0)↔¬ c.n=0:=by
 constructor
 ·intro h1; omega
 ·intro h1
  unfold CE.ok at h
  split at h
  ·have := of_decide_eq_true h
   rw [this] at h1; exact absurd rfl h1
  ·omega
theorem yih {p:Int} {r:Rw} (h:zfr r.1=true):zf8 p r=false:=by unfold zf8; rw [h]; simp
theorem yji {p:Int} {r:Rw} (h:¬ (r.1.length:Int)=p):zf8 p r=false:=by unfold zf8; rw [decide_eq_false h]; simp
theorem yhp {p:Int} {r:Rw} (h:r.2.ok=false):zf8 p r=false:=by unfold zf8; rw [h]; simp
theorem yil {p:Int} {r:Rw} (h:r.2.n=0):zf8 p r=false:=by unfold zf8; rw [h]; simp
theorem yk4 {p:Int} {r:Rw} (h1:zfr r.1=false) (h2:(r.1.length:Int)=p) (h3:r.2.ok=true) (h4:¬ r.2.n=0):zf8 p r=true:=by
 unfold zf8; rw [h1,h3,decide_eq_true h2,decide_eq_true ((ylr h3).2 h4)]; rfl
theorem n_r {v:Value} {t:List Rw} {rows:List (List Value)} {K:Value→Value→Value→zae} (hv:sF F 5 v t.length rows.flatten) (hr:zad (zd5 F) 5 rows t) {i:Nat} (hi:i<t.length)
  (k:∀ p q q',K p q q' (.int .i64 t[i].2.n) ⟨F,M,N⟩):pv (iaV none 5 v (.int .i64 (i:Nat))) (fun p=>pv (faV 1 p) fun q=>pv (faV 0 q) fun q'=>ld false 1 q' (K p q q')) ⟨F,M,N⟩:=by
 obtain ⟨b,o,c,cs,r,rfl,hF,_,⟨kv,rfl,_⟩,hl,h1,hle,ht,hj⟩:=zix hv hr (by decide) hi
 exact zbz hi (zaa rfl (zaa rfl (zfj (zao (zdi hF) (hj 1 (by decide))) (k _ _ _))))
theorem zxp {v:Value} {t:List Rw} {p:Int} (hv:zbt F v t) (hl:t.length≤140737488351232) (k:∀ N',N≤N'→(Hp.mk F M N').wf→K (.bool (zdy p t)) ⟨F,M,N'⟩) :
  za2 Tryz.prog (.func (.func 147) #[] #[]) #[v,.int .i64 p] K E ⟨F,M,N⟩:=by
 refine za3 mixed Tryz.func147 (by kernel_rfl) (ypr _ E _ _) (fun hw=>?_)
 obtain ⟨rows,hv1,hv2⟩:=hv
 have hlv:za9 v=some (.int .i64 (t.length:Nat)):=by obtain ⟨a,c,rfl,_⟩:=hv1.form; rfl
 refine zvr (σ:=Nat) (fun i=>.int .i64 (i:Nat)) (fun i h=>∃ N',h=⟨F,M,N'⟩∧N≤N'∧i≤t.length∧zdy p t=zgd p (zlg t i) (t.drop i)) (fun i=>t.length - i) 0 rfl
  (fun hw1=>⟨_,za0 hw1,_,rfl,Nat.le_refl _,Nat.zero_le _,rfl⟩) (fun k1 i j h1 hI hw1 next=>?_)
 rw [zws]
 obtain ⟨N1,rfl,hN,hi,he⟩:=hI
 try simp only [hlv]
 try simp only [sS]
 refine zaf (fun hlt=>?_) (fun hge=>?_)
 ·have h1:i<t.length:=by omega
  rw [zx3 h1] at he
  try simp only [sS]
  refine zjk (σ:=Nat) (fun i=>.int .i64 (i:Nat)) (fun m h=>h=⟨F,M,N1⟩∧m≤t[i].1.length∧zfr t[i].1=zfr (t[i].1.drop m)) (fun m=>t[i].1.length - m) 0 rfl
   (fun hw1=>⟨_,za0 hw1,rfl,Nat.zero_le _,rfl⟩) (fun k2 m j2 h2 hI2 hw2 next2=>?_)
  rw [zjn]
  obtain ⟨rfl,hm,hem⟩:=hI2
  have fin:∀ N',N1≤N'→zdy p t=false→∀ h',h'=(⟨F,M,N'⟩:Hp)→h'.wf→∃ h'',h'.wk h''∧(h''.wf→K (.bool false) h''):=fun N' hN' e h' e' hc=>by
   subst e'
   rw [e] at k
   exact ⟨_,za0 hc,fun hw'=>k _ (by omega) hw'⟩
  refine zi2 hv1 hv2 h1 fun p' q kv hkv hkl=>?_
  refine zam hkv ?_
  refine zaf (fun hlt2=>?_) (fun hge2=>?_)
  ·have h2:m<t[i].1.length:=by omega
   rw [List.drop_eq_getElem_cons h2] at hem
   try simp only [sS]
   refine zi2 hv1 hv2 h1 fun p' q kv hkv hkl=>?_
   refine zax hkv h2 fun p''=>?_
   refine zaf (fun hn=>?_) (fun hn=>?_)
   ·try simp only [sS]
    refine fin _ (Nat.le_refl _) ?_ _ rfl
    rw [he,yih (by rw [hem]; unfold zfr; rw [List.any_cons,decide_eq_true hn]; rfl)]; rfl
   ·try simp only [sS]
    refine zai (by omega) ?_
    exact next2 (m+1) _ _ (by omega) (fun hw3=>⟨_,za0 hw3,rfl,h2,by rw [hem]; unfold zfr; rw [List.any_cons,decide_eq_false hn]; rfl⟩)
  ·try simp only [sS]
   have hng:zfr t[i].1=false:=by rw [hem,List.drop_eq_nil_of_le (by omega)]; rfl
   refine zi2 hv1 hv2 h1 fun p' q kv hkv hkl=>?_
   refine zam hkv ?_
   refine zc9 (fun hlp=>?_) (fun hlp=>?_)
   ·try simp only [sS]
    exact fin _ (Nat.le_refl _) (by rw [he,yji hlp]; rfl) _ rfl
   have hlp':(t[i].1.length:Int)=p:=by omega
   try simp only [sS]
   refine zpc hv1 hv2 h1 fun p' q=>?_
   refine yjl (fun N2 hN2 hw2=>?_)
   cases hok:t[i].2.ok
   ·try simp only [sS]
    exact fin _ hN2 (by rw [he,yhp hok]; rfl) _ rfl
   try simp only [sS]
   refine n_r hv1 hv2 h1 fun p' q q'=>?_
   refine zba (fun hn0=>?_) (fun hn0=>?_)
   ·try simp only [sS]
    exact fin _ hN2 (by rw [he,yil hn0]; rfl) _ rfl
   rw [yk4 hng hlp' hok hn0] at he
   try simp only [sS]
   refine zbu (fun hi0=>?_) (fun hi0=>?_)
   ·have hi0':0<i:=by omega
    rw [dif_pos hi0'] at he
    try simp only [sS]
    refine zgn (b:=1) (by omega) (by omega) ?_
    refine zi2 hv1 hv2 (show i - 1<t.length by omega) fun p1 q1 kv1 hkv1 hkl1=>?_
    refine zi2 hv1 hv2 h1 fun p' q kv hkv hkl=>?_
    refine zo8 hkv1 hkv hkl1 ?_
    refine ze1 (fun hc=>?_) (fun hc=>?_)
    ·try simp only [sS]
     exact fin _ hN2 (by rw [he,decide_eq_false (by omega)]; rfl) _ rfl
    ·try simp only [sS]
     refine zai (by omega) ?_
     exact next (i+1) _ _ (by omega) (fun hw4=>⟨_,za0 hw4,N2,rfl,by omega,h1,by rw [he,decide_eq_true (by omega)]; rfl⟩)
   ·rw [dif_neg (by omega)] at he
    try simp only [sS]
    refine zai (by omega) ?_
    exact next (i+1) _ _ (by omega) (fun hw4=>⟨_,za0 hw4,N2,rfl,by omega,h1,by rw [he]; rfl⟩)
 ·try simp only [sS]
  rw [List.drop_eq_nil_of_le (by omega)] at he
  have e2:zdy p t=true:=by rw [he]; rfl
  rw [e2] at k
  exact fun hc=>⟨_,za0 hc,fun hw'=>k _ hN hw'⟩
theorem zej {P:Program} {f:FuncId} {first captured args:Array Value} {h:Hp} (H:h.wf→∃ h',h.wk h'∧za2 P (.func (.func f) first captured) args K E h'):za2 P (.func (.func f) first captured) args K E h:=by
 by_cases hw:h.wf
 ·obtain ⟨h',hk,hc⟩:=H hw
  rcases hc with ⟨h1,h2⟩ | h2
  ·exact .inl ⟨h1,fun w0 w hl r=>h2 w0 w hl (r.wk hk)⟩
  ·exact .inr fun w0 w r=>h2 w0 w (r.wk hk)
 ·exact .inr fun w0 w r=>absurd r.wf hw
theorem zgs {b:Nat} {e:TypeId} {cs:List Value} {tot:Nat} (hb:N≤b) (hM:M b=some (.cells e cs tot)):zdh F M N b=some cs:=by simp [zdh,hb,hM]
theorem zhr {b m c sz:Nat} {cells:List Value} (hF:F b=some cells) (hl:cells.length=m*sz) (hc:m≤c):sF F sz (.slice (some ⟨b,0,none⟩) m c) m cells :=
 ⟨hl,.inr ⟨b,0,c,cells,rfl,hc,hF,by rw [List.drop_zero,← hl,List.take_length]⟩⟩
def wt (l:List (List Int)):Nat:=(l.map fun k=>1+k.length).sum
theorem ys2 {kv:Value} {l:List Int} (h:sF F 1 kv l.length (ic l)) (hl:l.length≤1000) (x:Int):zc1 F [kv,.int .i64 x] (l,x):=⟨kv,rfl,h,by simp only; omega⟩
theorem yg2 {kv:Value} {l:List Int} {x:Int} {rows:List (List Value)} {fs:List Fc} (h:sF F 1 kv l.length (ic l)) (hl:l.length≤1000) (hr:zad (zc1 F) 2 rows fs):zad (zc1 F) 2 ([kv,.int .i64 x]::rows) ((l,x)::fs):=by
 have h1:=ys2 h hl x
 have := zga ((zad.nil (zc1 F) 2).snoc h1.one.1 h1.one.2 h1) hr
 simpa using this
def ydg (F:Nat→Option (List Value)) (v:Value) (ts:List (List Rw)):Prop:=∃ rows,sF F 1 v ts.length rows.flatten∧zad (fun r t=>∃ u,r=[u]∧zbt F u t∧t.length≤140737488351232) 1 rows ts
theorem ydg.mono {v:Value} {ts:List (List Rw)} (h:ydg F v ts) (hF:zac F F'):ydg F' v ts:=let ⟨rows,h1,h2⟩:=h; ⟨rows,h1.mono hF,h2.mono fun _ _ ⟨u,e,h,l⟩=>⟨u,e,h.mono hF,l⟩⟩
theorem yo2 {v fv:Value} {l:List Rw} {f:List Int→List Int} (hv:zbt F v l) (hl:l.length≤1000000000) (hk:∀ r∈l,okK (f r.1))
  (hf:∀ {K:zae} (F1:Nat→Option (List Value)) (M1:Nat→Option zak) (N1:Nat) (r:Rw) (kv:Value),r∈l→zac F F1→(∀ q,q<N→M1 q=M q)→N≤N1→za7 M1 N1→sF F1 1 kv r.1.length (ic r.1)→r.1.length≤140737488351232 →
   (∀ v' F' N',(Hp.mk F' M1 N').wf→zac F1 F'→N1≤N'→sF F' 1 v' (f r.1).length (ic (f r.1))→K v' ⟨F',M1,N'⟩)→za2 Tryz.prog fv #[kv] K E ⟨F1,M1,N1⟩)
  (k:∀ v' F' N',(Hp.mk F' M N').wf→zac F F'→N≤N'→zbt F' v' (tab (l.map fun r=>(f r.1,r.2)))→K v' ⟨F',M,N'⟩) :
  za2 Tryz.prog (.func (.func 139) #[] #[]) #[v,fv] K E ⟨F,M,N⟩:=by
 refine za3 mixed Tryz.func139 (by kernel_rfl) (ysx _ E _ _) (fun hw=>?_)
 have hm:za7 M N:=hw.m
 refine ybo (fun g bm N1 hbm hg hN1 hw1=>?_)
 obtain ⟨trs,hvs,hrs⟩:=hv
 refine zam hvs ?_
 refine zrs (σ:=Nat) (fun i=>.int .i64 (i:Nat))
  (fun i h=>∃ F' M' N' v' rows,h=⟨F',M',N'⟩∧zac F F'∧N≤N'∧(∀ q,q<N→M' q=M q)∧za7 M' N'∧i≤l.length∧zgf F' M' N g bm v' rows (zgy ((l.take i).map fun r=>(f r.1,r.2)))) (fun i=>l.length - i) 0 rfl
  (fun hwx=>⟨_,za0 hwx,F,_,N1,.slice none 0 0,[],rfl,zac.refl _,by omega,fun q hq=>(za4 _ _ (by omega)).trans (za4 _ _ (by omega)),hw1.m,Nat.zero_le _,
   ⟨za5 _ _ _,by omega,hbm,⟨#[],0,(za4 _ _ (by omega)).trans (za5 _ _ _),by simp [zj3,zgy]⟩,own.nil,zad.nil _ _,.nil⟩⟩) (fun k1 i j h1 hI hwx next=>?_)
 rw [zsa]
 obtain ⟨F1,M1,N2,v1,rows,rfl,hF1,hN2,hM1,hm1,hi,hS⟩:=hI
 have hsl:∀ i,(zgy ((l.take i).map fun r=>(f r.1,r.2))).length≤1000000000:=fun i=>by
  have:∀ (m:List Rw) (s:List Rw),(m.foldl (fun t r=>zey t r.1 r.2) s).length≤s.length+m.length:=by
   intro m
   induction m with
   | nil=>intro s; simp
   | cons r m ih=>intro s; have := ih (zey s r.1 r.2); have h2:=ya9 s r.1 r.2; simp at this ⊢; omega
  have h3:=this ((l.take i).map fun r=>(f r.1,r.2)) []
  unfold zgy
  rw [List.length_map,List.length_take] at h3
  simp at h3 ⊢; omega
 refine zaf (fun hlt=>?_) (fun hge=>?_)
 ·have hlt':i<l.length:=by omega
  refine zdd ?_
  refine zcr (hvs.mono hF1) (hrs.mono fun _ _ h=>h.mono hF1) (by decide) hlt' (fun p r _ hR hrl hr1=>?_)
  obtain ⟨kv,hre,hkv,hkl⟩:=hR
  subst hre
  refine zal (fun b1 hb1=>?_)
  refine stM (cs':=kv::l[i].2.cs) ?_ (za5 _ _ _) rfl rfl hr1
  refine zaa rfl (ldM (v:=kv) (zaa rfl (zas (vs:=l[i].2.cs) ?_)))
  rw [zbe]
  refine hf F1 _ _ l[i] kv (List.getElem_mem _) hF1 (fun q hq=>(za4 _ _ (by omega)).trans (hM1 q hq)) (by omega) (hm1.new hb1 _) hkv hkl (fun v2 F2 N3 hw3 hF2 hN3 hv2=>?_)
  refine ⟨zfx (zaq (za5 _ _ _)) (by exact Nat.le_of_ble_eq_true rfl) rfl,?_⟩
  have hok:=hk l[i] (List.getElem_mem _)
  refine yjv (hS.keep hF2 (zs5 hm1 hb1 _)) hw3.m (by omega) hv2 (Nat.le_trans hok.1 (by decide)) hok.2 (by have := hsl i; omega) (fun F4 M4 N4 v4 rows4 hF4 hN4 hS4 hM4 hm4 hw4=>?_)
  refine zai (by omega) ?_
  refine next (i+1) _ _ (by omega) (fun hw5=>⟨_,za0 hw5,F4,M4,N4,v4,rows4,rfl,(hF1.trans hF2).trans hF4,by omega,fun q hq=>(hM4 q hq).trans ((za4 _ _ (by omega)).trans (hM1 q hq)),hm4,by omega,?_⟩)
  rw [List.take_add_one,List.getElem?_eq_getElem hlt',Option.toList_some,List.map_append,List.map_singleton,zua]
  exact hS4
 ·refine zc8 ?_
  have e:l.take i=l:=List.take_of_length_le (by omega)
  have hs2:=hsl i
  rw [e] at hS hs2
  refine yao hS hm1 (by omega) (fun M4 N4 rows4 t' hN4 ho4 hr4 hp hs hM4 hm4 hw4 hc=>?_)
  rw [zp3 hp hs] at ho4 hr4
  have hMM:∀ q,q<N→M4 q=M q:=fun q hq=>(hM4 q hq).trans (hM1 q hq)
  exact ⟨_,zb7 hm hMM hc,fun hw'=>k v1 _ N4 hw' (hF1.trans (zag hc)) (by omega) (zmo hc ho4 hr4)⟩
theorem zcq {B:Nat} {e:TypeId} {sz bytes n:Nat} {v:Value} {cs:List Value} {cells:Option (Array Value)} {new:List Value} {K:Value→zae} (h:own M B e sz v n cs) (hm:za7 M N) (hB:B≤N) (hc:cells=some new.toArray) (hl:new.length=sz) (h1:∀ c∈new,c.oneCell'=true) (hb:(n+1)*bytes≤140737488355328) (hn:n+1≤maxLen)
  (k:∀ p v' M' N',own M' B e sz v' (n+1) (cs++new)→fr M M' N v v'→N≤N'→za7 M' N'→K p v' ⟨F,M',N'⟩):nws e 1 cells (fun t=>zbf e sz bytes v t (K t)) ⟨F,M,N⟩:=by
 refine zde (cs:=new) hc (fun b hb'=>?_)
 have hbne:v.ownBlock≠some b:=fun e=>by have := h.lt hm b e; omega
 have h2:own (upd M b (some (.cells e new new.length))) B e sz v n cs:=h.keep (fun q hq=>za4 _ _ (fun e=>hbne (e ▸ hq))) (Nat.le_refl _)
 refine h2.app (m:=1) (news:=new) (hm.new hb' _) (by omega) ⟨by omega,.inr ⟨b,0,1,_,rfl,Nat.le_refl _,.inr ⟨_,_,za5 _ _ _⟩,by rw [List.drop_zero,List.take_of_length_le (by omega)]⟩⟩ h1 hb hn (fun v' M' N' h3 h4 h5 h6=>?_)
 exact k _ v' M' N' h3 (fun q hq hqN=>⟨((h4 q hq (by omega)).1).trans (za4 _ _ (by omega)),(h4 q hq (by omega)).2⟩) (by omega) h6
def ytf (l:List Int):CE:=l.foldl (fun c x=>c.rmerge (ofC x)) ⟨0,0,0,0⟩
abbrev Dm:=Int×List Int
def zfh (F:Nat→Option (List Value)) (cs:List Value) (d:Dm):Prop:=∃ v,cs=[.int .i64 d.1,v]∧sF F 1 v d.2.length (ic d.2)∧d.2.length≤140737488351232
theorem zfh.mono {cs:List Value} {d:Dm} (h:zfh F cs d) (hF:zac F F'):zfh F' cs d:=let ⟨v,h1,h2,h3⟩:=h; ⟨v,h1,h2.mono hF,h3⟩
theorem zfh.one {cs:List Value} {d:Dm} (h:zfh F cs d):cs.length=2∧∀ c∈cs,c.oneCell'=true:=by
 obtain ⟨v,rfl,hv,_⟩:=h
 obtain ⟨a,c,rfl,_⟩:=hv.form
 exact ⟨rfl,List.all_eq_true.1 rfl⟩
def zbl (F:Nat→Option (List Value)) (v:Value) (l:List Dm):Prop:=∃ rows,sF F 2 v l.length rows.flatten∧zad (zfh F) 2 rows l
theorem zbl.mono {v:Value} {t:List Dm} (h:zbl F v t) (hF:zac F F'):zbl F' v t:=let ⟨rows,h1,h2⟩:=h; ⟨rows,h1.mono hF,h2.mono fun _ _ hr=>hr.mono hF⟩
theorem zbl.form {v:Value} {t:List Dm} (h:zbl F v t):∃ a c,v=.slice a t.length c:=let ⟨rows,h1,_⟩:=h; let ⟨a,c,h2,_⟩:=h1.form; ⟨a,c,h2⟩
def ick (k:IntKind) (l:List Int):List Value:=l.map (.int k)
theorem zla {k:IntKind} {v:Value} {l:List Int} (hv:sF F 1 v l.length (ick k l)) {i:Nat} {K:Value→zae} (hi:i<l.length) (kk:∀ p,K p (.int k l[i]) ⟨F,M,N⟩) :
  pv (iaV none 1 v (.int .i64 (i:Nat))) (fun p=>ld false 1 p (K p)) ⟨F,M,N⟩:=by
 obtain ⟨b,o,c,rfl,cs,hF,_,hcs⟩:=hv.at (by decide) hi
 exact zbz hi (zfj (zao (zdi hF) (by rw [Nat.mul_one,hcs i (by omega)]; simp [ick,hi])) (kk _))
theorem zse {e:EqK} {k:IntKind} {a b:Nat} {h:Hp} (hb:0<b) (kk:K (.int k ((a%b:Nat):Int)) h):pv (za1 e .rem (.int k (a:Nat)) (.int k (b:Nat))) K h :=
 ⟨_,by rw [inV]; simp only [zg0]; rw [if_neg (by omega)],by rw [show Int.tmod (a:Int) (b:Int)=((a%b:Nat):Int) from rfl]; exact kk⟩
theorem zml {k:IntKind} {a:Nat} {h:Hp} (h1:a≤9223372036854775807) (kk:K (.int .i64 (a:Nat)) h):pv (cvV .i64 (.int k (a:Nat))) K h :=
 ⟨_,rfl,by rw [zjo (by omega) (by omega)]; exact kk⟩
theorem yno {e:EqK} {a b:Nat} {h:Hp} (h2:a*b≤9223372036854775807) (k:K (.int .i64 ((a*b:Nat):Int)) h):pv (za1 e .mul (.int .i64 a) (.int .i64 b)) K h :=
 ⟨_,by rw [inV]; rfl,by rw [← Int.natCast_mul,zjo (by omega) (by omega)]; exact k⟩
def keyOf (l:List Dm) (c:List Int):List Int:=l.mapIdx fun i d=>(c.getD i 0)%d.1
theorem zes (l:List Dm) (c:List Int):(keyOf l c).length=l.length:=by simp [keyOf]
theorem zsj (l:List Dm) (c:List Int) {i:Nat} (h:i<l.length):keyOf (l.take (i+1)) c=keyOf (l.take i) c++[(c.getD i 0)%l[i].1]:=by
 unfold keyOf
 rw [List.take_add_one,List.getElem?_eq_getElem h,Option.toList_some,List.mapIdx_concat,List.length_take,Nat.min_eq_left (by omega)]
set_option maxRecDepth 10000 in
theorem ynu {u v:Value} {l:List Dm} {c:List Int} (hu:zbl F u l) (hv:sF F 1 v c.length (ick .u16 c)) (hl:l.length≤1000000) (hs:∀ d∈l,0<d.1∧d.1≤1000000) (hc:∀ x∈c,0≤x∧x<65536) (hcl:c.length≤140737488351232)
  (k:∀ v' F' N',(Hp.mk F' M N').wf→zac F F'→N≤N'→sF F' 1 v' (keyOf l c).length (ic (keyOf l c))→K v' ⟨F',M,N'⟩) :
  za2 Tryz.prog (.func (.func 43) #[] #[]) #[u,v] K E ⟨F,M,N⟩:=by
 refine za3 mixed Tryz.func43 (by kernel_rfl) (t43 _ E _ _) (fun hw=>?_)
 have hm:za7 M N:=hw.m
 obtain ⟨rows,hu1,hu2⟩:=hu
 have hlu:za9 u=some (.int .i64 (l.length:Nat)):=by obtain ⟨a,c,rfl,_⟩:=hu1.form; rfl
 have hlv:za9 v=some (.int .i64 (c.length:Nat)):=by obtain ⟨a,c,rfl,_⟩:=hv.form; rfl
 refine zli (σ:=Nat×Value) (fun s=>s.2) (fun s=>.int .i64 (s.1:Nat))
  (fun s h=>∃ M' N',h=⟨F,M',N'⟩∧N≤N'∧(∀ q,q<N→M' q=M q)∧za7 M' N'∧s.1≤l.length∧own M' N 3 1 s.2 s.1 (ic (keyOf (l.take s.1) c))) (fun s=>l.length - s.1) (0,.slice none 0 0) rfl rfl
  (fun hw2=>⟨_,za0 hw2,M,N,rfl,Nat.le_refl _,fun _ _=>rfl,hm,Nat.zero_le _,own.nil⟩) (fun k1 s j h1 hI hw2 next=>?_)
 rw [zle]
 obtain ⟨M2,N2,rfl,hN2,hM2,hm2,hi,ho2⟩:=hI
 try simp only [hlu,hlv]
 try simp only [sS]
 refine zaf (fun hlt=>?_) (fun hge=>?_)
 ·have h1:s.1<l.length:=by omega
  obtain ⟨d1,d2⟩:=hs l[s.1] (List.getElem_mem _)
  try simp only [sS]
  have nat:∀ x:Int,0≤x→x<65536→x=c.getD s.1 0→∃ n:Nat,x=n∧n<65536∧(c.getD s.1 0)%l[s.1].1=((n%l[s.1].1.toNat:Nat):Int):=fun x h0 h1 e=>⟨x.toNat,by omega,by omega,by
   rw [← e,Int.natCast_emod,Int.toNat_of_nonneg h0,Int.toNat_of_nonneg (by omega)]⟩
  refine zaf (fun hlt2=>?_) (fun hge2=>?_)
  have h2:s.1<c.length:=by omega
  try simp only [sS]
  refine zla hv h2 fun p=>?_
  obtain ⟨x0,x1⟩:=hc c[s.1] (List.getElem_mem _)
  obtain ⟨n,hn,hn1,hn2⟩:=nat c[s.1] x0 x1 (by simp [List.getD_eq_getElem?_getD,h2])
  rw [hn]
  refine zml (a:=n) (by omega) ?_
  rotate_left
  try simp only [sS]
  have hg:c.getD s.1 0=0:=by rw [List.getD_eq_getElem?_getD,List.getElem?_eq_none (by omega)]; rfl
  obtain ⟨n,hn0,hn2⟩:∃ n:Nat,(.int .i64 0:Value)=.int .i64 (n:Nat)∧(c.getD s.1 0)%l[s.1].1=((n%l[s.1].1.toNat:Nat):Int):=⟨0,rfl,by rw [hg]; simp⟩
  rw [hn0]
  all_goals
   rw [zh1]
   refine zbb hu1 hu2 (by decide) h1 (off:=0) (by decide) fun p q r x hR _ hx=>?_
   obtain ⟨kv,rfl,hkv',hkl⟩:=hR
   simp at hx
   subst hx
   rw [show l[s.1].1=((l[s.1].1.toNat:Nat):Int) by omega]
   refine zse (by omega) ?_
   refine zcq (new:=[.int .i64 ((n%l[s.1].1.toNat:Nat):Int)]) ho2 hm2 hN2 (by kernel_rfl) rfl (List.all_eq_true.1 rfl) (by omega) (by unfold maxLen; omega) (fun p v' M3 N3 h4 h5 h6 h7=>?_)
   refine zai (by omega) ?_
   refine next (s.1+1,v') _ _ (by simp only; omega) (fun hw3=>⟨_,za0 hw3,M3,N3,rfl,by omega,fun q hq=>?_,h7,h1,?_⟩)
   ·exact ((h5 q (fun e=>by have := (ho2.ge q e).1; omega) (by omega)).1).trans (hM2 q hq)
   ·simp only
    rw [zsj l c h1,hn2]
    simpa [ic] using h4
 ·try simp only [sS]
  rw [List.take_of_length_le (by omega)] at ho2
  refine fun hc'=>⟨_,zb7 hm hM2 hc',fun hw'=>k _ _ _ hw' (zag hc') hN2 ?_⟩
  have := ho2.rd.frz hc' (fun b hb=>.inl (ho2.ge b hb).1)
  rw [zes]
  rw [show s.1=l.length by omega] at this
  exact this
theorem own.box {B:Nat} {e:TypeId} {sz n:Nat} {v:Value} {cs:List Value} (h:own M B e sz v n cs) (hm:za7 M N) {b:Nat} (hb:N≤b) (x:Option zak):own (upd M b x) B e sz v n cs :=
 h.keep (fun q hq=>za4 _ _ (fun e=>by have := h.lt hm q hq; omega)) (Nat.le_refl _)
def zis (k:IntKind) (F:Nat→Option (List Value)) (v:Value) (ks:List (List Int)):Prop:=∃ rows,sF F 1 v ks.length rows.flatten∧zad (fun r c=>∃ u,r=[u]∧sF F 1 u c.length (ick k c)∧c.length≤140737488351232) 1 rows ks
theorem zis.mono {k:IntKind} {v:Value} {ks:List (List Int)} (h:zis k F v ks) (hF:zac F F'):zis k F' v ks:=let ⟨rows,h1,h2⟩:=h; ⟨rows,h1.mono hF,h2.mono fun _ _ ⟨u,e,h,l⟩=>⟨u,e,h.mono hF,l⟩⟩
theorem ycs {k:IntKind} {v:Value} {ts:List (List Int)} {K:Value→zae} (hv:zis k F v ts) {i:Nat} (hi:i<ts.length) (kk:∀ p u,sF F 1 u ts[i].length (ick k ts[i])→ts[i].length≤140737488351232→K p u ⟨F,M,N⟩):pv (iaV none 1 v (.int .i64 (i:Nat))) (fun p=>ld false 1 p (K p)) ⟨F,M,N⟩:=by
 obtain ⟨rows,h1,h2⟩:=hv
 obtain ⟨b,o,c,cs,r,rfl,hF,_,⟨u,rfl,hu,hul⟩,hl,_,hle,ht,hj⟩:=zix h1 h2 (by decide) hi
 exact zbz hi (zfj (zao (zdi hF) (hj 0 (by decide))) (kk _ _ hu hul))
def zcj (l:List Dm) (ks:List (List Int)) (v:List Int):List Fc:=(ks.take 200).mapIdx fun i c=>(keyOf l c,v.getD (i%v.length) 0)
theorem zlz (l:List Dm) (ks:List (List Int)) (v:List Int):(zcj l ks v).length=min 200 ks.length:=by simp [zcj]
theorem ybb {α β:Type} (f:Nat→α→β) (l:List α) {i:Nat} (h:i<l.length):(l.take (i+1)).mapIdx f=(l.take i).mapIdx f++[f i l[i]]:=by
 rw [List.take_add_one,List.getElem?_eq_getElem h,Option.toList_some,List.mapIdx_concat,List.length_take,Nat.min_eq_left (by omega)]
theorem zau {α:Type} {R:List Value→α→Prop} {sz:Nat} {rows:List (List Value)} {xs:List α} (h:zad R sz rows xs) {r:List Value} {x:α} (h1:r.length=sz∧∀ c∈r,c.oneCell'=true) (hr:R r x):zad R sz (rows++[r]) (xs++[x]):=h.snoc h1.1 h1.2 hr
set_option maxRecDepth 10000 in
theorem zvo {u v w:Value} {l:List Dm} {ks:List (List Int)} {c:List Int} (hu:zbl F u l) (hv:zis .u16 F v ks) (hw':sF F 1 w c.length (ic c)) (hl:l.length≤1000000) (hs:∀ d∈l,0<d.1∧d.1≤1000000) (hc:∀ k∈ks,∀ x∈k,0≤x∧x<65536) (hkl:ks.length≤140737488351232) (hcl:c.length≤140737488351232)
  (k:∀ v' F' N',(Hp.mk F' M N').wf→zac F F'→N≤N'→zar F' v' (zcj l ks c)→K v' ⟨F',M,N'⟩) :
  za2 Tryz.prog (.func (.func 20) #[] #[]) #[u,v,w] K E ⟨F,M,N⟩:=by
 refine za3 mixed Tryz.func20 (by kernel_rfl) (t20 _ E _ _ _) (fun hw=>?_)
 have hm:za7 M N:=hw.m
 have hlv:za9 v=some (.int .i64 (ks.length:Nat)):=by obtain ⟨rows,h1,_⟩:=hv; obtain ⟨a,c,rfl,_⟩:=h1.form; rfl
 have hlw:za9 w=some (.int .i64 (c.length:Nat)):=by obtain ⟨a,c,rfl,_⟩:=hw'.form; rfl
 refine zt3 (σ:=Nat×Value) (fun s=>s.2) (fun s=>.int .i64 (s.1:Nat))
  (fun s h=>∃ F' M' N' rows,h=⟨F',M',N'⟩∧zac F F'∧N≤N'∧(∀ q,q<N→M' q=M q)∧za7 M' N'∧s.1≤ks.length∧s.1≤200∧own M' N 90 2 s.2 s.1 rows.flatten∧zad (zc1 F') 2 rows ((ks.take s.1).mapIdx fun i k=>(keyOf l k,c.getD (i%c.length) 0))) (fun s=>200 - s.1) (0,.slice none 0 0) rfl rfl
  (fun hw2=>⟨_,za0 hw2,F,M,N,[],rfl,zac.refl _,Nat.le_refl _,fun _ _=>rfl,hm,Nat.zero_le _,Nat.zero_le _,own.nil,zad.nil _ _⟩) (fun k1 s j h1 hI hw2 next=>?_)
 rw [zto]
 obtain ⟨F2,M2,N2,rows,rfl,hF2,hN2,hM2,hm2,hi,hi2,ho2,hr2⟩:=hI
 have fin:(¬ s.1<ks.length∨¬ s.1<200)→∀ h',h'=(⟨F2,M2,N2⟩:Hp)→h'.wf→∃ h'',h'.wk h''∧(h''.wf→K s.2 h''):=fun hend h' e hc'=>by
  subst e
  have e1:ks.take s.1=ks.take 200:=by
   rcases hend with h | h
   ·rw [List.take_of_length_le (by omega),List.take_of_length_le (by omega)]
   ·rw [show s.1=200 by omega]
  have e2:s.1=(zcj l ks c).length:=by
   rw [zlz]
   rcases hend with h | h<;>omega
  refine ⟨_,zb7 hm hM2 hc',fun hw'=>k _ _ _ hw' (hF2.trans (zag hc')) hN2 ⟨rows,?_,?_⟩⟩
  ·have := ho2.rd.frz hc' (fun b hb=>.inl (ho2.ge b hb).1)
   rw [← e2]; exact this
  ·unfold zcj
   rw [← e1]; exact hr2.mono fun _ _ h=>h.mono (zag hc')
 try simp only [hlv]
 try simp only [sS]
 refine zaf (fun hlt=>?_) (fun hge=>?_)
 ·try simp only [sS]
  refine zaf (fun hlt2=>?_) (fun hge2=>?_)
  ·have h1:s.1<ks.length:=by omega
   try simp only [sS]
   refine ycs (hv.mono hF2) h1 fun p kv hkv hkvl=>?_
   refine ynu (hu.mono hF2) hkv hl hs (hc _ (List.getElem_mem _)) hkvl (fun key F3 N3 hw3 hF3 hN3 hkey=>?_)
   obtain ⟨ka,kc,hkf,_⟩:=hkey.form
   refine zaa (v:=.agg #[key,.int .i64 0]) (by rw [hkf]; kernel_rfl) ?_
   refine zal (fun b1 hb1=>?_)
   refine stM (cs':=[key,.int .i64 0]) ?_ (za5 _ _ _) rfl rfl (by rw [hkf]; exact List.all_eq_true.1 rfl)
   rw [zbe]
   try simp only [hlw]
   try simp only [sS]
   have hm3:=hm2.up hN3
   have hb1:∀ x,own (upd M2 b1 x) N 90 2 s.2 s.1 rows.flatten:=fun x=>ho2.box hm3 (by omega) x
   refine zbu (fun h0=>?_) (fun h0=>?_)
   try simp only [sS]
   refine zse (a:=s.1) (b:=c.length) (by omega) ?_
   have hmod:s.1%c.length<c.length:=Nat.mod_lt _ (by omega)
   refine zax ((hw'.mono hF2).mono hF3) hmod fun p=>?_
   refine stM (cs':=[key,.int .i64 c[s.1%c.length]]) ?_ (za5 _ _ _) rfl rfl (List.all_eq_true.1 rfl) (by exact Nat.le_of_ble_eq_true rfl)
   rw [zbe]
   obtain ⟨n,hn,hn2⟩:∃ n,c[s.1%c.length]=n∧n=c.getD (s.1%c.length) 0:=⟨_,rfl,by rw [List.getD_eq_getElem?_getD,List.getElem?_eq_getElem hmod]; rfl⟩
   rw [hn]
   rotate_left
   try simp only [sS]
   obtain ⟨n,hn,hn2⟩:∃ n:Int,(0:Int)=n∧n=c.getD (s.1%c.length) 0:=⟨_,rfl,by rw [List.getD_eq_getElem?_getD,List.getElem?_eq_none (by omega)]; rfl⟩
   rw [show ([key,.int .i64 0]:List Value)=[key,.int .i64 n] by rw [← hn]]
   all_goals
    rw [zka]
    refine zas (vs:=[key,.int .i64 n]) ?_ (za5 _ _ _)
    refine zcq (new:=[key,.int .i64 n]) (hb1 _) (hm3.new (by omega) _) (by omega) (by rw [hkf]; kernel_rfl) rfl (by rw [hkf]; exact List.all_eq_true.1 rfl) (by omega) (by unfold maxLen; omega) (fun p v' M4 N4 h4 h5 h6 h7=>?_)
    refine zai (by omega) ?_
    refine next (s.1+1,v') _ _ (by simp only; omega) (fun hw3=>⟨_,za0 hw3,F3,M4,N4,rows++[[key,.int .i64 n]],rfl,hF2.trans hF3,by omega,fun q hq=>?_,h7,h1,by simp only; omega,?_,?_⟩)
    ·exact ((h5 q (fun e=>by have := (ho2.ge q e).1; omega) (by omega)).1).trans ((za4 _ _ (by omega)).trans (hM2 q hq))
    ·simpa using h4
    ·simp only
     rw [ybb _ ks h1]
     have hr1:zc1 F3 [key,.int .i64 n] (keyOf l ks[s.1],c.getD (s.1%c.length) 0):=⟨key,by rw [← hn2],hkey,by simp only; rw [zes]; omega⟩
     exact zau (hr2.mono fun _ _ h=>h.mono hF3) hr1.one hr1
  ·try simp only [sS]
   exact fin (by omega) _ rfl
 ·try simp only [sS]
  exact fin (by omega) _ rfl
open Go.MapKept
theorem ybc {w0 w:World} {h:Hp} {d:Nat} (r:Rep w0 h { w with drawn:=d }) (hd:w0.drawn≤w.drawn):Rep w0 h w :=
 ⟨⟨r.below.os,r.below.tape,r.below.output,r.below.size,r.below.block⟩,hd,r.nx,r.base,r.fr,r.cl,r.ob⟩
structure yj1 (es:Array MapEntry) (clock:Nat):Prop where
 st:Stamped es clock
 ks:∀ x∈es.toList,∃ id:Int,x.key=.int .u32 id∧0≤id∧id<4294967296
 sz:es.size≤1000000
theorem ymf {x:Int} (h0:0≤x) (h1:x<4294967296):(Lit.int .u32 x).wf=true:=by
 simp [Lit.wf,IntKind.min,IntKind.max,IntKind.bits,IntKind.signed]; omega
theorem ydm {bm mb:Nat} {es:Array MapEntry} {clock:Nat} (hE:E [] zh4) (hbm:F bm=some [.map (some mb)]) (hmb:M mb=some (.obj (.map es clock))) (hK:yj1 es clock)
  (k:∀ v' (ss:List Int) M' N',ss.Nodup→(∀ x:Int,x∈ss↔∃ e∈es.toList,e.key=.int .u32 x)→own M' N 30 1 v' ss.length (ss.map (Value.int .u32))→(∀ q,q<N→M' q=M q)→N≤N'→za7 M' N'→K v' ⟨F,M',N'⟩) :
  za2 Tryz.prog (.func (.func 69) #[] #[]) #[.func (.func 71) #[] #[.pointer (some ⟨bm,0,none⟩)]] K E ⟨F,M,N⟩:=by
 refine .inl ⟨by kernel_rfl,fun w0 w hl r=>?_⟩
 have hd0:=hl hE
 have hm:za7 M N:=r.wf.m
 obtain ⟨q1,q2,q3,hb,_⟩:=r.ob mb _ hmb
 have hcell:w.cell? ⟨bm,0,none⟩=some (.map (some mb)):=r.cell (cs:=[.map (some mb)]) (.inl hbm) rfl
 have hbw:bm<w.heap.size:=by have := (r.fr bm _ hbm).1; exact Nat.lt_of_lt_of_le this r.nx
 have hrd:∀ e∈es.toList,∀ id,e.key=.int .u32 id→0≤id→id<4294967296→WideElems.rd (H:=Unit) Tryz.prog 30 zns e=some (.int .u32 id,.lit (.bool true)):=fun e he id h1 h2 h3=>by
  unfold WideElems.rd
  rw [h1,Maps.keyOf_int_mk Tryz.underlying30 (ymf h2 h3)]
  rfl
 have hfit:WideElems.Fit (H:=Unit) Tryz.prog 30 zns es clock:=⟨by have := hK.sz; unfold maxLen; omega,hK.st,fun x hx=>let ⟨id,h1,h2,h3⟩:=hK.ks x hx; ⟨_,hrd x hx id h1 h2 h3⟩⟩
 have hown:=World.ownsMap_of_fit (w:=w) (b:=mb) hb hfit (R:=zns) (fun _ _ _ h=>h)
 generalize hD:(DataW.map ((es.toList.map (WideElems.rg Tryz.prog 30 zns)).foldr DataW.insert []):DataW Unit)=D0 at hown
 have hsize:Maps.size D0=es.size:=by
  rw [← hD,Maps.size_eq,(WideShapes.sorted_perm _).length_eq,List.length_map,Array.length_toList]
 have hhas:∀ x:Int,Maps.has D0 (.int .u32 x)=true↔∃ e∈es.toList,e.key=.int .u32 x:=fun x=>by
  rw [← hD,Maps.has_eq,List.any_eq_true]
  constructor
  ·rintro ⟨p,hp,hs⟩
   obtain ⟨e,he,rfl⟩:=List.mem_map.1 (mem_sorted.1 hp)
   obtain ⟨id,h1,h2,h3⟩:=hK.ks e he
   rw [WideElems.rg_of (hrd e he id h1 h2 h3)] at hs
   have:id=x:=by simpa [Lit.sameKey] using hs
   exact ⟨e,he,by rw [h1,this]⟩
  ·rintro ⟨e,he,h1⟩
   obtain ⟨id,h0,h2,h3⟩:=hK.ks e he
   have e1:id=x:=by rw [h0] at h1; simpa using h1
   subst e1
   refine ⟨_,mem_sorted.2 (List.mem_map_of_mem he),?_⟩
   rw [WideElems.rg_of (hrd e he id h0 h2 h3)]
   simp [Lit.sameKey]
 have hsz:=hK.sz
 have hseq:=zye (H:=Unit) Fence.wide 1 trivial rfl (Nat.le_refl _) bm mb es.size D0 w hbw hcell hown
 have hcol:=callsIn_wide.1 (zy2 Fence.wide 3 trivial trivial rfl (Nat.le_refl _) 71 #[.pointer (some ⟨bm,0,none⟩)] trivial (Go.Proofs.enters_of Tryz.func71 (by kernel_rfl) rfl) _ (Maps.size D0) (by rw [hsize]; unfold maxLen; omega) (by rw [hsize]; omega) w hseq)
 refine Calls.mono hcol fun e w' ⟨v,ss,he,⟨hn,hall⟩,hrow,hnil,hbl⟩=>?_
 subst he
 have hall':∀ x:Int,x∈ss↔∃ e∈es.toList,e.key=.int .u32 x:=fun x=>(hall x).trans (hhas x)
 have hNN:N≤w'.heap.size:=Nat.le_trans r.nx hbl.size
 rcases hrow.2 with ⟨rfl,h0⟩ | ⟨g,cap,cur,rfl,hg,hgb,hk1,hk2,hk3,hk4⟩
 ·refine ⟨⟨F,M,w'.heap.size⟩,?_,k _ ss M _ hn hall' ⟨by simp,.inl ⟨rfl,h0⟩⟩ (fun _ _=>rfl) hNN (hm.up hNN)⟩
  have lt:∀ q,q<N→q<w.heap.size:=fun q hq=>Nat.lt_of_lt_of_le hq r.nx
  refine ⟨r.below.trans ⟨hbl.os,hbl.tape,hbl.output,hbl.size,fun q hq=>hbl.block q (Nat.lt_of_lt_of_le hq r.below.size)⟩,by rw [hd0]; exact Nat.zero_le _,Nat.le_refl _,Nat.le_trans r.base hNN,fun b cs h=>?_,fun b e cs tot h=>?_,fun b o h=>?_⟩
  ·obtain ⟨a1,arr,e,z,a2,a3⟩:=r.fr b cs h
   exact ⟨Nat.lt_of_lt_of_le a1 hNN,arr,e,z,(hbl.block b (lt b a1)).trans a2,a3⟩
  ·obtain ⟨a1,a2,a3,arr,a4,a5⟩:=r.cl b e cs tot h
   exact ⟨Nat.lt_of_lt_of_le a1 hNN,a2,a3,arr,(hbl.block b (lt b a1)).trans a4,a5⟩
  ·obtain ⟨a1,a2,a3,a4,a5⟩:=r.ob b o h
   exact ⟨Nat.lt_of_lt_of_le a1 hNN,a2,a3,(hbl.block b (lt b a1)).trans a4,a5⟩
 ·have hgl:g<w'.heap.size:=(Array.getElem?_eq_some_iff.1 hgb).1
  have hFg:F g=none:=by
   cases hF:F g with
   | none=>rfl
   | some cs=>have h8:g<N:=(r.fr g cs hF).1; have h9:N≤w.heap.size:=r.nx; omega
  refine ⟨⟨F,upd M g (some (.cells 30 cur.toList cap)),w'.heap.size⟩,?_,k _ ss _ _ hn hall' ?_ (fun q hq=>za4 _ _ (by have h9:N≤w.heap.size:=r.nx; omega)) hNN (fun q hq=>(za4 _ _ (by omega)).trans (hm q (by omega)))⟩
  ·refine ybc (d:=w.drawn) ?_ (by rw [hd0]; exact Nat.zero_le _)
   refine r.turn (w':={ w' with drawn:=w.drawn }) (b:=g) (Nat.le_trans r.base (Nat.le_trans r.nx hg)) hFg hbl.os hbl.tape hbl.output hbl.size hgl (fun q hq hql=>hbl.block q hql) (some _) w'.heap.size hNN (Nat.le_refl _) hgl ⟨cur,hgb,by rw [hk3]; omega,List.prefix_refl _⟩
  ·refine ⟨by simp,.inr ⟨g,cap,cur.toList.drop ss.length,rfl,hk1,hk2,by have h9:N≤w.heap.size:=r.nx; omega,?_⟩⟩
   rw [za5,Nat.mul_one]
   congr 2
   rw [← List.take_append_drop ss.length cur.toList]
   congr 1
   ·rw [Nat.mul_one] at hk4; exact hk4
   ·simp
end Go.Proofs.YtgcmbkoejjcjlaaGreatDoor.A
open Go Go.RowKit Go.Proofs.YtgcmbkoejjcjlaaGreatDoor.K
set_option linter.unusedVariables false
set_option maxRecDepth 100000
namespace Go.Proofs.YtgcmbkoejjcjlaaGreatDoor.T
section
variable (K:zae) (E:zat) (k1 k2 k3 k4 k5:Env→Hp→Prop) (x0 x1 x2 x3 x4 x5 x6 x7 x8 x9 x10 x11 x12 x13 x14 x15 x16 x17 x18 x19 x20 x21 x22 x23 x24 x25 x26 x27 x28 x29 x30 x31 x32 x33 x34 x35 x36 x37 x38 x39 x40 x41 x42 x43 x44 x45 x46 x47 x48 x49 x50 x51 x52 x53 x54 x55 x56 x57 x58 x59 x60 x61 x62 x63 x64 x65 x66 x67 x68 x69 x70 x71 x72 x73 x74 x75 x76 x77 x78 x79 x80 x81 x82 x83 x84 x85 x86 x87 x88 x89 x90 x91 x92 x93 x94 x95 x96 x97 x98 x99 x100 x101 x102 x103 x104 x105 x106 x107 x108 x109 x110 x111 x112 x113 x114 x115 x116 x117 x118 x119 x120 x121 x122 x123 x124 x125 x126 x127 x128 x129 x130 x131 x132 x133 v0 v1 v2 v3 v4 v5 v6 v7 v8 v9 v10 v11 v12 v13 v14 v15 v16 v17 v18 v19 v20 v21 v22 v23 v24 v25 v26 v27 v28 v29 v30 v31 v32 v33 v34 v35 v36 v37 v38 v39 v40 v41 v42 v43 v44 v45 v46 v47 v48 v49 v50 v51 v52 v53 v54 v55 v56 v57 v58 v59 v60 v61 v62 v63 v64 v65 v66 v67 v68 v69 v70 v71 v72 v73 v74 v75 v76 v77 v78 v79 v80 v81 v82 v83 v84 v85 v86 v87 v88 v89 v90 v91 v92 v93 v94 v95 v96 v97 v98 v99 v100 v101 v102 v103 v104 v105 v106 v107 v108 v109 v110 v111 v112 v113 v114 v115 v116 v117 v118 v119 v120 v121 v122 v123 v124 v125 v126 v127 v128 v129 v130 v131 v132 v133:Value) (j:Nat→Value)
abbrev q38:QD:=zab Tryz.prog Tryz.f38.results.toList K E
abbrev d38 (p:List Nat):QD→Env→Hp→Prop:=den Tryz.prog (sel (za8 Tryz.f38) p)
theorem t38:d38 [] (q38 K E) #[x0,U,U,U,U,U,U,U,U] =
 za2 Tryz.prog (.func (.func 69) #[] #[]) #[x0] (fun t1=>
 za2 Tryz.prog (.func (.func 70) #[] #[]) #[t1] (fun t2=>
 K t1) E) E:=by kernel_rfl
abbrev q39:QD:=zab Tryz.prog Tryz.f39.results.toList K E
abbrev d39 (p:List Nat):QD→Env→Hp→Prop:=den Tryz.prog (sel (za8 Tryz.f39) p)
theorem t39:d39 [] (q39 K E) #[x0,U,U,U] =
 nw 70 (Value.cells x0).toList fun t1=>
 K (.func (.func 71) #[] #[t1]):=by kernel_rfl
abbrev q40:QD:=zab Tryz.prog Tryz.f40.results.toList K E
abbrev d40 (p:List Nat):QD→Env→Hp→Prop:=den Tryz.prog (sel (za8 Tryz.f40) p)
theorem t40:d40 [] (q40 K E) #[x0,x1,U,U,U,U,U,U] =
 ld false 1 x1 fun t1=>
 za2 Tryz.prog (.func (.func 41) #[] #[]) #[t1,x0] (fun t2=>
 pv (unV .not t2) fun t3=>
 K t3) E:=by kernel_rfl
abbrev q41:QD:=zab Tryz.prog Tryz.f41.results.toList K E
abbrev d41 (p:List Nat):QD→Env→Hp→Prop:=den Tryz.prog (sel (za8 Tryz.f41) p)
theorem t41:d41 [] (q41 K E) #[x0,x1,U,U,U,U,U,U,U,U,U,U,U,U] =
 pv (zan x0) fun t1=>
 pv (faV 1 t1) fun t2=>
 ld false 1 t2 fun t3=>
 lkp Tryz.prog 70 t3 x1 false fun t4=>
 pv (fdV true 0 2 t4) fun t5=>
 pv (fdV false 0 1 t5) fun t6=>
 pv (za1 .none .eql t6 (.int .u8 1)) fun t7=>
 K t7:=by kernel_rfl
abbrev q69:QD:=zab Tryz.prog Tryz.f69.results.toList K E
abbrev d69 (p:List Nat):QD→Env→Hp→Prop:=den Tryz.prog (sel (za8 Tryz.f69) p)
abbrev q70:QD:=zab Tryz.prog Tryz.f70.results.toList K E
abbrev d70 (p:List Nat):QD→Env→Hp→Prop:=den Tryz.prog (sel (za8 Tryz.f70) p)
theorem t70:d70 [] (q70 K E) #[x0,U,U,U,U,U,U,U,U,U,U] =
 pv (za9 x0) fun t1=>
 pv (cvV .u64 t1) fun t2=>
 za2 Tryz.prog (.func (.func 99) #[] #[]) #[t2] (fun t3=>
 za2 Tryz.prog (.func (.func 98) #[] #[]) #[x0,(.int .i64 0),t1,t3] (fun t4=>
 K (.tuple #[])) E) E:=by kernel_rfl
abbrev q98:QD:=zab Tryz.prog Tryz.f98.results.toList K E
abbrev d98 (p:List Nat):QD→Env→Hp→Prop:=den Tryz.prog (sel (za8 Tryz.f98) p)
def zf7 (j:Nat→Value):Env:=#[x0,v1,v2,v3,x4,x5,x6,x7,v8,v9,(j 10),(j 11),(j 12),(j 13),(j 14),(j 15),(j 16),(j 17),(j 18),(j 19),(j 20),(j 21),(j 22),(j 23),(j 24),(j 25),(j 26),(j 27),(j 28),(j 29),(j 30),(j 31),(j 32),(j 33),(j 34),(j 35),(j 36),(j 37),(j 38),(j 39),(j 40),(j 41),(j 42),(j 43),(j 44),(j 45),(j 46),(j 47),(j 48),(j 49),(j 50),(j 51),(j 52),(j 53),(j 54),(j 55),(j 56),(j 57),(j 58),(j 59),(j 60),(j 61),(j 62),(j 63),(j 64),(j 65),(j 66),(j 67),(j 68),(j 69),(j 70),(j 71),(j 72),(j 73),(j 74),(j 75),(j 76),(j 77),(j 78),(j 79),(j 80),(j 81),(j 82),(j 83),(j 84),(j 85),(j 86),(j 87),(j 88),(j 89),(j 90),(j 91),(j 92),(j 93),(j 94),(j 95),(j 96),(j 97),(j 98),(j 99),(j 100),(j 101),(j 102),(j 103),(j 104),(j 105),(j 106),(j 107),(j 108),(j 109),(j 110),(j 111),(j 112),(j 113),(j 114),(j 115),(j 116),(j 117),(j 118),(j 119),(j 120),(j 121),(j 122),(j 123),(j 124),(j 125),(j 126),(j 127),(j 128),(j 129),(j 130),(j 131),(j 132),(j 133)]
theorem t98:d98 [] (q98 K E) #[x0,x1,x2,x3,U,U,U,U,U,U,U,U,U,U,U,U,U,U,U,U,U,U,U,U,U,U,U,U,U,U,U,U,U,U,U,U,U,U,U,U,U,U,U,U,U,U,U,U,U,U,U,U,U,U,U,U,U,U,U,U,U,U,U,U,U,U,U,U,U,U,U,U,U,U,U,U,U,U,U,U,U,U,U,U,U,U,U,U,U,U,U,U,U,U,U,U,U,U,U,U,U,U,U,U,U,U,U,U,U,U,U,U,U,U,U,U,U,U,U,U,U,U,U,U,U,U,U,U,U,U,U,U,U,U] =
 lp (fun k1=>d98 [1,1,0,0] (za6 k1 (blk 0 (q98 K E)))) (zf7 x0 U U U U x1 x2 x3 (.bool true) (.bool true) (jf #[])):=by kernel_rfl
theorem ybn:d98 [1,1,0,0] (za6 k1 (blk 0 (q98 K E))) (zf7 x0 x4 x5 x6 x7 v1 v2 v3 v8 v9 j) =
 pv (za1 .none .sub v2 v1) fun t1=>
 pv (za1 .none .leq t1 (.int .i64 12)) fun t2=>
 cnd t2 (
  za2 Tryz.prog (.func (.func 121) #[] #[]) #[x0,v1,v2] (fun t3=>
  K (.tuple #[])) E) (
  pv (za1 .none .eql v3 (.int .i64 0)) fun t4=>
  cnd t4 (
  za2 Tryz.prog (.func (.func 122) #[] #[]) #[x0,v1,v2] (fun t5=>
  K (.tuple #[])) E) (
  pv (unV .not v8) fun t6=>
  cnd t6 (
   za2 Tryz.prog (.func (.func 123) #[] #[]) #[x0,v1,v2] (fun t7=>
   pv (za1 .none .sub v3 (.int .i64 1)) fun t8=>
   d98 [1,1,0,0,0,1,1,1,1] (blk 1 (za6 k1 (blk 0 (q98 K E)))) #[x0,v1,v2,t8,x4,x5,x6,x7,v8,v9,t1,(j 11),(j 12),(j 13),(j 14),(j 15),(j 16),(j 17),(j 18),v2,v1,t1,t1,t2,(j 24),(j 25),(j 26),(j 27),v3,t4,(j 30),(j 31),(j 32),(j 33),v8,t6,x0,v1,v2,t7,v3,t8,(j 42),(j 43),(j 44),(j 45),(j 46),(j 47),(j 48),(j 49),(j 50),(j 51),(j 52),(j 53),(j 54),(j 55),(j 56),(j 57),(j 58),(j 59),(j 60),(j 61),(j 62),(j 63),(j 64),(j 65),(j 66),(j 67),(j 68),(j 69),(j 70),(j 71),(j 72),(j 73),(j 74),(j 75),(j 76),(j 77),(j 78),(j 79),(j 80),(j 81),(j 82),(j 83),(j 84),(j 85),(j 86),(j 87),(j 88),(j 89),(j 90),(j 91),(j 92),(j 93),(j 94),(j 95),(j 96),(j 97),(j 98),(j 99),(j 100),(j 101),(j 102),(j 103),(j 104),(j 105),(j 106),(j 107),(j 108),(j 109),(j 110),(j 111),(j 112),(j 113),(j 114),(j 115),(j 116),(j 117),(j 118),(j 119),(j 120),(j 121),(j 122),(j 123),(j 124),(j 125),(j 126),(j 127),(j 128),(j 129),(j 130),(j 131),(j 132),(j 133)]) E) (
   d98 [1,1,0,0,0,1,1,1,1] (blk 1 (za6 k1 (blk 0 (q98 K E)))) #[x0,v1,v2,v3,x4,x5,x6,x7,v8,v9,t1,(j 11),(j 12),(j 13),(j 14),(j 15),(j 16),(j 17),(j 18),v2,v1,t1,t1,t2,(j 24),(j 25),(j 26),(j 27),v3,t4,(j 30),(j 31),(j 32),(j 33),v8,t6,(j 36),(j 37),(j 38),(j 39),(j 40),(j 41),(j 42),(j 43),(j 44),(j 45),(j 46),(j 47),(j 48),(j 49),(j 50),(j 51),(j 52),(j 53),(j 54),(j 55),(j 56),(j 57),(j 58),(j 59),(j 60),(j 61),(j 62),(j 63),(j 64),(j 65),(j 66),(j 67),(j 68),(j 69),(j 70),(j 71),(j 72),(j 73),(j 74),(j 75),(j 76),(j 77),(j 78),(j 79),(j 80),(j 81),(j 82),(j 83),(j 84),(j 85),(j 86),(j 87),(j 88),(j 89),(j 90),(j 91),(j 92),(j 93),(j 94),(j 95),(j 96),(j 97),(j 98),(j 99),(j 100),(j 101),(j 102),(j 103),(j 104),(j 105),(j 106),(j 107),(j 108),(j 109),(j 110),(j 111),(j 112),(j 113),(j 114),(j 115),(j 116),(j 117),(j 118),(j 119),(j 120),(j 121),(j 122),(j 123),(j 124),(j 125),(j 126),(j 127),(j 128),(j 129),(j 130),(j 131),(j 132),(j 133)]))):=by kernel_rfl
theorem ybs:d98 [1,1,0,0,0,1,1,1,1] (blk 1 (za6 k1 (blk 0 (q98 K E)))) #[x0,x1,x2,x3,x4,x5,x6,x7,x8,x9,x10,x11,x12,x13,x14,x15,x16,x17,x18,x19,x20,x21,x22,x23,x24,x25,x26,x27,x28,x29,x30,x31,x32,x33,x34,x35,x36,x37,x38,x39,x40,x41,x42,x43,x44,x45,x46,x47,x48,x49,x50,x51,x52,x53,x54,x55,x56,x57,x58,x59,x60,x61,x62,x63,x64,x65,x66,x67,x68,x69,x70,x71,x72,x73,x74,x75,x76,x77,x78,x79,x80,x81,x82,x83,x84,x85,x86,x87,x88,x89,x90,x91,x92,x93,x94,x95,x96,x97,x98,x99,x100,x101,x102,x103,x104,x105,x106,x107,x108,x109,x110,x111,x112,x113,x114,x115,x116,x117,x118,x119,x120,x121,x122,x123,x124,x125,x126,x127,x128,x129,x130,x131,x132,x133] =
 za2 Tryz.prog (.func (.func 124) #[] #[]) #[x0,x1,x2] (fun t1=>
 pv (exV 0 t1) fun t2=>
 pv (exV 1 t1) fun t3=>
 pv (za1 .none .eql t3 (.int .i64 2)) fun t4=>
 cnd t4 (
  za2 Tryz.prog (.func (.func 125) #[] #[]) #[x0,x1,x2] (fun t5=>
  pv (za1 .none .sub x2 (.int .i64 1)) fun t6=>
  pv (za1 .none .sub t2 x1) fun t7=>
  pv (za1 .none .sub t6 t7) fun t8=>
  d98 [1,1,0,0,0,1,1,1,1,1,1] (blk 1 (za6 k1 (blk 0 (q98 K E)))) #[x0,x1,x2,x3,x4,x5,x6,x7,x8,x9,x10,t8,(.int .i64 1),x13,x14,x15,x16,x17,x18,x19,x20,x21,x22,x23,x24,x25,x26,x27,x28,x29,x30,x31,x32,x33,x34,x35,x36,x37,x38,x39,x40,x41,t1,x0,x1,x2,t1,t2,t3,t3,t4,x0,x1,x2,t5,x2,t6,t2,x1,t7,t8,x61,x62,x63,x64,x65,x66,x67,x68,x69,x70,x71,x72,x73,x74,x75,x76,x77,x78,x79,x80,x81,x82,x83,x84,x85,x86,x87,x88,x89,x90,x91,x92,x93,x94,x95,x96,x97,x98,x99,x100,x101,x102,x103,x104,x105,x106,x107,x108,x109,x110,x111,x112,x113,x114,x115,x116,x117,x118,x119,x120,x121,x122,x123,x124,x125,x126,x127,x128,x129,x130,x131,x132,x133]) E) (
  d98 [1,1,0,0,0,1,1,1,1,1,1] (blk 1 (za6 k1 (blk 0 (q98 K E)))) #[x0,x1,x2,x3,x4,x5,x6,x7,x8,x9,x10,t2,t3,x13,x14,x15,x16,x17,x18,x19,x20,x21,x22,x23,x24,x25,x26,x27,x28,x29,x30,x31,x32,x33,x34,x35,x36,x37,x38,x39,x40,x41,t1,x0,x1,x2,t1,t2,t3,t3,t4,x51,x52,x53,x54,x55,x56,x57,x58,x59,x60,x61,x62,x63,x64,x65,x66,x67,x68,x69,x70,x71,x72,x73,x74,x75,x76,x77,x78,x79,x80,x81,x82,x83,x84,x85,x86,x87,x88,x89,x90,x91,x92,x93,x94,x95,x96,x97,x98,x99,x100,x101,x102,x103,x104,x105,x106,x107,x108,x109,x110,x111,x112,x113,x114,x115,x116,x117,x118,x119,x120,x121,x122,x123,x124,x125,x126,x127,x128,x129,x130,x131,x132,x133])) E:=by kernel_rfl
theorem zzf:d98 [1,1,0,0,0,1,1,1,1,1,1] (blk 1 (za6 k1 (blk 0 (q98 K E)))) #[x0,x1,x2,x3,x4,x5,x6,x7,x8,x9,x10,x11,x12,x13,x14,x15,x16,x17,x18,x19,x20,x21,x22,x23,x24,x25,x26,x27,x28,x29,x30,x31,x32,x33,x34,x35,x36,x37,x38,x39,x40,x41,x42,x43,x44,x45,x46,x47,x48,x49,x50,x51,x52,x53,x54,x55,x56,x57,x58,x59,x60,x61,x62,x63,x64,x65,x66,x67,x68,x69,x70,x71,x72,x73,x74,x75,x76,x77,x78,x79,x80,x81,x82,x83,x84,x85,x86,x87,x88,x89,x90,x91,x92,x93,x94,x95,x96,x97,x98,x99,x100,x101,x102,x103,x104,x105,x106,x107,x108,x109,x110,x111,x112,x113,x114,x115,x116,x117,x118,x119,x120,x121,x122,x123,x124,x125,x126,x127,x128,x129,x130,x131,x132,x133] =
 gdK x8 true (fun k=>k x9) fun t1=>
 pv (zah x8 t1 (.bool false)) fun t2=>
 gdK t2 true (fun k=>k x12) fun t3=>
 gdK t2 true (fun k=>pv (za1 .none .eql t3 (.int .i64 1)) k) fun t4=>
 pv (zah t2 t4 (.bool false)) fun t5=>
 cnd t5 (
  za2 Tryz.prog (.func (.func 126) #[] #[]) #[x0,x1,x2] (fun t6=>
  cnd t6 (
  K (.tuple #[])) (
  d98 [1,1,0,0,0,1,1,1,1,1,1,1] (blk 1 (za6 k1 (blk 0 (q98 K E)))) #[x0,x1,x2,x3,x4,x5,x6,x7,x8,x9,x10,x11,x12,x13,x14,x15,x16,x17,x18,x19,x20,x21,x22,x23,x24,x25,x26,x27,x28,x29,x30,x31,x32,x33,x34,x35,x36,x37,x38,x39,x40,x41,x42,x43,x44,x45,x46,x47,x48,x49,x50,x51,x52,x53,x54,x55,x56,x57,x58,x59,x60,x8,x8,t1,t2,t2,t3,t4,t5,x0,x1,x2,t6,x73,x74,x75,x76,x77,x78,x79,x80,x81,x82,x83,x84,x85,x86,x87,x88,x89,x90,x91,x92,x93,x94,x95,x96,x97,x98,x99,x100,x101,x102,x103,x104,x105,x106,x107,x108,x109,x110,x111,x112,x113,x114,x115,x116,x117,x118,x119,x120,x121,x122,x123,x124,x125,x126,x127,x128,x129,x130,x131,x132,x133])) E) (
  d98 [1,1,0,0,0,1,1,1,1,1,1,1] (blk 1 (za6 k1 (blk 0 (q98 K E)))) #[x0,x1,x2,x3,x4,x5,x6,x7,x8,x9,x10,x11,x12,x13,x14,x15,x16,x17,x18,x19,x20,x21,x22,x23,x24,x25,x26,x27,x28,x29,x30,x31,x32,x33,x34,x35,x36,x37,x38,x39,x40,x41,x42,x43,x44,x45,x46,x47,x48,x49,x50,x51,x52,x53,x54,x55,x56,x57,x58,x59,x60,x8,x8,t1,t2,t2,t3,t4,t5,x69,x70,x71,x72,x73,x74,x75,x76,x77,x78,x79,x80,x81,x82,x83,x84,x85,x86,x87,x88,x89,x90,x91,x92,x93,x94,x95,x96,x97,x98,x99,x100,x101,x102,x103,x104,x105,x106,x107,x108,x109,x110,x111,x112,x113,x114,x115,x116,x117,x118,x119,x120,x121,x122,x123,x124,x125,x126,x127,x128,x129,x130,x131,x132,x133]):=by kernel_rfl
theorem zxn:d98 [1,1,0,0,0,1,1,1,1,1,1,1] (blk 1 (za6 k1 (blk 0 (q98 K E)))) #[x0,x1,x2,x3,x4,x5,x6,x7,x8,x9,x10,x11,x12,x13,x14,x15,x16,x17,x18,x19,x20,x21,x22,x23,x24,x25,x26,x27,x28,x29,x30,x31,x32,x33,x34,x35,x36,x37,x38,x39,x40,x41,x42,x43,x44,x45,x46,x47,x48,x49,x50,x51,x52,x53,x54,x55,x56,x57,x58,x59,x60,x61,x62,x63,x64,x65,x66,x67,x68,x69,x70,x71,x72,x73,x74,x75,x76,x77,x78,x79,x80,x81,x82,x83,x84,x85,x86,x87,x88,x89,x90,x91,x92,x93,x94,x95,x96,x97,x98,x99,x100,x101,x102,x103,x104,x105,x106,x107,x108,x109,x110,x111,x112,x113,x114,x115,x116,x117,x118,x119,x120,x121,x122,x123,x124,x125,x126,x127,x128,x129,x130,x131,x132,x133] =
 pv (za1 .none .gtr x1 (.int .i64 0)) fun t1=>
 gdK t1 true (fun k=>k x0) fun t2=>
 gdK t1 true (fun k=>k x1) fun t3=>
 gdK t1 true (fun k=>pv (za1 .none .sub t3 (.int .i64 1)) k) fun t4=>
 gdK t1 true (fun k=>pv (iaV none 1 t2 t4) k) fun t5=>
 gdK t1 true (fun k=>ld false 1 t5 k) fun t6=>
 gdK t1 true (fun k=>k x0) fun t7=>
 gdK t1 true (fun k=>k x11) fun t8=>
 gdK t1 true (fun k=>pv (iaV none 1 t7 t8) k) fun t9=>
 gdK t1 true (fun k=>ld false 1 t9 k) fun t10=>
 gdK t1 true (fun k=>za2 Tryz.prog (.func (.func 127) #[] #[]) #[t6,t10] k E) fun t11=>
 gdK t1 true (fun k=>pv (unV .not t11) k) fun t12=>
 pv (zah t1 t12 (.bool false)) fun t13=>
 cnd t13 (
  za2 Tryz.prog (.func (.func 128) #[] #[]) #[x0,x1,x2,x11] (fun t14=>
  k1 (zf7 x0 x4 x5 x6 x7 t14 x2 x3 x8 x9 (jf #[U,U,U,U,U,U,U,U,U,U,x10,x11,x12,t14,x14,x15,x16,x17,x18,x19,x20,x21,x22,x23,x24,x25,x26,x27,x28,x29,x30,x31,x32,x33,x34,x35,x36,x37,x38,x39,x40,x41,x42,x43,x44,x45,x46,x47,x48,x49,x50,x51,x52,x53,x54,x55,x56,x57,x58,x59,x60,x61,x62,x63,x64,x65,x66,x67,x68,x69,x70,x71,x72,x1,t1,t1,t2,t3,t4,t5,t6,t7,t8,t9,t10,t11,t12,t13,x0,x1,x2,x11,t14,t14,x94,x95,x96,x97,x98,x99,x100,x101,x102,x103,x104,x105,x106,x107,x108,x109,x110,x111,x112,x113,x114,x115,x116,x117,x118,x119,x120,x121,x122,x123,x124,x125,x126,x127,x128,x129,x130,x131,x132,x133]))) E) (
  za2 Tryz.prog (.func (.func 129) #[] #[]) #[x0,x1,x2,x11] (fun t15=>
  pv (exV 0 t15) fun t16=>
  pv (exV 1 t15) fun t17=>
  pv (za1 .none .sub t16 x1) fun t18=>
  pv (za1 .none .sub x2 t16) fun t19=>
  pv (za1 .none .quo x10 (.int .i64 8)) fun t20=>
  pv (za1 .none .lss t18 t19) fun t21=>
  cnd t21 (
  pv (za1 .none .geq t18 t20) fun t22=>
  za2 Tryz.prog (.func (.func 98) #[] #[]) #[x0,x1,t16,x3] (fun t23=>
  pv (za1 .none .add t16 (.int .i64 1)) fun t24=>
  k1 (zf7 x0 x4 x5 x6 x7 t24 x2 x3 t22 t17 (jf #[U,U,U,U,U,U,U,U,U,U,x10,x11,x12,x13,t16,t17,t18,t19,t20,x19,x20,x21,x22,x23,x24,x25,x26,x27,x28,x29,x30,x31,x32,x33,x34,x35,x36,x37,x38,x39,x40,x41,x42,x43,x44,x45,x46,x47,x48,x49,x50,x51,x52,x53,x54,x55,x56,x57,x58,x59,x60,x61,x62,x63,x64,x65,x66,x67,x68,x69,x70,x71,x72,x1,t1,t1,t2,t3,t4,t5,t6,t7,t8,t9,t10,t11,t12,t13,x88,x89,x90,x91,x92,x93,t15,x0,x1,x2,x11,t15,t16,t17,t17,t16,x1,t18,x2,t16,t19,x10,t20,t18,t19,t21,t18,t20,t22,x0,x1,t16,x3,t23,t16,t24,x124,x125,x126,x127,x128,x129,x130,x131,x132,x133]))) E) (
  pv (za1 .none .geq t19 t20) fun t25=>
  pv (za1 .none .add t16 (.int .i64 1)) fun t26=>
  za2 Tryz.prog (.func (.func 98) #[] #[]) #[x0,t26,x2,x3] (fun t27=>
  k1 (zf7 x0 x4 x5 x6 x7 x1 t16 x3 t25 t17 (jf #[U,U,U,U,U,U,U,U,U,U,x10,x11,x12,x13,t16,t17,t18,t19,t20,x19,x20,x21,x22,x23,x24,x25,x26,x27,x28,x29,x30,x31,x32,x33,x34,x35,x36,x37,x38,x39,x40,x41,x42,x43,x44,x45,x46,x47,x48,x49,x50,x51,x52,x53,x54,x55,x56,x57,x58,x59,x60,x61,x62,x63,x64,x65,x66,x67,x68,x69,x70,x71,x72,x1,t1,t1,t2,t3,t4,t5,t6,t7,t8,t9,t10,t11,t12,t13,x88,x89,x90,x91,x92,x93,t15,x0,x1,x2,x11,t15,t16,t17,t17,t16,x1,t18,x2,t16,t19,x10,t20,t18,t19,t21,x114,x115,x116,x117,x118,x119,x120,x121,x122,x123,t19,t20,t25,x0,t16,t26,x2,x3,t27,t16]))) E)) E):=by kernel_rfl
abbrev q99:QD:=zab Tryz.prog Tryz.f99.results.toList K E
abbrev d99 (p:List Nat):QD→Env→Hp→Prop:=den Tryz.prog (sel (za8 Tryz.f99) p)
theorem t99:d99 [] (q99 K E) #[x0,U,U,U,U,U,U,U] =
 cnd (.bool false) (
  pv (cvV .u32 x0) fun t1=>
  za2 Tryz.prog (.func (.func 130) #[] #[]) #[t1] (fun t2=>
  K t2) E) (
  za2 Tryz.prog (.func (.func 131) #[] #[]) #[x0] (fun t3=>
  K t3) E):=by kernel_rfl
abbrev zsb:QD:=zab Tryz.prog Tryz.f121.results.toList K E
abbrev zlx (p:List Nat):QD→Env→Hp→Prop:=den Tryz.prog (sel (za8 Tryz.f121) p)
abbrev zu6:=za6 k2 (blk 2 (blk 1 (za6 (zlx [1,0,0,1,1] (za6 k1 (blk 0 (zsb K E)))) (za6 k1 (blk 0 (zsb K E))))))
def zgj (j:Nat→Value):Env:=#[x0,x1,x2,x3,x4,x5,v6,(j 7),x8,x9,(j 10),(j 11),(j 12),(j 13),(j 14),(j 15),(j 16),(j 17),(j 18),(j 19),(j 20),(j 21),(j 22),(j 23),(j 24),(j 25),(j 26),(j 27),(j 28),(j 29),(j 30),(j 31),(j 32),(j 33),(j 34),(j 35),(j 36),(j 37),(j 38),(j 39),(j 40),(j 41),(j 42),(j 43),(j 44),(j 45),(j 46),(j 47),(j 48)]
def zc5 (j:Nat→Value):Env:=#[x0,x1,x2,x3,x4,x5,x6,v7,x8,x9,x10,x11,x12,x13,x14,x15,(j 16),(j 17),(j 18),(j 19),(j 20),(j 21),(j 22),(j 23),(j 24),(j 25),(j 26),(j 27),(j 28),(j 29),(j 30),(j 31),(j 32),(j 33),(j 34),(j 35),(j 36),(j 37),(j 38),(j 39),(j 40),(j 41),(j 42),(j 43),(j 44),(j 45),(j 46),(j 47),(j 48)]
theorem ylk:zlx [] (zsb K E) #[x0,x1,x2,U,U,U,U,U,U,U,U,U,U,U,U,U,U,U,U,U,U,U,U,U,U,U,U,U,U,U,U,U,U,U,U,U,U,U,U,U,U,U,U,U,U,U,U,U,U] =
 pv (za1 .none .add x1 (.int .i64 1)) fun t1=>
 lp (fun k1=>zlx [1,0,0] (za6 k1 (blk 0 (zsb K E)))) (zgj x0 x1 x2 U U U x1 t1 t1 (jf #[])):=by kernel_rfl
theorem zt5:zlx [1,0,0] (za6 k1 (blk 0 (zsb K E))) (zgj x0 x1 x2 x3 x4 x5 x8 x9 v6 j) =
 pv (za1 .none .lss v6 x2) fun t1=>
 cnd t1 (
  lp (fun k2=>zlx [1,0,0,1,0,0,1,0,0] (zu6 K E k1 k2)) (zc5 x0 x1 x2 x3 x4 x5 v6 x8 x9 v6 x2 t1 (j 13) (j 14) v6 v6 (jf #[U,U,U,U,U,U,U,U,U,U,U,U,U,U,U,U,(j 16),(j 17),(j 18),(j 19),(j 20),(j 21),(j 22),(j 23),(j 24),(j 25),(j 26),(j 27),(j 28),(j 29),(j 30),(j 31),(j 32),(j 33),(j 34),(j 35),(j 36),(j 37),(j 38),(j 39),(j 40),(j 41),(j 42),(j 43),(j 44),(j 45),(j 46),(j 47),(j 48)]))) (
  K (.tuple #[])):=by kernel_rfl
theorem zm7:zlx [1,0,0,1,0,0,1,0,0] (zu6 K E k1 k2) (zc5 x0 x1 x2 x3 x4 x5 x6 x8 x9 x10 x11 x12 x13 x14 x15 v7 j) =
 pv (za1 .none .gtr v7 x1) fun t1=>
 gdK t1 true (fun k=>k x0) fun t2=>
 gdK t1 true (fun k=>k v7) fun t3=>
 gdK t1 true (fun k=>pv (iaV none 1 t2 t3) k) fun t4=>
 gdK t1 true (fun k=>ld false 1 t4 k) fun t5=>
 gdK t1 true (fun k=>k x0) fun t6=>
 gdK t1 true (fun k=>k v7) fun t7=>
 gdK t1 true (fun k=>pv (za1 .none .sub t7 (.int .i64 1)) k) fun t8=>
 gdK t1 true (fun k=>pv (iaV none 1 t6 t8) k) fun t9=>
 gdK t1 true (fun k=>ld false 1 t9 k) fun t10=>
 gdK t1 true (fun k=>za2 Tryz.prog (.func (.func 127) #[] #[]) #[t5,t10] k E) fun t11=>
 pv (zah t1 t11 (.bool false)) fun t12=>
 cnd t12 (
  pv (za1 .none .sub v7 (.int .i64 1)) fun t13=>
  pv (za1 .none .sub v7 (.int .i64 1)) fun t14=>
  pv (iaV none 1 x0 t14) fun t15=>
  ld false 1 t15 fun t16=>
  pv (iaV none 1 x0 v7) fun t17=>
  ld false 1 t17 fun t18=>
  pv (iaV none 1 x0 v7) fun t19=>
  st 1 t19 t16 fun _=>
  pv (iaV none 1 x0 t13) fun t20=>
  st 1 t20 t18 fun _=>
  pv (za1 .none .sub v7 (.int .i64 1)) fun t21=>
  k2 (zc5 x0 x1 x2 x3 x4 x5 x6 x8 x9 x10 x11 x12 x13 x14 x15 t21 (jf #[U,U,U,U,U,U,U,U,U,U,U,U,U,U,U,U,v7,x1,t1,t1,t2,t3,t4,t5,t6,t7,t8,t9,t10,t11,t12,v7,t21,x0,v7,x0,v7,t13,x0,v7,t14,t15,t16,x0,v7,t17,t18,t19,t20]))) (
  pv (za1 .none .add x6 (.int .i64 1)) fun t22=>
  k1 (zgj x0 x1 x2 x3 x4 x5 x8 x9 t22 (jf #[U,U,U,U,U,U,U,v7,U,U,x10,x11,x12,x6,t22,x15,v7,x1,t1,t1,t2,t3,t4,t5,t6,t7,t8,t9,t10,t11,t12,(j 31),(j 32),(j 33),(j 34),(j 35),(j 36),(j 37),(j 38),(j 39),(j 40),(j 41),(j 42),(j 43),(j 44),(j 45),(j 46),(j 47),(j 48)]))):=by kernel_rfl
abbrev yrb:QD:=zab Tryz.prog Tryz.f127.results.toList K E
abbrev yq0 (p:List Nat):QD→Env→Hp→Prop:=den Tryz.prog (sel (za8 Tryz.f127) p)
theorem ysi:yq0 [] (yrb K E) #[x0,x1,U,U,U,U,U,U,U,U,U,U,U,U,U,U,U] =
 za2 Tryz.prog (.func (.func 132) #[] #[]) #[x0] (fun t1=>
 gdK t1 true (fun k=>k x1) fun t2=>
 gdK t1 true (fun k=>za2 Tryz.prog (.func (.func 132) #[] #[]) #[t2] k E) fun t3=>
 gdK t1 true (fun k=>pv (unV .not t3) k) fun t4=>
 pv (zah t1 t4 (.bool false)) fun t5=>
 gdK t5 false (fun k=>k x0) fun t6=>
 gdK t5 false (fun k=>k x1) fun t7=>
 gdK t5 false (fun k=>pv (za1 .none .lss t6 t7) k) fun t8=>
 pv (zah t5 (.bool true) t8) fun t9=>
 K t9) E:=by kernel_rfl
abbrev zm1:QD:=zab Tryz.prog Tryz.f131.results.toList K E
abbrev zma (p:List Nat):QD→Env→Hp→Prop:=den Tryz.prog (sel (za8 Tryz.f131) p)
theorem yrj:zma [] (zm1 K E) #[x0,U,U,U,U,U,U,U,U,U,U,U,U,U,U,U,U,U,U,U,U,U,U,U,U] =
 pv (za1 .none .geq x0 (.int .u64 4294967296)) fun t1=>
 cnd t1 (
  pv (za1 .none .shr x0 (.int .u64 32)) fun t2=>
  zma [1,1] (zm1 K E) #[t2,U,(.int .i64 32),x0,t1,x0,t2,U,U,U,U,U,U,U,U,U,U,U,U,U,U,U,U,U,U]) (
  zma [1,1] (zm1 K E) #[x0,U,(.int .i64 0),x0,t1,U,U,U,U,U,U,U,U,U,U,U,U,U,U,U,U,U,U,U,U]):=by kernel_rfl
theorem ygm:zma [1,1] (zm1 K E) #[x0,x1,x2,x3,x4,x5,x6,x7,x8,x9,x10,x11,x12,x13,x14,x15,x16,x17,x18,x19,x20,x21,x22,x23,x24] =
 pv (za1 .none .geq x0 (.int .u64 65536)) fun t1=>
 cnd t1 (
  pv (za1 .none .shr x0 (.int .u64 16)) fun t2=>
  pv (za1 .none .add x2 (.int .i64 16)) fun t3=>
  zma [1,1,1] (zm1 K E) #[t2,x1,t3,x3,x4,x5,x6,x0,t1,x0,t2,x2,t3,x13,x14,x15,x16,x17,x18,x19,x20,x21,x22,x23,x24]) (
  zma [1,1,1] (zm1 K E) #[x0,x1,x2,x3,x4,x5,x6,x0,t1,x9,x10,x11,x12,x13,x14,x15,x16,x17,x18,x19,x20,x21,x22,x23,x24]):=by kernel_rfl
theorem yd1:zma [1,1,1] (zm1 K E) #[x0,x1,x2,x3,x4,x5,x6,x7,x8,x9,x10,x11,x12,x13,x14,x15,x16,x17,x18,x19,x20,x21,x22,x23,x24] =
 pv (za1 .none .geq x0 (.int .u64 256)) fun t1=>
 cnd t1 (
  pv (za1 .none .shr x0 (.int .u64 8)) fun t2=>
  pv (za1 .none .add x2 (.int .i64 8)) fun t3=>
  zma [1,1,1,1] (zm1 K E) #[t2,x1,t3,x3,x4,x5,x6,x7,x8,x9,x10,x11,x12,x0,t1,x0,t2,x2,t3,x19,x20,x21,x22,x23,x24]) (
  zma [1,1,1,1] (zm1 K E) #[x0,x1,x2,x3,x4,x5,x6,x7,x8,x9,x10,x11,x12,x0,t1,x15,x16,x17,x18,x19,x20,x21,x22,x23,x24]):=by kernel_rfl
theorem zzp:zma [1,1,1,1] (zm1 K E) #[x0,x1,x2,x3,x4,x5,x6,x7,x8,x9,x10,x11,x12,x13,x14,x15,x16,x17,x18,x19,x20,x21,x22,x23,x24] =
 pv (cvV .u8 x0) fun t1=>
 pv (ixV (.string ⟨#[0,1,2,2,3,3,3,3,4,4,4,4,4,4,4,4,5,5,5,5,5,5,5,5,5,5,5,5,5,5,5,5,6,6,6,6,6,6,6,6,6,6,6,6,6,6,6,6,6,6,6,6,6,6,6,6,6,6,6,6,6,6,6,6,7,7,7,7,7,7,7,7,7,7,7,7,7,7,7,7,7,7,7,7,7,7,7,7,7,7,7,7,7,7,7,7,7,7,7,7,7,7,7,7,7,7,7,7,7,7,7,7,7,7,7,7,7,7,7,7,7,7,7,7,7,7,7,7,8,8,8,8,8,8,8,8,8,8,8,8,8,8,8,8,8,8,8,8,8,8,8,8,8,8,8,8,8,8,8,8,8,8,8,8,8,8,8,8,8,8,8,8,8,8,8,8,8,8,8,8,8,8,8,8,8,8,8,8,8,8,8,8,8,8,8,8,8,8,8,8,8,8,8,8,8,8,8,8,8,8,8,8,8,8,8,8,8,8,8,8,8,8,8,8,8,8,8,8,8,8,8,8,8,8,8,8,8,8,8,8,8,8,8,8,8,8,8,8,8,8,8,8,8,8,8,8]⟩) t1) fun t2=>
 pv (cvV .i64 t2) fun t3=>
 pv (za1 .none .add x2 t3) fun t4=>
 K t4:=by kernel_rfl
abbrev q37:QD:=zab Tryz.prog Tryz.f37.results.toList K E
abbrev d37 (p:List Nat):QD→Env→Hp→Prop:=den Tryz.prog (sel (za8 Tryz.f37) p)
abbrev zn4:=za6 k1 (blk 0 (za6 (d37 [1,1,1,1] (q37 K E)) (q37 K E)))
def zd6 (j:Nat→Value):Env:=#[x0,x1,x2,x3,x4,v5,v6,(j 7),x8,x9,x10,x11,x12,x13,x14,x15,(j 16),(j 17),(j 18),(j 19),(j 20),(j 21),(j 22),(j 23),(j 24),(j 25),(j 26),(j 27),(j 28),(j 29),(j 30),(j 31),(j 32),(j 33),(j 34),(j 35),x36,x37,x38,x39,x40,x41]
theorem t37:d37 [] (q37 K E) #[x0,x1,U,U,U,U,U,U,U,U,U,U,U,U,U,U,U,U,U,U,U,U,U,U,U,U,U,U,U,U,U,U,U,U,U,U,U,U,U,U,U,U] =
 za2 Tryz.prog (.func (.func 68) #[] #[]) #[x0,x1] (fun t1=>
 pv (za1 .none .eql t1 (.int .i64 (-1))) fun t2=>
 cnd t2 (
  K x0) (
  pv (za1 .none .add t1 (.int .i64 1)) fun t3=>
  lp (fun k1=>d37 [1,1,1,0,1,0,0] (zn4 K E k1)) (zd6 x0 x1 U U (.slice none 0 0) x0 x1 t1 t1 t2 U t1 t3 U U U U U U t1 t3 (jf #[])))) E:=by kernel_rfl
theorem zq1:d37 [1,1,1,0,1,0,0] (zn4 K E k1) (zd6 x0 x1 x2 x3 x4 x8 x9 x10 x11 x12 x13 x14 x15 x36 x37 x38 x39 x40 x41 v5 v6 j) =
 pv (za9 x0) fun t1=>
 pv (za1 .none .lss v6 t1) fun t2=>
 cnd t2 (
  pv (iaV none 1 x0 v6) fun t3=>
  ld false 1 t3 fun t4=>
  za2 Tryz.prog x1 #[t4] (fun t5=>
  pv (unV .not t5) fun t6=>
  cnd t6 (
  pv (iaV none 1 x0 v5) fun t7=>
  st 1 t7 t4 fun _=>
  pv (za1 .none .add v5 (.int .i64 1)) fun t8=>
  d37 [1,1,1,0,1,0,0,1,1] (zn4 K E k1) #[x0,x1,x2,x3,x4,t8,v6,t4,x8,x9,x10,x11,x12,x13,x14,x15,v6,x0,t1,t2,(j 20),(j 21),x0,v6,t3,t4,x1,t4,t5,t6,x0,v5,t4,t7,v5,t8,x36,x37,x38,x39,x40,x41]) (
  d37 [1,1,1,0,1,0,0,1,1] (zn4 K E k1) #[x0,x1,x2,x3,x4,v5,v6,t4,x8,x9,x10,x11,x12,x13,x14,x15,v6,x0,t1,t2,(j 20),(j 21),x0,v6,t3,t4,x1,t4,t5,t6,(j 30),(j 31),(j 32),(j 33),(j 34),(j 35),x36,x37,x38,x39,x40,x41])) E) (
  pv (slV 1 x0 (some v5) none none) fun t9=>
  clr 30 [(.int .u32 0)] 1 t9 fun _=>
  pv (slV 1 x0 none (some v5) none) fun t10=>
  K t10):=by kernel_rfl
theorem zih:d37 [1,1,1,0,1,0,0,1,1] (zn4 K E k1) #[x0,x1,x2,x3,x4,x5,x6,x7,x8,x9,x10,x11,x12,x13,x14,x15,x16,x17,x18,x19,x20,x21,x22,x23,x24,x25,x26,x27,x28,x29,x30,x31,x32,x33,x34,x35,x36,x37,x38,x39,x40,x41] =
 pv (za1 .none .add x6 (.int .i64 1)) fun t1=>
 k1 (zd6 x0 x1 x2 x3 x4 x8 x9 x10 x11 x12 x13 x14 x15 x36 x37 x38 x39 x40 x41 x5 t1 (jf #[U,U,U,U,U,U,U,x7,U,U,U,U,U,U,U,U,x16,x17,x18,x19,x6,t1,x22,x23,x24,x25,x26,x27,x28,x29,x30,x31,x32,x33,x34,x35])):=by kernel_rfl
abbrev q68:QD:=zab Tryz.prog Tryz.f68.results.toList K E
abbrev d68 (p:List Nat):QD→Env→Hp→Prop:=den Tryz.prog (sel (za8 Tryz.f68) p)
abbrev zz4:=za6 k1 (blk 0 (za6 (d68 [1,1] (q68 K E)) (q68 K E)))
def zfq (j:Nat→Value):Env:=#[x0,x1,x2,x3,(j 4),(j 5),x6,x7,v8,(j 9),(j 10),(j 11),(j 12),(j 13),(j 14),(j 15),(j 16),(j 17),(j 18)]
theorem t68:d68 [] (q68 K E) #[x0,x1,U,U,U,U,U,U,U,U,U,U,U,U,U,U,U,U,U] =
 pv (za9 x0) fun t1=>
 lp (fun k1=>d68 [1,0,1,0,0] (zz4 K E k1)) (zfq x0 x1 U U x0 t1 (.int .i64 0) (jf #[U,U,U,U,(.int .i64 0)])):=by kernel_rfl
theorem zy6:d68 [1,0,1,0,0] (zz4 K E k1) (zfq x0 x1 x2 x3 x6 x7 v8 j) =
 pv (za1 .none .lss v8 x7) fun t1=>
 cnd t1 (
  pv (iaV none 1 x0 v8) fun t2=>
  ld false 1 t2 fun t3=>
  za2 Tryz.prog x1 #[t3] (fun t4=>
  cnd t4 (
  K v8) (
  pv (za1 .none .add v8 (.int .i64 1)) fun t5=>
  k1 (zfq x0 x1 x2 x3 x6 x7 t5 (jf #[U,U,U,U,(j 4),v8,U,U,U,t1,v8,x1,x0,v8,t2,t3,t4,(j 17),t5])))) E) (
  K (.int .i64 (-1))):=by kernel_rfl
end
section
variable {K:zae} {E:zat} {k1 k2 k3 k4 k5:Env→Hp→Prop} {σ:Type} {x0 x1 x2 x3 x4 x5 x6 x7 x8 x9 x10 x11 x12 x13 x14 x15 x16 x17 x18 x19 x20 x21 x22 x23 x24 x25 x26 x27 x28 x29 x30 x31 x32 x33 x34 x35 x36 x37 x38 x39 x40 x41 x42 x43 x44 x45 x46 x47 x48 x49 x50 x51 x52 x53 x54 x55 x56 x57 x58 x59 x60 x61 x62 x63 x64 x65 x66 x67 x68 x69 x70 x71 x72 x73 x74 x75 x76 x77 x78 x79 x80 x81 x82 x83 x84 x85 x86 x87 x88 x89 x90 x91 x92 x93 x94 x95 x96 x97 x98 x99 x100 x101 x102 x103 x104 x105 x106 x107 x108 x109 x110 x111 x112 x113 x114 x115 x116 x117 x118 x119 x120 x121 x122 x123 x124 x125 x126 x127 x128 x129 x130 x131 x132 x133 v0 v1 v2 v3 v4 v5 v6 v7 v8 v9 v10 v11 v12 v13 v14 v15 v16 v17 v18 v19 v20 v21 v22 v23 v24 v25 v26 v27 v28 v29 v30 v31 v32 v33 v34 v35 v36 v37 v38 v39 v40 v41 v42 v43 v44 v45 v46 v47 v48 v49 v50 v51 v52 v53 v54 v55 v56 v57 v58 v59 v60 v61 v62 v63 v64 v65 v66 v67 v68 v69 v70 v71 v72 v73 v74 v75 v76 v77 v78 v79 v80 v81 v82 v83 v84 v85 v86 v87 v88 v89 v90 v91 v92 v93 v94 v95 v96 v97 v98 v99 v100 v101 v102 v103 v104 v105 v106 v107 v108 v109 v110 v111 v112 v113 v114 v115 v116 v117 v118 v119 v120 v121 v122 v123 v124 v125 v126 v127 v128 v129 v130 v131 v132 v133:Value} {h:Hp} {j:Nat→Value}
theorem ybh (f1 f2 f3 f8 f9:σ→Value) (I:σ→Hp→Prop) (μ:σ→Nat) (s0:σ) (e1:v1=f1 s0) (e2:v2=f2 s0) (e3:v3=f3 s0) (e8:v8=f8 s0) (e9:v9=f9 s0) (h0:h.wf→∃ h',h.wk h'∧I s0 h')
 (round:∀ (k1:Env→Hp→Prop) (s:σ) (j:Nat→Value) (h:Hp),I s h→h.wf→(∀ s' j' h',μ s'<μ s→(h'.wf→∃ h'',h'.wk h''∧I s' h'')→k1 (zf7 x0 x4 x5 x6 x7 (f1 s') (f2 s') (f3 s') (f8 s') (f9 s') j') h')→d98 [1,1,0,0] (za6 k1 (blk 0 (q98 K E))) (zf7 x0 x4 x5 x6 x7 (f1 s) (f2 s) (f3 s) (f8 s) (f9 s) j) h) :
 lp (fun k1=>d98 [1,1,0,0] (za6 k1 (blk 0 (q98 K E)))) (zf7 x0 x4 x5 x6 x7 v1 v2 v3 v8 v9 j) h:=by
 subst e1
 subst e2
 subst e3
 subst e8
 subst e9
 exact zaj (fun s j=>zf7 x0 x4 x5 x6 x7 (f1 s) (f2 s) (f3 s) (f8 s) (f9 s) j) I μ round s0 j h0
theorem zv5 (f6:σ→Value) (I:σ→Hp→Prop) (μ:σ→Nat) (s0:σ) (e6:v6=f6 s0) (h0:h.wf→∃ h',h.wk h'∧I s0 h')
 (round:∀ (k1:Env→Hp→Prop) (s:σ) (j:Nat→Value) (h:Hp),I s h→h.wf→(∀ s' j' h',μ s'<μ s→(h'.wf→∃ h'',h'.wk h''∧I s' h'')→k1 (zgj x0 x1 x2 x3 x4 x5 x8 x9 (f6 s') j') h')→zlx [1,0,0] (za6 k1 (blk 0 (zsb K E))) (zgj x0 x1 x2 x3 x4 x5 x8 x9 (f6 s) j) h) :
 lp (fun k1=>zlx [1,0,0] (za6 k1 (blk 0 (zsb K E)))) (zgj x0 x1 x2 x3 x4 x5 x8 x9 v6 j) h:=by
 subst e6
 exact zaj (fun s j=>zgj x0 x1 x2 x3 x4 x5 x8 x9 (f6 s) j) I μ round s0 j h0
theorem zmb (f7:σ→Value) (I:σ→Hp→Prop) (μ:σ→Nat) (s0:σ) (e7:v7=f7 s0) (h0:h.wf→∃ h',h.wk h'∧I s0 h')
 (round:∀ (k2:Env→Hp→Prop) (s:σ) (j:Nat→Value) (h:Hp),I s h→h.wf→(∀ s' j' h',μ s'<μ s→(h'.wf→∃ h'',h'.wk h''∧I s' h'')→k2 (zc5 x0 x1 x2 x3 x4 x5 x6 x8 x9 x10 x11 x12 x13 x14 x15 (f7 s') j') h')→zlx [1,0,0,1,0,0,1,0,0] (zu6 K E k1 k2) (zc5 x0 x1 x2 x3 x4 x5 x6 x8 x9 x10 x11 x12 x13 x14 x15 (f7 s) j) h) :
 lp (fun k2=>zlx [1,0,0,1,0,0,1,0,0] (zu6 K E k1 k2)) (zc5 x0 x1 x2 x3 x4 x5 x6 x8 x9 x10 x11 x12 x13 x14 x15 v7 j) h:=by
 subst e7
 exact zaj (fun s j=>zc5 x0 x1 x2 x3 x4 x5 x6 x8 x9 x10 x11 x12 x13 x14 x15 (f7 s) j) I μ round s0 j h0
theorem zq4 (f5 f6:σ→Value) (I:σ→Hp→Prop) (μ:σ→Nat) (s0:σ) (e5:v5=f5 s0) (e6:v6=f6 s0) (h0:h.wf→∃ h',h.wk h'∧I s0 h')
 (round:∀ (k1:Env→Hp→Prop) (s:σ) (j:Nat→Value) (h:Hp),I s h→h.wf→(∀ s' j' h',μ s'<μ s→(h'.wf→∃ h'',h'.wk h''∧I s' h'')→k1 (zd6 x0 x1 x2 x3 x4 x8 x9 x10 x11 x12 x13 x14 x15 x36 x37 x38 x39 x40 x41 (f5 s') (f6 s') j') h')→d37 [1,1,1,0,1,0,0] (zn4 K E k1) (zd6 x0 x1 x2 x3 x4 x8 x9 x10 x11 x12 x13 x14 x15 x36 x37 x38 x39 x40 x41 (f5 s) (f6 s) j) h) :
 lp (fun k1=>d37 [1,1,1,0,1,0,0] (zn4 K E k1)) (zd6 x0 x1 x2 x3 x4 x8 x9 x10 x11 x12 x13 x14 x15 x36 x37 x38 x39 x40 x41 v5 v6 j) h:=by
 subst e5
 subst e6
 exact zaj (fun s j=>zd6 x0 x1 x2 x3 x4 x8 x9 x10 x11 x12 x13 x14 x15 x36 x37 x38 x39 x40 x41 (f5 s) (f6 s) j) I μ round s0 j h0
theorem zyf (f8:σ→Value) (I:σ→Hp→Prop) (μ:σ→Nat) (s0:σ) (e8:v8=f8 s0) (h0:h.wf→∃ h',h.wk h'∧I s0 h')
 (round:∀ (k1:Env→Hp→Prop) (s:σ) (j:Nat→Value) (h:Hp),I s h→h.wf→(∀ s' j' h',μ s'<μ s→(h'.wf→∃ h'',h'.wk h''∧I s' h'')→k1 (zfq x0 x1 x2 x3 x6 x7 (f8 s') j') h')→d68 [1,0,1,0,0] (zz4 K E k1) (zfq x0 x1 x2 x3 x6 x7 (f8 s) j) h) :
 lp (fun k1=>d68 [1,0,1,0,0] (zz4 K E k1)) (zfq x0 x1 x2 x3 x6 x7 v8 j) h:=by
 subst e8
 exact zaj (fun s j=>zfq x0 x1 x2 x3 x6 x7 (f8 s) j) I μ round s0 j h0
end
end Go.Proofs.YtgcmbkoejjcjlaaGreatDoor.T
