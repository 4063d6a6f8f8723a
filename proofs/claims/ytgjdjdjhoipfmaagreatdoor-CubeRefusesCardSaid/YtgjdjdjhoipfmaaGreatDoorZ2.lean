import Derived.Test.YtgjdjdjhoipfmaaGreatDoorProg
import Derived.Test.YtgjdjdjhoipfmaaGreatDoorZ1
import Derived.ChangeArms
import Derived.SizedLaws
import Derived.MapKept
import Derived.StringKeys
import Derived.Shelf.SlSortCmp.InsertionK
import Derived.Shelf.SlLaysF0
import Derived.Ground.SlsfProg
import Derived.Shelf.SlSortCmp.WholeK
import Derived.Shelf.SlSortCmp.NoneTotal
set_option maxHeartbeats 4000000
open Go Go.RowKit Go.Proofs.YtgjdjdjhoipfmaaGreatDoor.K
set_option linter.unusedVariables false
set_option maxRecDepth 100000
namespace Go.Proofs.YtgjdjdjhoipfmaaGreatDoor.T
section
variable (K : Kont) (E : PanK) (k1 k2 k3 k4 k5 : Env → Hp → Prop) (x0 x1 x2 x3 x4 x5 x6 x7 x8 x9 x10 x11 x12 x13 x14 x15 x16 x17 x18 x19 x20 x21 x22 x23 x24 x25 x26 x27 x28 x29 x30 x31 x32 x33 x34 x35 x36 x37 x38 x39 x40 x41 x42 x43 x44 x45 x46 x47 x48 x49 x50 x51 x52 x53 x54 x55 x56 x57 x58 x59 x60 x61 x62 x63 x64 x65 x66 x67 x68 x69 x70 x71 x72 x73 x74 x75 x76 x77 x78 x79 x80 x81 x82 x83 x84 x85 x86 x87 x88 x89 x90 x91 x92 x93 x94 x95 x96 x97 x98 x99 x100 x101 v0 v1 v2 v3 v4 v5 v6 v7 v8 v9 v10 v11 v12 v13 v14 v15 v16 v17 v18 v19 v20 v21 v22 v23 v24 v25 v26 v27 v28 v29 v30 v31 v32 v33 v34 v35 v36 v37 v38 v39 v40 v41 v42 v43 v44 v45 v46 v47 v48 v49 v50 v51 v52 v53 v54 v55 v56 v57 v58 v59 v60 v61 v62 v63 v64 v65 v66 v67 v68 v69 v70 v71 v72 v73 v74 v75 v76 v77 v78 v79 v80 v81 v82 v83 v84 v85 v86 v87 v88 v89 v90 v91 v92 v93 v94 v95 v96 v97 v98 v99 v100 v101 : Value) (j : Nat → Value)
abbrev q58 : QD := bodyQ Tryz.prog Tryz.f58.results.toList K E
abbrev d58 (p : List Nat) : QD → Env → Hp → Prop := den Tryz.prog (sel (bodyOf Tryz.f58) p)
def m58_1_1_1_0_1_0_0 (j : Nat → Value) : Env := #[x0, x1, (j 2), v3, x4, (j 5), x6, x7, x8, x9, x10, x11, x12, x13, x14, x15, x16, x17, x18, x19, x20, x21, x22, v23, (j 24), (j 25), (j 26), (j 27), (j 28), (j 29), (j 30), (j 31), (j 32), (j 33), (j 34), (j 35), (j 36), (j 37), (j 38), (j 39), (j 40), (j 41)]
theorem t58 : d58 [] (q58 K E) #[x0, U, U, U, U, U, U, U, U, U, U, U, U, U, U, U, U, U, U, U, U, U, U, U, U, U, U, U, U, U, U, U, U, U, U, U, U, U, U, U, U, U] =
  nw 74 (Value.cells x0).toList fun t1 =>
  pv (faV 0 t1) fun t2 =>
  ld false 1 t2 fun t3 =>
  pv (binV .none .lss t3 (.int .i64 1)) fun t4 =>
  gdK t4 false (fun k => pv (faV 0 t1) k) fun t5 =>
  gdK t4 false (fun k => ld false 1 t5 k) fun t6 =>
  gdK t4 false (fun k => pv (binV .none .gtr t6 (.int .i64 10000)) k) fun t7 =>
  pv (pickV t4 (.bool true) t7) fun t8 =>
  gdK t8 false (fun k => pv (faV 1 t1) k) fun t9 =>
  gdK t8 false (fun k => ld false 1 t9 k) fun t10 =>
  gdK t8 false (fun k => pv (lenV t10) k) fun t11 =>
  gdK t8 false (fun k => pv (binV .none .gtr t11 (.int .i64 4)) k) fun t12 =>
  pv (pickV t8 (.bool true) t12) fun t13 =>
  cnd t13 (
   K (.bool false)) (
   pv (faV 1 t1) fun t14 =>
   ld false 1 t14 fun t15 =>
   pv (lenV t15) fun t16 =>
   lp (fun k1 => d58 [1, 1, 1, 0, 1, 0, 0] (thenD k1 (blk 0 (thenD (d58 [1, 1, 1, 1] (q58 K E)) (q58 K E))))) (m58_1_1_1_0_1_0_0 x0 t1 U t2 t3 t4 t4 t5 t6 t7 t8 t8 t9 t10 t11 t12 t13 t14 t15 t16 (.int .i64 1) (.int .i64 0) (jf #[U, U, (.bool false)]))) := by kernel_rfl
theorem t58_1_1_1_0_1_0_0 : d58 [1, 1, 1, 0, 1, 0, 0] (thenD k1 (blk 0 (thenD (d58 [1, 1, 1, 1] (q58 K E)) (q58 K E)))) (m58_1_1_1_0_1_0_0 x0 x1 x4 x6 x7 x8 x9 x10 x11 x12 x13 x14 x15 x16 x17 x18 x19 x20 x21 x22 v3 v23 j) =
  pv (binV .none .lss v23 x22) fun t1 =>
  cnd t1 (
   pv (iaV none 1 x21 v23) fun t2 =>
   ld false 1 t2 fun t3 =>
   pv (binV .none .leq t3 v3) fun t4 =>
   gdK t4 false (fun k => k t3) fun t5 =>
   gdK t4 false (fun k => pv (binV .none .gtr t5 (.int .i64 10000)) k) fun t6 =>
   pv (pickV t4 (.bool true) t6) fun t7 =>
   gdK t7 false (fun k => k t3) fun t8 =>
   gdK t7 false (fun k => k v3) fun t9 =>
   gdK t7 false (fun k => pv (binV .none .rem t8 t9) k) fun t10 =>
   gdK t7 false (fun k => pv (binV .none .neq t10 (.int .i64 0)) k) fun t11 =>
   pv (pickV t7 (.bool true) t11) fun t12 =>
   cnd t12 (
    K (.bool false)) (
    pv (binV .none .add v23 (.int .i64 1)) fun t13 =>
    k1 (m58_1_1_1_0_1_0_0 x0 x1 x4 x6 x7 x8 x9 x10 x11 x12 x13 x14 x15 x16 x17 x18 x19 x20 x21 x22 t3 t13 (jf #[U, U, (j 2), U, U, t3, U, U, U, U, U, U, U, U, U, U, U, U, U, U, U, U, U, U, t1, t2, t3, t3, v3, t4, t4, t5, t6, t7, t7, t8, t9, t10, t11, t12, t3, t13])))) (
   K (.bool true)) := by kernel_rfl
abbrev q139 : QD := bodyQ Tryz.prog Tryz.f139.results.toList K E
abbrev d139 (p : List Nat) : QD → Env → Hp → Prop := den Tryz.prog (sel (bodyOf Tryz.f139) p)
theorem t139 : d139 [] (q139 K E) #[x0, x1, x2, U, U, U, U, U, U, U, U, U, U, U, U, U, U, U, U, U, U] =
  pv (cvV .u64 x1) fun t1 =>
  pv (binV .none .lss x1 (.int .i64 0)) fun t2 =>
  cnd t2 (
   nws 5 1 (bsC #[(.int .u8 0)] 1 1 #[(0, (.int .u8 45))]) fun t3 =>
   appX 5 1 1 x0 t3 fun t4 =>
   pv (unV .neg t1) fun t5 =>
   d139 [1, 1, 1] (q139 K E) #[t4, x1, x2, U, U, U, (.slice none 0 0), t5, x1, t1, x1, t2, x0, t3, t4, t1, t5, U, U, U, U]) (
   d139 [1, 1, 1] (q139 K E) #[x0, x1, x2, U, U, U, (.slice none 0 0), t1, x1, t1, x1, t2, U, U, U, U, U, U, U, U, U]) := by kernel_rfl
theorem t139_1_1_1 : d139 [1, 1, 1] (q139 K E) #[x0, x1, x2, x3, x4, x5, x6, x7, x8, x9, x10, x11, x12, x13, x14, x15, x16, x17, x18, x19, x20] =
  callv Tryz.prog (.func (.func 151) #[] #[]) #[x0, x7, x2] (fun t1 =>
  K t1) E := by kernel_rfl
abbrev q151 : QD := bodyQ Tryz.prog Tryz.f151.results.toList K E
abbrev d151 (p : List Nat) : QD → Env → Hp → Prop := den Tryz.prog (sel (bodyOf Tryz.f151) p)
theorem t151 : d151 [] (q151 K E) #[x0, x1, x2, U, U, U, U, U, U, U, U, U, U, U, U, U, U, U, U, U, U, U, U, U, U, U, U, U, U, U, U, U, U, U, U, U] =
  pv (binV .none .eql x2 (.int .i64 10)) fun t1 =>
  cnd t1 (
   pv (binV .none .lss x1 (.int .u64 100)) fun t2 =>
   cnd t2 (
    pv (cvV .i64 x1) fun t3 =>
    callv Tryz.prog (.func (.func 158) #[] #[]) #[t3] (fun t4 =>
    nope fun t5 =>
    K t5) E) (
    nw 196 [(.int .u8 0), (.int .u8 0), (.int .u8 0), (.int .u8 0), (.int .u8 0), (.int .u8 0), (.int .u8 0), (.int .u8 0), (.int .u8 0), (.int .u8 0), (.int .u8 0), (.int .u8 0), (.int .u8 0), (.int .u8 0), (.int .u8 0), (.int .u8 0), (.int .u8 0), (.int .u8 0), (.int .u8 0), (.int .u8 0), (.int .u8 0), (.int .u8 0), (.int .u8 0), (.int .u8 0)] fun t6 =>
    callv Tryz.prog (.func (.func 159) #[] #[]) #[x1] (fun t7 =>
    pv (slV 1 (arrS 24 t6) none (some t7) none) fun t8 =>
    callv Tryz.prog (.func (.func 160) #[] #[]) #[t8, x1] (fun t9 =>
    pv (slV 1 (arrS 24 t6) none (some t7) none) fun t10 =>
    appX 5 1 1 x0 t10 fun t11 =>
    K t11) E) E)) (
   callv Tryz.prog (.func (.func 161) #[] #[]) #[x0, x1, x2, (.bool false), (.bool true)] (fun t12 =>
   pv (exV 0 t12) fun t13 =>
   pv (exV 1 t12) fun t14 =>
   K t13) E) := by kernel_rfl
abbrev q161 : QD := bodyQ Tryz.prog Tryz.f161.results.toList K E
abbrev d161 (p : List Nat) : QD → Env → Hp → Prop := den Tryz.prog (sel (bodyOf Tryz.f161) p)
def m161_1_1_1_1_1_0_1_0_1_1_1_0_0_0 (j : Nat → Value) : Env := #[x0, v1, x2, x3, x4, x5, x6, x7, x8, x9, x10, x11, x12, v13, x14, x15, x16, x17, x18, x19, x20, x21, x22, x23, x24, x25, x26, x27, x28, x29, x30, x31, x32, x33, x34, x35, x36, x37, x38, x39, x40, x41, x42, x43, (j 44), (j 45), (j 46), (j 47), (j 48), (j 49), (j 50), (j 51), (j 52), (j 53), (j 54), (j 55), (j 56), (j 57), x58, x59, x60, x61, x62, x63, x64, x65, x66, x67, x68, x69, x70, x71, x72, x73, x74, x75, x76, x77, x78, x79, x80, x81, x82, x83, x84, x85, x86, x87, x88, x89, x90, x91, x92, x93, x94, x95, x96, x97, x98, x99, x100, x101]
def m161_1_1_1_1_1_0_1_1_1_0_0_0 (j : Nat → Value) : Env := #[x0, v1, x2, x3, x4, x5, x6, x7, x8, x9, x10, x11, x12, v13, x14, x15, x16, x17, (j 18), x19, x20, x21, x22, x23, x24, x25, x26, x27, x28, x29, x30, x31, x32, x33, x34, x35, x36, x37, x38, x39, x40, x41, x42, x43, x44, x45, x46, x47, x48, x49, x50, x51, x52, x53, x54, x55, x56, x57, x58, x59, x60, x61, x62, x63, x64, x65, (j 66), (j 67), (j 68), (j 69), (j 70), (j 71), (j 72), (j 73), (j 74), (j 75), (j 76), (j 77), (j 78), (j 79), (j 80), (j 81), (j 82), x83, x84, x85, x86, x87, x88, x89, x90, x91, x92, x93, x94, x95, x96, x97, x98, x99, x100, x101]
theorem t161 : d161 [] (q161 K E) #[x0, x1, x2, x3, x4, U, U, U, U, U, U, U, U, U, U, U, U, U, U, U, U, U, U, U, U, U, U, U, U, U, U, U, U, U, U, U, U, U, U, U, U, U, U, U, U, U, U, U, U, U, U, U, U, U, U, U, U, U, U, U, U, U, U, U, U, U, U, U, U, U, U, U, U, U, U, U, U, U, U, U, U, U, U, U, U, U, U, U, U, U, U, U, U, U, U, U, U, U, U, U, U, U] =
  pv (binV .none .lss x2 (.int .i64 2)) fun t1 =>
  gdK t1 false (fun k => k x2) fun t2 =>
  gdK t1 false (fun k => pv (binV .none .eql t2 (.int .i64 10)) k) fun t3 =>
  pv (pickV t1 (.bool true) t3) fun t4 =>
  gdK t4 false (fun k => k x2) fun t5 =>
  gdK t4 false (fun k => pv (binV .none .gtr t5 (.int .i64 36)) k) fun t6 =>
  pv (pickV t4 (.bool true) t6) fun t7 =>
  cnd t7 (
   pv (ifcV 9 (.string ⟨#[115, 116, 114, 99, 111, 110, 118, 58, 32, 105, 108, 108, 101, 103, 97, 108, 32, 65, 112, 112, 101, 110, 100, 73, 110, 116, 47, 70, 111, 114, 109, 97, 116, 73, 110, 116, 32, 98, 97, 115, 101]⟩)) fun t8 =>
   pnc t8 E fun _ =>
   d161 [1, 1] (q161 K E) #[x0, x1, x2, x3, x4, U, U, U, U, U, (.slice none 0 0), (.string ⟨#[]⟩), U, U, U, U, U, U, U, x2, t1, t1, t2, t3, t4, t4, t5, t6, t7, t8, U, U, U, U, U, U, U, U, U, U, U, U, U, U, U, U, U, U, U, U, U, U, U, U, U, U, U, U, U, U, U, U, U, U, U, U, U, U, U, U, U, U, U, U, U, U, U, U, U, U, U, U, U, U, U, U, U, U, U, U, U, U, U, U, U, U, U, U, U, U, U, U]) (
   d161 [1, 1] (q161 K E) #[x0, x1, x2, x3, x4, U, U, U, U, U, (.slice none 0 0), (.string ⟨#[]⟩), U, U, U, U, U, U, U, x2, t1, t1, t2, t3, t4, t4, t5, t6, t7, U, U, U, U, U, U, U, U, U, U, U, U, U, U, U, U, U, U, U, U, U, U, U, U, U, U, U, U, U, U, U, U, U, U, U, U, U, U, U, U, U, U, U, U, U, U, U, U, U, U, U, U, U, U, U, U, U, U, U, U, U, U, U, U, U, U, U, U, U, U, U, U, U]) := by kernel_rfl
theorem t161_1_1 : d161 [1, 1] (q161 K E) #[x0, x1, x2, x3, x4, x5, x6, x7, x8, x9, x10, x11, x12, x13, x14, x15, x16, x17, x18, x19, x20, x21, x22, x23, x24, x25, x26, x27, x28, x29, x30, x31, x32, x33, x34, x35, x36, x37, x38, x39, x40, x41, x42, x43, x44, x45, x46, x47, x48, x49, x50, x51, x52, x53, x54, x55, x56, x57, x58, x59, x60, x61, x62, x63, x64, x65, x66, x67, x68, x69, x70, x71, x72, x73, x74, x75, x76, x77, x78, x79, x80, x81, x82, x83, x84, x85, x86, x87, x88, x89, x90, x91, x92, x93, x94, x95, x96, x97, x98, x99, x100, x101] =
  nw 206 [(.int .u8 0), (.int .u8 0), (.int .u8 0), (.int .u8 0), (.int .u8 0), (.int .u8 0), (.int .u8 0), (.int .u8 0), (.int .u8 0), (.int .u8 0), (.int .u8 0), (.int .u8 0), (.int .u8 0), (.int .u8 0), (.int .u8 0), (.int .u8 0), (.int .u8 0), (.int .u8 0), (.int .u8 0), (.int .u8 0), (.int .u8 0), (.int .u8 0), (.int .u8 0), (.int .u8 0), (.int .u8 0), (.int .u8 0), (.int .u8 0), (.int .u8 0), (.int .u8 0), (.int .u8 0), (.int .u8 0), (.int .u8 0), (.int .u8 0), (.int .u8 0), (.int .u8 0), (.int .u8 0), (.int .u8 0), (.int .u8 0), (.int .u8 0), (.int .u8 0), (.int .u8 0), (.int .u8 0), (.int .u8 0), (.int .u8 0), (.int .u8 0), (.int .u8 0), (.int .u8 0), (.int .u8 0), (.int .u8 0), (.int .u8 0), (.int .u8 0), (.int .u8 0), (.int .u8 0), (.int .u8 0), (.int .u8 0), (.int .u8 0), (.int .u8 0), (.int .u8 0), (.int .u8 0), (.int .u8 0), (.int .u8 0), (.int .u8 0), (.int .u8 0), (.int .u8 0), (.int .u8 0)] fun t1 =>
  cnd x3 (
   pv (unV .neg x1) fun t2 =>
   d161 [1, 1, 1, 1, 1] (q161 K E) #[x0, t2, x2, x3, x4, x5, x6, x7, x8, x9, x10, x11, t1, (.int .i64 65), x14, x15, x16, x17, x18, x19, x20, x21, x22, x23, x24, x25, x26, x27, x28, x29, x3, x1, t2, x33, x34, x35, x36, x37, x38, x39, x40, x41, x42, x43, x44, x45, x46, x47, x48, x49, x50, x51, x52, x53, x54, x55, x56, x57, x58, x59, x60, x61, x62, x63, x64, x65, x66, x67, x68, x69, x70, x71, x72, x73, x74, x75, x76, x77, x78, x79, x80, x81, x82, x83, x84, x85, x86, x87, x88, x89, x90, x91, x92, x93, x94, x95, x96, x97, x98, x99, x100, x101]) (
   d161 [1, 1, 1, 1, 1] (q161 K E) #[x0, x1, x2, x3, x4, x5, x6, x7, x8, x9, x10, x11, t1, (.int .i64 65), x14, x15, x16, x17, x18, x19, x20, x21, x22, x23, x24, x25, x26, x27, x28, x29, x3, x31, x32, x33, x34, x35, x36, x37, x38, x39, x40, x41, x42, x43, x44, x45, x46, x47, x48, x49, x50, x51, x52, x53, x54, x55, x56, x57, x58, x59, x60, x61, x62, x63, x64, x65, x66, x67, x68, x69, x70, x71, x72, x73, x74, x75, x76, x77, x78, x79, x80, x81, x82, x83, x84, x85, x86, x87, x88, x89, x90, x91, x92, x93, x94, x95, x96, x97, x98, x99, x100, x101]) := by kernel_rfl
theorem t161_1_1_1_1_1 : d161 [1, 1, 1, 1, 1] (q161 K E) #[x0, x1, x2, x3, x4, x5, x6, x7, x8, x9, x10, x11, x12, x13, x14, x15, x16, x17, x18, x19, x20, x21, x22, x23, x24, x25, x26, x27, x28, x29, x30, x31, x32, x33, x34, x35, x36, x37, x38, x39, x40, x41, x42, x43, x44, x45, x46, x47, x48, x49, x50, x51, x52, x53, x54, x55, x56, x57, x58, x59, x60, x61, x62, x63, x64, x65, x66, x67, x68, x69, x70, x71, x72, x73, x74, x75, x76, x77, x78, x79, x80, x81, x82, x83, x84, x85, x86, x87, x88, x89, x90, x91, x92, x93, x94, x95, x96, x97, x98, x99, x100, x101] =
  callv Tryz.prog (.func (.func 165) #[] #[]) #[x2] (fun t1 =>
  cnd t1 (
   pv (cvV .u64 x2) fun t2 =>
   callv Tryz.prog (.func (.func 166) #[] #[]) #[t2] (fun t3 =>
   pv (cvV .u64 t3) fun t4 =>
   pv (cvV .u64 x2) fun t5 =>
   pv (cvV .u64 x2) fun t6 =>
   pv (binV .none .sub t6 (.int .u64 1)) fun t7 =>
   lp (fun k1 => d161 [1, 1, 1, 1, 1, 0, 1, 0, 1, 1, 1, 0, 0, 0] (thenD k1 (blk 0 (thenD (d161 [1, 1, 1, 1, 1, 0, 1, 0, 1, 1, 1, 1] (thenD (d161 [1, 1, 1, 1, 1, 1] (q161 K E)) (q161 K E))) (thenD (d161 [1, 1, 1, 1, 1, 1] (q161 K E)) (q161 K E)))))) (m161_1_1_1_1_1_0_1_0_1_1_1_0_0_0 x0 x2 x3 x4 x5 x6 x7 x8 x9 x10 x11 x12 t4 t5 t7 x17 x18 x19 x20 x21 x22 x23 x24 x25 x26 x27 x28 x29 x30 x31 x32 x2 t1 x2 t2 t3 t4 x2 t5 x2 t6 t7 x58 x59 x60 x61 x62 x63 x64 x65 x66 x67 x68 x69 x70 x71 x72 x73 x74 x75 x76 x77 x78 x79 x80 x81 x82 x83 x84 x85 x86 x87 x88 x89 x90 x91 x92 x93 x94 x95 x96 x97 x98 x99 x100 x101 x1 x13 (jf #[U, U, U, U, U, U, U, U, U, U, U, U, U, U, U, U, U, U, U, U, U, U, U, U, U, U, U, U, U, U, U, U, U, U, U, U, U, U, U, U, U, U, U, U, x44, x45, x46, x47, x48, x49, x50, x51, x52, x53, x54, x55, x56, x57]))) E) (
   pv (cvV .u64 x2) fun t8 =>
   lp (fun k1 => d161 [1, 1, 1, 1, 1, 0, 1, 1, 1, 0, 0, 0] (thenD k1 (blk 2 (thenD (d161 [1, 1, 1, 1, 1, 0, 1, 1, 1, 1] (thenD (d161 [1, 1, 1, 1, 1, 1] (q161 K E)) (q161 K E))) (thenD (d161 [1, 1, 1, 1, 1, 1] (q161 K E)) (q161 K E)))))) (m161_1_1_1_1_1_0_1_1_1_0_0_0 x0 x2 x3 x4 x5 x6 x7 x8 x9 x10 x11 x12 x14 x15 x16 t8 x19 x20 x21 x22 x23 x24 x25 x26 x27 x28 x29 x30 x31 x32 x2 t1 x35 x36 x37 x38 x39 x40 x41 x42 x43 x44 x45 x46 x47 x48 x49 x50 x51 x52 x53 x54 x55 x56 x57 x58 x59 x60 x61 x62 x63 x2 t8 x83 x84 x85 x86 x87 x88 x89 x90 x91 x92 x93 x94 x95 x96 x97 x98 x99 x100 x101 x1 x13 (jf #[U, U, U, U, U, U, U, U, U, U, U, U, U, U, U, U, U, U, x18, U, U, U, U, U, U, U, U, U, U, U, U, U, U, U, U, U, U, U, U, U, U, U, U, U, U, U, U, U, U, U, U, U, U, U, U, U, U, U, U, U, U, U, U, U, U, U, x66, x67, x68, x69, x70, x71, x72, x73, x74, x75, x76, x77, x78, x79, x80, x81, x82])))) E := by kernel_rfl
theorem t161_1_1_1_1_1_0_1_0_1_1_1_0_0_0 : d161 [1, 1, 1, 1, 1, 0, 1, 0, 1, 1, 1, 0, 0, 0] (thenD k1 (blk 0 (thenD (d161 [1, 1, 1, 1, 1, 0, 1, 0, 1, 1, 1, 1] (thenD (d161 [1, 1, 1, 1, 1, 1] (q161 K E)) (q161 K E))) (thenD (d161 [1, 1, 1, 1, 1, 1] (q161 K E)) (q161 K E))))) (m161_1_1_1_1_1_0_1_0_1_1_1_0_0_0 x0 x2 x3 x4 x5 x6 x7 x8 x9 x10 x11 x12 x14 x15 x16 x17 x18 x19 x20 x21 x22 x23 x24 x25 x26 x27 x28 x29 x30 x31 x32 x33 x34 x35 x36 x37 x38 x39 x40 x41 x42 x43 x58 x59 x60 x61 x62 x63 x64 x65 x66 x67 x68 x69 x70 x71 x72 x73 x74 x75 x76 x77 x78 x79 x80 x81 x82 x83 x84 x85 x86 x87 x88 x89 x90 x91 x92 x93 x94 x95 x96 x97 x98 x99 x100 x101 v1 v13 j) =
  pv (binV .none .geq v1 x15) fun t1 =>
  cnd t1 (
   pv (binV .none .sub v13 (.int .i64 1)) fun t2 =>
   pv (binV .none .and v1 x16) fun t3 =>
   pv (ixV (.string ⟨#[48, 49, 50, 51, 52, 53, 54, 55, 56, 57, 97, 98, 99, 100, 101, 102, 103, 104, 105, 106, 107, 108, 109, 110, 111, 112, 113, 114, 115, 116, 117, 118, 119, 120, 121, 122]⟩) t3) fun t4 =>
   pv (iaV (some 65) 1 x12 t2) fun t5 =>
   st 1 t5 t4 fun _ =>
   pv (binV .none .shr v1 x14) fun t6 =>
   k1 (m161_1_1_1_1_1_0_1_0_1_1_1_0_0_0 x0 x2 x3 x4 x5 x6 x7 x8 x9 x10 x11 x12 x14 x15 x16 x17 x18 x19 x20 x21 x22 x23 x24 x25 x26 x27 x28 x29 x30 x31 x32 x33 x34 x35 x36 x37 x38 x39 x40 x41 x42 x43 x58 x59 x60 x61 x62 x63 x64 x65 x66 x67 x68 x69 x70 x71 x72 x73 x74 x75 x76 x77 x78 x79 x80 x81 x82 x83 x84 x85 x86 x87 x88 x89 x90 x91 x92 x93 x94 x95 x96 x97 x98 x99 x100 x101 t6 t2 (jf #[U, U, U, U, U, U, U, U, U, U, U, U, U, U, U, U, U, U, U, U, U, U, U, U, U, U, U, U, U, U, U, U, U, U, U, U, U, U, U, U, U, U, U, U, v1, x15, t1, v13, t2, t2, v1, x16, t3, t4, t5, v1, x14, t6]))) (
   pv (binV .none .sub v13 (.int .i64 1)) fun t7 =>
   pv (ixV (.string ⟨#[48, 49, 50, 51, 52, 53, 54, 55, 56, 57, 97, 98, 99, 100, 101, 102, 103, 104, 105, 106, 107, 108, 109, 110, 111, 112, 113, 114, 115, 116, 117, 118, 119, 120, 121, 122]⟩) v1) fun t8 =>
   pv (iaV (some 65) 1 x12 t7) fun t9 =>
   st 1 t9 t8 fun _ =>
   d161 [1, 1, 1, 1, 1, 1] (q161 K E) #[x0, v1, x2, x3, x4, x5, x6, x7, x8, x9, x10, x11, x12, t7, x14, x15, x16, x17, x18, x19, x20, x21, x22, x23, x24, x25, x26, x27, x28, x29, x30, x31, x32, x33, x34, x35, x36, x37, x38, x39, x40, x41, x42, x43, v1, x15, t1, (j 47), (j 48), (j 49), (j 50), (j 51), (j 52), (j 53), (j 54), (j 55), (j 56), (j 57), v13, t7, t7, v1, t8, t9, x64, x65, x66, x67, x68, x69, x70, x71, x72, x73, x74, x75, x76, x77, x78, x79, x80, x81, x82, x83, x84, x85, x86, x87, x88, x89, x90, x91, x92, x93, x94, x95, x96, x97, x98, x99, x100, x101]) := by kernel_rfl
theorem t161_1_1_1_1_1_0_1_1_1_0_0_0 : d161 [1, 1, 1, 1, 1, 0, 1, 1, 1, 0, 0, 0] (thenD k1 (blk 2 (thenD (d161 [1, 1, 1, 1, 1, 0, 1, 1, 1, 1] (thenD (d161 [1, 1, 1, 1, 1, 1] (q161 K E)) (q161 K E))) (thenD (d161 [1, 1, 1, 1, 1, 1] (q161 K E)) (q161 K E))))) (m161_1_1_1_1_1_0_1_1_1_0_0_0 x0 x2 x3 x4 x5 x6 x7 x8 x9 x10 x11 x12 x14 x15 x16 x17 x19 x20 x21 x22 x23 x24 x25 x26 x27 x28 x29 x30 x31 x32 x33 x34 x35 x36 x37 x38 x39 x40 x41 x42 x43 x44 x45 x46 x47 x48 x49 x50 x51 x52 x53 x54 x55 x56 x57 x58 x59 x60 x61 x62 x63 x64 x65 x83 x84 x85 x86 x87 x88 x89 x90 x91 x92 x93 x94 x95 x96 x97 x98 x99 x100 x101 v1 v13 j) =
  pv (binV .none .geq v1 x17) fun t1 =>
  cnd t1 (
   pv (binV .none .sub v13 (.int .i64 1)) fun t2 =>
   pv (binV .none .quo v1 x17) fun t3 =>
   pv (binV .none .mul t3 x17) fun t4 =>
   pv (binV .none .sub v1 t4) fun t5 =>
   pv (ixV (.string ⟨#[48, 49, 50, 51, 52, 53, 54, 55, 56, 57, 97, 98, 99, 100, 101, 102, 103, 104, 105, 106, 107, 108, 109, 110, 111, 112, 113, 114, 115, 116, 117, 118, 119, 120, 121, 122]⟩) t5) fun t6 =>
   pv (iaV (some 65) 1 x12 t2) fun t7 =>
   st 1 t7 t6 fun _ =>
   k1 (m161_1_1_1_1_1_0_1_1_1_0_0_0 x0 x2 x3 x4 x5 x6 x7 x8 x9 x10 x11 x12 x14 x15 x16 x17 x19 x20 x21 x22 x23 x24 x25 x26 x27 x28 x29 x30 x31 x32 x33 x34 x35 x36 x37 x38 x39 x40 x41 x42 x43 x44 x45 x46 x47 x48 x49 x50 x51 x52 x53 x54 x55 x56 x57 x58 x59 x60 x61 x62 x63 x64 x65 x83 x84 x85 x86 x87 x88 x89 x90 x91 x92 x93 x94 x95 x96 x97 x98 x99 x100 x101 t3 t2 (jf #[U, U, U, U, U, U, U, U, U, U, U, U, U, U, U, U, U, U, t3, U, U, U, U, U, U, U, U, U, U, U, U, U, U, U, U, U, U, U, U, U, U, U, U, U, U, U, U, U, U, U, U, U, U, U, U, U, U, U, U, U, U, U, U, U, U, U, v1, x17, t1, v13, t2, v1, x17, t3, t2, v1, t3, x17, t4, t5, t6, t7, t3]))) (
   pv (binV .none .sub v13 (.int .i64 1)) fun t8 =>
   pv (ixV (.string ⟨#[48, 49, 50, 51, 52, 53, 54, 55, 56, 57, 97, 98, 99, 100, 101, 102, 103, 104, 105, 106, 107, 108, 109, 110, 111, 112, 113, 114, 115, 116, 117, 118, 119, 120, 121, 122]⟩) v1) fun t9 =>
   pv (iaV (some 65) 1 x12 t8) fun t10 =>
   st 1 t10 t9 fun _ =>
   d161 [1, 1, 1, 1, 1, 1] (q161 K E) #[x0, v1, x2, x3, x4, x5, x6, x7, x8, x9, x10, x11, x12, t8, x14, x15, x16, x17, (j 18), x19, x20, x21, x22, x23, x24, x25, x26, x27, x28, x29, x30, x31, x32, x33, x34, x35, x36, x37, x38, x39, x40, x41, x42, x43, x44, x45, x46, x47, x48, x49, x50, x51, x52, x53, x54, x55, x56, x57, x58, x59, x60, x61, x62, x63, x64, x65, v1, x17, t1, (j 69), (j 70), (j 71), (j 72), (j 73), (j 74), (j 75), (j 76), (j 77), (j 78), (j 79), (j 80), (j 81), (j 82), v13, t8, t8, v1, t9, t10, x89, x90, x91, x92, x93, x94, x95, x96, x97, x98, x99, x100, x101]) := by kernel_rfl
theorem t161_1_1_1_1_1_1 : d161 [1, 1, 1, 1, 1, 1] (q161 K E) #[x0, x1, x2, x3, x4, x5, x6, x7, x8, x9, x10, x11, x12, x13, x14, x15, x16, x17, x18, x19, x20, x21, x22, x23, x24, x25, x26, x27, x28, x29, x30, x31, x32, x33, x34, x35, x36, x37, x38, x39, x40, x41, x42, x43, x44, x45, x46, x47, x48, x49, x50, x51, x52, x53, x54, x55, x56, x57, x58, x59, x60, x61, x62, x63, x64, x65, x66, x67, x68, x69, x70, x71, x72, x73, x74, x75, x76, x77, x78, x79, x80, x81, x82, x83, x84, x85, x86, x87, x88, x89, x90, x91, x92, x93, x94, x95, x96, x97, x98, x99, x100, x101] =
  cnd x3 (
   pv (binV .none .sub x13 (.int .i64 1)) fun t1 =>
   pv (iaV (some 65) 1 x12 t1) fun t2 =>
   st 1 t2 (.int .u8 45) fun _ =>
   d161 [1, 1, 1, 1, 1, 1, 1] (q161 K E) #[x0, x1, x2, x3, x4, x5, x6, x7, x8, x9, x10, x11, x12, t1, x14, x15, x16, x17, x18, x19, x20, x21, x22, x23, x24, x25, x26, x27, x28, x29, x30, x31, x32, x33, x34, x35, x36, x37, x38, x39, x40, x41, x42, x43, x44, x45, x46, x47, x48, x49, x50, x51, x52, x53, x54, x55, x56, x57, x58, x59, x60, x61, x62, x63, x64, x65, x66, x67, x68, x69, x70, x71, x72, x73, x74, x75, x76, x77, x78, x79, x80, x81, x82, x83, x84, x85, x86, x87, x88, x3, x13, t1, t1, t2, x94, x95, x96, x97, x98, x99, x100, x101]) (
   d161 [1, 1, 1, 1, 1, 1, 1] (q161 K E) #[x0, x1, x2, x3, x4, x5, x6, x7, x8, x9, x10, x11, x12, x13, x14, x15, x16, x17, x18, x19, x20, x21, x22, x23, x24, x25, x26, x27, x28, x29, x30, x31, x32, x33, x34, x35, x36, x37, x38, x39, x40, x41, x42, x43, x44, x45, x46, x47, x48, x49, x50, x51, x52, x53, x54, x55, x56, x57, x58, x59, x60, x61, x62, x63, x64, x65, x66, x67, x68, x69, x70, x71, x72, x73, x74, x75, x76, x77, x78, x79, x80, x81, x82, x83, x84, x85, x86, x87, x88, x3, x90, x91, x92, x93, x94, x95, x96, x97, x98, x99, x100, x101]) := by kernel_rfl
theorem t161_1_1_1_1_1_1_1 : d161 [1, 1, 1, 1, 1, 1, 1] (q161 K E) #[x0, x1, x2, x3, x4, x5, x6, x7, x8, x9, x10, x11, x12, x13, x14, x15, x16, x17, x18, x19, x20, x21, x22, x23, x24, x25, x26, x27, x28, x29, x30, x31, x32, x33, x34, x35, x36, x37, x38, x39, x40, x41, x42, x43, x44, x45, x46, x47, x48, x49, x50, x51, x52, x53, x54, x55, x56, x57, x58, x59, x60, x61, x62, x63, x64, x65, x66, x67, x68, x69, x70, x71, x72, x73, x74, x75, x76, x77, x78, x79, x80, x81, x82, x83, x84, x85, x86, x87, x88, x89, x90, x91, x92, x93, x94, x95, x96, x97, x98, x99, x100, x101] =
  cnd x4 (
   pv (slV 1 (arrS 65 x12) (some x13) none none) fun t1 =>
   appX 5 1 1 x0 t1 fun t2 =>
   K (.tuple #[t2, x11])) (
   pv (slV 1 (arrS 65 x12) (some x13) none none) fun t3 =>
   bs t3 fun t4 =>
   K (.tuple #[x10, t4])) := by kernel_rfl
abbrev q165 : QD := bodyQ Tryz.prog Tryz.f165.results.toList K E
abbrev d165 (p : List Nat) : QD → Env → Hp → Prop := den Tryz.prog (sel (bodyOf Tryz.f165) p)
theorem t165 : d165 [] (q165 K E) #[x0, U, U, U, U, U, U, U] =
  pv (binV .none .sub x0 (.int .i64 1)) fun t1 =>
  pv (binV .none .and x0 t1) fun t2 =>
  pv (binV .none .eql t2 (.int .i64 0)) fun t3 =>
  K t3 := by kernel_rfl
abbrev q68 : QD := bodyQ Tryz.prog Tryz.f68.results.toList K E
abbrev d68 (p : List Nat) : QD → Env → Hp → Prop := den Tryz.prog (sel (bodyOf Tryz.f68) p)
theorem t68 : d68 [] (q68 K E) #[x0, x1, U, U, U, U, U, U, U, U, U, U, U, U, U, U, U, U, U, U, U, U, U, U, U] =
  nw 36 (Value.cells x1).toList fun t1 =>
  callv Tryz.prog (.func (.func 29) #[] #[]) #[x0] (fun t2 =>
  pv (unV .not t2) fun t3 =>
  cnd t3 (
   K (.int .u16 30)) (
   pv (faV 0 t1) fun t4 =>
   ld false 1 t4 fun t5 =>
   callv Tryz.prog (.func (.func 95) #[] #[]) #[x0, t5, (.func (.func 100) #[] #[])] (fun t6 =>
   pv (unV .not t6) fun t7 =>
   cnd t7 (
    K (.int .u16 40)) (
    pv (faV 1 t1) fun t8 =>
    ld false 1 t8 fun t9 =>
    pv (faV 2 t1) fun t10 =>
    ld false 1 t10 fun t11 =>
    callv Tryz.prog (.func (.func 102) #[] #[]) #[x0, t9, t11] (fun t12 =>
    pv (unV .not t12) fun t13 =>
    cnd t13 (
     K (.int .u16 60)) (
     K (.int .u16 0))) E)) E)) E := by kernel_rfl
abbrev q100 : QD := bodyQ Tryz.prog Tryz.f100.results.toList K E
abbrev d100 (p : List Nat) : QD → Env → Hp → Prop := den Tryz.prog (sel (bodyOf Tryz.f100) p)
theorem t100 : d100 [] (q100 K E) #[x0, x1, U, U, U, U, U, U, U, U, U, U, U] =
  nw 74 (Value.cells x0).toList fun t1 =>
  pv (binV .none .geq x1 (.int .i64 0)) fun t2 =>
  gdK t2 true (fun k => k x1) fun t3 =>
  gdK t2 true (fun k => ld true 2 t1 k) fun t4 =>
  gdK t2 true (fun k => callv Tryz.prog (.func (.func 101) #[] #[]) #[t4] k E) fun t5 =>
  gdK t2 true (fun k => pv (binV .none .lss t3 t5) k) fun t6 =>
  pv (pickV t2 t6 (.bool false)) fun t7 =>
  K t7 := by kernel_rfl
abbrev q37 : QD := bodyQ Tryz.prog Tryz.f37.results.toList K E
abbrev d37 (p : List Nat) : QD → Env → Hp → Prop := den Tryz.prog (sel (bodyOf Tryz.f37) p)
theorem t37 : d37 [] (q37 K E) #[x0, x1, x2, U, U, U, U, U, U, U, U, U, U, U, U, U, U, U, U, U, U, U, U, U, U, U, U, U, U, U, U, U, U, U, U, U, U, U, U, U, U, U, U, U, U] =
  nw 36 (Value.cells x2).toList fun t1 =>
  ld true 3 t1 fun t2 =>
  callv Tryz.prog (.func (.func 68) #[] #[]) #[x0, t2] (fun t3 =>
  pv (binV .none .neq t3 (.int .u16 0)) fun t4 =>
  cnd t4 (
   K (.tuple #[(.slice none 0 0), t3])) (
   pv (lenV x0) fun t5 =>
   callv Tryz.prog (.func (.func 69) #[] #[]) #[x1, t5] (fun t6 =>
   pv (unV .not t6) fun t7 =>
   cnd t7 (
    K (.tuple #[(.slice none 0 0), (.int .u16 1)])) (
    pv (faV 1 t1) fun t8 =>
    ld false 1 t8 fun t9 =>
    pv (faV 2 t1) fun t10 =>
    ld false 1 t10 fun t11 =>
    pv (lenV x0) fun t12 =>
    pv (faV 0 t1) fun t13 =>
    ld false 1 t13 fun t14 =>
    bth (
     callv Tryz.prog (.func (.func 71) #[] #[]) #[x1, t9, t11] (fun t15 h16 => (ldV h16 false 1 t13 t14) ∧ (
      mks 3 [(.int .i64 0)] 1 8 t12 t12 (fun t17 h18 => (ldV h18 false 1 t13 t14) ∧ (
       callv Tryz.prog (.func (.func 70) #[] #[]) #[x0, t15, t17, t14] (fun t19 =>
       pv (exV 0 t19) fun t20 =>
       pv (exV 1 t19) fun t21 =>
       pv (binV .none .neq t21 (.int .u16 0)) fun t22 =>
       cnd t22 (
        K (.tuple #[(.slice none 0 0), t21])) (
        callv Tryz.prog (.func (.func 72) #[] #[]) #[t20] (fun t23 =>
        pv (exV 0 t23) fun t24 =>
        pv (exV 1 t23) fun t25 =>
        K (.tuple #[t24, t25])) E)) E) h18)) h16) E) (
     mks 3 [(.int .i64 0)] 1 8 t12 t12 (fun t26 h27 => (ldV h27 false 1 t13 t14) ∧ (ldV h27 false 1 t10 t11) ∧ (ldV h27 false 1 t8 t9) ∧ (
      callv Tryz.prog (.func (.func 71) #[] #[]) #[x1, t9, t11] (fun t28 h29 => (ldV h29 false 1 t13 t14) ∧ (
       callv Tryz.prog (.func (.func 70) #[] #[]) #[x0, t28, t26, t14] (fun t30 =>
       pv (exV 0 t30) fun t31 =>
       pv (exV 1 t30) fun t32 =>
       pv (binV .none .neq t32 (.int .u16 0)) fun t33 =>
       cnd t33 (
        K (.tuple #[(.slice none 0 0), t32])) (
        callv Tryz.prog (.func (.func 72) #[] #[]) #[t31] (fun t34 =>
        pv (exV 0 t34) fun t35 =>
        pv (exV 1 t34) fun t36 =>
        K (.tuple #[t35, t36])) E)) E) h29) E) h27)))) E)) E := by kernel_rfl
abbrev q72 : QD := bodyQ Tryz.prog Tryz.f72.results.toList K E
abbrev d72 (p : List Nat) : QD → Env → Hp → Prop := den Tryz.prog (sel (bodyOf Tryz.f72) p)
theorem t72 : d72 [] (q72 K E) #[x0, U, U, U, U, U, U, U] =
  pv (lenV x0) fun t1 =>
  pv (binV .none .gtr t1 (.int .i64 500)) fun t2 =>
  cnd t2 (
   K (.tuple #[(.slice none 0 0), (.int .u16 61)])) (
   K (.tuple #[x0, (.int .u16 0)])) := by kernel_rfl
abbrev q30 : QD := bodyQ Tryz.prog Tryz.f30.results.toList K E
abbrev d30 (p : List Nat) : QD → Env → Hp → Prop := den Tryz.prog (sel (bodyOf Tryz.f30) p)
theorem t30 : d30 [] (q30 K E) #[x0, U, U, U, U, U, U, U] =
  pv (binV .slc .eql x0 (.slice none 0 0)) fun t1 =>
  cnd t1 (
   K (.slice none 0 0)) (
   nws 3 0 (bsC #[(.int .i64 0)] 1 0 #[]) fun t2 =>
   appX 3 1 8 t2 x0 fun t3 =>
   K t3) := by kernel_rfl
abbrev q56 : QD := bodyQ Tryz.prog Tryz.f56.results.toList K E
abbrev d56 (p : List Nat) : QD → Env → Hp → Prop := den Tryz.prog (sel (bodyOf Tryz.f56) p)
theorem t56 : d56 [] (q56 K E) #[x0, x1, U, U, U, U, U, U, U] =
  callv Tryz.prog (.func (.func 92) #[] #[]) #[x0, x1] (fun t1 =>
  pv (binV .none .geq t1 (.int .i64 0)) fun t2 =>
  K t2) E := by kernel_rfl
abbrev q125 : QD := bodyQ Tryz.prog Tryz.f125.results.toList K E
abbrev d125 (p : List Nat) : QD → Env → Hp → Prop := den Tryz.prog (sel (bodyOf Tryz.f125) p)
theorem t125 : d125 [] (q125 K E) #[x0, x1, U, U, U, U, U, U, U] =
  callv Tryz.prog (.func (.func 136) #[] #[]) #[x0, x1] (fun t1 =>
  pv (binV .none .geq t1 (.int .i64 0)) fun t2 =>
  K t2) E := by kernel_rfl
abbrev q95 : QD := bodyQ Tryz.prog Tryz.f95.results.toList K E
abbrev d95 (p : List Nat) : QD → Env → Hp → Prop := den Tryz.prog (sel (bodyOf Tryz.f95) p)
def m95_1_1_0_1_0_0 (j : Nat → Value) : Env := #[x0, x1, x2, x3, x4, x5, (j 6), (j 7), (j 8), (j 9), x10, x11, x12, x13, x14, x15, x16, v17, (j 18), (j 19), (j 20), (j 21), (j 22), (j 23), (j 24), (j 25), (j 26), (j 27), (j 28), (j 29), (j 30), (j 31)]
theorem t95 : d95 [] (q95 K E) #[x0, x1, x2, U, U, U, U, U, U, U, U, U, U, U, U, U, U, U, U, U, U, U, U, U, U, U, U, U, U, U, U, U] =
  pv (lenV x0) fun t1 =>
  pv (lenV x1) fun t2 =>
  pv (binV .none .neq t1 t2) fun t3 =>
  cnd t3 (
   K (.bool false)) (
   pv (lenV x0) fun t4 =>
   lp (fun k1 => d95 [1, 1, 0, 1, 0, 0] (thenD k1 (blk 0 (thenD (d95 [1, 1, 1] (q95 K E)) (q95 K E))))) (m95_1_1_0_1_0_0 x0 x1 x2 U U U x0 t1 x1 t2 t3 x0 t4 (.int .i64 0) (jf #[U, U, U, U, U, U, (.bool false)]))) := by kernel_rfl
theorem t95_1_1_0_1_0_0 : d95 [1, 1, 0, 1, 0, 0] (thenD k1 (blk 0 (thenD (d95 [1, 1, 1] (q95 K E)) (q95 K E)))) (m95_1_1_0_1_0_0 x0 x1 x2 x3 x4 x5 x10 x11 x12 x13 x14 x15 x16 v17 j) =
  pv (binV .none .lss v17 x16) fun t1 =>
  cnd t1 (
   pv (iaV none 2 x15 v17) fun t2 =>
   ld true 2 t2 fun t3 =>
   nw 74 [(.int .i64 0), (.slice none 0 0)] fun t4 =>
   st 2 t4 t3 fun _ =>
   pv (iaV none 1 x1 v17) fun t5 =>
   ld false 1 t5 fun t6 =>
   ld true 2 t4 fun t7 =>
   callv Tryz.prog x2 #[t7, t6] (fun t8 =>
   pv (unV .not t8) fun t9 =>
   cnd t9 (
    K (.bool false)) (
    pv (binV .none .add v17 (.int .i64 1)) fun t10 =>
    k1 (m95_1_1_0_1_0_0 x0 x1 x2 x3 x4 x5 x10 x11 x12 x13 x14 x15 x16 t10 (jf #[U, U, U, U, U, U, (j 6), v17, t4, t6, U, U, U, U, U, U, U, U, t1, v17, t2, t3, x1, v17, t5, t6, x2, t7, t6, t8, t9, t10])))) E) (
   K (.bool true)) := by kernel_rfl
abbrev q92 : QD := bodyQ Tryz.prog Tryz.f92.results.toList K E
abbrev d92 (p : List Nat) : QD → Env → Hp → Prop := den Tryz.prog (sel (bodyOf Tryz.f92) p)
def m92_1_0_1_0_0 (j : Nat → Value) : Env := #[x0, x1, x2, x3, (j 4), (j 5), x6, x7, v8, (j 9), (j 10), (j 11), (j 12), (j 13), (j 14), (j 15), (j 16), (j 17), (j 18)]
theorem t92 : d92 [] (q92 K E) #[x0, x1, U, U, U, U, U, U, U, U, U, U, U, U, U, U, U, U, U] =
  pv (lenV x0) fun t1 =>
  lp (fun k1 => d92 [1, 0, 1, 0, 0] (thenD k1 (blk 0 (thenD (d92 [1, 1] (q92 K E)) (q92 K E))))) (m92_1_0_1_0_0 x0 x1 U U x0 t1 (.int .i64 0) (jf #[U, U, U, U, (.int .i64 0)])) := by kernel_rfl
theorem t92_1_0_1_0_0 : d92 [1, 0, 1, 0, 0] (thenD k1 (blk 0 (thenD (d92 [1, 1] (q92 K E)) (q92 K E)))) (m92_1_0_1_0_0 x0 x1 x2 x3 x6 x7 v8 j) =
  pv (binV .none .lss v8 x7) fun t1 =>
  cnd t1 (
   pv (iaV none 2 x0 v8) fun t2 =>
   ld true 2 t2 fun t3 =>
   callv Tryz.prog x1 #[t3] (fun t4 =>
   cnd t4 (
    K v8) (
    pv (binV .none .add v8 (.int .i64 1)) fun t5 =>
    k1 (m92_1_0_1_0_0 x0 x1 x2 x3 x6 x7 t5 (jf #[U, U, U, U, (j 4), v8, U, U, U, t1, v8, x1, x0, v8, t2, t3, t4, (j 17), t5])))) E) (
   K (.int .i64 (-1))) := by kernel_rfl
abbrev q136 : QD := bodyQ Tryz.prog Tryz.f136.results.toList K E
abbrev d136 (p : List Nat) : QD → Env → Hp → Prop := den Tryz.prog (sel (bodyOf Tryz.f136) p)
def m136_1_0_1_0_0 (j : Nat → Value) : Env := #[x0, x1, x2, x3, (j 4), (j 5), x6, x7, v8, (j 9), (j 10), (j 11), (j 12), (j 13), (j 14), (j 15), (j 16), (j 17), (j 18)]
theorem t136 : d136 [] (q136 K E) #[x0, x1, U, U, U, U, U, U, U, U, U, U, U, U, U, U, U, U, U] =
  pv (lenV x0) fun t1 =>
  lp (fun k1 => d136 [1, 0, 1, 0, 0] (thenD k1 (blk 0 (thenD (d136 [1, 1] (q136 K E)) (q136 K E))))) (m136_1_0_1_0_0 x0 x1 U U x0 t1 (.int .i64 0) (jf #[U, U, U, U, (.int .i64 0)])) := by kernel_rfl
theorem t136_1_0_1_0_0 : d136 [1, 0, 1, 0, 0] (thenD k1 (blk 0 (thenD (d136 [1, 1] (q136 K E)) (q136 K E)))) (m136_1_0_1_0_0 x0 x1 x2 x3 x6 x7 v8 j) =
  pv (binV .none .lss v8 x7) fun t1 =>
  cnd t1 (
   pv (iaV none 1 x0 v8) fun t2 =>
   ld false 1 t2 fun t3 =>
   callv Tryz.prog x1 #[t3] (fun t4 =>
   cnd t4 (
    K v8) (
    pv (binV .none .add v8 (.int .i64 1)) fun t5 =>
    k1 (m136_1_0_1_0_0 x0 x1 x2 x3 x6 x7 t5 (jf #[U, U, U, U, (j 4), v8, U, U, U, t1, v8, x1, x0, v8, t2, t3, t4, (j 17), t5])))) E) (
   K (.int .i64 (-1))) := by kernel_rfl
abbrev q36 : QD := bodyQ Tryz.prog Tryz.f36.results.toList K E
abbrev d36 (p : List Nat) : QD → Env → Hp → Prop := den Tryz.prog (sel (bodyOf Tryz.f36) p)
def m36_1_1_0_1_0_0 (j : Nat → Value) : Env := #[x0, x1, x2, x3, x4, v5, v6, (j 7), (j 8), (j 9), (j 10), (j 11), (j 12), (j 13), (j 14), (j 15), (j 16), (j 17), (j 18), (j 19), (j 20), (j 21), (j 22), (j 23), (j 24), (j 25), (j 26), (j 27), (j 28), (j 29), (j 30), (j 31), (j 32), x33]
theorem t36 : d36 [] (q36 K E) #[x0, x1, U, U, U, U, U, U, U, U, U, U, U, U, U, U, U, U, U, U, U, U, U, U, U, U, U, U, U, U, U, U, U, U] =
  lp (fun k1 => d36 [1, 1, 0, 1, 0, 0] (thenD k1 (blk 0 (thenD (d36 [1, 1, 1] (q36 K E)) (q36 K E))))) (m36_1_1_0_1_0_0 x0 x1 U U (.slice none 0 0) U (.slice none 0 0) (.int .i64 0) (jf #[])) := by kernel_rfl
theorem t36_1_1_0_1_0_0 : d36 [1, 1, 0, 1, 0, 0] (thenD k1 (blk 0 (thenD (d36 [1, 1, 1] (q36 K E)) (q36 K E)))) (m36_1_1_0_1_0_0 x0 x1 x2 x3 x4 x33 v5 v6 j) =
  pv (lenV x0) fun t1 =>
  pv (binV .none .lss v6 t1) fun t2 =>
  cnd t2 (
   pv (lenV x1) fun t3 =>
   pv (binV .none .lss v6 t3) fun t4 =>
   cnd t4 (
    pv (iaV none 1 x1 v6) fun t5 =>
    ld false 1 t5 fun t6 =>
    pv (cvV .i64 t6) fun t7 =>
    d36 [1, 1, 0, 1, 0, 0, 1, 0, 0, 1, 1] (blk 1 (thenD (d36 [1, 1, 0, 1, 0, 0, 1, 1] (thenD k1 (blk 0 (thenD (d36 [1, 1, 1] (q36 K E)) (q36 K E))))) (thenD k1 (blk 0 (thenD (d36 [1, 1, 1] (q36 K E)) (q36 K E)))))) #[x0, x1, x2, x3, x4, v5, v6, t7, v6, x0, t1, t2, (j 12), (j 13), v6, x1, t3, t4, x1, v6, t5, t6, t7, (j 23), (j 24), (j 25), (j 26), (j 27), (j 28), (j 29), (j 30), (j 31), (j 32), x33]) (
    d36 [1, 1, 0, 1, 0, 0, 1, 0, 0, 1, 1] (blk 1 (thenD (d36 [1, 1, 0, 1, 0, 0, 1, 1] (thenD k1 (blk 0 (thenD (d36 [1, 1, 1] (q36 K E)) (q36 K E))))) (thenD k1 (blk 0 (thenD (d36 [1, 1, 1] (q36 K E)) (q36 K E)))))) #[x0, x1, x2, x3, x4, v5, v6, (.int .i64 0), v6, x0, t1, t2, (j 12), (j 13), v6, x1, t3, t4, (j 18), (j 19), (j 20), (j 21), (j 22), (j 23), (j 24), (j 25), (j 26), (j 27), (j 28), (j 29), (j 30), (j 31), (j 32), x33])) (
   K v5) := by kernel_rfl
theorem t36_1_1_0_1_0_0_1_0_0_1_1 : d36 [1, 1, 0, 1, 0, 0, 1, 0, 0, 1, 1] (blk 1 (thenD (d36 [1, 1, 0, 1, 0, 0, 1, 1] (thenD k1 (blk 0 (thenD (d36 [1, 1, 1] (q36 K E)) (q36 K E))))) (thenD k1 (blk 0 (thenD (d36 [1, 1, 1] (q36 K E)) (q36 K E)))))) #[x0, x1, x2, x3, x4, x5, x6, x7, x8, x9, x10, x11, x12, x13, x14, x15, x16, x17, x18, x19, x20, x21, x22, x23, x24, x25, x26, x27, x28, x29, x30, x31, x32, x33] =
  pv (iaV none 2 x0 x6) fun t1 =>
  pv (faV 0 t1) fun t2 =>
  ld false 1 t2 fun t3 =>
  pv (binV .none .rem x7 t3) fun t4 =>
  nws 3 1 (bsC #[(.int .i64 0)] 1 1 #[(0, t4)]) fun t5 =>
  appX 3 1 8 x5 t5 fun t6 =>
  pv (binV .none .add x6 (.int .i64 1)) fun t7 =>
  k1 (m36_1_1_0_1_0_0 x0 x1 x2 x3 x4 x33 t6 t7 (jf #[U, U, U, U, U, U, U, x7, x8, x9, x10, x11, x6, t7, x14, x15, x16, x17, x18, x19, x20, x21, x22, x5, x7, x0, x6, t1, t2, t3, t4, t5, t6])) := by kernel_rfl
abbrev q32 : QD := bodyQ Tryz.prog Tryz.f32.results.toList K E
abbrev d32 (p : List Nat) : QD → Env → Hp → Prop := den Tryz.prog (sel (bodyOf Tryz.f32) p)
def m32_1_1_0_1_0_0 (j : Nat → Value) : Env := #[x0, x1, x2, x3, x4, x5, x6, v7, v8, (j 9), (j 10), (j 11), (j 12), (j 13), (j 14), (j 15), (j 16), (j 17), (j 18), (j 19), (j 20), (j 21), (j 22), (j 23), (j 24), (j 25), (j 26), (j 27), (j 28), (j 29), (j 30), (j 31), (j 32), (j 33), (j 34), (j 35), (j 36), (j 37), (j 38), (j 39), (j 40), (j 41), (j 42), (j 43), (j 44), (j 45), (j 46), (j 47), (j 48), (j 49), x50]
theorem t32 : d32 [] (q32 K E) #[x0, x1, x2, U, U, U, U, U, U, U, U, U, U, U, U, U, U, U, U, U, U, U, U, U, U, U, U, U, U, U, U, U, U, U, U, U, U, U, U, U, U, U, U, U, U, U, U, U, U, U, U] =
  lp (fun k1 => d32 [1, 1, 0, 1, 0, 0] (thenD k1 (blk 0 (thenD (d32 [1, 1, 1] (q32 K E)) (q32 K E))))) (m32_1_1_0_1_0_0 x0 x1 x2 U U U (.slice none 0 0) U (.slice none 0 0) (.int .i64 0) (jf #[])) := by kernel_rfl
theorem t32_1_1_0_1_0_0 : d32 [1, 1, 0, 1, 0, 0] (thenD k1 (blk 0 (thenD (d32 [1, 1, 1] (q32 K E)) (q32 K E)))) (m32_1_1_0_1_0_0 x0 x1 x2 x3 x4 x5 x6 x50 v7 v8 j) =
  pv (lenV x0) fun t1 =>
  pv (binV .none .lss v8 t1) fun t2 =>
  cnd t2 (
   pv (lenV x1) fun t3 =>
   pv (binV .none .lss v8 t3) fun t4 =>
   cnd t4 (
    pv (iaV none 1 x1 v8) fun t5 =>
    ld false 1 t5 fun t6 =>
    pv (cvV .i64 t6) fun t7 =>
    d32 [1, 1, 0, 1, 0, 0, 1, 0, 0, 1, 1, 1] (blk 1 (thenD (d32 [1, 1, 0, 1, 0, 0, 1, 1] (thenD k1 (blk 0 (thenD (d32 [1, 1, 1] (q32 K E)) (q32 K E))))) (thenD k1 (blk 0 (thenD (d32 [1, 1, 1] (q32 K E)) (q32 K E)))))) #[x0, x1, x2, x3, x4, x5, x6, v7, v8, t7, (.int .i64 0), v8, x0, t1, t2, (j 15), (j 16), v8, x1, t3, t4, x1, v8, t5, t6, t7, (j 26), (j 27), (j 28), (j 29), (j 30), (j 31), (j 32), (j 33), (j 34), (j 35), (j 36), (j 37), (j 38), (j 39), (j 40), (j 41), (j 42), (j 43), (j 44), (j 45), (j 46), (j 47), (j 48), (j 49), x50]) (
    d32 [1, 1, 0, 1, 0, 0, 1, 0, 0, 1, 1, 1] (blk 1 (thenD (d32 [1, 1, 0, 1, 0, 0, 1, 1] (thenD k1 (blk 0 (thenD (d32 [1, 1, 1] (q32 K E)) (q32 K E))))) (thenD k1 (blk 0 (thenD (d32 [1, 1, 1] (q32 K E)) (q32 K E)))))) #[x0, x1, x2, x3, x4, x5, x6, v7, v8, (.int .i64 0), (.int .i64 0), v8, x0, t1, t2, (j 15), (j 16), v8, x1, t3, t4, (j 21), (j 22), (j 23), (j 24), (j 25), (j 26), (j 27), (j 28), (j 29), (j 30), (j 31), (j 32), (j 33), (j 34), (j 35), (j 36), (j 37), (j 38), (j 39), (j 40), (j 41), (j 42), (j 43), (j 44), (j 45), (j 46), (j 47), (j 48), (j 49), x50])) (
   K v7) := by kernel_rfl
theorem t32_1_1_0_1_0_0_1_0_0_1_1_1 : d32 [1, 1, 0, 1, 0, 0, 1, 0, 0, 1, 1, 1] (blk 1 (thenD (d32 [1, 1, 0, 1, 0, 0, 1, 1] (thenD k1 (blk 0 (thenD (d32 [1, 1, 1] (q32 K E)) (q32 K E))))) (thenD k1 (blk 0 (thenD (d32 [1, 1, 1] (q32 K E)) (q32 K E)))))) #[x0, x1, x2, x3, x4, x5, x6, x7, x8, x9, x10, x11, x12, x13, x14, x15, x16, x17, x18, x19, x20, x21, x22, x23, x24, x25, x26, x27, x28, x29, x30, x31, x32, x33, x34, x35, x36, x37, x38, x39, x40, x41, x42, x43, x44, x45, x46, x47, x48, x49, x50] =
  pv (lenV x2) fun t1 =>
  pv (binV .none .lss x8 t1) fun t2 =>
  cnd t2 (
   pv (iaV none 1 x2 x8) fun t3 =>
   ld false 1 t3 fun t4 =>
   d32 [1, 1, 0, 1, 0, 0, 1, 0, 0, 1, 1, 1, 1] (blk 1 (thenD (d32 [1, 1, 0, 1, 0, 0, 1, 1] (thenD k1 (blk 0 (thenD (d32 [1, 1, 1] (q32 K E)) (q32 K E))))) (thenD k1 (blk 0 (thenD (d32 [1, 1, 1] (q32 K E)) (q32 K E)))))) #[x0, x1, x2, x3, x4, x5, x6, x7, x8, x9, t4, x11, x12, x13, x14, x15, x16, x17, x18, x19, x20, x21, x22, x23, x24, x25, x8, x2, t1, t2, x2, x8, t3, t4, x34, x35, x36, x37, x38, x39, x40, x41, x42, x43, x44, x45, x46, x47, x48, x49, x50]) (
   d32 [1, 1, 0, 1, 0, 0, 1, 0, 0, 1, 1, 1, 1] (blk 1 (thenD (d32 [1, 1, 0, 1, 0, 0, 1, 1] (thenD k1 (blk 0 (thenD (d32 [1, 1, 1] (q32 K E)) (q32 K E))))) (thenD k1 (blk 0 (thenD (d32 [1, 1, 1] (q32 K E)) (q32 K E)))))) #[x0, x1, x2, x3, x4, x5, x6, x7, x8, x9, x10, x11, x12, x13, x14, x15, x16, x17, x18, x19, x20, x21, x22, x23, x24, x25, x8, x2, t1, t2, x30, x31, x32, x33, x34, x35, x36, x37, x38, x39, x40, x41, x42, x43, x44, x45, x46, x47, x48, x49, x50]) := by kernel_rfl
theorem t32_1_1_0_1_0_0_1_0_0_1_1_1_1 : d32 [1, 1, 0, 1, 0, 0, 1, 0, 0, 1, 1, 1, 1] (blk 1 (thenD (d32 [1, 1, 0, 1, 0, 0, 1, 1] (thenD k1 (blk 0 (thenD (d32 [1, 1, 1] (q32 K E)) (q32 K E))))) (thenD k1 (blk 0 (thenD (d32 [1, 1, 1] (q32 K E)) (q32 K E)))))) #[x0, x1, x2, x3, x4, x5, x6, x7, x8, x9, x10, x11, x12, x13, x14, x15, x16, x17, x18, x19, x20, x21, x22, x23, x24, x25, x26, x27, x28, x29, x30, x31, x32, x33, x34, x35, x36, x37, x38, x39, x40, x41, x42, x43, x44, x45, x46, x47, x48, x49, x50] =
  pv (iaV none 2 x0 x8) fun t1 =>
  pv (faV 1 t1) fun t2 =>
  ld false 1 t2 fun t3 =>
  pv (lenV t3) fun t4 =>
  pv (binV .none .add t4 (.int .i64 2)) fun t5 =>
  pv (binV .none .sub t5 x10) fun t6 =>
  pv (binV .none .rem x9 t6) fun t7 =>
  pv (binV .none .add x10 t7) fun t8 =>
  nws 3 1 (bsC #[(.int .i64 0)] 1 1 #[(0, t8)]) fun t9 =>
  appX 3 1 8 x7 t9 fun t10 =>
  pv (binV .none .add x8 (.int .i64 1)) fun t11 =>
  k1 (m32_1_1_0_1_0_0 x0 x1 x2 x3 x4 x5 x6 x50 t10 t11 (jf #[U, U, U, U, U, U, U, U, U, x9, x10, x11, x12, x13, x14, x8, t11, x17, x18, x19, x20, x21, x22, x23, x24, x25, x26, x27, x28, x29, x30, x31, x32, x33, x7, x10, x9, x0, x8, t1, t2, t3, t4, t5, x10, t6, t7, t8, t9, t10])) := by kernel_rfl
abbrev q12 : QD := bodyQ Tryz.prog Tryz.f12.results.toList K E
abbrev d12 (p : List Nat) : QD → Env → Hp → Prop := den Tryz.prog (sel (bodyOf Tryz.f12) p)
def m12_1_1_0_1_0_0 (j : Nat → Value) : Env := #[x0, x1, x2, v3, v4, (j 5), (j 6), (j 7), (j 8), (j 9), (j 10), (j 11), (j 12), (j 13), (j 14), (j 15), (j 16), (j 17), (j 18), (j 19), (j 20), (j 21), (j 22), (j 23), (j 24), (j 25), (j 26), (j 27), (j 28), (j 29), (j 30), (j 31), (j 32), (j 33), (j 34), (j 35), (j 36), (j 37), (j 38), (j 39), (j 40), (j 41), (j 42), (j 43), (j 44), (j 45), (j 46), (j 47), (j 48), (j 49), (j 50), (j 51), (j 52), (j 53), (j 54), (j 55), (j 56), (j 57), (j 58), (j 59), (j 60), (j 61), (j 62), (j 63), x64, x65, x66, x67, x68, x69, x70, x71, x72]
def m12_1_1_0_1_0_0_1_0_0_1_1_0_1_0_0 (j : Nat → Value) : Env := #[x0, x1, x2, x3, x4, x5, v6, v7, x8, x9, x10, x11, x12, x13, x14, x15, x16, x17, x18, x19, x20, x21, x22, x23, x24, x25, x26, (j 27), (j 28), (j 29), (j 30), (j 31), (j 32), (j 33), (j 34), (j 35), (j 36), (j 37), (j 38), (j 39), (j 40), (j 41), (j 42), (j 43), (j 44), (j 45), (j 46), (j 47), (j 48), (j 49), (j 50), (j 51), (j 52), (j 53), (j 54), (j 55), (j 56), (j 57), (j 58), (j 59), x60, x61, x62, x63, x64, x65, x66, x67, x68, x69, x70, x71, x72]
theorem t12 : d12 [] (q12 K E) #[x0, U, U, U, U, U, U, U, U, U, U, U, U, U, U, U, U, U, U, U, U, U, U, U, U, U, U, U, U, U, U, U, U, U, U, U, U, U, U, U, U, U, U, U, U, U, U, U, U, U, U, U, U, U, U, U, U, U, U, U, U, U, U, U, U, U, U, U, U, U, U, U, U] =
  lp (fun k1 => d12 [1, 1, 0, 1, 0, 0] (thenD k1 (blk 0 (thenD (d12 [1, 1, 1] (q12 K E)) (q12 K E))))) (m12_1_1_0_1_0_0 x0 U (.slice none 0 0) U U U U U U U U U (.slice none 0 0) (.int .i64 0) (jf #[])) := by kernel_rfl
theorem t12_1_1_0_1_0_0 : d12 [1, 1, 0, 1, 0, 0] (thenD k1 (blk 0 (thenD (d12 [1, 1, 1] (q12 K E)) (q12 K E)))) (m12_1_1_0_1_0_0 x0 x1 x2 x64 x65 x66 x67 x68 x69 x70 x71 x72 v3 v4 j) =
  pv (lenV x0) fun t1 =>
  pv (binV .none .lss v4 t1) fun t2 =>
  gdK t2 true (fun k => k v4) fun t3 =>
  gdK t2 true (fun k => pv (binV .none .lss t3 (.int .i64 4)) k) fun t4 =>
  pv (pickV t2 t4 (.bool false)) fun t5 =>
  cnd t5 (
   pv (iaV none 2 x0 v4) fun t6 =>
   pv (faV 0 t6) fun t7 =>
   ld false 1 t7 fun t8 =>
   pv (binV .none .rem t8 (.int .u16 200)) fun t9 =>
   pv (cvV .i64 t9) fun t10 =>
   pv (binV .none .add (.int .i64 1) t10) fun t11 =>
   pv (bdC #[(.int .i64 0), (.slice none 0 0)] [(0, 1), (1, 1)] #[(0, t11)]) fun t12 =>
   nw 74 [(.int .i64 0), (.slice none 0 0)] fun t13 =>
   st 2 t13 t12 fun _ =>
   lp (fun k2 => d12 [1, 1, 0, 1, 0, 0, 1, 0, 0, 1, 1, 0, 1, 0, 0] (thenD k2 (blk 2 (thenD (d12 [1, 1, 0, 1, 0, 0, 1, 0, 0, 1, 1, 1] (blk 1 (thenD (d12 [1, 1, 0, 1, 0, 0, 1, 1] (thenD k1 (blk 0 (thenD (d12 [1, 1, 1] (q12 K E)) (q12 K E))))) (thenD k1 (blk 0 (thenD (d12 [1, 1, 1] (q12 K E)) (q12 K E))))))) (blk 1 (thenD (d12 [1, 1, 0, 1, 0, 0, 1, 1] (thenD k1 (blk 0 (thenD (d12 [1, 1, 1] (q12 K E)) (q12 K E))))) (thenD k1 (blk 0 (thenD (d12 [1, 1, 1] (q12 K E)) (q12 K E)))))))))) (m12_1_1_0_1_0_0_1_0_0_1_1_0_1_0_0 x0 x1 x2 v3 v4 t13 v4 x0 t1 t2 t2 t3 t4 t5 (j 16) (j 17) x0 v4 t6 t7 t8 t9 t10 t11 t12 (j 60) (j 61) (j 62) (j 63) x64 x65 x66 x67 x68 x69 x70 x71 x72 (.int .i64 1) (.int .i64 0) (jf #[U, U, U, U, U, U, U, U, U, U, U, U, U, U, U, U, U, U, U, U, U, U, U, U, U, U, U, (j 27), (j 28), (j 29), (j 30), (j 31), (j 32), (j 33), (j 34), (j 35), (j 36), (j 37), (j 38), (j 39), (j 40), (j 41), (j 42), (j 43), (j 44), (j 45), (j 46), (j 47), (j 48), (j 49), (j 50), (j 51), (j 52), (j 53), (j 54), (j 55), (j 56), (j 57), (j 58), (j 59)]))) (
   pv (lenV v3) fun t14 =>
   pv (binV .none .eql t14 (.int .i64 0)) fun t15 =>
   cnd t15 (
    nws 3 1 (bsC #[(.int .i64 0)] 1 1 #[(0, (.int .i64 10))]) fun t16 =>
    pv (bdC #[(.int .i64 0), (.slice none 0 0)] [(0, 1), (1, 1)] #[(0, (.int .i64 100)), (1, t16)]) fun t17 =>
    nws 74 1 (bsC #[(.int .i64 0), (.slice none 0 0)] 2 1 #[(0, t17)]) fun t18 =>
    appX 74 2 32 v3 t18 fun t19 =>
    d12 [1, 1, 1, 1] (q12 K E) #[x0, x1, x2, t19, v4, (j 5), (j 6), (j 7), v4, x0, t1, t2, t2, t3, t4, t5, (j 16), (j 17), (j 18), (j 19), (j 20), (j 21), (j 22), (j 23), (j 24), (j 25), (j 26), (j 27), (j 28), (j 29), (j 30), (j 31), (j 32), (j 33), (j 34), (j 35), (j 36), (j 37), (j 38), (j 39), (j 40), (j 41), (j 42), (j 43), (j 44), (j 45), (j 46), (j 47), (j 48), (j 49), (j 50), (j 51), (j 52), (j 53), (j 54), (j 55), (j 56), (j 57), (j 58), (j 59), (j 60), (j 61), (j 62), (j 63), v3, t14, t15, v3, t16, t17, t18, t19, x72]) (
    d12 [1, 1, 1, 1] (q12 K E) #[x0, x1, x2, v3, v4, (j 5), (j 6), (j 7), v4, x0, t1, t2, t2, t3, t4, t5, (j 16), (j 17), (j 18), (j 19), (j 20), (j 21), (j 22), (j 23), (j 24), (j 25), (j 26), (j 27), (j 28), (j 29), (j 30), (j 31), (j 32), (j 33), (j 34), (j 35), (j 36), (j 37), (j 38), (j 39), (j 40), (j 41), (j 42), (j 43), (j 44), (j 45), (j 46), (j 47), (j 48), (j 49), (j 50), (j 51), (j 52), (j 53), (j 54), (j 55), (j 56), (j 57), (j 58), (j 59), (j 60), (j 61), (j 62), (j 63), v3, t14, t15, x67, x68, x69, x70, x71, x72])) := by kernel_rfl
theorem t12_1_1_0_1_0_0_1_0_0_1_1_0_1_0_0 : d12 [1, 1, 0, 1, 0, 0, 1, 0, 0, 1, 1, 0, 1, 0, 0] (thenD k2 (blk 2 (thenD (d12 [1, 1, 0, 1, 0, 0, 1, 0, 0, 1, 1, 1] (blk 1 (thenD (d12 [1, 1, 0, 1, 0, 0, 1, 1] (thenD k1 (blk 0 (thenD (d12 [1, 1, 1] (q12 K E)) (q12 K E))))) (thenD k1 (blk 0 (thenD (d12 [1, 1, 1] (q12 K E)) (q12 K E))))))) (blk 1 (thenD (d12 [1, 1, 0, 1, 0, 0, 1, 1] (thenD k1 (blk 0 (thenD (d12 [1, 1, 1] (q12 K E)) (q12 K E))))) (thenD k1 (blk 0 (thenD (d12 [1, 1, 1] (q12 K E)) (q12 K E))))))))) (m12_1_1_0_1_0_0_1_0_0_1_1_0_1_0_0 x0 x1 x2 x3 x4 x5 x8 x9 x10 x11 x12 x13 x14 x15 x16 x17 x18 x19 x20 x21 x22 x23 x24 x25 x26 x60 x61 x62 x63 x64 x65 x66 x67 x68 x69 x70 x71 x72 v6 v7 j) =
  pv (iaV none 2 x0 x4) fun t1 =>
  pv (faV 1 t1) fun t2 =>
  ld false 1 t2 fun t3 =>
  pv (lenV t3) fun t4 =>
  pv (binV .none .lss v7 t4) fun t5 =>
  gdK t5 true (fun k => k v7) fun t6 =>
  gdK t5 true (fun k => pv (binV .none .lss t6 (.int .i64 4)) k) fun t7 =>
  pv (pickV t5 t7 (.bool false)) fun t8 =>
  cnd t8 (
   pv (iaV none 2 x0 x4) fun t9 =>
   pv (faV 1 t9) fun t10 =>
   ld false 1 t10 fun t11 =>
   pv (iaV none 1 t11 v7) fun t12 =>
   ld false 1 t12 fun t13 =>
   pv (binV .none .rem t13 (.int .u8 4)) fun t14 =>
   pv (cvV .i64 t14) fun t15 =>
   pv (binV .none .add (.int .i64 2) t15) fun t16 =>
   pv (binV .none .mul v6 t16) fun t17 =>
   pv (faV 1 x5) fun t18 =>
   ld false 1 t18 fun t19 =>
   nws 3 1 (bsC #[(.int .i64 0)] 1 1 #[(0, t17)]) fun t20 =>
   appX 3 1 8 t19 t20 fun t21 =>
   pv (faV 1 x5) fun t22 =>
   st 1 t22 t21 fun _ =>
   pv (binV .none .add v7 (.int .i64 1)) fun t23 =>
   k2 (m12_1_1_0_1_0_0_1_0_0_1_1_0_1_0_0 x0 x1 x2 x3 x4 x5 x8 x9 x10 x11 x12 x13 x14 x15 x16 x17 x18 x19 x20 x21 x22 x23 x24 x25 x26 x60 x61 x62 x63 x64 x65 x66 x67 x68 x69 x70 x71 x72 t17 t23 (jf #[U, U, U, U, U, U, U, U, U, U, U, U, U, U, U, U, U, U, U, U, U, U, U, U, U, U, U, v7, x0, x4, t1, t2, t3, t4, t5, t5, t6, t7, t8, v7, t23, v6, x0, x4, t9, t10, t11, v7, t12, t13, t14, t15, t16, t17, t18, t19, t17, t20, t21, t22]))) (
   ld true 2 x5 fun t24 =>
   nws 74 1 (bsC #[(.int .i64 0), (.slice none 0 0)] 2 1 #[(0, t24)]) fun t25 =>
   appX 74 2 32 x3 t25 fun t26 =>
   pv (binV .none .add x4 (.int .i64 1)) fun t27 =>
   k1 (m12_1_1_0_1_0_0 x0 x1 x2 x64 x65 x66 x67 x68 x69 x70 x71 x72 t26 t27 (jf #[U, U, U, U, U, x5, v6, v7, x8, x9, x10, x11, x12, x13, x14, x15, x4, t27, x18, x19, x20, x21, x22, x23, x24, x25, x26, v7, x0, x4, t1, t2, t3, t4, t5, t5, t6, t7, t8, (j 39), (j 40), (j 41), (j 42), (j 43), (j 44), (j 45), (j 46), (j 47), (j 48), (j 49), (j 50), (j 51), (j 52), (j 53), (j 54), (j 55), (j 56), (j 57), (j 58), (j 59), x3, t24, t25, t26]))) := by kernel_rfl
theorem t12_1_1_1_1 : d12 [1, 1, 1, 1] (q12 K E) #[x0, x1, x2, x3, x4, x5, x6, x7, x8, x9, x10, x11, x12, x13, x14, x15, x16, x17, x18, x19, x20, x21, x22, x23, x24, x25, x26, x27, x28, x29, x30, x31, x32, x33, x34, x35, x36, x37, x38, x39, x40, x41, x42, x43, x44, x45, x46, x47, x48, x49, x50, x51, x52, x53, x54, x55, x56, x57, x58, x59, x60, x61, x62, x63, x64, x65, x66, x67, x68, x69, x70, x71, x72] =
  K x3 := by kernel_rfl
abbrev q16 : QD := bodyQ Tryz.prog Tryz.f16.results.toList K E
abbrev d16 (p : List Nat) : QD → Env → Hp → Prop := den Tryz.prog (sel (bodyOf Tryz.f16) p)
def m16_1_1_0_1_0_0 (j : Nat → Value) : Env := #[x0, x1, x2, x3, x4, x5, x6, v7, v8, (j 9), (j 10), (j 11), (j 12), (j 13), (j 14), (j 15), (j 16), (j 17), (j 18), (j 19), (j 20), (j 21), (j 22), (j 23), (j 24), (j 25), (j 26), (j 27), (j 28), (j 29), (j 30), (j 31), (j 32), (j 33), (j 34), (j 35), (j 36), (j 37), (j 38), (j 39), (j 40), (j 41), x42]
theorem t16 : d16 [] (q16 K E) #[x0, x1, x2, U, U, U, U, U, U, U, U, U, U, U, U, U, U, U, U, U, U, U, U, U, U, U, U, U, U, U, U, U, U, U, U, U, U, U, U, U, U, U, U] =
  lp (fun k1 => d16 [1, 1, 0, 1, 0, 0] (thenD k1 (blk 0 (thenD (d16 [1, 1, 1] (q16 K E)) (q16 K E))))) (m16_1_1_0_1_0_0 x0 x1 x2 U U U (.slice none 0 0) U (.slice none 0 0) (.int .i64 0) (jf #[])) := by kernel_rfl
theorem t16_1_1_0_1_0_0 : d16 [1, 1, 0, 1, 0, 0] (thenD k1 (blk 0 (thenD (d16 [1, 1, 1] (q16 K E)) (q16 K E)))) (m16_1_1_0_1_0_0 x0 x1 x2 x3 x4 x5 x6 x42 v7 v8 j) =
  pv (lenV x1) fun t1 =>
  pv (binV .none .lss v8 t1) fun t2 =>
  gdK t2 true (fun k => k v8) fun t3 =>
  gdK t2 true (fun k => pv (binV .none .lss t3 (.int .i64 200)) k) fun t4 =>
  pv (pickV t2 t4 (.bool false)) fun t5 =>
  cnd t5 (
   pv (iaV none 1 x1 v8) fun t6 =>
   ld false 1 t6 fun t7 =>
   callv Tryz.prog (.func (.func 36) #[] #[]) #[x0, t7] (fun t8 =>
   pv (bdC #[(.slice none 0 0), (.int .i64 0)] [(0, 1), (1, 1)] #[(0, t8)]) fun t9 =>
   nw 48 [(.slice none 0 0), (.int .i64 0)] fun t10 =>
   st 2 t10 t9 fun _ =>
   pv (lenV x2) fun t11 =>
   pv (binV .none .gtr t11 (.int .i64 0)) fun t12 =>
   cnd t12 (
    pv (lenV x2) fun t13 =>
    pv (binV .none .rem v8 t13) fun t14 =>
    pv (iaV none 1 x2 t14) fun t15 =>
    ld false 1 t15 fun t16 =>
    pv (faV 1 t10) fun t17 =>
    st 1 t17 t16 fun _ =>
    d16 [1, 1, 0, 1, 0, 0, 1, 0, 0, 1, 1] (blk 1 (thenD (d16 [1, 1, 0, 1, 0, 0, 1, 1] (thenD k1 (blk 0 (thenD (d16 [1, 1, 1] (q16 K E)) (q16 K E))))) (thenD k1 (blk 0 (thenD (d16 [1, 1, 1] (q16 K E)) (q16 K E)))))) #[x0, x1, x2, x3, x4, x5, x6, v7, v8, t10, v8, x1, t1, t2, t2, t3, t4, t5, (j 18), (j 19), x0, x1, v8, t6, t7, t8, t9, x2, t11, t12, x2, v8, x2, t13, t14, t15, t16, t17, (j 38), (j 39), (j 40), (j 41), x42]) (
    d16 [1, 1, 0, 1, 0, 0, 1, 0, 0, 1, 1] (blk 1 (thenD (d16 [1, 1, 0, 1, 0, 0, 1, 1] (thenD k1 (blk 0 (thenD (d16 [1, 1, 1] (q16 K E)) (q16 K E))))) (thenD k1 (blk 0 (thenD (d16 [1, 1, 1] (q16 K E)) (q16 K E)))))) #[x0, x1, x2, x3, x4, x5, x6, v7, v8, t10, v8, x1, t1, t2, t2, t3, t4, t5, (j 18), (j 19), x0, x1, v8, t6, t7, t8, t9, x2, t11, t12, (j 30), (j 31), (j 32), (j 33), (j 34), (j 35), (j 36), (j 37), (j 38), (j 39), (j 40), (j 41), x42])) E) (
   K v7) := by kernel_rfl
theorem t16_1_1_0_1_0_0_1_0_0_1_1 : d16 [1, 1, 0, 1, 0, 0, 1, 0, 0, 1, 1] (blk 1 (thenD (d16 [1, 1, 0, 1, 0, 0, 1, 1] (thenD k1 (blk 0 (thenD (d16 [1, 1, 1] (q16 K E)) (q16 K E))))) (thenD k1 (blk 0 (thenD (d16 [1, 1, 1] (q16 K E)) (q16 K E)))))) #[x0, x1, x2, x3, x4, x5, x6, x7, x8, x9, x10, x11, x12, x13, x14, x15, x16, x17, x18, x19, x20, x21, x22, x23, x24, x25, x26, x27, x28, x29, x30, x31, x32, x33, x34, x35, x36, x37, x38, x39, x40, x41, x42] =
  ld true 2 x9 fun t1 =>
  nws 48 1 (bsC #[(.slice none 0 0), (.int .i64 0)] 2 1 #[(0, t1)]) fun t2 =>
  appX 48 2 32 x7 t2 fun t3 =>
  pv (binV .none .add x8 (.int .i64 1)) fun t4 =>
  k1 (m16_1_1_0_1_0_0 x0 x1 x2 x3 x4 x5 x6 x42 t3 t4 (jf #[U, U, U, U, U, U, U, U, U, x9, x10, x11, x12, x13, x14, x15, x16, x17, x8, t4, x20, x21, x22, x23, x24, x25, x26, x27, x28, x29, x30, x31, x32, x33, x34, x35, x36, x37, x7, t1, t2, t3])) := by kernel_rfl
abbrev q31 : QD := bodyQ Tryz.prog Tryz.f31.results.toList K E
abbrev d31 (p : List Nat) : QD → Env → Hp → Prop := den Tryz.prog (sel (bodyOf Tryz.f31) p)
def m31_1_1_1_0_1_0_0 (j : Nat → Value) : Env := #[x0, x1, x2, x3, x4, x5, x6, x7, x8, x9, v10, (j 11), x12, x13, x14, x15, x16, x17, (j 18), (j 19), (j 20), (j 21), (j 22), (j 23), (j 24), (j 25), (j 26), (j 27), (j 28), (j 29), (j 30), (j 31), (j 32), (j 33), (j 34), (j 35), (j 36), (j 37), (j 38), (j 39), (j 40), (j 41), (j 42), (j 43), (j 44), (j 45), (j 46), (j 47), (j 48), (j 49), x50, x51]
theorem t31 : d31 [] (q31 K E) #[x0, x1, x2, U, U, U, U, U, U, U, U, U, U, U, U, U, U, U, U, U, U, U, U, U, U, U, U, U, U, U, U, U, U, U, U, U, U, U, U, U, U, U, U, U, U, U, U, U, U, U, U, U] =
  callv Tryz.prog (.func (.func 36) #[] #[]) #[x0, x1] (fun t1 =>
  callv Tryz.prog (.func (.func 36) #[] #[]) #[x0, x2] (fun t2 =>
  lp (fun k1 => d31 [1, 1, 1, 0, 1, 0, 0] (thenD k1 (blk 0 (thenD (d31 [1, 1, 1, 1] (q31 K E)) (q31 K E))))) (m31_1_1_1_0_1_0_0 x0 x1 x2 U U U (.slice none 0 0) (.slice none 0 0) t1 t2 x0 x1 t1 x0 x2 t2 U U (.int .i64 0) (jf #[]))) E) E := by kernel_rfl
theorem t31_1_1_1_0_1_0_0 : d31 [1, 1, 1, 0, 1, 0, 0] (thenD k1 (blk 0 (thenD (d31 [1, 1, 1, 1] (q31 K E)) (q31 K E)))) (m31_1_1_1_0_1_0_0 x0 x1 x2 x3 x4 x5 x6 x7 x8 x9 x12 x13 x14 x15 x16 x17 x50 x51 v10 j) =
  pv (lenV x0) fun t1 =>
  pv (binV .none .lss v10 t1) fun t2 =>
  cnd t2 (
   pv (iaV none 1 x8 v10) fun t3 =>
   ld false 1 t3 fun t4 =>
   pv (iaV none 1 x9 v10) fun t5 =>
   ld false 1 t5 fun t6 =>
   pv (mm false t4 t6) fun t7 =>
   pv (iaV none 1 x8 v10) fun t8 =>
   ld false 1 t8 fun t9 =>
   pv (iaV none 1 x9 v10) fun t10 =>
   ld false 1 t10 fun t11 =>
   pv (mm true t9 t11) fun t12 =>
   pv (binV .none .add t12 (.int .i64 1)) fun t13 =>
   pv (iaV none 1 x9 v10) fun t14 =>
   st 1 t14 t13 fun _ =>
   pv (iaV none 1 x8 v10) fun t15 =>
   st 1 t15 t7 fun _ =>
   pv (binV .none .add v10 (.int .i64 1)) fun t16 =>
   k1 (m31_1_1_1_0_1_0_0 x0 x1 x2 x3 x4 x5 x6 x7 x8 x9 x12 x13 x14 x15 x16 x17 x50 x51 t16 (jf #[U, U, U, U, U, U, U, U, U, U, U, t7, U, U, U, U, U, U, v10, x0, t1, t2, v10, t16, x8, v10, t3, t4, x9, v10, t5, t6, t7, x9, v10, x8, v10, t8, t9, x9, v10, t10, t11, t12, t13, t14, x8, v10, t7, t15]))) (
   K (.tuple #[x8, x9])) := by kernel_rfl
end
section
variable {K : Kont} {E : PanK} {k1 k2 k3 k4 k5 : Env → Hp → Prop} {σ : Type} {x0 x1 x2 x3 x4 x5 x6 x7 x8 x9 x10 x11 x12 x13 x14 x15 x16 x17 x18 x19 x20 x21 x22 x23 x24 x25 x26 x27 x28 x29 x30 x31 x32 x33 x34 x35 x36 x37 x38 x39 x40 x41 x42 x43 x44 x45 x46 x47 x48 x49 x50 x51 x52 x53 x54 x55 x56 x57 x58 x59 x60 x61 x62 x63 x64 x65 x66 x67 x68 x69 x70 x71 x72 x73 x74 x75 x76 x77 x78 x79 x80 x81 x82 x83 x84 x85 x86 x87 x88 x89 x90 x91 x92 x93 x94 x95 x96 x97 x98 x99 x100 x101 v0 v1 v2 v3 v4 v5 v6 v7 v8 v9 v10 v11 v12 v13 v14 v15 v16 v17 v18 v19 v20 v21 v22 v23 v24 v25 v26 v27 v28 v29 v30 v31 v32 v33 v34 v35 v36 v37 v38 v39 v40 v41 v42 v43 v44 v45 v46 v47 v48 v49 v50 v51 v52 v53 v54 v55 v56 v57 v58 v59 v60 v61 v62 v63 v64 v65 v66 v67 v68 v69 v70 v71 v72 v73 v74 v75 v76 v77 v78 v79 v80 v81 v82 v83 v84 v85 v86 v87 v88 v89 v90 v91 v92 v93 v94 v95 v96 v97 v98 v99 v100 v101 : Value} {h : Hp} {j : Nat → Value}
theorem l58_1_1_1_0_1_0_0 (f3 f23 : σ → Value) (I : σ → Hp → Prop) (μ : σ → Nat) (s0 : σ) (e3 : v3 = f3 s0) (e23 : v23 = f23 s0) (h0 : h.wf → ∃ h', h.wk h' ∧ I s0 h')
 (round : ∀ (k1 : Env → Hp → Prop) (s : σ) (j : Nat → Value) (h : Hp), I s h → h.wf → (∀ s' j' h', μ s' < μ s → (h'.wf → ∃ h'', h'.wk h'' ∧ I s' h'') → k1 (m58_1_1_1_0_1_0_0 x0 x1 x4 x6 x7 x8 x9 x10 x11 x12 x13 x14 x15 x16 x17 x18 x19 x20 x21 x22 (f3 s') (f23 s') j') h') → d58 [1, 1, 1, 0, 1, 0, 0] (thenD k1 (blk 0 (thenD (d58 [1, 1, 1, 1] (q58 K E)) (q58 K E)))) (m58_1_1_1_0_1_0_0 x0 x1 x4 x6 x7 x8 x9 x10 x11 x12 x13 x14 x15 x16 x17 x18 x19 x20 x21 x22 (f3 s) (f23 s) j) h) :
 lp (fun k1 => d58 [1, 1, 1, 0, 1, 0, 0] (thenD k1 (blk 0 (thenD (d58 [1, 1, 1, 1] (q58 K E)) (q58 K E))))) (m58_1_1_1_0_1_0_0 x0 x1 x4 x6 x7 x8 x9 x10 x11 x12 x13 x14 x15 x16 x17 x18 x19 x20 x21 x22 v3 v23 j) h := by
 subst e3
 subst e23
 exact loop_r (fun s j => m58_1_1_1_0_1_0_0 x0 x1 x4 x6 x7 x8 x9 x10 x11 x12 x13 x14 x15 x16 x17 x18 x19 x20 x21 x22 (f3 s) (f23 s) j) I μ round s0 j h0
theorem l161_1_1_1_1_1_0_1_0_1_1_1_0_0_0 (f1 f13 : σ → Value) (I : σ → Hp → Prop) (μ : σ → Nat) (s0 : σ) (e1 : v1 = f1 s0) (e13 : v13 = f13 s0) (h0 : h.wf → ∃ h', h.wk h' ∧ I s0 h')
 (round : ∀ (k1 : Env → Hp → Prop) (s : σ) (j : Nat → Value) (h : Hp), I s h → h.wf → (∀ s' j' h', μ s' < μ s → (h'.wf → ∃ h'', h'.wk h'' ∧ I s' h'') → k1 (m161_1_1_1_1_1_0_1_0_1_1_1_0_0_0 x0 x2 x3 x4 x5 x6 x7 x8 x9 x10 x11 x12 x14 x15 x16 x17 x18 x19 x20 x21 x22 x23 x24 x25 x26 x27 x28 x29 x30 x31 x32 x33 x34 x35 x36 x37 x38 x39 x40 x41 x42 x43 x58 x59 x60 x61 x62 x63 x64 x65 x66 x67 x68 x69 x70 x71 x72 x73 x74 x75 x76 x77 x78 x79 x80 x81 x82 x83 x84 x85 x86 x87 x88 x89 x90 x91 x92 x93 x94 x95 x96 x97 x98 x99 x100 x101 (f1 s') (f13 s') j') h') → d161 [1, 1, 1, 1, 1, 0, 1, 0, 1, 1, 1, 0, 0, 0] (thenD k1 (blk 0 (thenD (d161 [1, 1, 1, 1, 1, 0, 1, 0, 1, 1, 1, 1] (thenD (d161 [1, 1, 1, 1, 1, 1] (q161 K E)) (q161 K E))) (thenD (d161 [1, 1, 1, 1, 1, 1] (q161 K E)) (q161 K E))))) (m161_1_1_1_1_1_0_1_0_1_1_1_0_0_0 x0 x2 x3 x4 x5 x6 x7 x8 x9 x10 x11 x12 x14 x15 x16 x17 x18 x19 x20 x21 x22 x23 x24 x25 x26 x27 x28 x29 x30 x31 x32 x33 x34 x35 x36 x37 x38 x39 x40 x41 x42 x43 x58 x59 x60 x61 x62 x63 x64 x65 x66 x67 x68 x69 x70 x71 x72 x73 x74 x75 x76 x77 x78 x79 x80 x81 x82 x83 x84 x85 x86 x87 x88 x89 x90 x91 x92 x93 x94 x95 x96 x97 x98 x99 x100 x101 (f1 s) (f13 s) j) h) :
 lp (fun k1 => d161 [1, 1, 1, 1, 1, 0, 1, 0, 1, 1, 1, 0, 0, 0] (thenD k1 (blk 0 (thenD (d161 [1, 1, 1, 1, 1, 0, 1, 0, 1, 1, 1, 1] (thenD (d161 [1, 1, 1, 1, 1, 1] (q161 K E)) (q161 K E))) (thenD (d161 [1, 1, 1, 1, 1, 1] (q161 K E)) (q161 K E)))))) (m161_1_1_1_1_1_0_1_0_1_1_1_0_0_0 x0 x2 x3 x4 x5 x6 x7 x8 x9 x10 x11 x12 x14 x15 x16 x17 x18 x19 x20 x21 x22 x23 x24 x25 x26 x27 x28 x29 x30 x31 x32 x33 x34 x35 x36 x37 x38 x39 x40 x41 x42 x43 x58 x59 x60 x61 x62 x63 x64 x65 x66 x67 x68 x69 x70 x71 x72 x73 x74 x75 x76 x77 x78 x79 x80 x81 x82 x83 x84 x85 x86 x87 x88 x89 x90 x91 x92 x93 x94 x95 x96 x97 x98 x99 x100 x101 v1 v13 j) h := by
 subst e1
 subst e13
 exact loop_r (fun s j => m161_1_1_1_1_1_0_1_0_1_1_1_0_0_0 x0 x2 x3 x4 x5 x6 x7 x8 x9 x10 x11 x12 x14 x15 x16 x17 x18 x19 x20 x21 x22 x23 x24 x25 x26 x27 x28 x29 x30 x31 x32 x33 x34 x35 x36 x37 x38 x39 x40 x41 x42 x43 x58 x59 x60 x61 x62 x63 x64 x65 x66 x67 x68 x69 x70 x71 x72 x73 x74 x75 x76 x77 x78 x79 x80 x81 x82 x83 x84 x85 x86 x87 x88 x89 x90 x91 x92 x93 x94 x95 x96 x97 x98 x99 x100 x101 (f1 s) (f13 s) j) I μ round s0 j h0
theorem l161_1_1_1_1_1_0_1_1_1_0_0_0 (f1 f13 : σ → Value) (I : σ → Hp → Prop) (μ : σ → Nat) (s0 : σ) (e1 : v1 = f1 s0) (e13 : v13 = f13 s0) (h0 : h.wf → ∃ h', h.wk h' ∧ I s0 h')
 (round : ∀ (k1 : Env → Hp → Prop) (s : σ) (j : Nat → Value) (h : Hp), I s h → h.wf → (∀ s' j' h', μ s' < μ s → (h'.wf → ∃ h'', h'.wk h'' ∧ I s' h'') → k1 (m161_1_1_1_1_1_0_1_1_1_0_0_0 x0 x2 x3 x4 x5 x6 x7 x8 x9 x10 x11 x12 x14 x15 x16 x17 x19 x20 x21 x22 x23 x24 x25 x26 x27 x28 x29 x30 x31 x32 x33 x34 x35 x36 x37 x38 x39 x40 x41 x42 x43 x44 x45 x46 x47 x48 x49 x50 x51 x52 x53 x54 x55 x56 x57 x58 x59 x60 x61 x62 x63 x64 x65 x83 x84 x85 x86 x87 x88 x89 x90 x91 x92 x93 x94 x95 x96 x97 x98 x99 x100 x101 (f1 s') (f13 s') j') h') → d161 [1, 1, 1, 1, 1, 0, 1, 1, 1, 0, 0, 0] (thenD k1 (blk 2 (thenD (d161 [1, 1, 1, 1, 1, 0, 1, 1, 1, 1] (thenD (d161 [1, 1, 1, 1, 1, 1] (q161 K E)) (q161 K E))) (thenD (d161 [1, 1, 1, 1, 1, 1] (q161 K E)) (q161 K E))))) (m161_1_1_1_1_1_0_1_1_1_0_0_0 x0 x2 x3 x4 x5 x6 x7 x8 x9 x10 x11 x12 x14 x15 x16 x17 x19 x20 x21 x22 x23 x24 x25 x26 x27 x28 x29 x30 x31 x32 x33 x34 x35 x36 x37 x38 x39 x40 x41 x42 x43 x44 x45 x46 x47 x48 x49 x50 x51 x52 x53 x54 x55 x56 x57 x58 x59 x60 x61 x62 x63 x64 x65 x83 x84 x85 x86 x87 x88 x89 x90 x91 x92 x93 x94 x95 x96 x97 x98 x99 x100 x101 (f1 s) (f13 s) j) h) :
 lp (fun k1 => d161 [1, 1, 1, 1, 1, 0, 1, 1, 1, 0, 0, 0] (thenD k1 (blk 2 (thenD (d161 [1, 1, 1, 1, 1, 0, 1, 1, 1, 1] (thenD (d161 [1, 1, 1, 1, 1, 1] (q161 K E)) (q161 K E))) (thenD (d161 [1, 1, 1, 1, 1, 1] (q161 K E)) (q161 K E)))))) (m161_1_1_1_1_1_0_1_1_1_0_0_0 x0 x2 x3 x4 x5 x6 x7 x8 x9 x10 x11 x12 x14 x15 x16 x17 x19 x20 x21 x22 x23 x24 x25 x26 x27 x28 x29 x30 x31 x32 x33 x34 x35 x36 x37 x38 x39 x40 x41 x42 x43 x44 x45 x46 x47 x48 x49 x50 x51 x52 x53 x54 x55 x56 x57 x58 x59 x60 x61 x62 x63 x64 x65 x83 x84 x85 x86 x87 x88 x89 x90 x91 x92 x93 x94 x95 x96 x97 x98 x99 x100 x101 v1 v13 j) h := by
 subst e1
 subst e13
 exact loop_r (fun s j => m161_1_1_1_1_1_0_1_1_1_0_0_0 x0 x2 x3 x4 x5 x6 x7 x8 x9 x10 x11 x12 x14 x15 x16 x17 x19 x20 x21 x22 x23 x24 x25 x26 x27 x28 x29 x30 x31 x32 x33 x34 x35 x36 x37 x38 x39 x40 x41 x42 x43 x44 x45 x46 x47 x48 x49 x50 x51 x52 x53 x54 x55 x56 x57 x58 x59 x60 x61 x62 x63 x64 x65 x83 x84 x85 x86 x87 x88 x89 x90 x91 x92 x93 x94 x95 x96 x97 x98 x99 x100 x101 (f1 s) (f13 s) j) I μ round s0 j h0
theorem l95_1_1_0_1_0_0 (f17 : σ → Value) (I : σ → Hp → Prop) (μ : σ → Nat) (s0 : σ) (e17 : v17 = f17 s0) (h0 : h.wf → ∃ h', h.wk h' ∧ I s0 h')
 (round : ∀ (k1 : Env → Hp → Prop) (s : σ) (j : Nat → Value) (h : Hp), I s h → h.wf → (∀ s' j' h', μ s' < μ s → (h'.wf → ∃ h'', h'.wk h'' ∧ I s' h'') → k1 (m95_1_1_0_1_0_0 x0 x1 x2 x3 x4 x5 x10 x11 x12 x13 x14 x15 x16 (f17 s') j') h') → d95 [1, 1, 0, 1, 0, 0] (thenD k1 (blk 0 (thenD (d95 [1, 1, 1] (q95 K E)) (q95 K E)))) (m95_1_1_0_1_0_0 x0 x1 x2 x3 x4 x5 x10 x11 x12 x13 x14 x15 x16 (f17 s) j) h) :
 lp (fun k1 => d95 [1, 1, 0, 1, 0, 0] (thenD k1 (blk 0 (thenD (d95 [1, 1, 1] (q95 K E)) (q95 K E))))) (m95_1_1_0_1_0_0 x0 x1 x2 x3 x4 x5 x10 x11 x12 x13 x14 x15 x16 v17 j) h := by
 subst e17
 exact loop_r (fun s j => m95_1_1_0_1_0_0 x0 x1 x2 x3 x4 x5 x10 x11 x12 x13 x14 x15 x16 (f17 s) j) I μ round s0 j h0
theorem l92_1_0_1_0_0 (f8 : σ → Value) (I : σ → Hp → Prop) (μ : σ → Nat) (s0 : σ) (e8 : v8 = f8 s0) (h0 : h.wf → ∃ h', h.wk h' ∧ I s0 h')
 (round : ∀ (k1 : Env → Hp → Prop) (s : σ) (j : Nat → Value) (h : Hp), I s h → h.wf → (∀ s' j' h', μ s' < μ s → (h'.wf → ∃ h'', h'.wk h'' ∧ I s' h'') → k1 (m92_1_0_1_0_0 x0 x1 x2 x3 x6 x7 (f8 s') j') h') → d92 [1, 0, 1, 0, 0] (thenD k1 (blk 0 (thenD (d92 [1, 1] (q92 K E)) (q92 K E)))) (m92_1_0_1_0_0 x0 x1 x2 x3 x6 x7 (f8 s) j) h) :
 lp (fun k1 => d92 [1, 0, 1, 0, 0] (thenD k1 (blk 0 (thenD (d92 [1, 1] (q92 K E)) (q92 K E))))) (m92_1_0_1_0_0 x0 x1 x2 x3 x6 x7 v8 j) h := by
 subst e8
 exact loop_r (fun s j => m92_1_0_1_0_0 x0 x1 x2 x3 x6 x7 (f8 s) j) I μ round s0 j h0
theorem l136_1_0_1_0_0 (f8 : σ → Value) (I : σ → Hp → Prop) (μ : σ → Nat) (s0 : σ) (e8 : v8 = f8 s0) (h0 : h.wf → ∃ h', h.wk h' ∧ I s0 h')
 (round : ∀ (k1 : Env → Hp → Prop) (s : σ) (j : Nat → Value) (h : Hp), I s h → h.wf → (∀ s' j' h', μ s' < μ s → (h'.wf → ∃ h'', h'.wk h'' ∧ I s' h'') → k1 (m136_1_0_1_0_0 x0 x1 x2 x3 x6 x7 (f8 s') j') h') → d136 [1, 0, 1, 0, 0] (thenD k1 (blk 0 (thenD (d136 [1, 1] (q136 K E)) (q136 K E)))) (m136_1_0_1_0_0 x0 x1 x2 x3 x6 x7 (f8 s) j) h) :
 lp (fun k1 => d136 [1, 0, 1, 0, 0] (thenD k1 (blk 0 (thenD (d136 [1, 1] (q136 K E)) (q136 K E))))) (m136_1_0_1_0_0 x0 x1 x2 x3 x6 x7 v8 j) h := by
 subst e8
 exact loop_r (fun s j => m136_1_0_1_0_0 x0 x1 x2 x3 x6 x7 (f8 s) j) I μ round s0 j h0
theorem l36_1_1_0_1_0_0 (f5 f6 : σ → Value) (I : σ → Hp → Prop) (μ : σ → Nat) (s0 : σ) (e5 : v5 = f5 s0) (e6 : v6 = f6 s0) (h0 : h.wf → ∃ h', h.wk h' ∧ I s0 h')
 (round : ∀ (k1 : Env → Hp → Prop) (s : σ) (j : Nat → Value) (h : Hp), I s h → h.wf → (∀ s' j' h', μ s' < μ s → (h'.wf → ∃ h'', h'.wk h'' ∧ I s' h'') → k1 (m36_1_1_0_1_0_0 x0 x1 x2 x3 x4 x33 (f5 s') (f6 s') j') h') → d36 [1, 1, 0, 1, 0, 0] (thenD k1 (blk 0 (thenD (d36 [1, 1, 1] (q36 K E)) (q36 K E)))) (m36_1_1_0_1_0_0 x0 x1 x2 x3 x4 x33 (f5 s) (f6 s) j) h) :
 lp (fun k1 => d36 [1, 1, 0, 1, 0, 0] (thenD k1 (blk 0 (thenD (d36 [1, 1, 1] (q36 K E)) (q36 K E))))) (m36_1_1_0_1_0_0 x0 x1 x2 x3 x4 x33 v5 v6 j) h := by
 subst e5
 subst e6
 exact loop_r (fun s j => m36_1_1_0_1_0_0 x0 x1 x2 x3 x4 x33 (f5 s) (f6 s) j) I μ round s0 j h0
theorem l32_1_1_0_1_0_0 (f7 f8 : σ → Value) (I : σ → Hp → Prop) (μ : σ → Nat) (s0 : σ) (e7 : v7 = f7 s0) (e8 : v8 = f8 s0) (h0 : h.wf → ∃ h', h.wk h' ∧ I s0 h')
 (round : ∀ (k1 : Env → Hp → Prop) (s : σ) (j : Nat → Value) (h : Hp), I s h → h.wf → (∀ s' j' h', μ s' < μ s → (h'.wf → ∃ h'', h'.wk h'' ∧ I s' h'') → k1 (m32_1_1_0_1_0_0 x0 x1 x2 x3 x4 x5 x6 x50 (f7 s') (f8 s') j') h') → d32 [1, 1, 0, 1, 0, 0] (thenD k1 (blk 0 (thenD (d32 [1, 1, 1] (q32 K E)) (q32 K E)))) (m32_1_1_0_1_0_0 x0 x1 x2 x3 x4 x5 x6 x50 (f7 s) (f8 s) j) h) :
 lp (fun k1 => d32 [1, 1, 0, 1, 0, 0] (thenD k1 (blk 0 (thenD (d32 [1, 1, 1] (q32 K E)) (q32 K E))))) (m32_1_1_0_1_0_0 x0 x1 x2 x3 x4 x5 x6 x50 v7 v8 j) h := by
 subst e7
 subst e8
 exact loop_r (fun s j => m32_1_1_0_1_0_0 x0 x1 x2 x3 x4 x5 x6 x50 (f7 s) (f8 s) j) I μ round s0 j h0
theorem l12_1_1_0_1_0_0 (f3 f4 : σ → Value) (I : σ → Hp → Prop) (μ : σ → Nat) (s0 : σ) (e3 : v3 = f3 s0) (e4 : v4 = f4 s0) (h0 : h.wf → ∃ h', h.wk h' ∧ I s0 h')
 (round : ∀ (k1 : Env → Hp → Prop) (s : σ) (j : Nat → Value) (h : Hp), I s h → h.wf → (∀ s' j' h', μ s' < μ s → (h'.wf → ∃ h'', h'.wk h'' ∧ I s' h'') → k1 (m12_1_1_0_1_0_0 x0 x1 x2 x64 x65 x66 x67 x68 x69 x70 x71 x72 (f3 s') (f4 s') j') h') → d12 [1, 1, 0, 1, 0, 0] (thenD k1 (blk 0 (thenD (d12 [1, 1, 1] (q12 K E)) (q12 K E)))) (m12_1_1_0_1_0_0 x0 x1 x2 x64 x65 x66 x67 x68 x69 x70 x71 x72 (f3 s) (f4 s) j) h) :
 lp (fun k1 => d12 [1, 1, 0, 1, 0, 0] (thenD k1 (blk 0 (thenD (d12 [1, 1, 1] (q12 K E)) (q12 K E))))) (m12_1_1_0_1_0_0 x0 x1 x2 x64 x65 x66 x67 x68 x69 x70 x71 x72 v3 v4 j) h := by
 subst e3
 subst e4
 exact loop_r (fun s j => m12_1_1_0_1_0_0 x0 x1 x2 x64 x65 x66 x67 x68 x69 x70 x71 x72 (f3 s) (f4 s) j) I μ round s0 j h0
theorem l12_1_1_0_1_0_0_1_0_0_1_1_0_1_0_0 (f6 f7 : σ → Value) (I : σ → Hp → Prop) (μ : σ → Nat) (s0 : σ) (e6 : v6 = f6 s0) (e7 : v7 = f7 s0) (h0 : h.wf → ∃ h', h.wk h' ∧ I s0 h')
 (round : ∀ (k2 : Env → Hp → Prop) (s : σ) (j : Nat → Value) (h : Hp), I s h → h.wf → (∀ s' j' h', μ s' < μ s → (h'.wf → ∃ h'', h'.wk h'' ∧ I s' h'') → k2 (m12_1_1_0_1_0_0_1_0_0_1_1_0_1_0_0 x0 x1 x2 x3 x4 x5 x8 x9 x10 x11 x12 x13 x14 x15 x16 x17 x18 x19 x20 x21 x22 x23 x24 x25 x26 x60 x61 x62 x63 x64 x65 x66 x67 x68 x69 x70 x71 x72 (f6 s') (f7 s') j') h') → d12 [1, 1, 0, 1, 0, 0, 1, 0, 0, 1, 1, 0, 1, 0, 0] (thenD k2 (blk 2 (thenD (d12 [1, 1, 0, 1, 0, 0, 1, 0, 0, 1, 1, 1] (blk 1 (thenD (d12 [1, 1, 0, 1, 0, 0, 1, 1] (thenD k1 (blk 0 (thenD (d12 [1, 1, 1] (q12 K E)) (q12 K E))))) (thenD k1 (blk 0 (thenD (d12 [1, 1, 1] (q12 K E)) (q12 K E))))))) (blk 1 (thenD (d12 [1, 1, 0, 1, 0, 0, 1, 1] (thenD k1 (blk 0 (thenD (d12 [1, 1, 1] (q12 K E)) (q12 K E))))) (thenD k1 (blk 0 (thenD (d12 [1, 1, 1] (q12 K E)) (q12 K E))))))))) (m12_1_1_0_1_0_0_1_0_0_1_1_0_1_0_0 x0 x1 x2 x3 x4 x5 x8 x9 x10 x11 x12 x13 x14 x15 x16 x17 x18 x19 x20 x21 x22 x23 x24 x25 x26 x60 x61 x62 x63 x64 x65 x66 x67 x68 x69 x70 x71 x72 (f6 s) (f7 s) j) h) :
 lp (fun k2 => d12 [1, 1, 0, 1, 0, 0, 1, 0, 0, 1, 1, 0, 1, 0, 0] (thenD k2 (blk 2 (thenD (d12 [1, 1, 0, 1, 0, 0, 1, 0, 0, 1, 1, 1] (blk 1 (thenD (d12 [1, 1, 0, 1, 0, 0, 1, 1] (thenD k1 (blk 0 (thenD (d12 [1, 1, 1] (q12 K E)) (q12 K E))))) (thenD k1 (blk 0 (thenD (d12 [1, 1, 1] (q12 K E)) (q12 K E))))))) (blk 1 (thenD (d12 [1, 1, 0, 1, 0, 0, 1, 1] (thenD k1 (blk 0 (thenD (d12 [1, 1, 1] (q12 K E)) (q12 K E))))) (thenD k1 (blk 0 (thenD (d12 [1, 1, 1] (q12 K E)) (q12 K E)))))))))) (m12_1_1_0_1_0_0_1_0_0_1_1_0_1_0_0 x0 x1 x2 x3 x4 x5 x8 x9 x10 x11 x12 x13 x14 x15 x16 x17 x18 x19 x20 x21 x22 x23 x24 x25 x26 x60 x61 x62 x63 x64 x65 x66 x67 x68 x69 x70 x71 x72 v6 v7 j) h := by
 subst e6
 subst e7
 exact loop_r (fun s j => m12_1_1_0_1_0_0_1_0_0_1_1_0_1_0_0 x0 x1 x2 x3 x4 x5 x8 x9 x10 x11 x12 x13 x14 x15 x16 x17 x18 x19 x20 x21 x22 x23 x24 x25 x26 x60 x61 x62 x63 x64 x65 x66 x67 x68 x69 x70 x71 x72 (f6 s) (f7 s) j) I μ round s0 j h0
theorem l16_1_1_0_1_0_0 (f7 f8 : σ → Value) (I : σ → Hp → Prop) (μ : σ → Nat) (s0 : σ) (e7 : v7 = f7 s0) (e8 : v8 = f8 s0) (h0 : h.wf → ∃ h', h.wk h' ∧ I s0 h')
 (round : ∀ (k1 : Env → Hp → Prop) (s : σ) (j : Nat → Value) (h : Hp), I s h → h.wf → (∀ s' j' h', μ s' < μ s → (h'.wf → ∃ h'', h'.wk h'' ∧ I s' h'') → k1 (m16_1_1_0_1_0_0 x0 x1 x2 x3 x4 x5 x6 x42 (f7 s') (f8 s') j') h') → d16 [1, 1, 0, 1, 0, 0] (thenD k1 (blk 0 (thenD (d16 [1, 1, 1] (q16 K E)) (q16 K E)))) (m16_1_1_0_1_0_0 x0 x1 x2 x3 x4 x5 x6 x42 (f7 s) (f8 s) j) h) :
 lp (fun k1 => d16 [1, 1, 0, 1, 0, 0] (thenD k1 (blk 0 (thenD (d16 [1, 1, 1] (q16 K E)) (q16 K E))))) (m16_1_1_0_1_0_0 x0 x1 x2 x3 x4 x5 x6 x42 v7 v8 j) h := by
 subst e7
 subst e8
 exact loop_r (fun s j => m16_1_1_0_1_0_0 x0 x1 x2 x3 x4 x5 x6 x42 (f7 s) (f8 s) j) I μ round s0 j h0
theorem l31_1_1_1_0_1_0_0 (f10 : σ → Value) (I : σ → Hp → Prop) (μ : σ → Nat) (s0 : σ) (e10 : v10 = f10 s0) (h0 : h.wf → ∃ h', h.wk h' ∧ I s0 h')
 (round : ∀ (k1 : Env → Hp → Prop) (s : σ) (j : Nat → Value) (h : Hp), I s h → h.wf → (∀ s' j' h', μ s' < μ s → (h'.wf → ∃ h'', h'.wk h'' ∧ I s' h'') → k1 (m31_1_1_1_0_1_0_0 x0 x1 x2 x3 x4 x5 x6 x7 x8 x9 x12 x13 x14 x15 x16 x17 x50 x51 (f10 s') j') h') → d31 [1, 1, 1, 0, 1, 0, 0] (thenD k1 (blk 0 (thenD (d31 [1, 1, 1, 1] (q31 K E)) (q31 K E)))) (m31_1_1_1_0_1_0_0 x0 x1 x2 x3 x4 x5 x6 x7 x8 x9 x12 x13 x14 x15 x16 x17 x50 x51 (f10 s) j) h) :
 lp (fun k1 => d31 [1, 1, 1, 0, 1, 0, 0] (thenD k1 (blk 0 (thenD (d31 [1, 1, 1, 1] (q31 K E)) (q31 K E))))) (m31_1_1_1_0_1_0_0 x0 x1 x2 x3 x4 x5 x6 x7 x8 x9 x12 x13 x14 x15 x16 x17 x50 x51 v10 j) h := by
 subst e10
 exact loop_r (fun s j => m31_1_1_1_0_1_0_0 x0 x1 x2 x3 x4 x5 x6 x7 x8 x9 x12 x13 x14 x15 x16 x17 x50 x51 (f10 s) j) I μ round s0 j h0
end
end Go.Proofs.YtgjdjdjhoipfmaaGreatDoor.T
open Go Go.RowKit Go.Proofs.YtgjdjdjhoipfmaaGreatDoor.K
set_option linter.unusedVariables false
set_option maxRecDepth 100000
namespace Go.Proofs.YtgjdjdjhoipfmaaGreatDoor.T
section
variable (K : Kont) (E : PanK) (k1 k2 k3 k4 k5 : Env → Hp → Prop) (x0 x1 x2 x3 x4 x5 x6 x7 x8 x9 x10 x11 x12 x13 x14 x15 x16 x17 x18 x19 x20 x21 x22 x23 x24 x25 x26 x27 x28 x29 x30 x31 x32 x33 x34 x35 x36 x37 x38 x39 x40 x41 x42 x43 x44 x45 x46 x47 x48 x49 x50 x51 x52 x53 x54 x55 x56 x57 x58 x59 x60 x61 x62 x63 x64 x65 x66 x67 x68 x69 x70 x71 x72 x73 x74 x75 x76 v0 v1 v2 v3 v4 v5 v6 v7 v8 v9 v10 v11 v12 v13 v14 v15 v16 v17 v18 v19 v20 v21 v22 v23 v24 v25 v26 v27 v28 v29 v30 v31 v32 v33 v34 v35 v36 v37 v38 v39 v40 v41 v42 v43 v44 v45 v46 v47 v48 v49 v50 v51 v52 v53 v54 v55 v56 v57 v58 v59 v60 v61 v62 v63 v64 v65 v66 v67 v68 v69 v70 v71 v72 v73 v74 v75 v76 : Value) (j : Nat → Value)
abbrev q14 : QD := bodyQ Tryz.prog Tryz.f14.results.toList K E
abbrev d14 (p : List Nat) : QD → Env → Hp → Prop := den Tryz.prog (sel (bodyOf Tryz.f14) p)
theorem t14 : d14 [] (q14 K E) #[x0, x1, x2, x3, U, U, U, U, U, U, U, U, U, U, U, U, U, U, U, U, U, U, U, U] =
  nw 36 [(.slice none 0 0), (.slice none 0 0), (.slice none 0 0)] fun t1 =>
  callv Tryz.prog (.func (.func 31) #[] #[]) #[x0, x2, x3] (fun t2 =>
  pv (exV 0 t2) fun t3 =>
  pv (exV 1 t2) fun t4 =>
  callv Tryz.prog (.func (.func 32) #[] #[]) #[x0, x1, (.slice none 0 0)] (fun t5 =>
  pv (bdC #[(.slice none 0 0), (.slice none 0 0), (.slice none 0 0)] [(0, 1), (1, 1), (2, 1)] #[(0, t5), (1, t3), (2, t4)]) fun t6 =>
  st 3 t1 t6 fun _ =>
  ld true 3 t1 fun t7 =>
  K t7) E) E := by kernel_rfl
abbrev q120 : QD := bodyQ Tryz.prog Tryz.f120.results.toList K E
abbrev d120 (p : List Nat) : QD → Env → Hp → Prop := den Tryz.prog (sel (bodyOf Tryz.f120) p)
abbrev q90 : QD := bodyQ Tryz.prog Tryz.f90.results.toList K E
abbrev d90 (p : List Nat) : QD → Env → Hp → Prop := den Tryz.prog (sel (bodyOf Tryz.f90) p)
abbrev q115 : QD := bodyQ Tryz.prog Tryz.f115.results.toList K E
abbrev d115 (p : List Nat) : QD → Env → Hp → Prop := den Tryz.prog (sel (bodyOf Tryz.f115) p)
abbrev q117 : QD := bodyQ Tryz.prog Tryz.f117.results.toList K E
abbrev d117 (p : List Nat) : QD → Env → Hp → Prop := den Tryz.prog (sel (bodyOf Tryz.f117) p)
abbrev q39 : QD := bodyQ Tryz.prog Tryz.f39.results.toList K E
abbrev d39 (p : List Nat) : QD → Env → Hp → Prop := den Tryz.prog (sel (bodyOf Tryz.f39) p)
def m39_1_0_1_0_0 (j : Nat → Value) : Env := #[x0, x1, x2, x3, (j 4), v5, (j 6), (j 7), (j 8), (j 9), (j 10), (j 11), (j 12), (j 13), (j 14), (j 15), (j 16), (j 17), (j 18), (j 19), (j 20), (j 21), (j 22), (j 23), (j 24), (j 25), (j 26), (j 27), (j 28), (j 29), (j 30), (j 31), (j 32), (j 33), (j 34), (j 35), x36, x37, x38, x39, x40, x41, x42, x43, x44, x45]
theorem t39 : d39 [] (q39 K E) #[x0, x1, U, U, U, U, U, U, U, U, U, U, U, U, U, U, U, U, U, U, U, U, U, U, U, U, U, U, U, U, U, U, U, U, U, U, U, U, U, U, U, U, U, U, U, U] =
  lp (fun k1 => d39 [1, 0, 1, 0, 0] (thenD k1 (blk 0 (thenD (d39 [1, 1] (q39 K E)) (q39 K E))))) (m39_1_0_1_0_0 x0 x1 U U U U U U U U U U U U (.int .i64 0) (jf #[U, U, U, U, (.int .i64 0)])) := by kernel_rfl
theorem t39_1_0_1_0_0 : d39 [1, 0, 1, 0, 0] (thenD k1 (blk 0 (thenD (d39 [1, 1] (q39 K E)) (q39 K E)))) (m39_1_0_1_0_0 x0 x1 x2 x3 x36 x37 x38 x39 x40 x41 x42 x43 x44 x45 v5 j) =
  pv (lenV x0) fun t1 =>
  pv (binV .none .lss v5 t1) fun t2 =>
  gdK t2 true (fun k => k v5) fun t3 =>
  gdK t2 true (fun k => k x1) fun t4 =>
  gdK t2 true (fun k => pv (lenV t4) k) fun t5 =>
  gdK t2 true (fun k => pv (binV .none .lss t3 t5) k) fun t6 =>
  pv (pickV t2 t6 (.bool false)) fun t7 =>
  cnd t7 (
   pv (iaV none 1 x0 v5) fun t8 =>
   ld false 1 t8 fun t9 =>
   pv (iaV none 1 x1 v5) fun t10 =>
   ld false 1 t10 fun t11 =>
   pv (binV .none .lss t9 t11) fun t12 =>
   cnd t12 (
    K (.int .i64 (-1))) (
    pv (iaV none 1 x0 v5) fun t13 =>
    ld false 1 t13 fun t14 =>
    pv (iaV none 1 x1 v5) fun t15 =>
    ld false 1 t15 fun t16 =>
    pv (binV .none .gtr t14 t16) fun t17 =>
    cnd t17 (
     K (.int .i64 1)) (
     pv (binV .none .add v5 (.int .i64 1)) fun t18 =>
     k1 (m39_1_0_1_0_0 x0 x1 x2 x3 x36 x37 x38 x39 x40 x41 x42 x43 x44 x45 t18 (jf #[U, U, U, U, (j 4), U, v5, x0, t1, t2, t2, t3, t4, t5, t6, t7, v5, t18, x0, v5, t8, t9, x1, v5, t10, t11, t12, x0, v5, t13, t14, x1, v5, t15, t16, t17]))))) (
   pv (lenV x0) fun t19 =>
   pv (lenV x1) fun t20 =>
   pv (binV .none .lss t19 t20) fun t21 =>
   cnd t21 (
    K (.int .i64 (-1))) (
    pv (lenV x0) fun t22 =>
    pv (lenV x1) fun t23 =>
    pv (binV .none .gtr t22 t23) fun t24 =>
    cnd t24 (
     K (.int .i64 1)) (
     K (.int .i64 0)))) := by kernel_rfl
abbrev q113 : QD := bodyQ Tryz.prog Tryz.f113.results.toList K E
abbrev d113 (p : List Nat) : QD → Env → Hp → Prop := den Tryz.prog (sel (bodyOf Tryz.f113) p)
abbrev q43 : QD := bodyQ Tryz.prog Tryz.f43.results.toList K E
abbrev d43 (p : List Nat) : QD → Env → Hp → Prop := den Tryz.prog (sel (bodyOf Tryz.f43) p)
def m43_1_0_1_0_0 (j : Nat → Value) : Env := #[x0, x1, (j 2), v3, (j 4), (j 5), (j 6), (j 7), (j 8), (j 9), (j 10), (j 11), (j 12), (j 13), (j 14), (j 15), x16, x17, x18, x19, x20, x21, x22, x23]
theorem t43 : d43 [] (q43 K E) #[x0, U, U, U, U, U, U, U, U, U, U, U, U, U, U, U, U, U, U, U, U, U, U, U] =
  lp (fun k1 => d43 [1, 0, 1, 0, 0] (thenD k1 (blk 0 (thenD (d43 [1, 1] (q43 K E)) (q43 K E))))) (m43_1_0_1_0_0 x0 U U U U U U U U U (.int .i64 0) (jf #[U, U, (.bool false)])) := by kernel_rfl
theorem t43_1_0_1_0_0 : d43 [1, 0, 1, 0, 0] (thenD k1 (blk 0 (thenD (d43 [1, 1] (q43 K E)) (q43 K E)))) (m43_1_0_1_0_0 x0 x1 x16 x17 x18 x19 x20 x21 x22 x23 v3 j) =
  pv (lenV x0) fun t1 =>
  pv (binV .none .lss v3 t1) fun t2 =>
  cnd t2 (
   pv (iaV none 2 x0 v3) fun t3 =>
   ld true 2 t3 fun t4 =>
   callv Tryz.prog (.func (.func 81) #[] #[]) #[t4] (fun t5 =>
   pv (unV .not t5) fun t6 =>
   cnd t6 (
    K (.bool false)) (
    pv (binV .none .add v3 (.int .i64 1)) fun t7 =>
    k1 (m43_1_0_1_0_0 x0 x1 x16 x17 x18 x19 x20 x21 x22 x23 t7 (jf #[U, U, (j 2), U, v3, x0, t1, t2, v3, t7, x0, v3, t3, t4, t5, t6])))) E) (
   pv (lenV x0) fun t8 =>
   pv (binV .none .geq t8 (.int .i64 1)) fun t9 =>
   gdK t9 true (fun k => k x0) fun t10 =>
   gdK t9 true (fun k => pv (lenV t10) k) fun t11 =>
   gdK t9 true (fun k => pv (binV .none .leq t11 (.int .i64 4)) k) fun t12 =>
   pv (pickV t9 t12 (.bool false)) fun t13 =>
   K t13) := by kernel_rfl
abbrev q134 : QD := bodyQ Tryz.prog Tryz.f134.results.toList K E
abbrev d134 (p : List Nat) : QD → Env → Hp → Prop := den Tryz.prog (sel (bodyOf Tryz.f134) p)
abbrev q81 : QD := bodyQ Tryz.prog Tryz.f81.results.toList K E
abbrev d81 (p : List Nat) : QD → Env → Hp → Prop := den Tryz.prog (sel (bodyOf Tryz.f81) p)
def m81_1_0_1_0_0 (j : Nat → Value) : Env := #[x0, x1, (j 2), v3, (j 4), (j 5), (j 6), (j 7), (j 8), (j 9), (j 10), (j 11), (j 12), (j 13), (j 14), (j 15), (j 16), (j 17), (j 18), (j 19), (j 20), (j 21), (j 22), (j 23), (j 24), (j 25), (j 26), (j 27), (j 28), (j 29), (j 30), (j 31), (j 32), (j 33), (j 34), (j 35), (j 36), (j 37), (j 38), (j 39), (j 40), (j 41), (j 42), (j 43), (j 44), (j 45), (j 46), (j 47), (j 48), (j 49), (j 50), (j 51), (j 52), (j 53), (j 54), (j 55), (j 56), (j 57), x58, x59, x60, x61, x62, x63, x64, x65, x66, x67, x68, x69, x70, x71]
theorem t81 : d81 [] (q81 K E) #[x0, U, U, U, U, U, U, U, U, U, U, U, U, U, U, U, U, U, U, U, U, U, U, U, U, U, U, U, U, U, U, U, U, U, U, U, U, U, U, U, U, U, U, U, U, U, U, U, U, U, U, U, U, U, U, U, U, U, U, U, U, U, U, U, U, U, U, U, U, U, U, U] =
  nw 74 (Value.cells x0).toList fun t1 =>
  lp (fun k1 => d81 [1, 0, 1, 0, 0] (thenD k1 (blk 0 (thenD (d81 [1, 1] (q81 K E)) (q81 K E))))) (m81_1_0_1_0_0 x0 t1 U U U U U U U U U U U U U U (.int .i64 0) (jf #[U, U, (.bool false)])) := by kernel_rfl
theorem t81_1_0_1_0_0 : d81 [1, 0, 1, 0, 0] (thenD k1 (blk 0 (thenD (d81 [1, 1] (q81 K E)) (q81 K E)))) (m81_1_0_1_0_0 x0 x1 x58 x59 x60 x61 x62 x63 x64 x65 x66 x67 x68 x69 x70 x71 v3 j) =
  pv (faV 1 x1) fun t1 =>
  ld false 1 t1 fun t2 =>
  pv (lenV t2) fun t3 =>
  pv (binV .none .lss v3 t3) fun t4 =>
  cnd t4 (
   pv (faV 1 x1) fun t5 =>
   ld false 1 t5 fun t6 =>
   pv (iaV none 1 t6 v3) fun t7 =>
   ld false 1 t7 fun t8 =>
   pv (binV .none .lss t8 (.int .i64 2)) fun t9 =>
   gdK t9 false (fun k => pv (faV 1 x1) k) fun t10 =>
   gdK t9 false (fun k => ld false 1 t10 k) fun t11 =>
   gdK t9 false (fun k => k v3) fun t12 =>
   gdK t9 false (fun k => pv (iaV none 1 t11 t12) k) fun t13 =>
   gdK t9 false (fun k => ld false 1 t13 k) fun t14 =>
   gdK t9 false (fun k => pv (binV .none .gtr t14 (.int .i64 10000)) k) fun t15 =>
   pv (pickV t9 (.bool true) t15) fun t16 =>
   gdK t16 false (fun k => k v3) fun t17 =>
   gdK t16 false (fun k => pv (binV .none .gtr t17 (.int .i64 0)) k) fun t18 =>
   gdK t16 false (fun k => k t18) fun t19 =>
   gdK t19 true (fun k => pv (faV 1 x1) k) fun t20 =>
   gdK t19 true (fun k => ld false 1 t20 k) fun t21 =>
   gdK t19 true (fun k => k v3) fun t22 =>
   gdK t19 true (fun k => pv (iaV none 1 t21 t22) k) fun t23 =>
   gdK t19 true (fun k => ld false 1 t23 k) fun t24 =>
   gdK t19 true (fun k => pv (faV 1 x1) k) fun t25 =>
   gdK t19 true (fun k => ld false 1 t25 k) fun t26 =>
   gdK t19 true (fun k => k v3) fun t27 =>
   gdK t19 true (fun k => pv (binV .none .sub t27 (.int .i64 1)) k) fun t28 =>
   gdK t19 true (fun k => pv (iaV none 1 t26 t28) k) fun t29 =>
   gdK t19 true (fun k => ld false 1 t29 k) fun t30 =>
   gdK t19 true (fun k => pv (binV .none .leq t24 t30) k) fun t31 =>
   gdK t19 true (fun k => k t31) fun t32 =>
   gdK t32 false (fun k => pv (faV 1 x1) k) fun t33 =>
   gdK t32 false (fun k => ld false 1 t33 k) fun t34 =>
   gdK t32 false (fun k => k v3) fun t35 =>
   gdK t32 false (fun k => pv (iaV none 1 t34 t35) k) fun t36 =>
   gdK t32 false (fun k => ld false 1 t36 k) fun t37 =>
   gdK t32 false (fun k => pv (faV 1 x1) k) fun t38 =>
   gdK t32 false (fun k => ld false 1 t38 k) fun t39 =>
   gdK t32 false (fun k => k v3) fun t40 =>
   gdK t32 false (fun k => pv (binV .none .sub t40 (.int .i64 1)) k) fun t41 =>
   gdK t32 false (fun k => pv (iaV none 1 t39 t41) k) fun t42 =>
   gdK t32 false (fun k => ld false 1 t42 k) fun t43 =>
   gdK t32 false (fun k => pv (binV .none .rem t37 t43) k) fun t44 =>
   gdK t32 false (fun k => pv (binV .none .neq t44 (.int .i64 0)) k) fun t45 =>
   gdK t19 true (fun k => pv (pickV t32 (.bool true) t45) k) fun t46 =>
   gdK t16 false (fun k => pv (pickV t19 t46 (.bool false)) k) fun t47 =>
   pv (pickV t16 (.bool true) t47) fun t48 =>
   cnd t48 (
    K (.bool false)) (
    pv (binV .none .add v3 (.int .i64 1)) fun t49 =>
    k1 (m81_1_0_1_0_0 x0 x1 x58 x59 x60 x61 x62 x63 x64 x65 x66 x67 x68 x69 x70 x71 t49 (jf #[U, U, (j 2), U, v3, t1, t2, t3, t4, v3, t49, t5, t6, v3, t7, t8, t9, t9, t10, t11, t12, t13, t14, t15, t16, t16, t17, t18, t19, t20, t21, t22, t23, t24, t25, t26, t27, t28, t29, t30, t31, t32, t33, t34, t35, t36, t37, t38, t39, t40, t41, t42, t43, t44, t45, t46, t47, t48])))) (
   pv (faV 0 x1) fun t50 =>
   ld false 1 t50 fun t51 =>
   pv (binV .none .geq t51 (.int .i64 1)) fun t52 =>
   gdK t52 true (fun k => pv (faV 0 x1) k) fun t53 =>
   gdK t52 true (fun k => ld false 1 t53 k) fun t54 =>
   gdK t52 true (fun k => pv (binV .none .leq t54 (.int .i64 10000)) k) fun t55 =>
   pv (pickV t52 t55 (.bool false)) fun t56 =>
   gdK t56 true (fun k => pv (faV 1 x1) k) fun t57 =>
   gdK t56 true (fun k => ld false 1 t57 k) fun t58 =>
   gdK t56 true (fun k => pv (lenV t58) k) fun t59 =>
   gdK t56 true (fun k => pv (binV .none .leq t59 (.int .i64 4)) k) fun t60 =>
   pv (pickV t56 t60 (.bool false)) fun t61 =>
   K t61) := by kernel_rfl
abbrev q89 : QD := bodyQ Tryz.prog Tryz.f89.results.toList K E
abbrev d89 (p : List Nat) : QD → Env → Hp → Prop := den Tryz.prog (sel (bodyOf Tryz.f89) p)
abbrev q49 : QD := bodyQ Tryz.prog Tryz.f49.results.toList K E
abbrev d49 (p : List Nat) : QD → Env → Hp → Prop := den Tryz.prog (sel (bodyOf Tryz.f49) p)
abbrev q87 : QD := bodyQ Tryz.prog Tryz.f87.results.toList K E
abbrev d87 (p : List Nat) : QD → Env → Hp → Prop := den Tryz.prog (sel (bodyOf Tryz.f87) p)
abbrev q18 : QD := bodyQ Tryz.prog Tryz.f18.results.toList K E
abbrev d18 (p : List Nat) : QD → Env → Hp → Prop := den Tryz.prog (sel (bodyOf Tryz.f18) p)
def m18_1_1_0_1_0_0 (j : Nat → Value) : Env := #[x0, x1, x2, x3, (j 4), v5, x6, x7, x8, x9, x10, (j 11), (j 12), (j 13), (j 14), (j 15), (j 16), (j 17), (j 18), (j 19), (j 20), (j 21), (j 22), (j 23), (j 24), (j 25), (j 26), (j 27), (j 28), (j 29), (j 30), (j 31), (j 32), (j 33), (j 34), (j 35), (j 36), (j 37), (j 38), (j 39), (j 40), (j 41)]
theorem t18 : d18 [] (q18 K E) #[x0, x1, U, U, U, U, U, U, U, U, U, U, U, U, U, U, U, U, U, U, U, U, U, U, U, U, U, U, U, U, U, U, U, U, U, U, U, U, U, U, U, U] =
  pv (lenV x0) fun t1 =>
  pv (lenV x1) fun t2 =>
  pv (binV .none .neq t1 t2) fun t3 =>
  cnd t3 (
   K (.bool false)) (
   lp (fun k1 => d18 [1, 1, 0, 1, 0, 0] (thenD k1 (blk 0 (thenD (d18 [1, 1, 1] (q18 K E)) (q18 K E))))) (m18_1_1_0_1_0_0 x0 x1 U U x0 t1 x1 t2 t3 (.int .i64 0) (jf #[U, U, U, U, (.bool false)]))) := by kernel_rfl
theorem t18_1_1_0_1_0_0 : d18 [1, 1, 0, 1, 0, 0] (thenD k1 (blk 0 (thenD (d18 [1, 1, 1] (q18 K E)) (q18 K E)))) (m18_1_1_0_1_0_0 x0 x1 x2 x3 x6 x7 x8 x9 x10 v5 j) =
  pv (lenV x0) fun t1 =>
  pv (binV .none .lss v5 t1) fun t2 =>
  cnd t2 (
   pv (iaV none 5 x0 v5) fun t3 =>
   pv (faV 0 t3) fun t4 =>
   ld false 1 t4 fun t5 =>
   pv (iaV none 5 x1 v5) fun t6 =>
   pv (faV 0 t6) fun t7 =>
   ld false 1 t7 fun t8 =>
   callv Tryz.prog (.func (.func 39) #[] #[]) #[t5, t8] (fun t9 =>
   pv (binV .none .neq t9 (.int .i64 0)) fun t10 =>
   gdK t10 false (fun k => k x0) fun t11 =>
   gdK t10 false (fun k => k v5) fun t12 =>
   gdK t10 false (fun k => pv (iaV none 5 t11 t12) k) fun t13 =>
   gdK t10 false (fun k => pv (faV 1 t13) k) fun t14 =>
   gdK t10 false (fun k => ld true 4 t14 k) fun t15 =>
   gdK t10 false (fun k => k x1) fun t16 =>
   gdK t10 false (fun k => k v5) fun t17 =>
   gdK t10 false (fun k => pv (iaV none 5 t16 t17) k) fun t18 =>
   gdK t10 false (fun k => pv (faV 1 t18) k) fun t19 =>
   gdK t10 false (fun k => ld true 4 t19 k) fun t20 =>
   gdK t10 false (fun k => pv (eqCells .neq [0, 0, 0, 0] t15 t20) k) fun t21 =>
   pv (pickV t10 (.bool true) t21) fun t22 =>
   cnd t22 (
    K (.bool false)) (
    pv (binV .none .add v5 (.int .i64 1)) fun t23 =>
    k1 (m18_1_1_0_1_0_0 x0 x1 x2 x3 x6 x7 x8 x9 x10 t23 (jf #[U, U, U, U, (j 4), U, U, U, U, U, U, v5, x0, t1, t2, v5, t23, x0, v5, t3, t4, t5, x1, v5, t6, t7, t8, t9, t10, t10, t11, t12, t13, t14, t15, t16, t17, t18, t19, t20, t21, t22])))) E) (
   K (.bool true)) := by kernel_rfl
abbrev q86 : QD := bodyQ Tryz.prog Tryz.f86.results.toList K E
abbrev d86 (p : List Nat) : QD → Env → Hp → Prop := den Tryz.prog (sel (bodyOf Tryz.f86) p)
abbrev q119 : QD := bodyQ Tryz.prog Tryz.f119.results.toList K E
abbrev d119 (p : List Nat) : QD → Env → Hp → Prop := den Tryz.prog (sel (bodyOf Tryz.f119) p)
abbrev q116 : QD := bodyQ Tryz.prog Tryz.f116.results.toList K E
abbrev d116 (p : List Nat) : QD → Env → Hp → Prop := den Tryz.prog (sel (bodyOf Tryz.f116) p)
abbrev q88 : QD := bodyQ Tryz.prog Tryz.f88.results.toList K E
abbrev d88 (p : List Nat) : QD → Env → Hp → Prop := den Tryz.prog (sel (bodyOf Tryz.f88) p)
abbrev q114 : QD := bodyQ Tryz.prog Tryz.f114.results.toList K E
abbrev d114 (p : List Nat) : QD → Env → Hp → Prop := den Tryz.prog (sel (bodyOf Tryz.f114) p)
abbrev q118 : QD := bodyQ Tryz.prog Tryz.f118.results.toList K E
abbrev d118 (p : List Nat) : QD → Env → Hp → Prop := den Tryz.prog (sel (bodyOf Tryz.f118) p)
end
section
variable {K : Kont} {E : PanK} {k1 k2 k3 k4 k5 : Env → Hp → Prop} {σ : Type} {x0 x1 x2 x3 x4 x5 x6 x7 x8 x9 x10 x11 x12 x13 x14 x15 x16 x17 x18 x19 x20 x21 x22 x23 x24 x25 x26 x27 x28 x29 x30 x31 x32 x33 x34 x35 x36 x37 x38 x39 x40 x41 x42 x43 x44 x45 x46 x47 x48 x49 x50 x51 x52 x53 x54 x55 x56 x57 x58 x59 x60 x61 x62 x63 x64 x65 x66 x67 x68 x69 x70 x71 x72 x73 x74 x75 x76 v0 v1 v2 v3 v4 v5 v6 v7 v8 v9 v10 v11 v12 v13 v14 v15 v16 v17 v18 v19 v20 v21 v22 v23 v24 v25 v26 v27 v28 v29 v30 v31 v32 v33 v34 v35 v36 v37 v38 v39 v40 v41 v42 v43 v44 v45 v46 v47 v48 v49 v50 v51 v52 v53 v54 v55 v56 v57 v58 v59 v60 v61 v62 v63 v64 v65 v66 v67 v68 v69 v70 v71 v72 v73 v74 v75 v76 : Value} {h : Hp} {j : Nat → Value}
theorem l39_1_0_1_0_0 (f5 : σ → Value) (I : σ → Hp → Prop) (μ : σ → Nat) (s0 : σ) (e5 : v5 = f5 s0) (h0 : h.wf → ∃ h', h.wk h' ∧ I s0 h')
 (round : ∀ (k1 : Env → Hp → Prop) (s : σ) (j : Nat → Value) (h : Hp), I s h → h.wf → (∀ s' j' h', μ s' < μ s → (h'.wf → ∃ h'', h'.wk h'' ∧ I s' h'') → k1 (m39_1_0_1_0_0 x0 x1 x2 x3 x36 x37 x38 x39 x40 x41 x42 x43 x44 x45 (f5 s') j') h') → d39 [1, 0, 1, 0, 0] (thenD k1 (blk 0 (thenD (d39 [1, 1] (q39 K E)) (q39 K E)))) (m39_1_0_1_0_0 x0 x1 x2 x3 x36 x37 x38 x39 x40 x41 x42 x43 x44 x45 (f5 s) j) h) :
 lp (fun k1 => d39 [1, 0, 1, 0, 0] (thenD k1 (blk 0 (thenD (d39 [1, 1] (q39 K E)) (q39 K E))))) (m39_1_0_1_0_0 x0 x1 x2 x3 x36 x37 x38 x39 x40 x41 x42 x43 x44 x45 v5 j) h := by
 subst e5
 exact loop_r (fun s j => m39_1_0_1_0_0 x0 x1 x2 x3 x36 x37 x38 x39 x40 x41 x42 x43 x44 x45 (f5 s) j) I μ round s0 j h0
theorem l43_1_0_1_0_0 (f3 : σ → Value) (I : σ → Hp → Prop) (μ : σ → Nat) (s0 : σ) (e3 : v3 = f3 s0) (h0 : h.wf → ∃ h', h.wk h' ∧ I s0 h')
 (round : ∀ (k1 : Env → Hp → Prop) (s : σ) (j : Nat → Value) (h : Hp), I s h → h.wf → (∀ s' j' h', μ s' < μ s → (h'.wf → ∃ h'', h'.wk h'' ∧ I s' h'') → k1 (m43_1_0_1_0_0 x0 x1 x16 x17 x18 x19 x20 x21 x22 x23 (f3 s') j') h') → d43 [1, 0, 1, 0, 0] (thenD k1 (blk 0 (thenD (d43 [1, 1] (q43 K E)) (q43 K E)))) (m43_1_0_1_0_0 x0 x1 x16 x17 x18 x19 x20 x21 x22 x23 (f3 s) j) h) :
 lp (fun k1 => d43 [1, 0, 1, 0, 0] (thenD k1 (blk 0 (thenD (d43 [1, 1] (q43 K E)) (q43 K E))))) (m43_1_0_1_0_0 x0 x1 x16 x17 x18 x19 x20 x21 x22 x23 v3 j) h := by
 subst e3
 exact loop_r (fun s j => m43_1_0_1_0_0 x0 x1 x16 x17 x18 x19 x20 x21 x22 x23 (f3 s) j) I μ round s0 j h0
theorem l81_1_0_1_0_0 (f3 : σ → Value) (I : σ → Hp → Prop) (μ : σ → Nat) (s0 : σ) (e3 : v3 = f3 s0) (h0 : h.wf → ∃ h', h.wk h' ∧ I s0 h')
 (round : ∀ (k1 : Env → Hp → Prop) (s : σ) (j : Nat → Value) (h : Hp), I s h → h.wf → (∀ s' j' h', μ s' < μ s → (h'.wf → ∃ h'', h'.wk h'' ∧ I s' h'') → k1 (m81_1_0_1_0_0 x0 x1 x58 x59 x60 x61 x62 x63 x64 x65 x66 x67 x68 x69 x70 x71 (f3 s') j') h') → d81 [1, 0, 1, 0, 0] (thenD k1 (blk 0 (thenD (d81 [1, 1] (q81 K E)) (q81 K E)))) (m81_1_0_1_0_0 x0 x1 x58 x59 x60 x61 x62 x63 x64 x65 x66 x67 x68 x69 x70 x71 (f3 s) j) h) :
 lp (fun k1 => d81 [1, 0, 1, 0, 0] (thenD k1 (blk 0 (thenD (d81 [1, 1] (q81 K E)) (q81 K E))))) (m81_1_0_1_0_0 x0 x1 x58 x59 x60 x61 x62 x63 x64 x65 x66 x67 x68 x69 x70 x71 v3 j) h := by
 subst e3
 exact loop_r (fun s j => m81_1_0_1_0_0 x0 x1 x58 x59 x60 x61 x62 x63 x64 x65 x66 x67 x68 x69 x70 x71 (f3 s) j) I μ round s0 j h0
theorem l18_1_1_0_1_0_0 (f5 : σ → Value) (I : σ → Hp → Prop) (μ : σ → Nat) (s0 : σ) (e5 : v5 = f5 s0) (h0 : h.wf → ∃ h', h.wk h' ∧ I s0 h')
 (round : ∀ (k1 : Env → Hp → Prop) (s : σ) (j : Nat → Value) (h : Hp), I s h → h.wf → (∀ s' j' h', μ s' < μ s → (h'.wf → ∃ h'', h'.wk h'' ∧ I s' h'') → k1 (m18_1_1_0_1_0_0 x0 x1 x2 x3 x6 x7 x8 x9 x10 (f5 s') j') h') → d18 [1, 1, 0, 1, 0, 0] (thenD k1 (blk 0 (thenD (d18 [1, 1, 1] (q18 K E)) (q18 K E)))) (m18_1_1_0_1_0_0 x0 x1 x2 x3 x6 x7 x8 x9 x10 (f5 s) j) h) :
 lp (fun k1 => d18 [1, 1, 0, 1, 0, 0] (thenD k1 (blk 0 (thenD (d18 [1, 1, 1] (q18 K E)) (q18 K E))))) (m18_1_1_0_1_0_0 x0 x1 x2 x3 x6 x7 x8 x9 x10 v5 j) h := by
 subst e5
 exact loop_r (fun s j => m18_1_1_0_1_0_0 x0 x1 x2 x3 x6 x7 x8 x9 x10 (f5 s) j) I μ round s0 j h0
end
end Go.Proofs.YtgjdjdjhoipfmaaGreatDoor.T
open Go Go.RowKit Go.Proofs.YtgjdjdjhoipfmaaGreatDoor.K
set_option linter.unusedVariables false
set_option maxRecDepth 100000
namespace Go.Proofs.YtgjdjdjhoipfmaaGreatDoor.T
section
variable (K : Kont) (E : PanK) (k1 k2 k3 k4 k5 : Env → Hp → Prop) (x0 x1 x2 x3 x4 x5 x6 x7 x8 x9 x10 x11 x12 x13 x14 x15 x16 x17 x18 x19 x20 x21 x22 x23 x24 x25 x26 x27 x28 x29 x30 x31 x32 x33 x34 x35 x36 x37 x38 x39 x40 x41 x42 x43 x44 x45 x46 x47 x48 x49 x50 x51 x52 x53 x54 x55 x56 x57 x58 x59 x60 v0 v1 v2 v3 v4 v5 v6 v7 v8 v9 v10 v11 v12 v13 v14 v15 v16 v17 v18 v19 v20 v21 v22 v23 v24 v25 v26 v27 v28 v29 v30 v31 v32 v33 v34 v35 v36 v37 v38 v39 v40 v41 v42 v43 v44 v45 v46 v47 v48 v49 v50 v51 v52 v53 v54 v55 v56 v57 v58 v59 v60 : Value) (j : Nat → Value)
abbrev q85 : QD := bodyQ Tryz.prog Tryz.f85.results.toList K E
abbrev d85 (p : List Nat) : QD → Env → Hp → Prop := den Tryz.prog (sel (bodyOf Tryz.f85) p)
abbrev q48 : QD := bodyQ Tryz.prog Tryz.f48.results.toList K E
abbrev d48 (p : List Nat) : QD → Env → Hp → Prop := den Tryz.prog (sel (bodyOf Tryz.f48) p)
abbrev q130 : QD := bodyQ Tryz.prog Tryz.f130.results.toList K E
abbrev d130 (p : List Nat) : QD → Env → Hp → Prop := den Tryz.prog (sel (bodyOf Tryz.f130) p)
theorem t130 : d130 [] (q130 K E) #[x0, x1, x2, U, U, U, U, U, U, U, U] =
  callv Tryz.prog (.func (.func 139) #[] #[]) #[x0, x1, x2] (fun t1 =>
  K t1) E := by kernel_rfl
abbrev q38 : QD := bodyQ Tryz.prog Tryz.f38.results.toList K E
abbrev d38 (p : List Nat) : QD → Env → Hp → Prop := den Tryz.prog (sel (bodyOf Tryz.f38) p)
def m38_1_1_0_1_0_0 (j : Nat → Value) : Env := #[x0, x1, x2, x3, x4, (j 5), x6, x7, x8, v9, (j 10), (j 11), (j 12), (j 13), (j 14), (j 15), (j 16), (j 17), (j 18), (j 19), (j 20), x21, x22]
theorem t38 : d38 [] (q38 K E) #[x0, U, U, U, U, U, U, U, U, U, U, U, U, U, U, U, U, U, U, U, U, U, U] =
  callv Tryz.prog (.func (.func 73) #[] #[]) #[] (fun t1 =>
  pv (lenV x0) fun t2 =>
  lp (fun k1 => d38 [1, 1, 0, 1, 0, 0] (thenD k1 (blk 0 (thenD (d38 [1, 1, 1] (q38 K E)) (q38 K E))))) (m38_1_1_0_1_0_0 x0 U (.slice none 0 0) t1 U t1 x0 t2 U U (.int .i64 0) (jf #[]))) E := by kernel_rfl
theorem t38_1_1_0_1_0_0 : d38 [1, 1, 0, 1, 0, 0] (thenD k1 (blk 0 (thenD (d38 [1, 1, 1] (q38 K E)) (q38 K E)))) (m38_1_1_0_1_0_0 x0 x1 x2 x3 x4 x6 x7 x8 x21 x22 v9 j) =
  pv (binV .none .lss v9 x8) fun t1 =>
  cnd t1 (
   pv (iaV none 2 x7 v9) fun t2 =>
   ld true 2 t2 fun t3 =>
   nw 48 [(.slice none 0 0), (.int .i64 0)] fun t4 =>
   st 2 t4 t3 fun _ =>
   pv (faV 0 t4) fun t5 =>
   ld false 1 t5 fun t6 =>
   pv (faV 1 t4) fun t7 =>
   ld false 1 t7 fun t8 =>
   callv Tryz.prog (.func (.func 75) #[] #[]) #[t8] (fun t9 h10 => (ldV h10 false 1 t5 t6) ∧ (
    callv Tryz.prog (.func (.func 74) #[] #[]) #[x3, t6, t9] (fun t11 =>
    pv (binV .none .add v9 (.int .i64 1)) fun t12 =>
    k1 (m38_1_1_0_1_0_0 x0 x1 x2 x3 x4 x6 x7 x8 x21 x22 t12 (jf #[U, U, U, U, U, t4, U, U, U, U, t1, t2, t3, x3, t5, t6, t7, t8, t9, t11, t12]))) E) h10) E) (
   callv Tryz.prog (.func (.func 76) #[] #[]) #[x3] (fun t13 =>
   K t13) E) := by kernel_rfl
abbrev q70 : QD := bodyQ Tryz.prog Tryz.f70.results.toList K E
abbrev d70 (p : List Nat) : QD → Env → Hp → Prop := den Tryz.prog (sel (bodyOf Tryz.f70) p)
theorem t70 : d70 [] (q70 K E) #[x0, x1, x2, x3, U, U, U, U, U, U, U, U, U, U, U, U, U, U, U, U, U, U, U, U, U, U, U, U, U] =
  nw 29 (Value.cells x0).toList fun t1 =>
  nw 34 (Value.cells x2).toList fun t2 =>
  nw 34 (Value.cells x3).toList fun t3 =>
  ld false 1 t1 fun t4 =>
  callv Tryz.prog (.func (.func 29) #[] #[]) #[t4] (fun t5 =>
  pv (unV .not t5) fun t6 =>
  cnd t6 (
   K (.tuple #[(.slice none 0 0), (.int .u16 30)])) (
   ld false 1 t1 fun t7 =>
   ld false 1 t2 fun t8 =>
   ld false 1 t3 fun t9 =>
   callv Tryz.prog (.func (.func 105) #[] #[]) #[t7, t8, t9] (fun t10 =>
   pv (unV .not t10) fun t11 =>
   cnd t11 (
    K (.tuple #[(.slice none 0 0), (.int .u16 40)])) (
    ld false 1 t1 fun t12 =>
    pv (lenV t12) fun t13 =>
    callv Tryz.prog (.func (.func 69) #[] #[]) #[x1, t13] (fun t14 =>
    pv (unV .not t14) fun t15 =>
    cnd t15 (
     K (.tuple #[(.slice none 0 0), (.int .u16 1)])) (
     callv Tryz.prog (.func (.func 106) #[] #[]) #[x1, (.func (.func 107) #[] #[t1, t2, t3])] (fun t16 =>
     K (.tuple #[t16, (.int .u16 0)])) E)) E)) E)) E := by kernel_rfl
abbrev q107 : QD := bodyQ Tryz.prog Tryz.f107.results.toList K E
abbrev d107 (p : List Nat) : QD → Env → Hp → Prop := den Tryz.prog (sel (bodyOf Tryz.f107) p)
theorem t107 : d107 [] (q107 K E) #[x0, x1, x2, x3, U, U, U, U, U, U, U] =
  ld false 1 x1 fun t1 =>
  ld false 1 x2 fun t2 =>
  ld false 1 x3 fun t3 =>
  callv Tryz.prog (.func (.func 108) #[] #[]) #[t1, t2, t3, x0] (fun t4 =>
  K t4) E := by kernel_rfl
abbrev q69 : QD := bodyQ Tryz.prog Tryz.f69.results.toList K E
abbrev d69 (p : List Nat) : QD → Env → Hp → Prop := den Tryz.prog (sel (bodyOf Tryz.f69) p)
def m69_1_0_1_0_0 (j : Nat → Value) : Env := #[x0, x1, x2, x3, (j 4), (j 5), (j 6), x7, x8, v9, (j 10), (j 11), (j 12), (j 13), (j 14), (j 15), (j 16), (j 17), (j 18), (j 19), (j 20), (j 21), (j 22), (j 23), (j 24), (j 25), (j 26), (j 27), (j 28), (j 29), (j 30), (j 31), (j 32)]
theorem t69 : d69 [] (q69 K E) #[x0, x1, U, U, U, U, U, U, U, U, U, U, U, U, U, U, U, U, U, U, U, U, U, U, U, U, U, U, U, U, U, U, U] =
  pv (lenV x0) fun t1 =>
  lp (fun k1 => d69 [1, 0, 1, 0, 0] (thenD k1 (blk 0 (thenD (d69 [1, 1] (q69 K E)) (q69 K E))))) (m69_1_0_1_0_0 x0 x1 U U x0 t1 (.int .i64 0) (jf #[U, U, U, U, (.bool false)])) := by kernel_rfl
theorem t69_1_0_1_0_0 : d69 [1, 0, 1, 0, 0] (thenD k1 (blk 0 (thenD (d69 [1, 1] (q69 K E)) (q69 K E)))) (m69_1_0_1_0_0 x0 x1 x2 x3 x7 x8 v9 j) =
  pv (binV .none .lss v9 x8) fun t1 =>
  cnd t1 (
   pv (iaV none 5 x7 v9) fun t2 =>
   ld true 5 t2 fun t3 =>
   nw 78 [(.slice none 0 0), (.int .i64 0), (.int .i64 0), (.int .i64 0), (.int .i64 0)] fun t4 =>
   st 5 t4 t3 fun _ =>
   ld true 5 t4 fun t5 =>
   callv Tryz.prog (.func (.func 103) #[] #[]) #[t5, x1] (fun t6 =>
   pv (unV .not t6) fun t7 =>
   gdK t7 false (fun k => k v9) fun t8 =>
   gdK t7 false (fun k => pv (binV .none .gtr t8 (.int .i64 0)) k) fun t9 =>
   gdK t7 false (fun k => k t9) fun t10 =>
   gdK t10 true (fun k => k x0) fun t11 =>
   gdK t10 true (fun k => k v9) fun t12 =>
   gdK t10 true (fun k => pv (binV .none .sub t12 (.int .i64 1)) k) fun t13 =>
   gdK t10 true (fun k => pv (iaV none 5 t11 t13) k) fun t14 =>
   gdK t10 true (fun k => ld true 5 t14 k) fun t15 =>
   gdK t10 true (fun k => ld true 5 t4 k) fun t16 =>
   gdK t10 true (fun k => callv Tryz.prog (.func (.func 104) #[] #[]) #[t15, t16] k E) fun t17 =>
   gdK t10 true (fun k => pv (binV .none .geq t17 (.int .i64 0)) k) fun t18 =>
   gdK t7 false (fun k => pv (pickV t10 t18 (.bool false)) k) fun t19 =>
   pv (pickV t7 (.bool true) t19) fun t20 =>
   cnd t20 (
    K (.bool false)) (
    pv (binV .none .add v9 (.int .i64 1)) fun t21 =>
    k1 (m69_1_0_1_0_0 x0 x1 x2 x3 x7 x8 t21 (jf #[U, U, U, U, (j 4), v9, t4, U, U, U, t1, v9, t2, t3, t5, x1, t6, t7, t7, t8, t9, t10, t11, t12, t13, t14, t15, t16, t17, t18, t19, t20, t21])))) E) (
   K (.bool true)) := by kernel_rfl
abbrev q73 : QD := bodyQ Tryz.prog Tryz.f73.results.toList K E
abbrev d73 (p : List Nat) : QD → Env → Hp → Prop := den Tryz.prog (sel (bodyOf Tryz.f73) p)
theorem t73 : d73 [] (q73 K E) #[U, U, U, U] =
  mkm fun t1 =>
  pv (bdC #[(.slice none 0 0), (.map none)] [(0, 1), (1, 1)] #[(1, t1)]) fun t2 =>
  nw 159 (Value.cells t2).toList fun t3 =>
  K t3 := by kernel_rfl
abbrev q105 : QD := bodyQ Tryz.prog Tryz.f105.results.toList K E
abbrev d105 (p : List Nat) : QD → Env → Hp → Prop := den Tryz.prog (sel (bodyOf Tryz.f105) p)
def m105_1_1_0_1_0_0 (j : Nat → Value) : Env := #[x0, x1, x2, x3, x4, x5, (j 6), (j 7), (j 8), x9, x10, x11, x12, x13, x14, x15, x16, x17, x18, x19, x20, x21, x22, v23, (j 24), (j 25), (j 26), (j 27), (j 28), (j 29), (j 30), (j 31), (j 32), (j 33), (j 34), (j 35), (j 36), (j 37), (j 38), (j 39), (j 40), (j 41), (j 42), (j 43), (j 44), (j 45), (j 46), (j 47), (j 48), (j 49), (j 50), (j 51), (j 52), (j 53)]
theorem t105 : d105 [] (q105 K E) #[x0, x1, x2, U, U, U, U, U, U, U, U, U, U, U, U, U, U, U, U, U, U, U, U, U, U, U, U, U, U, U, U, U, U, U, U, U, U, U, U, U, U, U, U, U, U, U, U, U, U, U, U, U, U, U] =
  pv (lenV x1) fun t1 =>
  pv (lenV x0) fun t2 =>
  pv (binV .none .neq t1 t2) fun t3 =>
  gdK t3 false (fun k => k x2) fun t4 =>
  gdK t3 false (fun k => pv (lenV t4) k) fun t5 =>
  gdK t3 false (fun k => k x0) fun t6 =>
  gdK t3 false (fun k => pv (lenV t6) k) fun t7 =>
  gdK t3 false (fun k => pv (binV .none .neq t5 t7) k) fun t8 =>
  pv (pickV t3 (.bool true) t8) fun t9 =>
  cnd t9 (
   K (.bool false)) (
   pv (lenV x0) fun t10 =>
   lp (fun k1 => d105 [1, 1, 0, 1, 0, 0] (thenD k1 (blk 0 (thenD (d105 [1, 1, 1] (q105 K E)) (q105 K E))))) (m105_1_1_0_1_0_0 x0 x1 x2 U U U x1 t1 x0 t2 t3 t3 t4 t5 t6 t7 t8 t9 x0 t10 (.int .i64 0) (jf #[U, U, U, U, U, U, (.bool false)]))) := by kernel_rfl
theorem t105_1_1_0_1_0_0 : d105 [1, 1, 0, 1, 0, 0] (thenD k1 (blk 0 (thenD (d105 [1, 1, 1] (q105 K E)) (q105 K E)))) (m105_1_1_0_1_0_0 x0 x1 x2 x3 x4 x5 x9 x10 x11 x12 x13 x14 x15 x16 x17 x18 x19 x20 x21 x22 v23 j) =
  pv (binV .none .lss v23 x22) fun t1 =>
  cnd t1 (
   pv (iaV none 2 x21 v23) fun t2 =>
   ld true 2 t2 fun t3 =>
   nw 74 [(.int .i64 0), (.slice none 0 0)] fun t4 =>
   st 2 t4 t3 fun _ =>
   pv (iaV none 1 x1 v23) fun t5 =>
   ld false 1 t5 fun t6 =>
   pv (binV .none .lss t6 (.int .i64 0)) fun t7 =>
   gdK t7 false (fun k => k x2) fun t8 =>
   gdK t7 false (fun k => k v23) fun t9 =>
   gdK t7 false (fun k => pv (iaV none 1 t8 t9) k) fun t10 =>
   gdK t7 false (fun k => ld false 1 t10 k) fun t11 =>
   gdK t7 false (fun k => k x1) fun t12 =>
   gdK t7 false (fun k => k v23) fun t13 =>
   gdK t7 false (fun k => pv (iaV none 1 t12 t13) k) fun t14 =>
   gdK t7 false (fun k => ld false 1 t14 k) fun t15 =>
   gdK t7 false (fun k => pv (binV .none .lss t11 t15) k) fun t16 =>
   pv (pickV t7 (.bool true) t16) fun t17 =>
   gdK t17 false (fun k => k x2) fun t18 =>
   gdK t17 false (fun k => k v23) fun t19 =>
   gdK t17 false (fun k => pv (iaV none 1 t18 t19) k) fun t20 =>
   gdK t17 false (fun k => ld false 1 t20 k) fun t21 =>
   gdK t17 false (fun k => ld true 2 t4 k) fun t22 =>
   gdK t17 false (fun k => callv Tryz.prog (.func (.func 101) #[] #[]) #[t22] k E) (fun t23 h24 => (isB t17 false = true → ldV h24 false 1 t20 t21) ∧ (
    gdK t17 false (fun k => pv (binV .none .geq t21 t23) k) fun t25 =>
    pv (pickV t17 (.bool true) t25) fun t26 =>
    cnd t26 (
     K (.bool false)) (
     pv (binV .none .add v23 (.int .i64 1)) fun t27 =>
     k1 (m105_1_1_0_1_0_0 x0 x1 x2 x3 x4 x5 x9 x10 x11 x12 x13 x14 x15 x16 x17 x18 x19 x20 x21 x22 t27 (jf #[U, U, U, U, U, U, (j 6), v23, t4, U, U, U, U, U, U, U, U, U, U, U, U, U, U, U, t1, v23, t2, t3, x1, v23, t5, t6, t7, t7, t8, t9, t10, t11, t12, t13, t14, t15, t16, t17, t17, t18, t19, t20, t21, t22, t23, t25, t26, t27])))) h24)) (
   K (.bool true)) := by kernel_rfl
abbrev q104 : QD := bodyQ Tryz.prog Tryz.f104.results.toList K E
abbrev d104 (p : List Nat) : QD → Env → Hp → Prop := den Tryz.prog (sel (bodyOf Tryz.f104) p)
theorem t104 : d104 [] (q104 K E) #[x0, x1, U, U, U, U, U, U, U, U] =
  nw 78 (Value.cells x0).toList fun t1 =>
  nw 78 (Value.cells x1).toList fun t2 =>
  pv (faV 0 t1) fun t3 =>
  ld false 1 t3 fun t4 =>
  pv (faV 0 t2) fun t5 =>
  ld false 1 t5 fun t6 =>
  callv Tryz.prog (.func (.func 127) #[] #[]) #[t4, t6] (fun t7 =>
  K t7) E := by kernel_rfl
abbrev q106 : QD := bodyQ Tryz.prog Tryz.f106.results.toList K E
abbrev d106 (p : List Nat) : QD → Env → Hp → Prop := den Tryz.prog (sel (bodyOf Tryz.f106) p)
def m106_1_1_0_1_0_0 (j : Nat → Value) : Env := #[x0, x1, x2, x3, x4, x5, x6, (j 7), x8, x9, x10, v11, (j 12), (j 13), (j 14), (j 15), (j 16), (j 17), (j 18), (j 19), (j 20), (j 21), (j 22), (j 23), x24, x25]
theorem t106 : d106 [] (q106 K E) #[x0, x1, U, U, U, U, U, U, U, U, U, U, U, U, U, U, U, U, U, U, U, U, U, U, U, U] =
  callv Tryz.prog (.func (.func 73) #[] #[]) #[] (fun t1 =>
  pv (lenV x0) fun t2 =>
  lp (fun k1 => d106 [1, 1, 0, 1, 0, 0] (thenD k1 (blk 0 (thenD (d106 [1, 1, 1] (q106 K E)) (q106 K E))))) (m106_1_1_0_1_0_0 x0 x1 U U (.slice none 0 0) t1 U t1 x0 t2 U U (.int .i64 0) (jf #[]))) E := by kernel_rfl
theorem t106_1_1_0_1_0_0 : d106 [1, 1, 0, 1, 0, 0] (thenD k1 (blk 0 (thenD (d106 [1, 1, 1] (q106 K E)) (q106 K E)))) (m106_1_1_0_1_0_0 x0 x1 x2 x3 x4 x5 x6 x8 x9 x10 x24 x25 v11 j) =
  pv (binV .none .lss v11 x10) fun t1 =>
  cnd t1 (
   pv (iaV none 5 x9 v11) fun t2 =>
   ld true 5 t2 fun t3 =>
   nw 78 [(.slice none 0 0), (.int .i64 0), (.int .i64 0), (.int .i64 0), (.int .i64 0)] fun t4 =>
   st 5 t4 t3 fun _ =>
   pv (faV 0 t4) fun t5 =>
   ld false 1 t5 fun t6 =>
   pv (faV 1 t4) fun t7 =>
   ld true 4 t7 fun t8 =>
   callv Tryz.prog x1 #[t6] (fun t9 h10 => (ldV h10 true 4 t7 t8) ∧ (
    callv Tryz.prog (.func (.func 74) #[] #[]) #[x5, t9, t8] (fun t11 =>
    pv (binV .none .add v11 (.int .i64 1)) fun t12 =>
    k1 (m106_1_1_0_1_0_0 x0 x1 x2 x3 x4 x5 x6 x8 x9 x10 x24 x25 t12 (jf #[U, U, U, U, U, U, U, t4, U, U, U, U, t1, t2, t3, x5, x1, t5, t6, t9, t7, t8, t11, t12]))) E) h10) E) (
   callv Tryz.prog (.func (.func 76) #[] #[]) #[x5] (fun t13 =>
   K t13) E) := by kernel_rfl
abbrev q103 : QD := bodyQ Tryz.prog Tryz.f103.results.toList K E
abbrev d103 (p : List Nat) : QD → Env → Hp → Prop := den Tryz.prog (sel (bodyOf Tryz.f103) p)
theorem t103 : d103 [] (q103 K E) #[x0, x1, U, U, U, U, U, U, U, U, U, U, U, U, U, U, U, U, U, U, U, U, U, U, U, U, U] =
  nw 78 (Value.cells x0).toList fun t1 =>
  pv (faV 0 t1) fun t2 =>
  ld false 1 t2 fun t3 =>
  pv (lenV t3) fun t4 =>
  pv (binV .none .eql t4 x1) fun t5 =>
  gdK t5 true (fun k => pv (faV 1 t1) k) fun t6 =>
  gdK t5 true (fun k => pv (faV 0 t6) k) fun t7 =>
  gdK t5 true (fun k => ld false 1 t7 k) fun t8 =>
  gdK t5 true (fun k => pv (binV .none .gtr t8 (.int .i64 0)) k) fun t9 =>
  pv (pickV t5 t9 (.bool false)) fun t10 =>
  gdK t10 true (fun k => pv (faV 1 t1) k) fun t11 =>
  gdK t10 true (fun k => ld true 4 t11 k) fun t12 =>
  gdK t10 true (fun k => callv Tryz.prog (.func (.func 124) #[] #[]) #[t12] k E) fun t13 =>
  pv (pickV t10 t13 (.bool false)) fun t14 =>
  gdK t14 true (fun k => pv (faV 0 t1) k) fun t15 =>
  gdK t14 true (fun k => ld false 1 t15 k) fun t16 =>
  gdK t14 true (fun k => callv Tryz.prog (.func (.func 125) #[] #[]) #[t16, (.func (.func 126) #[] #[])] k E) fun t17 =>
  gdK t14 true (fun k => pv (unV .not t17) k) fun t18 =>
  pv (pickV t14 t18 (.bool false)) fun t19 =>
  K t19 := by kernel_rfl
abbrev q126 : QD := bodyQ Tryz.prog Tryz.f126.results.toList K E
abbrev d126 (p : List Nat) : QD → Env → Hp → Prop := den Tryz.prog (sel (bodyOf Tryz.f126) p)
theorem t126 : d126 [] (q126 K E) #[x0, U, U, U, U] =
  pv (binV .none .lss x0 (.int .i64 0)) fun t1 =>
  K t1 := by kernel_rfl
abbrev q74 : QD := bodyQ Tryz.prog Tryz.f74.results.toList K E
abbrev d74 (p : List Nat) : QD → Env → Hp → Prop := den Tryz.prog (sel (bodyOf Tryz.f74) p)
theorem t74 : d74 [] (q74 K E) #[x0, x1, x2, U, U, U, U, U, U, U, U, U, U, U, U, U, U, U, U, U, U, U, U, U, U, U, U, U, U, U, U, U, U, U, U, U, U, U, U, U, U, U, U, U, U, U, U, U, U, U, U, U, U, U, U, U, U, U, U, U, U] =
  nw 76 (Value.cells x2).toList fun t1 =>
  callv Tryz.prog (.func (.func 110) #[] #[]) #[x1] (fun t2 =>
  pv (nilV x0) fun t3 =>
  pv (faV 1 t3) fun t4 =>
  ld false 1 t4 fun t5 =>
  lkp Tryz.prog 157 t5 t2 true fun t6 =>
  pv (exV 0 t6) fun t7 =>
  pv (exV 1 t6) fun t8 =>
  cnd t8 (
   pv (nilV x0) fun t9 =>
   pv (faV 0 t9) fun t10 =>
   ld false 1 t10 fun t11 =>
   pv (nilV x0) fun t12 =>
   pv (faV 0 t12) fun t13 =>
   ld false 1 t13 fun t14 =>
   pv (iaV none 5 t14 t7) fun t15 =>
   pv (faV 1 t15) fun t16 =>
   ld true 4 t16 fun t17 =>
   ld true 4 t1 fun t18 =>
   callv Tryz.prog (.func (.func 111) #[] #[]) #[t17, t18] (fun t19 h20 => (ldV h20 false 1 t10 t11) ∧ (
    pv (iaV none 5 t11 t7) fun t21 =>
    pv (faV 1 t21) fun t22 =>
    st 4 t22 t19 fun _ =>
    K (.tuple #[])) h20) E) (
   pv (nilV x0) fun t23 =>
   pv (faV 1 t23) fun t24 =>
   ld false 1 t24 fun t25 =>
   pv (nilV x0) fun t26 =>
   pv (faV 0 t26) fun t27 =>
   ld false 1 t27 fun t28 =>
   pv (lenV t28) fun t29 =>
   mup Tryz.prog 157 t25 t2 t29 fun _ =>
   pv (nilV x0) fun t30 =>
   pv (faV 0 t30) fun t31 =>
   ld false 1 t31 fun t32 =>
   ld true 4 t1 fun t33 =>
   callv Tryz.prog (.func (.func 30) #[] #[]) #[x1] (fun t34 h35 => (ldV h35 true 4 t1 t33) ∧ (ldV h35 false 1 t31 t32) ∧ (
    pv (bdC #[(.slice none 0 0), (.int .i64 0), (.int .i64 0), (.int .i64 0), (.int .i64 0)] [(0, 1), (1, 4)] #[(0, t34), (1, t33)]) fun t36 =>
    nws 78 1 (bsC #[(.slice none 0 0), (.int .i64 0), (.int .i64 0), (.int .i64 0), (.int .i64 0)] 5 1 #[(0, t36)]) (fun t37 h38 => (ldV h38 false 1 t31 t32) ∧ (
     appX 78 5 56 t32 t37 fun t39 =>
     pv (nilV x0) fun t40 =>
     pv (faV 0 t40) fun t41 =>
     st 1 t41 t39 fun _ =>
     K (.tuple #[])) h38)) h35) E)) E := by kernel_rfl
abbrev q76 : QD := bodyQ Tryz.prog Tryz.f76.results.toList K E
abbrev d76 (p : List Nat) : QD → Env → Hp → Prop := den Tryz.prog (sel (bodyOf Tryz.f76) p)
theorem t76 : d76 [] (q76 K E) #[x0, U, U, U, U, U, U, U, U, U, U, U] =
  pv (nilV x0) fun t1 =>
  pv (faV 0 t1) fun t2 =>
  ld false 1 t2 fun t3 =>
  callv Tryz.prog (.func (.func 112) #[] #[]) #[t3, (.func (.func 104) #[] #[])] (fun t4 =>
  pv (nilV x0) fun t5 =>
  pv (faV 0 t5) fun t6 =>
  ld false 1 t6 fun t7 =>
  K t7) E := by kernel_rfl
abbrev q110 : QD := bodyQ Tryz.prog Tryz.f110.results.toList K E
abbrev d110 (p : List Nat) : QD → Env → Hp → Prop := den Tryz.prog (sel (bodyOf Tryz.f110) p)
def m110_1_1_0_1_0_0 (j : Nat → Value) : Env := #[x0, x1, x2, v3, x4, (j 5), x6, x7, v8, (j 9), (j 10), (j 11), (j 12), (j 13), (j 14), (j 15), (j 16), (j 17), (j 18), x19, x20]
theorem t110 : d110 [] (q110 K E) #[x0, U, U, U, U, U, U, U, U, U, U, U, U, U, U, U, U, U, U, U, U] =
  pv (lenV x0) fun t1 =>
  lp (fun k1 => d110 [1, 1, 0, 1, 0, 0] (thenD k1 (blk 0 (thenD (d110 [1, 1, 1] (q110 K E)) (q110 K E))))) (m110_1_1_0_1_0_0 x0 U (.string ⟨#[]⟩) U x0 t1 U U (.slice none 0 0) (.int .i64 0) (jf #[])) := by kernel_rfl
theorem t110_1_1_0_1_0_0 : d110 [1, 1, 0, 1, 0, 0] (thenD k1 (blk 0 (thenD (d110 [1, 1, 1] (q110 K E)) (q110 K E)))) (m110_1_1_0_1_0_0 x0 x1 x2 x4 x6 x7 x19 x20 v3 v8 j) =
  pv (binV .none .lss v8 x7) fun t1 =>
  cnd t1 (
   pv (iaV none 1 x6 v8) fun t2 =>
   ld false 1 t2 fun t3 =>
   callv Tryz.prog (.func (.func 130) #[] #[]) #[v3, t3, (.int .i64 36)] (fun t4 =>
   nws 5 1 (bsC #[(.int .u8 0)] 1 1 #[(0, (.int .u8 32))]) fun t5 =>
   appX 5 1 1 t4 t5 fun t6 =>
   pv (binV .none .add v8 (.int .i64 1)) fun t7 =>
   k1 (m110_1_1_0_1_0_0 x0 x1 x2 x4 x6 x7 x19 x20 t6 t7 (jf #[U, U, U, U, U, t3, U, U, U, t1, t2, t3, v3, t3, t4, t4, t5, t6, t7]))) E) (
   bs v3 fun t8 =>
   K t8) := by kernel_rfl
end
section
variable {K : Kont} {E : PanK} {k1 k2 k3 k4 k5 : Env → Hp → Prop} {σ : Type} {x0 x1 x2 x3 x4 x5 x6 x7 x8 x9 x10 x11 x12 x13 x14 x15 x16 x17 x18 x19 x20 x21 x22 x23 x24 x25 x26 x27 x28 x29 x30 x31 x32 x33 x34 x35 x36 x37 x38 x39 x40 x41 x42 x43 x44 x45 x46 x47 x48 x49 x50 x51 x52 x53 x54 x55 x56 x57 x58 x59 x60 v0 v1 v2 v3 v4 v5 v6 v7 v8 v9 v10 v11 v12 v13 v14 v15 v16 v17 v18 v19 v20 v21 v22 v23 v24 v25 v26 v27 v28 v29 v30 v31 v32 v33 v34 v35 v36 v37 v38 v39 v40 v41 v42 v43 v44 v45 v46 v47 v48 v49 v50 v51 v52 v53 v54 v55 v56 v57 v58 v59 v60 : Value} {h : Hp} {j : Nat → Value}
theorem l38_1_1_0_1_0_0 (f9 : σ → Value) (I : σ → Hp → Prop) (μ : σ → Nat) (s0 : σ) (e9 : v9 = f9 s0) (h0 : h.wf → ∃ h', h.wk h' ∧ I s0 h')
 (round : ∀ (k1 : Env → Hp → Prop) (s : σ) (j : Nat → Value) (h : Hp), I s h → h.wf → (∀ s' j' h', μ s' < μ s → (h'.wf → ∃ h'', h'.wk h'' ∧ I s' h'') → k1 (m38_1_1_0_1_0_0 x0 x1 x2 x3 x4 x6 x7 x8 x21 x22 (f9 s') j') h') → d38 [1, 1, 0, 1, 0, 0] (thenD k1 (blk 0 (thenD (d38 [1, 1, 1] (q38 K E)) (q38 K E)))) (m38_1_1_0_1_0_0 x0 x1 x2 x3 x4 x6 x7 x8 x21 x22 (f9 s) j) h) :
 lp (fun k1 => d38 [1, 1, 0, 1, 0, 0] (thenD k1 (blk 0 (thenD (d38 [1, 1, 1] (q38 K E)) (q38 K E))))) (m38_1_1_0_1_0_0 x0 x1 x2 x3 x4 x6 x7 x8 x21 x22 v9 j) h := by
 subst e9
 exact loop_r (fun s j => m38_1_1_0_1_0_0 x0 x1 x2 x3 x4 x6 x7 x8 x21 x22 (f9 s) j) I μ round s0 j h0
theorem l69_1_0_1_0_0 (f9 : σ → Value) (I : σ → Hp → Prop) (μ : σ → Nat) (s0 : σ) (e9 : v9 = f9 s0) (h0 : h.wf → ∃ h', h.wk h' ∧ I s0 h')
 (round : ∀ (k1 : Env → Hp → Prop) (s : σ) (j : Nat → Value) (h : Hp), I s h → h.wf → (∀ s' j' h', μ s' < μ s → (h'.wf → ∃ h'', h'.wk h'' ∧ I s' h'') → k1 (m69_1_0_1_0_0 x0 x1 x2 x3 x7 x8 (f9 s') j') h') → d69 [1, 0, 1, 0, 0] (thenD k1 (blk 0 (thenD (d69 [1, 1] (q69 K E)) (q69 K E)))) (m69_1_0_1_0_0 x0 x1 x2 x3 x7 x8 (f9 s) j) h) :
 lp (fun k1 => d69 [1, 0, 1, 0, 0] (thenD k1 (blk 0 (thenD (d69 [1, 1] (q69 K E)) (q69 K E))))) (m69_1_0_1_0_0 x0 x1 x2 x3 x7 x8 v9 j) h := by
 subst e9
 exact loop_r (fun s j => m69_1_0_1_0_0 x0 x1 x2 x3 x7 x8 (f9 s) j) I μ round s0 j h0
theorem l105_1_1_0_1_0_0 (f23 : σ → Value) (I : σ → Hp → Prop) (μ : σ → Nat) (s0 : σ) (e23 : v23 = f23 s0) (h0 : h.wf → ∃ h', h.wk h' ∧ I s0 h')
 (round : ∀ (k1 : Env → Hp → Prop) (s : σ) (j : Nat → Value) (h : Hp), I s h → h.wf → (∀ s' j' h', μ s' < μ s → (h'.wf → ∃ h'', h'.wk h'' ∧ I s' h'') → k1 (m105_1_1_0_1_0_0 x0 x1 x2 x3 x4 x5 x9 x10 x11 x12 x13 x14 x15 x16 x17 x18 x19 x20 x21 x22 (f23 s') j') h') → d105 [1, 1, 0, 1, 0, 0] (thenD k1 (blk 0 (thenD (d105 [1, 1, 1] (q105 K E)) (q105 K E)))) (m105_1_1_0_1_0_0 x0 x1 x2 x3 x4 x5 x9 x10 x11 x12 x13 x14 x15 x16 x17 x18 x19 x20 x21 x22 (f23 s) j) h) :
 lp (fun k1 => d105 [1, 1, 0, 1, 0, 0] (thenD k1 (blk 0 (thenD (d105 [1, 1, 1] (q105 K E)) (q105 K E))))) (m105_1_1_0_1_0_0 x0 x1 x2 x3 x4 x5 x9 x10 x11 x12 x13 x14 x15 x16 x17 x18 x19 x20 x21 x22 v23 j) h := by
 subst e23
 exact loop_r (fun s j => m105_1_1_0_1_0_0 x0 x1 x2 x3 x4 x5 x9 x10 x11 x12 x13 x14 x15 x16 x17 x18 x19 x20 x21 x22 (f23 s) j) I μ round s0 j h0
theorem l106_1_1_0_1_0_0 (f11 : σ → Value) (I : σ → Hp → Prop) (μ : σ → Nat) (s0 : σ) (e11 : v11 = f11 s0) (h0 : h.wf → ∃ h', h.wk h' ∧ I s0 h')
 (round : ∀ (k1 : Env → Hp → Prop) (s : σ) (j : Nat → Value) (h : Hp), I s h → h.wf → (∀ s' j' h', μ s' < μ s → (h'.wf → ∃ h'', h'.wk h'' ∧ I s' h'') → k1 (m106_1_1_0_1_0_0 x0 x1 x2 x3 x4 x5 x6 x8 x9 x10 x24 x25 (f11 s') j') h') → d106 [1, 1, 0, 1, 0, 0] (thenD k1 (blk 0 (thenD (d106 [1, 1, 1] (q106 K E)) (q106 K E)))) (m106_1_1_0_1_0_0 x0 x1 x2 x3 x4 x5 x6 x8 x9 x10 x24 x25 (f11 s) j) h) :
 lp (fun k1 => d106 [1, 1, 0, 1, 0, 0] (thenD k1 (blk 0 (thenD (d106 [1, 1, 1] (q106 K E)) (q106 K E))))) (m106_1_1_0_1_0_0 x0 x1 x2 x3 x4 x5 x6 x8 x9 x10 x24 x25 v11 j) h := by
 subst e11
 exact loop_r (fun s j => m106_1_1_0_1_0_0 x0 x1 x2 x3 x4 x5 x6 x8 x9 x10 x24 x25 (f11 s) j) I μ round s0 j h0
theorem l110_1_1_0_1_0_0 (f3 f8 : σ → Value) (I : σ → Hp → Prop) (μ : σ → Nat) (s0 : σ) (e3 : v3 = f3 s0) (e8 : v8 = f8 s0) (h0 : h.wf → ∃ h', h.wk h' ∧ I s0 h')
 (round : ∀ (k1 : Env → Hp → Prop) (s : σ) (j : Nat → Value) (h : Hp), I s h → h.wf → (∀ s' j' h', μ s' < μ s → (h'.wf → ∃ h'', h'.wk h'' ∧ I s' h'') → k1 (m110_1_1_0_1_0_0 x0 x1 x2 x4 x6 x7 x19 x20 (f3 s') (f8 s') j') h') → d110 [1, 1, 0, 1, 0, 0] (thenD k1 (blk 0 (thenD (d110 [1, 1, 1] (q110 K E)) (q110 K E)))) (m110_1_1_0_1_0_0 x0 x1 x2 x4 x6 x7 x19 x20 (f3 s) (f8 s) j) h) :
 lp (fun k1 => d110 [1, 1, 0, 1, 0, 0] (thenD k1 (blk 0 (thenD (d110 [1, 1, 1] (q110 K E)) (q110 K E))))) (m110_1_1_0_1_0_0 x0 x1 x2 x4 x6 x7 x19 x20 v3 v8 j) h := by
 subst e3
 subst e8
 exact loop_r (fun s j => m110_1_1_0_1_0_0 x0 x1 x2 x4 x6 x7 x19 x20 (f3 s) (f8 s) j) I μ round s0 j h0
end
end Go.Proofs.YtgjdjdjhoipfmaaGreatDoor.T
open Go Go.RowKit
set_option linter.unusedVariables false
set_option linter.unusedSimpArgs false
namespace Go.Proofs.YtgjdjdjhoipfmaaGreatDoor.K
def F0 (w : World) : Nat → Option (List Value) := fun b => match w.heap[b]? with
  | some (.cells arr _ _) => some arr.toList
  | _ => none
def h0 (w : World) : Hp := ⟨F0 w, fun _ => none, w.heap.size⟩
theorem F0_some {w : World} {b : Nat} {cs : List Value} (h : F0 w b = some cs) : b < w.heap.size ∧ ∃ arr e z, w.heap[b]? = some (.cells arr e z) ∧ arr.toList = cs := by
  unfold F0 at h
  split at h
  · rename_i arr e z hb
    injection h with h
    exact ⟨(Array.getElem?_eq_some_iff.1 hb).1, arr, e, z, hb, h⟩
  · cases h
theorem rep0 (w : World) : Rep w (h0 w) w := by
  refine ⟨Below.refl _ _, Nat.le_refl _, Nat.le_refl _, Nat.le_refl _, fun b cs hb => ?_, fun b e cs tot hb => ?_, fun b o hb => ?_⟩
  · obtain ⟨h1, arr, e, z, h2, h3⟩ := F0_some hb
    exact ⟨h1, arr, e, z, h2, by rw [h3]; exact List.prefix_refl _⟩
  · cases hb
  · cases hb
theorem calls0 {P : Program} {f : FuncId} {args : Array Value} {K : Value → Prop} {w : World} (hd : call P f args (fun v _ => K v) (fun _ _ => False) (h0 w)) :
    Calls P f args w fun e w' => (∃ v, e = .returned v ∧ K v) ∧ Below w.heap.size w w' :=
  (hd w w (fun hb => hb.elim) (rep0 w)).mono fun e w' ⟨h', r', he⟩ => by
    cases e with
    | returned v => exact ⟨⟨v, rfl, he⟩, r'.below⟩
    | panicked c => exact he.elim
    | outgrown => exact he.elim
theorem calls1 {P : Program} {f : FuncId} {args : Array Value} {K : Value → Prop} {w : World} (hd : call P f args (fun v _ => K v) (fun _ _ => False) (h0 w)) :
    Calls P f args w fun e w' => (∃ v, e = .returned v ∧ K v) ∧ Below w.heap.size w w' ∧ w.drawn ≤ w'.drawn :=
  (hd w w (fun hb => hb.elim) (rep0 w)).mono fun e w' ⟨h', r', he⟩ => by
    cases e with
    | returned v => exact ⟨⟨v, rfl, he⟩, r'.below, r'.dr⟩
    | panicked c => exact he.elim
    | outgrown => exact he.elim
structure OpensK {α : Type} (P : Program) (t : TypeId) (sz : Nat) (R : (Nat → Option (List Value)) → List Value → α → Prop) : Prop where
  size : P.cellsOf t = sz
  get : ∀ {H : Type} {enc : TypeId × Value → H} {w : World} {base : Nat} {sp : Nat → Bool} {hd : Bool} {fuel : Nat} {cs : List Value} {x : DataW H × List MemPlace},
    DataW.trod enc P w base sp hd fuel t cs = some x → (∀ n ∈ x.1.weights P t, n ≤ reachBytes) → ∃ y, R (F0 w) cs y
  one : ∀ {F : Nat → Option (List Value)} {cs : List Value} {y : α}, R F cs y → cs.length = sz ∧ ∀ c ∈ cs, c.oneCell' = true
def rI (k : IntKind) (F : Nat → Option (List Value)) (cs : List Value) (n : Int) : Prop := cs = [.int k n] ∧ (Lit.int k n).wf = true
theorem opensK_int {P : Program} {t : TypeId} {k : IntKind} (ht : P.underlying t = some (.int k)) (hs : P.cellsOf t = 1) : OpensK P t 1 (rI k) := by
  refine ⟨hs, fun {H enc w base sp hd fuel cs x} h hwt => ?_, fun {F cs y} h => by obtain ⟨rfl, _⟩ := h; exact ⟨rfl, List.all_eq_true.1 rfl⟩⟩
  cases fuel with
  | zero => simp [DataW.trod] at h
  | succ n =>
    unfold DataW.trod at h
    rw [ht] at h
    split at h <;> simp_all
    exact ⟨_, rfl, h.1.2⟩
def rB (F : Nat → Option (List Value)) (cs : List Value) (b : Bool) : Prop := cs = [.bool b]
theorem opensK_bool {P : Program} {t : TypeId} (ht : P.underlying t = some .bool) (hs : P.cellsOf t = 1) : OpensK P t 1 rB := by
  refine ⟨hs, fun {H enc w base sp hd fuel cs x} h hwt => ?_, fun {F cs y} h => by obtain rfl := h; exact ⟨rfl, List.all_eq_true.1 rfl⟩⟩
  cases fuel with
  | zero => simp [DataW.trod] at h
  | succ n =>
    unfold DataW.trod at h
    rw [ht] at h
    split at h
    all_goals first | (simp at h; done) | skip
    all_goals first | (cases ‹some TypeDesc.bool = _›; done) | exact ⟨_, rfl⟩
def rT (F : Nat → Option (List Value)) (cs : List Value) (s : ByteArray) : Prop := cs = [.string s] ∧ s.size ≤ maxLen
theorem opensK_string {P : Program} {t : TypeId} (ht : P.underlying t = some .string) (hs : P.cellsOf t = 1) : OpensK P t 1 rT := by
  refine ⟨hs, fun {H enc w base sp hd fuel cs x} h hwt => ?_, fun {F cs y} h => by obtain ⟨rfl, _⟩ := h; exact ⟨rfl, List.all_eq_true.1 rfl⟩⟩
  cases fuel with
  | zero => simp [DataW.trod] at h
  | succ n =>
    unfold DataW.trod at h
    rw [ht] at h
    split at h <;> simp_all
    exact ⟨_, rfl, h.1⟩
theorem mapM_get {α β : Type} {f : α → Option β} : ∀ {l : List α} {r : List β}, l.mapM f = some r → r.length = l.length ∧ ∀ (i : Nat) (a : α), l[i]? = some a → f a = r[i]?
  | [], r, h => by simp at h; subst h; simp
  | a :: l, r, h => by
    rw [List.mapM_cons] at h
    cases hf : f a with
    | none => simp [hf] at h
    | some b =>
      cases hm : l.mapM f with
      | none => simp [hf, hm] at h
      | some r' =>
        simp [hf, hm] at h
        subst h
        obtain ⟨h1, h2⟩ := mapM_get hm
        refine ⟨by simp [h1], fun i x hx => ?_⟩
        cases i with
        | zero => simp at hx; subst hx; simpa using hf
        | succ i => simpa using h2 i x (by simpa using hx)
theorem cells_get {w : World} {base : Nat} {a : Addr} {n : Nat} {cs : List Value} (h : w.cells? base a n = some cs) : cs.length = n ∧ ∀ (i : Nat) (u : Value), cs[i]? = some u → w.cell? (a.add i) = some u := by
  unfold World.cells? at h
  split at h
  · obtain ⟨h1, h2⟩ := mapM_get h
    refine ⟨by simpa using h1, fun i u hu => ?_⟩
    have hi : i < n := by
      have := (List.getElem?_eq_some_iff.1 hu).1
      rw [h1] at this
      simpa using this
    rw [← hu]
    exact h2 i i (by simp [hi])
  · simp at h
def rS {α : Type} (sz : Nat) (R : (Nat → Option (List Value)) → List Value → α → Prop) (F : Nat → Option (List Value)) (cs : List Value) (ys : List α) : Prop :=
  ∃ v rows, cs = [v] ∧ sF F sz v ys.length rows.flatten ∧ rowsF (R F) sz rows ys ∧ ys.length ≤ 140737488351232
theorem cell_F0 {w : World} {a : Addr} {u : Value} (h : w.cell? a = some u) : a.spot = none ∧ ∃ cs, F0 w a.block = some cs ∧ cs[a.off]? = some u := by
  unfold World.cell? at h
  split at h
  · rename_i arr e z hb
    split at h
    · cases h
    · rename_i hsp
      refine ⟨by cases hs : a.spot <;> simp_all, arr.toList, by simp [F0, hb], by simpa using h⟩
  · cases h
theorem weights_mem_all {H : Type} {P : Program} {e : TypeId} : ∀ {l : List (DataW H)} {d : DataW H}, d ∈ l → ∀ n ∈ d.weights P e, n ∈ DataW.weightsAll P e l
  | a :: l, d, h, n, hn => by
    simp only [DataW.weightsAll, List.mem_append]
    rcases List.mem_cons.1 h with h | h
    · exact .inl (h ▸ hn)
    · exact .inr (weights_mem_all h n hn)
theorem opensK_slice {α : Type} {P : Program} {t e : TypeId} {sz : Nat} {R : (Nat → Option (List Value)) → List Value → α → Prop} (ht : P.underlying t = some (.slice e)) (hs : P.cellsOf t = 1) (hby : Nat.blt 0 (P.bytesOf e) = true) (hz : 0 < sz) (he : OpensK P e sz R) :
    OpensK P t 1 (rS sz R) := by
  refine ⟨hs, fun {H enc w base sp hd fuel cs x} h hwt => ?_, fun {F cs y} h => by
    obtain ⟨v, rows, rfl, hv, _⟩ := h
    obtain ⟨a, c, rfl, _⟩ := hv.form
    exact ⟨rfl, List.all_eq_true.1 rfl⟩⟩
  rcases DataW.trod_slice ht h with ⟨rfl, rfl⟩ | ⟨a, len, cap, elems, rest, n, _, rfl, rfl, hb, hl, hm, hlen, hel, hsp, hns⟩
  · exact ⟨[], _, [], rfl, sF.nil _ _ _, rowsF.nil _ _, Nat.zero_le _⟩
  · have hwt1 : len ≤ 140737488351232 ∧ ∀ d ∈ elems, ∀ n ∈ d.1.weights P e, n ≤ reachBytes := by
      simp only [DataW.weights, ht] at hwt
      refine ⟨?_, fun d hd n hn => hwt n (List.mem_cons_of_mem _ (List.mem_append.2 (.inl (weights_mem_all (List.mem_map_of_mem hd) n hn))))⟩
      have h1 := hwt _ List.mem_cons_self
      simp only [List.length_map, hlen] at h1
      have h2 : 0 < P.bytesOf e := Nat.le_of_ble_eq_true hby
      have h3 : len + rest.length ≤ (len + rest.length) * P.bytesOf e := Nat.le_mul_of_pos_right _ h2
      have h4 : reachBytes = 140737488351232 := by decide
      omega
    have hex : ∀ m, m ≤ len → ∃ (ys : List α) (rows : List (List Value)), ys.length = m ∧ rowsF (R (F0 w)) sz rows ys ∧ ∀ (i : Nat) (u : Value), rows.flatten[i]? = some u → w.cell? (a.add i) = some u := by
      intro m
      induction m with
      | zero => exact fun _ => ⟨[], [], rfl, rowsF.nil _ _, fun i y h => by simp at h⟩
      | succ m ih =>
        intro hm'
        obtain ⟨ys, rows, h1, h2, h2'⟩ := ih (by omega)
        have h3 := hel m (by omega)
        rw [List.getElem?_eq_getElem (by omega)] at h3
        obtain ⟨c, hc, h4⟩ := Option.bind_eq_some_iff.1 h3
        obtain ⟨y, hy⟩ := he.get h4 (hwt1.2 _ (List.getElem_mem _))
        obtain ⟨ho1, ho2⟩ := he.one hy
        refine ⟨ys ++ [y], rows ++ [c], by simp [h1], h2.snoc ho1 ho2 hy, fun i u hu => ?_⟩
        have hfl := h2.flen
        rw [h1] at hfl
        rw [List.flatten_append] at hu
        rcases Nat.lt_or_ge i (m * sz) with h5 | h5
        · rw [List.getElem?_append_left (by omega)] at hu
          exact h2' i u hu
        · rw [List.getElem?_append_right (by omega)] at hu
          obtain ⟨_, h7⟩ := cells_get hc
          have h8 := h7 (i - m * sz) u (by rw [hfl] at hu; simpa using hu)
          rw [he.size, Addr.add_add] at h8
          rwa [show m * sz + (i - m * sz) = i by omega] at h8
    obtain ⟨ys, rows, h1, h2, h3⟩ := hex len (Nat.le_refl _)
    subst h1
    refine ⟨ys, _, rows, rfl, ⟨h2.flen, ?_⟩, h2, hwt1.1⟩
    cases hy : ys with
    | nil => exact .inl ⟨_, _, rfl, rfl⟩
    | cons y0 ys0 =>
      rw [← hy]
      have hpos : 0 < ys.length := by rw [hy]; simp
      have hfl := h2.flen
      have hpz : 0 < ys.length * sz := Nat.mul_pos hpos hz
      have hsp0 : a.spot = none := (cell_F0 (by simpa [Addr.add] using h3 0 _ (List.getElem?_eq_getElem (by omega)))).1
      obtain ⟨ab, ao, asp⟩ := a
      simp only at hsp0
      subst hsp0
      have key : ∀ i, i < ys.length * sz → ∃ cs, F0 w ab = some cs ∧ cs[ao + i]? = rows.flatten[i]? := by
        intro i hi
        have h4 := h3 i _ (List.getElem?_eq_getElem (by omega))
        rw [Addr.add_plain] at h4
        obtain ⟨_, cs, h6, h7⟩ := cell_F0 h4
        exact ⟨cs, h6, by rw [List.getElem?_eq_getElem (l := rows.flatten) (by omega)]; exact h7⟩
      obtain ⟨cs, h6, _⟩ := key 0 hpz
      refine .inr ⟨ab, ao, cap, cs, rfl, hl, h6, ?_⟩
      have key2 : ∀ i, i < ys.length * sz → cs[ao + i]? = rows.flatten[i]? := fun i hi => by
        obtain ⟨cs', h7, h8⟩ := key i hi
        rw [h6] at h7
        injection h7 with h7
        rw [h7]; exact h8
      apply List.ext_getElem?
      intro i
      rw [List.getElem?_take]
      split
      · rename_i hi
        rw [List.getElem?_drop, key2 i hi]
      · exact (List.getElem?_eq_none (l := rows.flatten) (by omega)).symm
def OpensFK {α : Type} (P : Program) (fs : List Go.Field) (o sz : Nat) (R : (Nat → Option (List Value)) → List Value → α → Prop) : Prop :=
  (∀ {H : Type} {enc : TypeId × Value → H} {w : World} {base : Nat} {sp : Nat → Bool} {hd : Bool} {fuel : Nat} {cs : List Value} {xs : List (DataW H × List MemPlace)},
    (fs.mapM fun f => DataW.trod enc P w base sp hd fuel f.type ((cs.drop f.offset).take (P.cellsOf f.type))) = some xs → (∀ n ∈ DataW.weightsEach P (fs.map (·.type)) (xs.map (·.1)), n ≤ reachBytes) → cs.length = o + sz → ∃ y, R (F0 w) (cs.drop o) y) ∧
  ∀ {F : Nat → Option (List Value)} {cs : List Value} {y : α}, R F cs y → cs.length = sz ∧ ∀ c ∈ cs, c.oneCell' = true
def rP {α β : Type} (A : (Nat → Option (List Value)) → List Value → α → Prop) (B : (Nat → Option (List Value)) → List Value → β → Prop) (F : Nat → Option (List Value)) (cs : List Value) (p : α × β) : Prop := ∃ c1 c2, cs = c1 ++ c2 ∧ A F c1 p.1 ∧ B F c2 p.2
theorem opensFK_one {α : Type} {P : Program} {f : Go.Field} {o sz : Nat} {R : (Nat → Option (List Value)) → List Value → α → Prop} (ho : f.offset = o) (h : OpensK P f.type sz R) : OpensFK P [f] o sz R := by
  refine ⟨fun {H enc w base sp hd fuel cs xs} hm hwt hl => ?_, h.one⟩
  obtain ⟨_, h2⟩ := mapM_get hm
  have h3 := h2 0 f rfl
  have hx : (cs.drop f.offset).take (P.cellsOf f.type) = cs.drop o := by
    rw [ho, h.size, List.take_of_length_le (by rw [List.length_drop]; omega)]
  rw [hx] at h3
  cases hx0 : xs[0]? with
  | none =>
    have := (mapM_get hm).1
    rw [List.getElem?_eq_none_iff] at hx0
    simp at this
    omega
  | some x =>
    rw [hx0] at h3
    refine h.get h3 fun n hn => hwt n ?_
    refine DataW.weights_mem_each (j := 0) rfl ?_ n hn
    rw [List.getElem?_map, hx0]; rfl
theorem opensFK_cons {α β : Type} {P : Program} {f : Go.Field} {fs : List Go.Field} {o sa sb : Nat} {A : (Nat → Option (List Value)) → List Value → α → Prop} {B : (Nat → Option (List Value)) → List Value → β → Prop} (ho : f.offset = o) (h : OpensK P f.type sa A) (hs : OpensFK P fs (o + sa) sb B) :
    OpensFK P (f :: fs) o (sa + sb) (rP A B) := by
  refine ⟨fun {H enc w base sp hd fuel cs xs} hm hwt hl => ?_, fun {F cs y} hr => ?_⟩
  · rw [List.mapM_cons] at hm
    obtain ⟨x, h1, h2⟩ := Option.bind_eq_some_iff.1 hm
    obtain ⟨xs', h3, h4⟩ := Option.bind_eq_some_iff.1 h2
    obtain rfl : x :: xs' = xs := by simpa using h4
    simp only [List.map_cons, DataW.weightsEach, List.mem_append] at hwt
    obtain ⟨y, hy⟩ := h.get h1 (fun n hn => hwt n (.inl hn))
    obtain ⟨z, hz⟩ := hs.1 h3 (fun n hn => hwt n (.inr hn)) (by omega)
    refine ⟨(y, z), _, _, ?_, hy, hz⟩
    rw [ho, h.size, ← List.drop_drop, List.take_append_drop]
  · obtain ⟨c1, c2, rfl, h1, h2⟩ := hr
    obtain ⟨a1, a2⟩ := h.one h1
    obtain ⟨b1, b2⟩ := hs.2 h2
    refine ⟨by simp; omega, fun c hc => ?_⟩
    rcases List.mem_append.1 hc with hc | hc
    · exact a2 c hc
    · exact b2 c hc
theorem opensK_struct {α : Type} {P : Program} {t : TypeId} {fs : Array Go.Field} {sz : Nat} {R : (Nat → Option (List Value)) → List Value → α → Prop} (ht : P.underlying t = some (.struct fs)) (hs : P.cellsOf t = sz) (h : OpensFK P fs.toList 0 sz R) : OpensK P t sz R := by
  refine ⟨hs, fun {H enc w base sp hd fuel cs x} hx hwt => ?_, h.2⟩
  cases fuel with
  | zero => simp [DataW.trod] at hx
  | succ n =>
    have key : cs.length = P.cellsOf t ∧ ∃ xs, (fs.toList.mapM fun f => DataW.trod enc P w base sp hd n f.type ((cs.drop f.offset).take (P.cellsOf f.type))) = some xs ∧ x.1 = .agg (xs.map (·.1)) := by
      unfold DataW.trod at hx
      rw [ht] at hx
      split at hx
      case h_9 =>
        rename_i fs' e
        injection e with e
        injection e with e
        subst e
        split at hx
        · rename_i hc
          refine ⟨hc, ?_⟩
          obtain ⟨xs, h1, h2⟩ := Option.map_eq_some_iff.1 hx
          exact ⟨xs, h1, by rw [← h2]⟩
        · exact absurd hx (by simp)
      all_goals first | (exfalso; simp at hx; done) | (exfalso; simp_all; done)
    obtain ⟨hc, xs, hm, hx1⟩ := key
    rw [hx1] at hwt
    simp only [DataW.weights, ht] at hwt
    obtain ⟨y, hy⟩ := h.1 hm hwt (by rw [hc, hs]; omega)
    exact ⟨y, by simpa using hy⟩
theorem OpensK.arg {α : Type} {P : Program} {t : TypeId} {sz : Nat} {R : (Nat → Option (List Value)) → List Value → α → Prop} (h : OpensK P t sz R) {H : Type} {enc : TypeId × Value → H} {w : World} {base : Nat} {sp : Nat → Bool} {hd : Bool} {v : Value} {x : DataW H} {ps : List MemPlace}
    (hx : DataW.Trod enc P w base sp hd t v x ps) {ts : List TypeId} {ds : List (DataW H)} (hsz : (DataW.weightsEach P ts ds).all (· ≤ reachBytes) = true) (j : Nat) (ht : ts[j]? = some t) (hd' : ds[j]? = some x) : ∃ y, R (F0 w) v.cells.toList y := by
  obtain ⟨fuel, hx⟩ := hx
  exact h.get hx fun n hn => by simpa using List.all_eq_true.1 hsz n (DataW.weights_mem_each ht hd' n hn)
theorem rS_ints {k : IntKind} {F : Nat → Option (List Value)} {v : Value} {ys : List Int} (h : rS 1 (rI k) F [v] ys) : sF F 1 v ys.length (ys.map (.int k)) ∧ (∀ y ∈ ys, (Lit.int k y).wf = true) ∧ ys.length ≤ 140737488351232 := by
  obtain ⟨v', rows, e, hv, hr, hm⟩ := h
  injection e with e _
  subst e
  have : rows.flatten = ys.map (.int k) := by
    have h1 : ∀ (rows : List (List Value)) (ys : List Int), all2 (rI k F) rows ys → rows.flatten = ys.map (.int k) := by
      intro rows
      induction rows with
      | nil => intro ys h; have := h.1; cases ys with | nil => rfl | cons _ _ => simp at this
      | cons r rows ih =>
        intro ys h
        cases ys with
        | nil => have := h.1; simp at this
        | cons y ys =>
          obtain ⟨h2, _⟩ := h.2 0 r y rfl rfl
          rw [List.flatten_cons, h2, ih ys ⟨by have := h.1; simp at this; omega, fun i a b ha hb => h.2 (i + 1) a b (by simpa using ha) (by simpa using hb)⟩]
          rfl
    exact h1 _ _ hr.all
  rw [this] at hv
  refine ⟨hv, fun y hy => ?_, hm⟩
  obtain ⟨j, hj, rfl⟩ := List.mem_iff_getElem.1 hy
  obtain ⟨r, _, h2⟩ := hr.all.get (List.getElem?_eq_getElem hj)
  exact h2.2
end Go.Proofs.YtgjdjdjhoipfmaaGreatDoor.K
open Go Go.RowKit Go.MapKept
set_option linter.unusedVariables false
set_option linter.unusedSimpArgs false
namespace Go.Proofs.YtgjdjdjhoipfmaaGreatDoor.K
section
variable {F : Nat → Option (List Value)} {M : Nat → Option Chunk} {N : Nat} {K : Kont} {P : Program}
theorem mkm_r (k : ∀ b, N ≤ b → K (.map (some b)) ⟨F, upd M b (some (.obj (.map #[] 0))), b + 1⟩) : mkm K ⟨F, M, N⟩ := fun b hb => k b hb
theorem lk_r {t k e : TypeId} {d : TypeDesc} {b : Nat} {es : Array MapEntry} {clock : Nat} {key z : Value} (ht : P.underlying t = some (.map k e)) (hk : P.underlying k = some d) (hz : ∀ w : World, (zeroValue e).run P w = .ok z w) (hkey : IsKey d key) (hks : ∀ x ∈ es.toList, IsKey d x.key)
    (hM : M b = some (.obj (.map es clock)))
    (miss : (∀ x ∈ es.toList, x.key ≠ key) → K (.tuple #[z, .bool false]) ⟨F, M, N⟩)
    (hit : ∀ (j : Nat) (x : MapEntry), es.toList[j]? = some x → x.key = key → K (.tuple #[x.val, .bool true]) ⟨F, M, N⟩) : lkp P t (.map (some b)) key true K ⟨F, M, N⟩ := by
  rcases findNow_spec hkey es.toList 0 hks with ⟨h1, h2⟩ | ⟨j, e0, h1, h2, h3⟩
  · refine ⟨b, es, clock, _, rfl, hM, fun w hb => ?_, miss h2⟩
    simp [Instr.lookup, run_underlying ht, MapKept.run_getObj_map hb, run_checkKey hk hkey, run_findKey hk h1, hz, Result.andThen]
  · refine ⟨b, es, clock, _, rfl, hM, fun w hb => ?_, hit j e0 h2 h3⟩
    simp [Instr.lookup, run_underlying ht, MapKept.run_getObj_map hb, run_checkKey hk hkey, run_findKey hk h1, Result.andThen]
theorem mu_r {t k e : TypeId} {d : TypeDesc} {b : Nat} {es : Array MapEntry} {clock : Nat} {key v : Value} (ht : P.underlying t = some (.map k e)) (hk : P.underlying k = some d) (hkey : IsKey d key) (hks : ∀ x ∈ es.toList, IsKey d x.key)
    (hM : M b = some (.obj (.map es clock)))
    (new : (∀ x ∈ es.toList, x.key ≠ key) → K undef ⟨F, upd M b (some (.obj (.map (es.push ⟨key, v, clock⟩) (clock + 1)))), N⟩)
    (old : ∀ (j : Nat) (x : MapEntry), es.toList[j]? = some x → x.key = key → K undef ⟨F, upd M b (some (.obj (.map (es.modify j (fun e' => { e' with key := key, val := v })) clock))), N⟩) : mup P t (.map (some b)) key v K ⟨F, M, N⟩ := by
  rcases findNow_spec hkey es.toList 0 hks with ⟨h1, h2⟩ | ⟨j, e0, h1, h2, h3⟩
  · refine ⟨b, es, clock, _, _, rfl, hM, fun w hb => ?_, new h2⟩
    simp [Instr.mapUpdate, run_underlying ht, MapKept.run_getObj_map hb, run_checkKey hk hkey, run_findKey hk h1, MapKept.run_setObj_map _ hb, Result.andThen]
  · have hj : es[j]? = some e0 := by simpa using h2
    have hkeep : ∀ w : World, (Instr.keyThatStays e0.key key).run P w = .ok key w := fun w => by rw [h3]; exact run_keyThatStays hkey
    refine ⟨b, es, clock, _, _, rfl, hM, fun w hb => ?_, old j e0 h2 h3⟩
    simp [Instr.mapUpdate, run_underlying ht, MapKept.run_getObj_map hb, run_checkKey hk hkey, run_findKey hk h1, hj, hkeep, MapKept.run_setObj_map _ hb, Result.andThen]
end
end Go.Proofs.YtgjdjdjhoipfmaaGreatDoor.K
open Go Go.RowKit Go.Proofs.YtgjdjdjhoipfmaaGreatDoor.K Go.Proofs.YtgjdjdjhoipfmaaGreatDoor.T
set_option linter.unusedVariables false
set_option linter.unusedSimpArgs false
namespace Go.Proofs.YtgjdjdjhoipfmaaGreatDoor.A
theorem mixed : Tryz.prog.follows .mixedOrders = true := by kernel_rfl
variable {F F' : Nat → Option (List Value)} {M M' : Nat → Option Chunk} {N N' : Nat} {K : Kont} {E : PanK}
theorem blank_c (k : ∀ g bm N', N ≤ bm → bm < g → g < N' → (Hp.mk F (upd (upd M bm (some (.obj (.map #[] 0)))) g (some (.cells 159 [.slice none 0 0, .map (some bm)] 2))) N').wf → K (.pointer (some ⟨g, 0, none⟩)) ⟨F, upd (upd M bm (some (.obj (.map #[] 0)))) g (some (.cells 159 [.slice none 0 0, .map (some bm)] 2)), N'⟩) :
    callv Tryz.prog (.func (.func 73) #[] #[]) #[] K E ⟨F, M, N⟩ := by
  refine callv_of_text mixed Tryz.func73 (by kernel_rfl) (t73 _ E) (fun hw => ?_)
  refine mkm_r (fun bm hbm => ?_)
  refine pv_r (v := .agg #[.slice none 0 0, .map (some bm)]) (by kernel_rfl) ?_
  refine nw_r (fun g hg hc => ?_)
  exact ⟨_, wk_refl hc, fun hw' => k g bm _ hbm (by omega) (by omega) hw'⟩
end Go.Proofs.YtgjdjdjhoipfmaaGreatDoor.A
open Go Go.RowKit Go.Proofs.YtgjdjdjhoipfmaaGreatDoor.K Go.Proofs.YtgjdjdjhoipfmaaGreatDoor.T
set_option linter.unusedVariables false
set_option linter.unusedSimpArgs false
namespace Go.Proofs.YtgjdjdjhoipfmaaGreatDoor.A
variable {F F' : Nat → Option (List Value)} {M M' : Nat → Option Chunk} {N N' : Nat} {K : Kont} {E : PanK}
structure CE where
  n : Int
  s : Int
  lo : Int
  hi : Int
  deriving DecidableEq
def CE.cs (c : CE) : List Value := [.int .i64 c.n, .int .i64 c.s, .int .i64 c.lo, .int .i64 c.hi]
theorem of_c {v : Int} (k : ∀ N', N ≤ N' → (Hp.mk F M N').wf → K (.agg (CE.mk 1 v v v).cs.toArray) ⟨F, M, N'⟩) : callv Tryz.prog (.func (.func 75) #[] #[]) #[.int .i64 v] K E ⟨F, M, N⟩ := by
  refine callv_of_text mixed Tryz.func75 (by kernel_rfl) (t75 _ E _) (fun hw => ?_)
  have hm := hw.m
  refine nw_r (fun b hb => ?_)
  refine pv_r (v := .agg #[.int .i64 1, .int .i64 v, .int .i64 v, .int .i64 v]) (by kernel_rfl) ?_
  refine stM ?_
  refine ldMa fun hc => ?_
  exact ⟨⟨F, M, b + 1⟩, wk_end hc, fun hw' => k _ (by omega) hw'⟩
def CE.add (a b : CE) : CE :=
  if b = ⟨0, 0, 0, 0⟩ then a else if a = ⟨0, 0, 0, 0⟩ then b else
    ⟨IntKind.i64.wrap (a.n + b.n), IntKind.i64.wrap (a.s + b.s), if b.lo < a.lo then b.lo else a.lo, if b.hi > a.hi then b.hi else a.hi⟩
theorem eqc_r {a b : CE} {h : Hp} (k : K (.bool (decide (a = b))) h) : pv (eqCells .eql [0, 0, 0, 0] (.agg a.cs.toArray) (.agg b.cs.toArray)) K h := by
  refine ⟨_, ?_, k⟩
  obtain ⟨a1, a2, a3, a4⟩ := a
  obtain ⟨b1, b2, b3, b4⟩ := b
  simp only [eqCells, CE.cs]
  have hd : ∀ x y : Int, (x == y) = decide (x = y) := fun _ _ => rfl
  by_cases h1 : a1 = b1 <;> by_cases h2 : a2 = b2 <;> by_cases h3 : a3 = b3 <;> by_cases h4 : a4 = b4 <;> simp [flatVs, flatV, hd, h1, h2, h3, h4]
theorem add_c {g : Nat} {ty : TypeId} {a b : CE} (hM : M g = some (.cells ty a.cs 4)) (k : ∀ N', N ≤ N' → (Hp.mk F (upd M g (some (.cells ty (a.add b).cs 4))) N').wf → K (.tuple #[]) ⟨F, upd M g (some (.cells ty (a.add b).cs 4)), N'⟩) :
    callv Tryz.prog (.func (.func 131) #[] #[]) #[.pointer (some ⟨g, 0, none⟩), .agg b.cs.toArray] K E ⟨F, M, N⟩ := by
  refine callv_of_text mixed Tryz.func131 (by kernel_rfl) (t131 _ E _ _) (fun hw => ?_)
  have hm := hw.m
  have hg : g < N := by
    rcases Nat.lt_or_ge g N with h | h
    · exact h
    · rw [hm g h] at hM; cases hM
  refine nw_r (cs := b.cs) (fun b1 hb1 => ?_)
  refine pv_r (v := .agg #[.int .i64 0, .int .i64 0, .int .i64 0, .int .i64 0]) (by kernel_rfl) ?_
  refine nw_r (fun b2 hb2 => ?_)
  refine stM ?_
  refine ldMa (vs := b.cs) ?_
  refine ldMa (vs := (CE.mk 0 0 0 0).cs) ?_
  refine eqc_r ?_
  by_cases hb0 : b = ⟨0, 0, 0, 0⟩
  · rw [decide_eq_true hb0]
    refine cnd_t fun hc => ?_
    have e : a.add b = a := by unfold CE.add; rw [if_pos hb0]
    rw [e] at k
    have e2 : upd M g (some (.cells ty a.cs 4)) = M := by
      funext q
      by_cases hq : q = g
      · rw [hq, upd_same, hM]
      · rw [upd_ne _ _ hq]
    rw [e2] at k
    exact ⟨⟨F, M, b2 + 1⟩, wk_end hc, fun hw' => k _ (by omega) hw'⟩
  rw [decide_eq_false hb0]
  refine cnd_f (pv_r rfl (pv_r rfl ?_))
  refine ldMa (vs := a.cs) ?_
  refine ldMa (vs := (CE.mk 0 0 0 0).cs) ?_
  refine eqc_r ?_
  by_cases ha0 : a = ⟨0, 0, 0, 0⟩
  · rw [decide_eq_true ha0]
    refine cnd_t ?_
    refine ldMa (vs := b.cs) ?_
    refine pv_r rfl (pv_r rfl (stM (cs' := b.cs) ?_))
    have e : a.add b = b := by unfold CE.add; rw [if_neg hb0, if_pos ha0]
    rw [e] at k
    refine fun hc => ⟨⟨F, upd M g (some (.cells ty b.cs 4)), b2 + 1⟩, wk_drop hc (subM_keep ?_), fun hw' => k _ (by omega) hw'⟩
    exact subM_drop (subM_drop (subM_drop (subM_refl _) (hm _ (by omega))) (hm _ (by omega))) (hm _ (by omega))
  rw [decide_eq_false ha0]
  have e : a.add b = ⟨IntKind.i64.wrap (a.n + b.n), IntKind.i64.wrap (a.s + b.s), if b.lo < a.lo then b.lo else a.lo, if b.hi > a.hi then b.hi else a.hi⟩ := by unfold CE.add; rw [if_neg hb0, if_neg ha0]
  rw [e] at k
  refine cnd_f (pv_r rfl (pv_r rfl (pv_r rfl ?_)))
  refine ldM (v := .int .i64 a.n) ?_
  refine pv_r rfl (ldM (v := .int .i64 b.n) ?_)
  refine pv_r (v := .int .i64 (IntKind.i64.wrap (a.n + b.n))) (by simp [binV, intV]) ?_
  refine pv_r rfl (pv_r rfl (pv_r rfl ?_))
  refine stM (cs' := [.int .i64 (IntKind.i64.wrap (a.n + b.n)), .int .i64 a.s, .int .i64 a.lo, .int .i64 a.hi]) ?_
  refine pv_r rfl (pv_r rfl (pv_r rfl ?_))
  refine ldM (v := .int .i64 a.s) ?_
  refine pv_r rfl (ldM (v := .int .i64 b.s) ?_)
  refine pv_r (v := .int .i64 (IntKind.i64.wrap (a.s + b.s))) (by simp [binV, intV]) ?_
  refine pv_r rfl (pv_r rfl (pv_r rfl ?_))
  refine stM (cs' := [.int .i64 (IntKind.i64.wrap (a.n + b.n)), .int .i64 (IntKind.i64.wrap (a.s + b.s)), .int .i64 a.lo, .int .i64 a.hi]) ?_
  refine pv_r rfl (pv_r rfl (pv_r rfl ?_))
  refine ldM (v := .int .i64 a.lo) ?_
  refine pv_r rfl (ldM (v := .int .i64 b.lo) ?_)
  refine pv_r (v := .int .i64 (if b.lo < a.lo then b.lo else a.lo)) (by simp [mm]) ?_
  refine pv_r rfl (pv_r rfl (pv_r rfl ?_))
  refine stM (cs' := [.int .i64 (IntKind.i64.wrap (a.n + b.n)), .int .i64 (IntKind.i64.wrap (a.s + b.s)), .int .i64 (if b.lo < a.lo then b.lo else a.lo), .int .i64 a.hi]) ?_
  refine pv_r rfl (pv_r rfl (pv_r rfl ?_))
  refine ldM (v := .int .i64 a.hi) ?_
  refine pv_r rfl (ldM (v := .int .i64 b.hi) ?_)
  refine pv_r (v := .int .i64 (if b.hi > a.hi then b.hi else a.hi)) (by simp [mm]) ?_
  refine pv_r rfl (pv_r rfl (pv_r rfl ?_))
  refine stM (cs' := [.int .i64 (IntKind.i64.wrap (a.n + b.n)), .int .i64 (IntKind.i64.wrap (a.s + b.s)), .int .i64 (if b.lo < a.lo then b.lo else a.lo), .int .i64 (if b.hi > a.hi then b.hi else a.hi)]) ?_
  intro hc
  refine ⟨⟨F, upd M g (some (.cells ty (CE.mk (IntKind.i64.wrap (a.n + b.n)) (IntKind.i64.wrap (a.s + b.s)) (if b.lo < a.lo then b.lo else a.lo) (if b.hi > a.hi then b.hi else a.hi)).cs 4)), b2 + 1⟩, wk_drop hc fun q c hq => ?_, fun hw' => k _ (by omega) hw'⟩
  by_cases hqg : q = g
  · subst hqg; rw [upd_same] at hq ⊢; exact hq
  · rw [upd_ne _ _ hqg] at hq
    have : q < N := by
      rcases Nat.lt_or_ge q N with h | h
      · exact h
      · rw [hm q h] at hq; cases hq
    rw [upd_ne _ _ hqg, upd_ne _ _ hqg, upd_ne _ _ hqg, upd_ne _ _ hqg, upd_ne _ _ (by omega), upd_ne _ _ (by omega), upd_ne _ _ (by omega)]
    exact hq
end Go.Proofs.YtgjdjdjhoipfmaaGreatDoor.A
open Go Go.RowKit Go.Proofs.YtgjdjdjhoipfmaaGreatDoor.K Go.Proofs.YtgjdjdjhoipfmaaGreatDoor.T
set_option linter.unusedVariables false
set_option linter.unusedSimpArgs false
namespace Go.Proofs.YtgjdjdjhoipfmaaGreatDoor.A
variable {F F' : Nat → Option (List Value)} {M M' : Nat → Option Chunk} {N N' : Nat} {K : Kont} {E : PanK}
def CE.merge (a b : CE) : CE := if 0 = a.n then b else if 0 = b.n then a else a.add b
theorem merge_c {a b : CE} (k : ∀ N', N ≤ N' → (Hp.mk F M N').wf → K (.agg (a.merge b).cs.toArray) ⟨F, M, N'⟩) : callv Tryz.prog (.func (.func 111) #[] #[]) #[.agg a.cs.toArray, .agg b.cs.toArray] K E ⟨F, M, N⟩ := by
  refine callv_of_text mixed Tryz.func111 (by kernel_rfl) (t111 _ E _ _) (fun hw => ?_)
  have hm := hw.m
  refine nw_r (cs := a.cs) (fun b1 hb1 => ?_)
  refine nw_r (cs := b.cs) (fun b2 hb2 => ?_)
  refine nw_r (fun b3 hb3 => ?_)
  refine pv_r rfl (ldM (v := .int .i64 a.n) ?_)
  refine eql_r (fun ha => ?_) (fun ha => ?_)
  · have e : a.merge b = b := by unfold CE.merge; rw [if_pos ha]
    rw [e] at k
    refine cnd_t (ldMa (vs := b.cs) ?_)
    refine stM (cs' := b.cs) ?_
    refine ldMa (vs := b.cs) fun hc => ?_
    exact ⟨⟨F, M, b3 + 1⟩, wk_end hc, fun hw' => k _ (by omega) hw'⟩
  refine cnd_f (pv_r rfl (ldM (v := .int .i64 b.n) ?_))
  refine eql_r (fun hb => ?_) (fun hb => ?_)
  · have e : a.merge b = a := by unfold CE.merge; rw [if_neg ha, if_pos hb]
    rw [e] at k
    refine cnd_t (ldMa (vs := a.cs) ?_)
    refine stM (cs' := a.cs) ?_
    refine ldMa (vs := a.cs) fun hc => ?_
    exact ⟨⟨F, M, b3 + 1⟩, wk_end hc, fun hw' => k _ (by omega) hw'⟩
  have e : a.merge b = a.add b := by unfold CE.merge; rw [if_neg ha, if_neg hb]
  rw [e] at k
  refine cnd_f (ldMa (vs := a.cs) ?_)
  refine pv_r (v := .agg a.cs.toArray) (by kernel_rfl) ?_
  refine nw_r (fun b4 hb4 => ?_)
  refine stM (cs' := a.cs) ?_
  refine ldMa (vs := b.cs) ?_
  refine add_c (a := a) (b := b) (ty := 170) (upd_same _ _ _) (fun N' hN' hw' => ?_)
  refine pv_r rfl (ldMa (vs := (a.add b).cs) ?_)
  refine stM (cs' := (a.add b).cs) ?_
  refine ldMa (vs := (a.add b).cs) fun hc => ?_
  exact ⟨⟨F, M, N'⟩, wk_end hc, fun hw' => k _ (by omega) hw'⟩
end Go.Proofs.YtgjdjdjhoipfmaaGreatDoor.A
open Go Go.RowKit Go.Proofs.YtgjdjdjhoipfmaaGreatDoor.K Go.Proofs.YtgjdjdjhoipfmaaGreatDoor.T
set_option linter.unusedVariables false
set_option linter.unusedSimpArgs false
namespace Go.Proofs.YtgjdjdjhoipfmaaGreatDoor.A
variable {F F' : Nat → Option (List Value)} {M M' : Nat → Option Chunk} {N N' : Nat} {K : Kont} {E : PanK}
def ic (l : List Int) : List Value := l.map (.int .i64)
theorem clone_f {v : Value} {l : List Int} (hm0 : ∀ q, N ≤ q → M q = none) (hv : sR F M 1 v l.length (ic l)) (hl : l.length ≤ 10000000000000)
    (k : ∀ v' F' N', (Hp.mk F' M N').wf → subF F F' → N ≤ N' → sF F' 1 v' l.length (ic l) → K v' ⟨F', M, N'⟩) : callv Tryz.prog (.func (.func 30) #[] #[]) #[v] K E ⟨F, M, N⟩ := by
  refine callv_of_text mixed Tryz.func30 (by kernel_rfl) (t30 _ E _) (fun hw => ?_)
  obtain ⟨a, c, rfl, hc⟩ := hv.form
  cases a with
  | none =>
    have h0 : l.length = 0 := by rcases hv.2 with ⟨a', c', h1, h2⟩ | ⟨b, o, c', cs, h1, _⟩; exact h2; simp at h1
    have hl0 : l = [] := List.eq_nil_of_length_eq_zero h0
    refine pv_r rfl (cnd_t fun hc => ⟨_, wk_refl hc, fun hw' => k _ F N hw' (subF.refl _) (Nat.le_refl _) ?_⟩)
    rw [hl0]; exact sF.nil _ _ _
  | some ad =>
    refine pv_r rfl (cnd_f ?_)
    refine nws_r (cs := []) (by kernel_rfl) (fun b0 hb0 => ?_)
    refine app_r0 (n := 0) (cs := []) (m := l.length) (news := ic l) (ownS_new (upd_same _ _ _) rfl) (hv.new hw.m hb0).read (ints_one _) (by omega) (by simp [maxLen]; omega) (fun h => by cases h) (fun _ b c' hb hmc hcm hc => ?_)
    have hb' : N ≤ b := by rcases hb with h | h; omega; simp [Value.ownBlock] at h; omega
    rw [Nat.zero_add] at hmc
    refine ⟨⟨upd F b (some (ic l)), M, max (b0 + 1) (b + 1)⟩, wk_frz (M0 := M) hc ?_ (hm0 b hb') (upd_same _ _ _), fun hw' => k _ _ _ hw' (subF.upd (hw.f b hb')) (by omega) ?_⟩
    · intro q c hq
      have hqN : q < N := by
        rcases Nat.lt_or_ge q N with h | h
        · exact h
        · rw [hm0 q h] at hq; cases hq
      exact (upd_ne _ _ (by omega)).trans ((forget_ne _ (by simp [Value.ownBlock]; omega)).trans ((upd_ne _ _ (by omega)).trans hq))
    · rw [Nat.zero_add]
      exact sF_fresh (by simp [ic]) hmc
end Go.Proofs.YtgjdjdjhoipfmaaGreatDoor.A
open Go Go.RowKit Go.Proofs.YtgjdjdjhoipfmaaGreatDoor.K Go.Proofs.YtgjdjdjhoipfmaaGreatDoor.T
set_option linter.unusedVariables false
set_option linter.unusedSimpArgs false
namespace Go.Proofs.YtgjdjdjhoipfmaaGreatDoor.A
variable {F F' : Nat → Option (List Value)} {M M' : Nat → Option Chunk} {N N' : Nat} {K : Kont} {E : PanK}
def CE.sum (a b : CE) : CE := ⟨IntKind.i64.wrap (a.n + b.n), IntKind.i64.wrap (a.s + b.s), if b.lo < a.lo then b.lo else a.lo, if b.hi > a.hi then b.hi else a.hi⟩
def CE.rmerge (a b : CE) : CE := if a.n = 0 then b else if b.n = 0 then a else a.sum b
end Go.Proofs.YtgjdjdjhoipfmaaGreatDoor.A
open Go
namespace Go.Proofs.YtgjdjdjhoipfmaaGreatDoor.A
end Go.Proofs.YtgjdjdjhoipfmaaGreatDoor.A
open Go
set_option linter.unusedVariables false
set_option linter.unusedSimpArgs false
namespace Go.Proofs.YtgjdjdjhoipfmaaGreatDoor.A
def kcmp : List Int → List Int → Int
  | [], [] => 0
  | [], _ :: _ => -1
  | _ :: _, [] => 1
  | a :: l, b :: m => if a < b then -1 else if a > b then 1 else kcmp l m
theorem kcmp_self : ∀ a, kcmp a a = 0
  | [] => rfl
  | a :: l => by simp [kcmp, kcmp_self l]
theorem kcmp_eq : ∀ {a b : List Int}, kcmp a b = 0 → a = b
  | [], [], _ => rfl
  | [], b :: m, h => by simp [kcmp] at h
  | a :: l, [], h => by simp [kcmp] at h
  | a :: l, b :: m, h => by
    simp only [kcmp] at h
    split at h
    · omega
    · split at h
      · omega
      · have := kcmp_eq h
        rw [this, show a = b by omega]
theorem kcmp_neg : ∀ (a b : List Int), kcmp b a = - kcmp a b
  | [], [] => rfl
  | [], b :: m => rfl
  | a :: l, [] => rfl
  | a :: l, b :: m => by
    simp only [kcmp]
    rcases Int.lt_trichotomy a b with h | h | h
    · rw [if_neg (by omega), if_pos (by omega), if_pos h]; rfl
    · subst h; simp [kcmp_neg l m]
    · rw [if_pos (by omega), if_neg (by omega), if_pos (by omega)]
theorem kcmp_trans : ∀ {a b c : List Int}, kcmp a b < 0 → kcmp b c < 0 → kcmp a c < 0
  | [], [], c, h, _ => by simp [kcmp] at h
  | [], b :: m, [], _, h => by simp [kcmp] at h
  | [], b :: m, c :: o, _, _ => by simp [kcmp]
  | a :: l, [], c, h, _ => by simp [kcmp] at h
  | a :: l, b :: m, [], _, h => by simp [kcmp] at h
  | a :: l, b :: m, c :: o, h1, h2 => by
    simp only [kcmp] at h1 h2 ⊢
    by_cases ha : a < b
    · by_cases hb : b < c
      · rw [if_pos (by omega)]; decide
      · rw [if_neg hb] at h2
        by_cases hc : b > c
        · rw [if_pos hc] at h2; omega
        · rw [if_pos (by omega)]; decide
    · rw [if_neg ha] at h1
      by_cases ha2 : a > b
      · rw [if_pos ha2] at h1; omega
      · rw [if_neg ha2] at h1
        have : a = b := by omega
        subst this
        by_cases hb : a < c
        · rw [if_pos hb]; decide
        · rw [if_neg hb] at h2 ⊢
          by_cases hc : a > c
          · rw [if_pos hc] at h2; omega
          · rw [if_neg hc] at h2 ⊢
            exact kcmp_trans h1 h2
abbrev Rw := List Int × CE
def look : List Rw → List Int → Option CE
  | [], _ => none
  | (k', c) :: t, k => if k' = k then some c else look t k
theorem look_none : ∀ {t : List Rw} {k : List Int}, look t k = none ↔ ∀ x ∈ t, x.1 ≠ k
  | [], k => by simp [look]
  | (k', c) :: t, k => by
    simp only [look]
    split
    · rename_i h; simp [h]
    · rename_i h; rw [look_none]; simp [h]
def nodup (t : List Rw) : Prop := t.Pairwise fun a b => a.1 ≠ b.1
theorem look_some : ∀ {t : List Rw} {k : List Int} {c : CE}, nodup t → (look t k = some c ↔ (k, c) ∈ t)
  | [], k, c, _ => by simp [look]
  | (k', c') :: t, k, c, h => by
    have h' := List.pairwise_cons.1 h
    simp only [look]
    split
    · rename_i e
      subst e
      constructor
      · intro e; cases e; simp
      · intro e
        rcases List.mem_cons.1 e with e | e
        · cases e; rfl
        · exact absurd rfl (h'.1 (k', c) e)
    · rename_i e
      rw [look_some h'.2]
      simp [Ne.symm e]
def srt (t : List Rw) : Prop := t.Pairwise fun a b => kcmp a.1 b.1 < 0
theorem srt.nodup {t : List Rw} (h : srt t) : nodup t := h.imp fun {a b} h e => by rw [e, kcmp_self] at h; omega
theorem nodup.perm {a b : List Rw} (h : nodup a) (p : a.Perm b) : nodup b := p.pairwise h (fun {x y} h => Ne.symm h)
theorem look_perm {a b : List Rw} (h : nodup a) (p : a.Perm b) (k : List Int) : look a k = look b k := by
  cases hb : look b k with
  | none =>
    rw [look_none] at hb ⊢
    exact fun x hx => hb x (p.mem_iff.1 hx)
  | some c =>
    rw [look_some h]
    exact p.mem_iff.2 ((look_some (h.perm p)).1 hb)
theorem srt_ext : ∀ {a b : List Rw}, srt a → srt b → (∀ k, look a k = look b k) → a = b
  | [], [], _, _, _ => rfl
  | [], (k, c) :: b, _, _, h => by have := h k; simp [look] at this
  | (k, c) :: a, [], _, _, h => by have := h k; simp [look] at this
  | (k, c) :: a, (k', c') :: b, ha, hb, h => by
    have ha' := List.pairwise_cons.1 ha
    have hb' := List.pairwise_cons.1 hb
    have hk : k = k' := by
      have h1 : (k, c) ∈ (k', c') :: b := (look_some hb.nodup).1 (by rw [← h k]; simp [look])
      have h2 : (k', c') ∈ (k, c) :: a := (look_some ha.nodup).1 (by rw [h k']; simp [look])
      rcases List.mem_cons.1 h1 with e | e
      · cases e; rfl
      · rcases List.mem_cons.1 h2 with e' | e'
        · cases e'; rfl
        · have := ha'.1 _ e'
          have := hb'.1 _ e
          have h3 := kcmp_neg k k'
          simp only at *
          omega
    subst hk
    have hc : c = c' := by have := h k; simpa [look] using this
    subst hc
    have : a = b := srt_ext ha'.2 hb'.2 fun q => by
      by_cases hq : k = q
      · subst hq
        rw [look_none.2 (fun x hx e => by have := ha'.1 x hx; rw [e, kcmp_self] at this; omega), look_none.2 (fun x hx e => by have := hb'.1 x hx; rw [e, kcmp_self] at this; omega)]
      · have := h q
        simpa [look, hq] using this
    rw [this]
def mrg (o : Option CE) (c : CE) : CE := match o with
  | none => c
  | some c' => c'.merge c
def layP : List Rw → List Int → CE → List Rw
  | [], k, c => [(k, c)]
  | (k', c') :: t, k, c => if k' = k then (k', c'.merge c) :: t else (k', c') :: layP t k c
theorem layP_hit : ∀ {t : List Rw} {i : Nat} {k : List Int} {c c' : CE}, nodup t → t[i]? = some (k, c') → layP t k c = t.set i (k, c'.merge c)
  | [], i, k, c, c', _, h => by simp at h
  | (k1, c1) :: t, 0, k, c, c', _, h => by simp at h; obtain ⟨rfl, rfl⟩ := h; simp [layP]
  | (k1, c1) :: t, i + 1, k, c, c', hn, h => by
    have hn' := List.pairwise_cons.1 hn
    have h' : t[i]? = some (k, c') := by simpa using h
    have : k1 ≠ k := hn'.1 _ (List.mem_of_getElem? h')
    simp [layP, this, layP_hit hn'.2 h']
theorem layP_miss : ∀ {t : List Rw} {k : List Int} {c : CE}, (∀ x ∈ t, x.1 ≠ k) → layP t k c = t ++ [(k, c)]
  | [], k, c, _ => rfl
  | (k1, c1) :: t, k, c, h => by
    have := h (k1, c1) (by simp)
    simp only at this
    simp [layP, this, layP_miss (fun x hx => h x (List.mem_cons_of_mem _ hx))]
theorem layP_keys : ∀ (t : List Rw) (k : List Int) (c : CE) (x : Rw), x ∈ layP t k c → x.1 = k ∨ ∃ y ∈ t, y.1 = x.1
  | [], k, c, x, h => by simp [layP] at h; exact .inl (by rw [h])
  | (k1, c1) :: t, k, c, x, h => by
    simp only [layP] at h
    split at h
    · rename_i e
      rcases List.mem_cons.1 h with h | h
      · exact .inl (by rw [h]; exact e)
      · exact .inr ⟨x, by simp [h], rfl⟩
    · rcases List.mem_cons.1 h with h | h
      · exact .inr ⟨(k1, c1), by simp, by rw [h]⟩
      · rcases layP_keys t k c x h with h | ⟨y, hy, e⟩
        · exact .inl h
        · exact .inr ⟨y, by simp [hy], e⟩
theorem layP_nodup : ∀ {t : List Rw} {k : List Int} {c : CE}, nodup t → nodup (layP t k c)
  | [], k, c, _ => by simp [layP, nodup]
  | (k1, c1) :: t, k, c, h => by
    have h' := List.pairwise_cons.1 h
    simp only [layP]
    split
    · exact List.pairwise_cons.2 ⟨h'.1, h'.2⟩
    · rename_i hk
      refine List.pairwise_cons.2 ⟨fun x hx => ?_, layP_nodup h'.2⟩
      rcases layP_keys t k c x hx with e | ⟨y, hy, e⟩
      · rw [e]; exact hk
      · rw [← e]; exact h'.1 y hy
theorem layP_look : ∀ (t : List Rw) (k : List Int) (c : CE) (q : List Int), look (layP t k c) q = if k = q then some (mrg (look t k) c) else look t q
  | [], k, c, q => by simp [layP, look, mrg]
  | (k1, c1) :: t, k, c, q => by
    simp only [layP]
    by_cases h : k1 = k
    · subst h
      rw [if_pos rfl]
      simp only [look, if_true]
      by_cases h2 : k1 = q
      · simp [h2, mrg]
      · simp [h2]
    · rw [if_neg h]
      simp only [look, if_neg h]
      rw [layP_look t k c q]
      by_cases h2 : k1 = q
      · rw [if_pos h2, if_neg (fun e => h (by rw [h2, e])), if_pos h2]
      · rw [if_neg h2, if_neg h2]
def layR : List Rw → List Int → CE → List Rw
  | [], k, c => [(k, c)]
  | (k', c') :: t, k, c => if kcmp k' k < 0 then (k', c') :: layR t k c else if kcmp k' k = 0 then (k, c'.merge c) :: t else (k, c) :: (k', c') :: t
theorem layR_keys : ∀ (t : List Rw) (k : List Int) (c : CE) (x : Rw), x ∈ layR t k c → x.1 = k ∨ x ∈ t
  | [], k, c, x, h => by simp [layR] at h; exact .inl (by rw [h])
  | (k1, c1) :: t, k, c, x, h => by
    simp only [layR] at h
    split at h
    · rcases List.mem_cons.1 h with h | h
      · exact .inr (by rw [h]; simp)
      · rcases layR_keys t k c x h with h | h
        · exact .inl h
        · exact .inr (by simp [h])
    · split at h
      · rcases List.mem_cons.1 h with h | h
        · exact .inl (by rw [h])
        · exact .inr (by simp [h])
      · rcases List.mem_cons.1 h with h | h
        · exact .inl (by rw [h])
        · exact .inr h
theorem layR_srt : ∀ {t : List Rw} {k : List Int} {c : CE}, srt t → srt (layR t k c)
  | [], k, c, _ => by simp [layR, srt]
  | (k1, c1) :: t, k, c, h => by
    have h' := List.pairwise_cons.1 h
    simp only [layR]
    split
    · rename_i hk
      refine List.pairwise_cons.2 ⟨fun x hx => ?_, layR_srt h'.2⟩
      rcases layR_keys t k c x hx with e | e
      · rw [e]; exact hk
      · exact h'.1 x e
    · split
      · rename_i hk
        have := kcmp_eq hk
        subst this
        exact List.pairwise_cons.2 ⟨h'.1, h'.2⟩
      · rename_i h1 h2
        have h3 : kcmp k k1 < 0 := by rw [kcmp_neg k1 k]; omega
        refine List.pairwise_cons.2 ⟨fun x hx => ?_, h⟩
        rcases List.mem_cons.1 hx with e | e
        · rw [e]; exact h3
        · exact kcmp_trans h3 (h'.1 x e)
theorem layR_look : ∀ {t : List Rw} (k : List Int) (c : CE) (q : List Int), srt t → look (layR t k c) q = if k = q then some (mrg (look t k) c) else look t q
  | [], k, c, q, _ => by simp [layR, look, mrg]
  | (k1, c1) :: t, k, c, q, h => by
    have h' := List.pairwise_cons.1 h
    simp only [layR]
    split
    · rename_i hk
      have hne : k1 ≠ k := fun e => by rw [e, kcmp_self] at hk; omega
      simp only [look, if_neg hne]
      rw [layR_look k c q h'.2]
      by_cases h2 : k1 = q
      · rw [if_pos h2, if_neg (fun e => hne (by rw [h2, e])), if_pos h2]
      · rw [if_neg h2, if_neg h2]
    · split
      · rename_i hk
        have := kcmp_eq hk
        subst this
        simp only [look, if_true]
        by_cases h2 : k1 = q
        · simp [h2, mrg]
        · simp [h2]
      · rename_i h1 h2
        have hne : k1 ≠ k := fun e => h2 (by rw [e, kcmp_self])
        have hno : look t k = none := look_none.2 fun x hx e => by
          have h3 := h'.1 x hx
          rw [e] at h3
          exact h1 h3
        simp only [look, if_neg hne, hno, mrg]
def tab (l : List Rw) : List Rw := l.foldl (fun t r => layR t r.1 r.2) []
def sheet (l : List Rw) : List Rw := l.foldl (fun t r => layP t r.1 r.2) []
theorem sheet_snoc (l : List Rw) (r : Rw) : sheet (l ++ [r]) = layP (sheet l) r.1 r.2 := by simp [sheet]
theorem fold_srt (l : List Rw) : ∀ t, srt t → srt (l.foldl (fun t r => layR t r.1 r.2) t) := by
  induction l with
  | nil => exact fun t h => h
  | cons r l ih => exact fun t h => ih _ (layR_srt h)
theorem fold_nodup (l : List Rw) : ∀ t, nodup t → nodup (l.foldl (fun t r => layP t r.1 r.2) t) := by
  induction l with
  | nil => exact fun t h => h
  | cons r l ih => exact fun t h => ih _ (layP_nodup h)
theorem tab_srt (l : List Rw) : srt (tab l) := fold_srt l [] .nil
theorem sheet_nodup (l : List Rw) : nodup (sheet l) := fold_nodup l [] .nil
theorem fold_look (l : List Rw) : ∀ (s t : List Rw), srt t → (∀ q, look s q = look t q) → ∀ q, look (l.foldl (fun t r => layP t r.1 r.2) s) q = look (l.foldl (fun t r => layR t r.1 r.2) t) q := by
  induction l with
  | nil => exact fun s t _ h => h
  | cons r l ih =>
    intro s t ht h
    refine ih _ _ (layR_srt ht) fun q => ?_
    rw [layP_look, layR_look _ _ _ ht, h, h]
theorem sheet_look (l : List Rw) (q : List Int) : look (sheet l) q = look (tab l) q := fold_look l [] [] .nil (fun _ => rfl) q
theorem sheet_sorted {l d : List Rw} (p : (sheet l).Perm d) (h : srt d) : d = tab l :=
  srt_ext h (tab_srt l) fun q => by rw [← look_perm (sheet_nodup l) p, sheet_look]
theorem layP_len (t : List Rw) (k : List Int) (c : CE) : (layP t k c).length ≤ t.length + 1 := by
  induction t with
  | nil => simp [layP]
  | cons x t ih =>
    obtain ⟨k1, c1⟩ := x
    simp only [layP]
    split
    · simp
    · simp; omega
theorem layR_len (t : List Rw) (k : List Int) (c : CE) : (layR t k c).length ≤ t.length + 1 := by
  induction t with
  | nil => simp [layR]
  | cons x t ih =>
    obtain ⟨k1, c1⟩ := x
    simp only [layR]
    split
    · simp; omega
    · split <;> simp
end Go.Proofs.YtgjdjdjhoipfmaaGreatDoor.A
open Go Go.RowKit Go.Proofs.YtgjdjdjhoipfmaaGreatDoor.K Go.Proofs.YtgjdjdjhoipfmaaGreatDoor.T
set_option linter.unusedVariables false
set_option linter.unusedSimpArgs false
namespace Go.Proofs.YtgjdjdjhoipfmaaGreatDoor.A
variable {F F' : Nat → Option (List Value)} {M M' : Nat → Option Chunk} {N N' : Nat} {K : Kont} {E : PanK}
def clean (M : Nat → Option Chunk) (N : Nat) : Prop := ∀ k, N ≤ k → M k = none
theorem clean.new (h : clean M N) {b : Nat} (hb : N ≤ b) (x : Option Chunk) : clean (upd M b x) (b + 1) := fun k hk => (upd_ne _ _ (by omega)).trans (h k (by omega))
theorem clean.up (h : clean M N) (hN : N ≤ N') : clean M N' := fun k hk => h k (by omega)
theorem clean.set (h : clean M N) {b : Nat} (hb : b < N) (x : Option Chunk) : clean (upd M b x) N := fun k hk => (upd_ne _ _ (by omega)).trans (h k hk)
theorem clean.lt (h : clean M N) {b : Nat} {c : Chunk} (hb : M b = some c) : b < N := by
  rcases Nat.lt_or_ge b N with h' | h'
  · exact h'
  · rw [h b h'] at hb; cases hb
def own (M : Nat → Option Chunk) (B : Nat) (e : TypeId) (sz : Nat) (v : Value) (n : Nat) (cs : List Value) : Prop :=
  cs.length = n * sz ∧ ((v = .slice none 0 0 ∧ n = 0) ∨ ∃ b c rest, v = .slice (some ⟨b, 0, none⟩) n c ∧ n ≤ c ∧ c ≤ maxLen ∧ B ≤ b ∧ M b = some (.cells e (cs ++ rest) (c * sz)))
theorem own.nil {B : Nat} {e : TypeId} {sz : Nat} : own M B e sz (.slice none 0 0) 0 [] := ⟨by simp, .inl ⟨rfl, rfl⟩⟩
theorem own.os {B : Nat} {e : TypeId} {sz n : Nat} {v : Value} {cs : List Value} (h : own M B e sz v n cs) : ownS M e sz v n cs :=
  ⟨h.1, h.2.imp id fun ⟨b, c, rest, h1, h2, h3, _, h5⟩ => ⟨b, c, h1, h2, h3, rest, h5⟩⟩
theorem own.rd {B : Nat} {e : TypeId} {sz n : Nat} {v : Value} {cs : List Value} (h : own M B e sz v n cs) : sR F M sz v n cs := by
  refine ⟨h.1, ?_⟩
  rcases h.2 with ⟨rfl, rfl⟩ | ⟨b, c, rest, rfl, h2, h3, h4, h5⟩
  · exact .inl ⟨_, _, rfl, rfl⟩
  · exact .inr ⟨b, 0, c, cs ++ rest, rfl, h2, .inr ⟨_, _, h5⟩, by rw [List.drop_zero, ← h.1, List.take_left]⟩
theorem own.form {B : Nat} {e : TypeId} {sz n : Nat} {v : Value} {cs : List Value} (h : own M B e sz v n cs) : ∃ a c, v = .slice a n c ∧ n ≤ c := by
  rcases h.2 with ⟨rfl, rfl⟩ | ⟨b, c, rest, rfl, h2, h3, h4, h5⟩
  · exact ⟨_, _, rfl, Nat.le_refl _⟩
  · exact ⟨_, _, rfl, h2⟩
theorem own.one {B : Nat} {e : TypeId} {sz n : Nat} {v : Value} {cs : List Value} (h : own M B e sz v n cs) : v.oneCell' = true := by
  obtain ⟨a, c, rfl, _⟩ := h.form; rfl
theorem own.ge {B : Nat} {e : TypeId} {sz n : Nat} {v : Value} {cs : List Value} (h : own M B e sz v n cs) : ∀ q, v.ownBlock = some q → B ≤ q ∧ M q ≠ none := by
  rcases h.2 with ⟨rfl, rfl⟩ | ⟨b, c, rest, rfl, h2, h3, h4, h5⟩
  · intro q hq; simp [Value.ownBlock] at hq
  · intro q hq; simp [Value.ownBlock] at hq; subst hq; exact ⟨h4, by rw [h5]; simp⟩
theorem own.lt {B : Nat} {e : TypeId} {sz n : Nat} {v : Value} {cs : List Value} (h : own M B e sz v n cs) (hm : clean M N) : ∀ q, v.ownBlock = some q → q < N := fun q hq => by
  have := (h.ge q hq).2
  cases hq : M q with
  | none => exact absurd hq this
  | some c => exact hm.lt hq
theorem own.keep {B B' : Nat} {e : TypeId} {sz n : Nat} {v : Value} {cs : List Value} (h : own M B e sz v n cs) (hM : ∀ q, v.ownBlock = some q → M' q = M q) (hB : B' ≤ B := by omega) : own M' B' e sz v n cs :=
  ⟨h.1, h.2.imp id fun ⟨b, c, rest, h1, h2, h3, h4, h5⟩ => ⟨b, c, rest, h1, h2, h3, by omega, (hM b (by rw [h1]; rfl)).trans h5⟩⟩
def fr (M M' : Nat → Option Chunk) (N : Nat) (v v' : Value) : Prop := ∀ q, v.ownBlock ≠ some q → q < N → M' q = M q ∧ v'.ownBlock ≠ some q
theorem fr.trans {M'' : Nat → Option Chunk} {v v' v'' : Value} (h : fr M M' N v v') (k : fr M' M'' N' v' v'') (hN : N ≤ N') : fr M M'' N v v'' := fun q hq hl =>
  ⟨((k q (h q hq hl).2 (by omega)).1).trans (h q hq hl).1, (k q (h q hq hl).2 (by omega)).2⟩
theorem fr.refl {v : Value} : fr M M N v v := fun q hq _ => ⟨rfl, hq⟩
theorem own.app {B : Nat} {e : TypeId} {sz bytes n m : Nat} {v x : Value} {cs news : List Value} (h : own M B e sz v n cs) (hm : clean M N) (hB : B ≤ N) (hx : sR F M sz x m news) (h1 : ∀ c ∈ news, c.oneCell' = true) (hb : (n + m) * bytes ≤ 140737488355328) (hmx : n + m ≤ maxLen)
    (k : ∀ v' M' N', own M' B e sz v' (n + m) (cs ++ news) → fr M M' N v v' → N ≤ N' → clean M' N' → K v' ⟨F, M', N'⟩) : appX e sz bytes v x K ⟨F, M, N⟩ := by
  have hlen : (cs ++ news).length = (n + m) * sz := by rw [List.length_append, h.1, hx.1, Nat.add_mul]
  refine app_r0 h.os hx.read h1 hb hmx (fun hv h0 => ?_) (fun _ b c hb hc hcm => ?_)
  · subst hv; subst h0
    have hn : news = [] := List.eq_nil_of_length_eq_zero (by simpa using hx.1)
    subst hn
    have hn0 : n = 0 := by
      rcases h.2 with ⟨_, h⟩ | ⟨b, c, rest, h1, _⟩
      · exact h
      · cases h1
    subst hn0
    exact k _ _ _ ⟨hlen, .inl ⟨rfl, rfl⟩⟩ fr.refl (Nat.le_refl _) hm
  · have hlt := h.lt hm
    have hbB : B ≤ b := by rcases hb with hb | hb; omega; exact (h.ge b hb).1
    have hfn : ∀ q, forget M v q = M q ∨ v.ownBlock = some q := fun q => by
      by_cases hq : v.ownBlock = some q
      · exact .inr hq
      · exact .inl (forget_ne _ hq)
    refine k _ _ _ ⟨hlen, .inr ⟨b, c, [], rfl, hc, hcm, hbB, by rw [upd_same, List.append_nil]⟩⟩ (fun q hq hqN => ?_) (Nat.le_max_left _ _) (fun q hq => ?_)
    · have hqb : q ≠ b := by rcases hb with hb | hb; omega; exact fun e => hq (e ▸ hb)
      exact ⟨(upd_ne _ _ hqb).trans (forget_ne _ hq), by simp [Value.ownBlock]; omega⟩
    · rw [upd_ne _ _ (by omega)]
      rcases hfn q with hf | hf
      · rw [hf]; exact hm q (by omega)
      · have := hlt q hf; omega
theorem len_r {a : Option Addr} {n c : Nat} {h : Hp} (k : K (.int .i64 n) h) : pv (lenV (.slice a n c)) K h := ⟨_, rfl, k⟩
theorem inV {e : EqK} {op : BinOp} {k : IntKind} {a b : Int} (hop : op ≠ .shl ∧ op ≠ .shr := by decide) : binV e op (.int k a) (.int k b) = intV op k a b := by
  cases op <;> simp_all [binV]
theorem sub_n {e : EqK} {a b : Nat} {h : Hp} (h1 : b ≤ a) (h2 : a ≤ 9223372036854775807) (k : K (.int .i64 ((a - b : Nat) : Int)) h) : pv (binV e .sub (.int .i64 a) (.int .i64 b)) K h :=
  sub_r (by omega) (by omega) (by rw [← Int.ofNat_sub h1]; exact k)
theorem add_n {e : EqK} {a b : Nat} {h : Hp} (h2 : a + b ≤ 9223372036854775807) (k : K (.int .i64 ((a + b : Nat) : Int)) h) : pv (binV e .add (.int .i64 a) (.int .i64 b)) K h :=
  add_r (by omega) (by omega) (by rw [← Int.natCast_add]; exact k)
theorem u64w {x : Int} (h0 : 0 ≤ x) (h1 : x < 18446744073709551616) : IntKind.u64.wrap x = x := by
  unfold IntKind.wrap
  simp [IntKind.bits, IntKind.signed]
  omega
theorem uquo {e : EqK} {a b : Nat} {h : Hp} (h1 : 0 < b) (h2 : a < 18446744073709551616) (k : K (.int .u64 ((a / b : Nat) : Int)) h) : pv (binV e .quo (.int .u64 a) (.int .u64 b)) K h :=
  ⟨_, by rw [inV]; simp only [intV]; rw [if_neg (by omega)], by
    rw [show (Int.tdiv (a : Int) (b : Int)) = ((a / b : Nat) : Int) by rfl, u64w (Int.natCast_nonneg _) (Int.ofNat_lt.2 (Nat.lt_of_le_of_lt (Nat.div_le_self a b) h2))]; exact k⟩
theorem umul {e : EqK} {a b : Nat} {h : Hp} (h2 : a * b < 18446744073709551616) (k : K (.int .u64 ((a * b : Nat) : Int)) h) : pv (binV e .mul (.int .u64 a) (.int .u64 b)) K h :=
  ⟨_, by rw [inV]; rfl, by rw [← Int.natCast_mul, u64w (by omega) (by omega)]; exact k⟩
theorem usub {e : EqK} {a b : Nat} {h : Hp} (h1 : b ≤ a) (h2 : a < 18446744073709551616) (k : K (.int .u64 ((a - b : Nat) : Int)) h) : pv (binV e .sub (.int .u64 a) (.int .u64 b)) K h :=
  ⟨_, by rw [inV]; rfl, by rw [← Int.ofNat_sub h1, u64w (by omega) (by omega)]; exact k⟩
theorem upd_upd {α : Type} (f : Nat → Option α) (b : Nat) (x y : Option α) : upd (upd f b x) b y = upd f b y := by funext q; simp only [upd]; split <;> rfl
theorem clean.set' (h : clean M N) {b : Nat} (hb : N ≤ b) (hbN : b < N') {x : Option Chunk} : clean (upd M b x) N' := fun k hk => (upd_ne _ _ (by omega)).trans (h k (by omega))
theorem iaA {b o n sz : Nat} {k : IntKind} {i : Nat} {h : Hp} (h1 : i < n) (kk : K (.pointer (some ⟨b, o + i * sz, none⟩)) h) : pv (iaV (some n) sz (.pointer (some ⟨b, o, none⟩)) (.int k (i : Nat))) K h :=
  ⟨_, by simp [iaV]; omega, kk⟩
noncomputable def keepM (M : Nat → Option Chunk) (p : Nat → Prop) : Nat → Option Chunk := fun q => open Classical in if p q then M q else none
theorem keepM_in {p : Nat → Prop} {q : Nat} (h : p q) : keepM M p q = M q := if_pos h
theorem keepM_sub (M : Nat → Option Chunk) (p : Nat → Prop) : subM (keepM M p) M := fun k c h => by
  unfold keepM at h
  split at h
  · exact h
  · cases h
theorem keepM_clean {p : Nat → Prop} (h : clean M N) : clean (keepM M p) N := fun k hk => by
  unfold keepM
  split
  · exact h k hk
  · rfl
def keepV (N : Nat) (v : Value) (q : Nat) : Prop := q < N ∨ v.ownBlock = some q
theorem fr_keep {v v' : Value} (h : ∀ q, v.ownBlock ≠ some q → q < N → M' q = M q ∧ v'.ownBlock ≠ some q) : fr M (keepM M' (keepV N v')) N v v' := fun q hq hl =>
  ⟨(keepM_in (.inl hl)).trans (h q hq hl).1, (h q hq hl).2⟩
theorem own.trim {B : Nat} {e : TypeId} {sz n : Nat} {v : Value} {cs : List Value} (h : own M B e sz v n cs) : own (keepM M (keepV N v)) B e sz v n cs := h.keep (fun q hq => keepM_in (.inr hq)) (Nat.le_refl _)
theorem gdTT {A : Kont → Hp → Prop} : gdK (.bool true) true A K = A K := by funext h; unfold gdK; rw [if_pos (by simp [isB])]
theorem gdFF {A : Kont → Hp → Prop} : gdK (.bool false) false A K = A K := by funext h; unfold gdK; rw [if_pos (by simp [isB])]
theorem gdTF {A : Kont → Hp → Prop} : gdK (.bool true) false A K = K undef := by funext h; unfold gdK; rw [if_neg (by simp [isB])]
theorem gdFT {A : Kont → Hp → Prop} : gdK (.bool false) true A K = K undef := by funext h; unfold gdK; rw [if_neg (by simp [isB])]
theorem pvS {v : Value} : pv (some v) K = K v := by funext h; exact propext ⟨fun ⟨u, h1, h2⟩ => by cases h1; exact h2, fun h => ⟨_, rfl, h⟩⟩
theorem pickT {a b : Value} : pickV (.bool true) a b = some a := rfl
theorem pickF {a b : Value} : pickV (.bool false) a b = some b := rfl
theorem faP {b o off : Nat} : faV off (.pointer (some ⟨b, o, none⟩)) = some (.pointer (some ⟨b, o + off, none⟩)) := rfl
theorem lenS {a : Option Addr} {n c : Nat} : lenV (.slice a n c) = some (.int .i64 n) := rfl
theorem capS {a : Option Addr} {n c : Nat} : capV (.slice a n c) = some (.int .i64 c) := rfl
theorem nilP {a : Addr} : nilV (.pointer (some a)) = some (.pointer (some a)) := rfl
theorem exA {a : Value} {l : List Value} : exV 0 (.tuple ⟨a :: l⟩) = some a := rfl
theorem exB {a b : Value} {l : List Value} : exV 1 (.tuple ⟨a :: b :: l⟩) = some b := rfl
theorem exC {a b c : Value} {l : List Value} : exV 2 (.tuple ⟨a :: b :: c :: l⟩) = some c := rfl
theorem notB {b : Bool} : unV .not (.bool b) = some (.bool !b) := rfl
theorem cndT {A B : Hp → Prop} : cnd (.bool true) A B = A := by funext h; exact propext ⟨fun ⟨t, h1, h2⟩ => by cases h1; simpa using h2, fun h => ⟨true, rfl, by simpa using h⟩⟩
theorem cndF {A B : Hp → Prop} : cnd (.bool false) A B = B := by funext h; exact propext ⟨fun ⟨t, h1, h2⟩ => by cases h1; simpa using h2, fun h => ⟨false, rfl, by simpa using h⟩⟩
theorem sS : (∀ (A : Kont → Hp → Prop) (K : Kont), gdK (.bool true) true A K = A K) ∧ (∀ (A : Kont → Hp → Prop) (K : Kont), gdK (.bool false) false A K = A K) ∧ (∀ (A : Kont → Hp → Prop) (K : Kont), gdK (.bool true) false A K = K undef) ∧ (∀ (A : Kont → Hp → Prop) (K : Kont), gdK (.bool false) true A K = K undef) ∧
    (∀ (v : Value) (K : Kont), pv (some v) K = K v) ∧ (∀ (a b : Value), pickV (.bool true) a b = some a) ∧ (∀ (a b : Value), pickV (.bool false) a b = some b) ∧ (∀ (b o off : Nat), faV off (.pointer (some ⟨b, o, none⟩)) = some (.pointer (some ⟨b, o + off, none⟩))) ∧
    (∀ (a : Option Addr) (n c : Nat), lenV (.slice a n c) = some (.int .i64 n)) ∧ (∀ (a : Option Addr) (n c : Nat), capV (.slice a n c) = some (.int .i64 c)) ∧ (∀ (a : Addr), nilV (.pointer (some a)) = some (.pointer (some a))) ∧
    (∀ (a : Value) (l : List Value), exV 0 (.tuple ⟨a :: l⟩) = some a) ∧ (∀ (a b : Value) (l : List Value), exV 1 (.tuple ⟨a :: b :: l⟩) = some b) ∧ (∀ (a b c : Value) (l : List Value), exV 2 (.tuple ⟨a :: b :: c :: l⟩) = some c) ∧
    (∀ (b : Bool), unV .not (.bool b) = some (.bool !b)) ∧ (∀ (A B : Hp → Prop), cnd (.bool true) A B = A) ∧ (∀ (A B : Hp → Prop), cnd (.bool false) A B = B) ∧ ((!true) = false) ∧ ((!false) = true) ∧ (∀ n : Nat, 0 + n = n) ∧ (∀ n : Nat, n + 0 = n) :=
  ⟨fun _ _ => gdTT, fun _ _ => gdFF, fun _ _ => gdTF, fun _ _ => gdFT, fun _ _ => pvS, fun _ _ => pickT, fun _ _ => pickF, fun _ _ _ => faP, fun _ _ _ => lenS, fun _ _ _ => capS, fun _ => nilP, fun _ _ => exA, fun _ _ _ => exB, fun _ _ _ _ => exC, fun _ => notB, fun _ _ => cndT, fun _ _ => cndF, Bool.not_true, Bool.not_false, Nat.zero_add, Nat.add_zero⟩
end Go.Proofs.YtgjdjdjhoipfmaaGreatDoor.A
open Go Go.RowKit Go.Proofs.YtgjdjdjhoipfmaaGreatDoor.K Go.Proofs.YtgjdjdjhoipfmaaGreatDoor.T
set_option linter.unusedVariables false
set_option linter.unusedSimpArgs false
namespace Go.Proofs.YtgjdjdjhoipfmaaGreatDoor.A
variable {F F' : Nat → Option (List Value)} {M M' : Nat → Option Chunk} {N N' : Nat} {K : Kont} {E : PanK}
def dig (d : Nat) : Int := if d < 10 then 48 + d else 87 + d
def num (u : Nat) : List Int := if h : u < 36 then [dig u] else num (u / 36) ++ [dig (u % 36)]
termination_by u
decreasing_by omega
def txt (i : Int) : List Int := if i < 0 then 45 :: num i.natAbs else num i.natAbs
def text (l : List Int) : List Int := l.flatMap (fun v => txt v ++ [32])
def undig (c : Int) : Nat := if c < 58 then (c - 48).toNat else (c - 87).toNat
def val (l : List Int) : Nat := l.foldl (fun a c => a * 36 + undig c) 0
theorem undig_dig (d : Nat) : undig (dig d) = d := by unfold undig dig; split <;> split <;> omega
theorem dig_ne (d : Nat) : dig d ≠ 32 ∧ dig d ≠ 45 := by unfold dig; split <;> omega
theorem val_num (u : Nat) : val (num u) = u := by
  induction u using Nat.strongRecOn with
  | _ u ih =>
    rw [num]
    split
    · simp [val, undig_dig]
    · rename_i h
      have hi := ih (u / 36) (by omega)
      unfold val at hi ⊢
      rw [List.foldl_append, hi]
      simp [undig_dig]
      omega
theorem num_ne (u : Nat) : ∀ c ∈ num u, c ≠ 32 ∧ c ≠ 45 := by
  induction u using Nat.strongRecOn with
  | _ u ih =>
    rw [num]
    split
    · intro c hc; simp at hc; subst hc; exact dig_ne u
    · rename_i h
      intro c hc
      rcases List.mem_append.1 hc with h1 | h1
      · exact ih _ (by omega) c h1
      · simp at h1; subst h1; exact dig_ne _
theorem num_inj {u v : Nat} (h : num u = num v) : u = v := by rw [← val_num u, h, val_num]
theorem txt_ne (i : Int) : ∀ c ∈ txt i, c ≠ 32 := by
  intro c hc
  unfold txt at hc
  split at hc
  · rcases List.mem_cons.1 hc with rfl | h
    · omega
    · exact (num_ne _ c h).1
  · exact (num_ne _ c hc).1
theorem txt_inj {i j : Int} (h : txt i = txt j) : i = j := by
  unfold txt at h
  split at h <;> split at h
  · injection h with _ h; have := num_inj h; omega
  · have := (num_ne j.natAbs 45 (by rw [← h]; simp)).2; simp at this
  · have := (num_ne i.natAbs 45 (by rw [h]; simp)).2; simp at this
  · have := num_inj h; omega
theorem cut_inj {a b s t : List Int} (ha : ∀ c ∈ a, c ≠ 32) (hb : ∀ c ∈ b, c ≠ 32) (h : a ++ 32 :: s = b ++ 32 :: t) : a = b ∧ s = t := by
  induction a generalizing b with
  | nil =>
    cases b with
    | nil => exact ⟨rfl, by simpa using h⟩
    | cons y b => simp at h; exact absurd h.1.symm (hb y (by simp))
  | cons x a ih =>
    cases b with
    | nil => simp at h; exact absurd h.1 (ha x (by simp))
    | cons y b =>
      simp at h
      obtain ⟨h1, h2⟩ := ih (fun c hc => ha c (by simp [hc])) (fun c hc => hb c (by simp [hc])) h.2
      exact ⟨by rw [h.1, h1], h2⟩
theorem text_inj : ∀ {a b : List Int}, text a = text b → a = b
  | [], [], _ => rfl
  | [], y :: b, h => by simp [text] at h
  | x :: a, [], h => by simp [text] at h
  | x :: a, y :: b, h => by
    have h' : txt x ++ 32 :: text a = txt y ++ 32 :: text b := by simpa [text] using h
    obtain ⟨h1, h2⟩ := cut_inj (txt_ne x) (txt_ne y) h'
    rw [txt_inj h1, text_inj h2]
theorem num_len (k : Nat) : ∀ u, u < 36 ^ (k + 1) → (num u).length ≤ k + 1 := by
  induction k with
  | zero => intro u h; rw [num, dif_pos (by simpa using h)]; simp
  | succ k ih =>
    intro u h
    rw [num]
    split
    · simp
    · have := ih (u / 36) (by rw [Nat.div_lt_iff_lt_mul (by decide)]; rw [Nat.pow_succ] at h; exact h)
      simp; omega
theorem num_pos (u : Nat) : 0 < (num u).length := by
  rw [num]; split <;> simp
def bts (l : List Int) : List Value := l.map (.int .u8)
theorem digs_at : ∀ d : Fin 36, ((#[48, 49, 50, 51, 52, 53, 54, 55, 56, 57, 97, 98, 99, 100, 101, 102, 103, 104, 105, 106, 107, 108, 109, 110, 111, 112, 113, 114, 115, 116, 117, 118, 119, 120, 121, 122] : Array UInt8)[d.val]?).map (fun b => (b.toNat : Int)) = some (dig d.val) := by decide
theorem ix_dig {d : Nat} (hd : d < 36) {k : IntKind} : ixV (.string ⟨#[48, 49, 50, 51, 52, 53, 54, 55, 56, 57, 97, 98, 99, 100, 101, 102, 103, 104, 105, 106, 107, 108, 109, 110, 111, 112, 113, 114, 115, 116, 117, 118, 119, 120, 121, 122]⟩) (.int k (d : Nat)) = some (.int .u8 (dig d)) := by
  have h := digs_at ⟨d, hd⟩
  simp only [ixV]
  rw [if_pos (by omega)]
  simp only [Int.toNat_natCast]
  have e : ∀ (a : Array UInt8) (i : Nat), (ByteArray.mk a)[i]? = a[i]? := fun a i => by
    simp only [getElem?_def]; rfl
  rw [e]
  simp only at h
  rw [Option.map_eq_some_iff] at h
  obtain ⟨b, h1, h2⟩ := h
  rw [h1, ← h2]; rfl
theorem drop_set {l : List Value} {i : Nat} (h : i < l.length) (x : Value) : (l.set i x).drop i = x :: l.drop (i + 1) := by
  induction l generalizing i with
  | nil => simp at h
  | cons a l ih =>
    cases i with
    | zero => simp
    | succ i => simpa using ih (by simpa using h)
theorem splice_one {l : List Value} {i : Nat} (h : i < l.length) (x : Value) : splice l i [x] = l.set i x := by
  rw [splice_cons (by simp; omega), splice_nil]
structure fbS (u : Nat) (s : Nat × List Int) (l : List Value) : Prop where
  len : l.length = 65
  num : num u = A.num s.1 ++ s.2
  tail : l.drop (65 - s.2.length) = bts s.2
  room : u < 18446744073709551616
  lt : s.1 < 18446744073709551616
theorem fbS.short {u : Nat} {s : Nat × List Int} {l : List Value} (h : fbS u s l) : s.2.length ≤ 12 := by
  have h1 := num_len 12 u (by have := h.room; omega)
  have h2 := congrArg List.length h.num
  have h3 := num_pos s.1
  simp at h2; omega
end Go.Proofs.YtgjdjdjhoipfmaaGreatDoor.A
open Go Go.RowKit Go.Proofs.YtgjdjdjhoipfmaaGreatDoor.K Go.Proofs.YtgjdjdjhoipfmaaGreatDoor.T
set_option linter.unusedVariables false
set_option linter.unusedSimpArgs false
namespace Go.Proofs.YtgjdjdjhoipfmaaGreatDoor.A
variable {F F' : Nat → Option (List Value)} {M M' : Nat → Option Chunk} {N N' : Nat} {K : Kont} {E : PanK}
theorem isp_c {h : Hp} (k : K (.bool false) h) : callv Tryz.prog (.func (.func 165) #[] #[]) #[.int .i64 36] K E h := by
  obtain ⟨F, M, N⟩ := h
  refine callv_of_text mixed Tryz.func165 (by kernel_rfl) (t165 _ E _) (fun hw => ?_)
  refine sub_r (by decide) (by decide) ?_
  refine pv_r (v := .int .i64 32) (by kernel_rfl) ?_
  refine eql_f (by decide) fun hc => ?_
  exact ⟨_, wk_refl hc, fun _ => k⟩
theorem fb_c {B n u : Nat} {v : Value} {cs : List Value} (h : own M B 5 1 v n cs) (hm : clean M N) (hB : B ≤ N) (hu : u < 18446744073709551616) (hn : n ≤ 1099511627776)
    (k : ∀ v' M' N', own M' B 5 1 v' (n + (num u).length) (cs ++ bts (num u)) → fr M M' N v v' → N ≤ N' → clean M' N' → (Hp.mk F M' N').wf → K (.tuple #[v', .string ⟨#[]⟩]) ⟨F, M', N'⟩) :
    callv Tryz.prog (.func (.func 161) #[] #[]) #[v, .int .u64 (u : Nat), .int .i64 36, .bool false, .bool true] K E ⟨F, M, N⟩ := by
  refine callv_of_text mixed Tryz.func161 (by kernel_rfl) (t161 _ E _ _ _ _ _) (fun hw => ?_)
  refine lss_f (by decide) (gd_ff (gd_ff (eql_f (by decide) (pv_r (v := .bool false) rfl ?_))))
  refine gd_ff (gd_ff (gtr_f (by decide) (pv_r (v := .bool false) rfl ?_)))
  refine cnd_f ?_
  rw [t161_1_1]
  refine nw_r (fun b hb => ?_)
  refine cnd_f ?_
  rw [t161_1_1_1_1_1]
  refine isp_c ?_
  refine cnd_f ?_
  refine pv_r (v := .int .u64 36) (by kernel_rfl) ?_
  refine l161_1_1_1_1_1_0_1_1_1_0_0_0 (σ := Nat × List Int) (fun s => .int .u64 (s.1 : Nat)) (fun s => .int .i64 ((65 - s.2.length : Nat) : Int))
    (fun s h => ∃ l N', h = ⟨F, upd M b (some (.cells 206 l 65)), N'⟩ ∧ b < N' ∧ fbS u s l) (fun s => s.1) (u, []) rfl rfl (fun hw1 => ⟨_, wk_refl hw1, _, _, rfl, Nat.lt_succ_self _, ⟨rfl, by simp, rfl, hu, hu⟩⟩) (fun k1 s j h1 hI hw1 next => ?_)
  rw [t161_1_1_1_1_1_0_1_1_1_0_0_0]
  obtain ⟨l, N1, rfl, hbN, hs⟩ := hI
  have hl := hs.len
  have hsh := hs.short
  have hlt := hs.lt
  refine geq_r (fun hq => ?_) (fun hq => ?_)
  · refine cnd_t ?_
    refine sub_n (b := 1) (by omega) (by omega) ?_
    refine uquo (b := 36) (by decide) hlt ?_
    refine umul (b := 36) (by omega) ?_
    refine usub (by omega) hlt ?_
    rw [show s.1 - s.1 / 36 * 36 = s.1 % 36 by omega, show 65 - s.2.length - 1 = 65 - (s.2.length + 1) by omega]
    refine pv_r (ix_dig (Nat.mod_lt _ (by decide))) ?_
    refine iaA (by omega) ?_
    refine stM (cs' := l.set (65 - (s.2.length + 1)) (.int .u8 (dig (s.1 % 36)))) ?_ (upd_same _ _ _) (by rw [Nat.zero_add, Nat.mul_one]; exact splice_one (by omega) _) rfl (List.all_eq_true.1 rfl) (by omega)
    refine next (s.1 / 36, dig (s.1 % 36) :: s.2) _ _ (by simp only; omega) (fun hw2 => ⟨_, wk_refl hw2, _, _, by rw [upd_upd], hbN, ⟨by simpa using hl, ?_, ?_, hu, by simp only; omega⟩⟩)
    · rw [hs.num]
      simp only
      rw [num, dif_neg (by omega)]; simp
    · have h1 := hs.tail
      simp only [List.length_cons]
      rw [drop_set (by omega), show 65 - (s.2.length + 1) + 1 = 65 - s.2.length by omega, h1]; rfl
  · refine cnd_f ?_
    refine sub_n (b := 1) (by omega) (by omega) ?_
    rw [show 65 - s.2.length - 1 = 65 - (s.2.length + 1) by omega]
    refine pv_r (ix_dig (by omega)) ?_
    refine iaA (by omega) ?_
    refine stM (cs' := l.set (65 - (s.2.length + 1)) (.int .u8 (dig s.1))) ?_ (upd_same _ _ _) (by rw [Nat.zero_add, Nat.mul_one]; exact splice_one (by omega) _) rfl (List.all_eq_true.1 rfl) (by omega)
    rw [upd_upd]
    rw [t161_1_1_1_1_1_1]
    refine cnd_f ?_
    rw [t161_1_1_1_1_1_1_1]
    refine cnd_t ?_
    have hnum : num u = dig s.1 :: s.2 := by rw [hs.num, num, dif_pos (by omega)]; rfl
    have hnl : (num u).length = s.2.length + 1 := by rw [hnum]; rfl
    refine sl_suf (65 - (s.2.length + 1)) (by omega) (by omega) ?_
    rw [if_neg (by omega)]
    have hx : sR F (upd M b (some (.cells 206 (l.set (65 - (s.2.length + 1)) (.int .u8 (dig s.1))) 65))) 1 (.slice (some ⟨b, 0 + (65 - (s.2.length + 1)) * 1, none⟩) (65 - (65 - (s.2.length + 1))) (65 - (65 - (s.2.length + 1)))) (num u).length (bts (num u)) := by
      refine ⟨by simp [bts], .inr ⟨b, _, _, _, by rw [show 65 - (65 - (s.2.length + 1)) = (num u).length by omega], Nat.le_refl _, .inr ⟨_, _, upd_same _ _ _⟩, ?_⟩⟩
      rw [show 0 + (65 - (s.2.length + 1)) * 1 = 65 - (s.2.length + 1) by omega, drop_set (by omega), show 65 - (s.2.length + 1) + 1 = 65 - s.2.length by omega, hs.tail, hnum, List.take_of_length_le (by simp [bts])]
      rfl
    have hbne : v.ownBlock ≠ some b := fun e => by have := h.lt hm b e; omega
    have hk1 : own (upd M b (some (.cells 206 (l.set (65 - (s.2.length + 1)) (.int .u8 (dig s.1))) 65))) B 5 1 v n cs := h.keep (fun q hq => upd_ne _ _ (fun e => hbne (e ▸ hq))) (Nat.le_refl _)
    refine hk1.app (N := N1) (hm.set' hb hbN) (by omega) hx (fun c hc => by obtain ⟨x, _, rfl⟩ := List.mem_map.1 hc; rfl) (by simp [hnl]; omega) (by simp [maxLen]; omega) (fun v' M' N' hv' hfr hN' hm' hc => ?_)
    exact ⟨_, wk_drop hc (keepM_sub _ (keepV N v')), fun hw' => k v' _ N' hv'.trim (fr_keep fun q hq hqN => ⟨((hfr q hq (by omega)).1).trans (upd_ne _ _ (by omega)), (hfr q hq (by omega)).2⟩) (by omega) (keepM_clean hm') hw'⟩
end Go.Proofs.YtgjdjdjhoipfmaaGreatDoor.A
open Go Go.RowKit Go.Proofs.YtgjdjdjhoipfmaaGreatDoor.K Go.Proofs.YtgjdjdjhoipfmaaGreatDoor.T
set_option linter.unusedVariables false
set_option linter.unusedSimpArgs false
namespace Go.Proofs.YtgjdjdjhoipfmaaGreatDoor.A
variable {F F' : Nat → Option (List Value)} {M M' : Nat → Option Chunk} {N N' : Nat} {K : Kont} {E : PanK}
def appK (F : Nat → Option (List Value)) (M : Nat → Option Chunk) (N B n : Nat) (v : Value) (cs out : List Value) (K : Kont) : Prop :=
  ∀ v' M' N', own M' B 5 1 v' (n + out.length) (cs ++ out) → fr M M' N v v' → N ≤ N' → clean M' N' → (Hp.mk F M' N').wf → K v' ⟨F, M', N'⟩
theorem bts_len (l : List Int) : (bts l).length = l.length := by simp [bts]
theorem au_c {B n u : Nat} {v : Value} {cs : List Value} (h : own M B 5 1 v n cs) (hm : clean M N) (hB : B ≤ N) (hu : u < 18446744073709551616) (hn : n ≤ 1099511627776) (k : appK F M N B n v cs (bts (num u)) K) :
    callv Tryz.prog (.func (.func 151) #[] #[]) #[v, .int .u64 (u : Nat), .int .i64 36] K E ⟨F, M, N⟩ := by
  refine callv_of_text mixed Tryz.func151 (by kernel_rfl) (t151 _ E _ _ _) (fun hw => ?_)
  refine eql_f (by decide) (cnd_f ?_)
  refine fb_c h hm hB hu hn (fun v' M' N' h1 h2 h3 h4 h5 => ?_)
  refine pv_r rfl (pv_r rfl fun hc => ⟨_, wk_refl hc, fun hw' => k v' M' N' (by rw [bts_len]; exact h1) h2 h3 h4 hw'⟩)
theorem num_short {u : Nat} (hu : u < 18446744073709551616) : (num u).length ≤ 13 := num_len 12 u (by omega)
theorem ai_c {B n : Nat} {i : Int} {v : Value} {cs : List Value} (h : own M B 5 1 v n cs) (hm : clean M N) (hB : B ≤ N) (h0 : -9223372036854775808 ≤ i) (h1 : i ≤ 9223372036854775807) (hn : n ≤ 549755813888) (k : appK F M N B n v cs (bts (txt i)) K) :
    callv Tryz.prog (.func (.func 139) #[] #[]) #[v, .int .i64 i, .int .i64 36] K E ⟨F, M, N⟩ := by
  refine callv_of_text mixed Tryz.func139 (by kernel_rfl) (t139 _ E _ _ _) (fun hw => ?_)
  have wr : ∀ x : Int, IntKind.u64.wrap x = x % 18446744073709551616 := fun x => by
    unfold IntKind.wrap
    simp [IntKind.bits, IntKind.signed]
  refine pv_r rfl ?_
  refine lss_r (fun hi => ?_) (fun hi => ?_)
  · refine cnd_t (nws_r (cs := [.int .u8 45]) (by kernel_rfl) (fun b hb => ?_))
    have hbne : v.ownBlock ≠ some b := fun e => by have := h.lt hm b e; omega
    have h2 : own (upd M b (some (.cells 5 [.int .u8 45] [Value.int .u8 45].length))) B 5 1 v n cs := h.keep (fun q hq => upd_ne _ _ (fun e => hbne (e ▸ hq))) (Nat.le_refl _)
    refine h2.app (m := 1) (news := [.int .u8 45]) (hm.new hb _) (by omega) ⟨rfl, .inr ⟨b, 0, 1, _, rfl, Nat.le_refl _, .inr ⟨_, _, upd_same _ _ _⟩, rfl⟩⟩ (List.all_eq_true.1 rfl) (by omega) (by simp [maxLen]; omega) (fun v1 M1 N1 h3 h4 h5 h6 => ?_)
    have e : unV .neg (.int .u64 (IntKind.u64.wrap i)) = some (.int .u64 (i.natAbs : Nat)) := by
      simp only [unV, wr]; congr 2; omega
    refine pv_r e ?_
    rw [t139_1_1_1]
    refine au_c h3 h6 (by omega) (by omega) (by omega) (fun v' M' N' h7 h8 h9 h10 h11 hc => ?_)
    have h12 : fr M (keepM M' (keepV N v')) N v v' := fr_keep fun q hq hqN => by
      obtain ⟨a1, a2⟩ := h4 q hq (by omega)
      obtain ⟨a3, a4⟩ := h8 q a2 (by omega)
      exact ⟨a3.trans (a1.trans (upd_ne _ _ (by omega))), a4⟩
    refine ⟨_, wk_drop hc (keepM_sub _ (keepV N v')), fun hw' => k v' _ N' ?_ h12 (by omega) (keepM_clean h10) hw'⟩
    have e2 : txt i = 45 :: num i.natAbs := by unfold txt; rw [if_pos hi]
    have h13 := h7.trim (N := N)
    rw [e2]
    simpa [bts, Nat.add_assoc, Nat.add_comm] using h13
  · refine cnd_f ?_
    have e : IntKind.u64.wrap i = (i.natAbs : Nat) := by rw [wr]; omega
    rw [e, t139_1_1_1]
    refine au_c h hm hB (by omega) (by omega) (fun v' M' N' h7 h8 h9 h10 h11 hc => ?_)
    have e2 : txt i = num i.natAbs := by unfold txt; rw [if_neg hi]
    exact ⟨_, wk_refl hc, fun hw' => k v' M' N' (by rw [e2]; exact h7) h8 h9 h10 hw'⟩
theorem sai_c {B n : Nat} {i : Int} {v : Value} {cs : List Value} (h : own M B 5 1 v n cs) (hm : clean M N) (hB : B ≤ N) (h0 : -9223372036854775808 ≤ i) (h1 : i ≤ 9223372036854775807) (hn : n ≤ 549755813888) (k : appK F M N B n v cs (bts (txt i)) K) :
    callv Tryz.prog (.func (.func 130) #[] #[]) #[v, .int .i64 i, .int .i64 36] K E ⟨F, M, N⟩ := by
  refine callv_of_text mixed Tryz.func130 (by kernel_rfl) (t130 _ E _ _ _) (fun hw => ?_)
  refine ai_c h hm hB h0 h1 hn (fun v' M' N' h7 h8 h9 h10 h11 hc => ?_)
  exact ⟨_, wk_refl hc, fun hw' => k v' M' N' h7 h8 h9 h10 hw'⟩
def i64 (x : Int) : Prop := -9223372036854775808 ≤ x ∧ x ≤ 9223372036854775807
def txtB (k : List Int) : ByteArray := ⟨((text k).map (fun n => UInt8.ofNat (Int.toNat n))).toArray⟩
theorem dig_b (d : Nat) (h : d < 36) : 0 ≤ dig d ∧ dig d < 256 := by unfold dig; split <;> omega
theorem num_b (u : Nat) : ∀ c ∈ num u, 0 ≤ c ∧ c < 256 := by
  induction u using Nat.strongRecOn with
  | _ u ih =>
    rw [num]
    split
    · rename_i h; intro c hc; simp at hc; subst hc; exact dig_b u h
    · rename_i h
      intro c hc
      rcases List.mem_append.1 hc with h1 | h1
      · exact ih _ (by omega) c h1
      · simp at h1; subst h1; exact dig_b _ (by omega)
theorem text_b (k : List Int) : ∀ c ∈ text k, 0 ≤ c ∧ c < 256 := by
  intro c hc
  simp only [text, List.mem_flatMap] at hc
  obtain ⟨x, _, hx⟩ := hc
  rcases List.mem_append.1 hx with h1 | h1
  · unfold txt at h1
    split at h1
    · rcases List.mem_cons.1 h1 with rfl | h
      · omega
      · exact num_b _ c h
    · exact num_b _ c h1
  · simp at h1; omega
theorem txtB_inj {a b : List Int} (h : txtB a = txtB b) : a = b := by
  apply text_inj
  have h1 : (text a).map (fun n => UInt8.ofNat (Int.toNat n)) = (text b).map (fun n => UInt8.ofNat (Int.toNat n)) := by
    unfold txtB at h
    injection h with h
    simpa using h
  have key : ∀ (x y : List Int), (∀ c ∈ x, 0 ≤ c ∧ c < 256) → (∀ c ∈ y, 0 ≤ c ∧ c < 256) → x.map (fun n => UInt8.ofNat (Int.toNat n)) = y.map (fun n => UInt8.ofNat (Int.toNat n)) → x = y := by
    intro x
    induction x with
    | nil => intro y _ _ h; cases y with | nil => rfl | cons _ _ => simp at h
    | cons p x ih =>
      intro y hx hy h
      cases y with
      | nil => simp at h
      | cons q y =>
        simp only [List.map_cons, List.cons.injEq] at h
        obtain ⟨a1, a2⟩ := hx p (by simp)
        obtain ⟨b1, b2⟩ := hy q (by simp)
        have h3 := congrArg UInt8.toNat h.1
        simp only [UInt8.toNat_ofNat'] at h3
        rw [show p = q by omega, ih y (fun c hc => hx c (by simp [hc])) (fun c hc => hy c (by simp [hc])) h.2]
  exact key _ _ (text_b a) (text_b b) h1
theorem txt_len {i : Int} (h : i64 i) : (txt i).length ≤ 14 := by
  unfold txt
  have := num_short (u := i.natAbs) (by have := h.1; have := h.2; omega)
  split
  · simp; omega
  · omega
theorem text_len : ∀ {l : List Int}, (∀ x ∈ l, i64 x) → (text l).length ≤ 15 * l.length
  | [], _ => by simp [text]
  | x :: l, h => by
    have h1 := text_len (l := l) (fun y hy => h y (by simp [hy]))
    have h2 := txt_len (h x (by simp))
    simp only [text, List.flatMap_cons, List.length_append, List.length_cons, List.length_nil] at h1 ⊢
    omega
theorem text_snoc (l : List Int) (x : Int) : text (l ++ [x]) = text l ++ txt x ++ [32] := by simp [text]
theorem text_c {v : Value} {l : List Int} (hv : sF F 1 v l.length (ic l)) (hl : l.length ≤ 17179869184) (hi : ∀ x ∈ l, i64 x) (k : ∀ N', N ≤ N' → (Hp.mk F M N').wf → K (.string (txtB l)) ⟨F, M, N'⟩) :
    callv Tryz.prog (.func (.func 110) #[] #[]) #[v] K E ⟨F, M, N⟩ := by
  refine callv_of_text mixed Tryz.func110 (by kernel_rfl) (t110 _ E _) (fun hw => ?_)
  have hm : clean M N := hw.m
  obtain ⟨a, c, rfl, hac⟩ := hv.form
  refine len_r ?_
  refine l110_1_1_0_1_0_0 (σ := Nat × Value) (fun s => s.2) (fun s => .int .i64 (s.1 : Nat))
    (fun s h => ∃ M' N', h = ⟨F, M', N'⟩ ∧ N ≤ N' ∧ (∀ q, q < N → M' q = M q) ∧ clean M' N' ∧ s.1 ≤ l.length ∧ own M' N 5 1 s.2 (text (l.take s.1)).length (bts (text (l.take s.1)))) (fun s => l.length - s.1)
    (0, .slice none 0 0) rfl rfl (fun hw1 => ⟨_, wk_refl hw1, _, _, rfl, Nat.le_refl _, fun _ _ => rfl, hm, Nat.zero_le _, own.nil⟩) (fun k1 s j h1 hI hw1 next => ?_)
  rw [t110_1_1_0_1_0_0]
  obtain ⟨M1, N1, rfl, hN1, hM1, hm1, hs, ho⟩ := hI
  refine lss_r (fun hlt => ?_) (fun hge => ?_)
  · have hlt' : s.1 < l.length := by omega
    obtain ⟨b, o, c', hab, cs, hF, hcl, hcs⟩ := hv.at (by decide) hlt'
    cases hab
    refine cnd_t (iaN_r hlt' ?_)
    have hx : (ic l)[s.1]? = some (.int .i64 l[s.1]) := by simp [ic, hlt']
    refine ld_r (ldV_c (row_F hF) (by rw [Nat.mul_one, hcs s.1 (by omega)]; exact hx)) ?_
    have htk : (text (l.take s.1)).length ≤ 15 * s.1 := by
      have := text_len (l := l.take s.1) (fun x hx => hi x (List.mem_of_mem_take hx))
      rw [List.length_take, Nat.min_eq_left (by omega)] at this; exact this
    have hxi := hi l[s.1] (List.getElem_mem _)
    refine sai_c ho hm1 hN1 hxi.1 hxi.2 (by omega) (fun v2 M2 N2 h2 h3 h4 h5 h6 => ?_)
    refine nws_r (cs := [.int .u8 32]) (by kernel_rfl) (fun b1 hb1 => ?_)
    have h7 : own (upd M2 b1 (some (.cells 5 [.int .u8 32] [Value.int .u8 32].length))) N 5 1 v2 _ _ := h2.keep (fun q hq => upd_ne _ _ (fun e => by have := h2.lt h5 q hq; omega)) (Nat.le_refl _)
    have htx := txt_len hxi
    refine h7.app (m := 1) (news := [.int .u8 32]) (h5.new hb1 _) (by omega) ⟨rfl, .inr ⟨b1, 0, 1, _, rfl, Nat.le_refl _, .inr ⟨_, _, upd_same _ _ _⟩, rfl⟩⟩ (List.all_eq_true.1 rfl) (by rw [bts_len]; omega) (by simp [maxLen, bts_len]; omega) (fun v3 M3 N3 h8 h9 h10 h11 => ?_)
    refine inc_r (by omega) ?_
    refine next (s.1 + 1, v3) _ _ (by simp only; omega) (fun hw2 => ⟨_, wk_refl hw2, M3, N3, rfl, by omega, fun q hq => ?_, h11, by simp only; omega, ?_⟩)
    · have q1 : s.2.ownBlock ≠ some q := fun e => by have := (ho.ge q e).1; omega
      obtain ⟨a1, a2⟩ := h3 q q1 (by omega)
      obtain ⟨a3, a4⟩ := h9 q a2 (by omega)
      exact a3.trans ((upd_ne _ _ (by omega)).trans (a1.trans (hM1 q hq)))
    · simp only
      rw [List.take_add_one, List.getElem?_eq_getElem hlt', Option.toList_some, text_snoc]
      simpa [bts, Nat.add_assoc] using h8
  · refine cnd_f ?_
    have e : l.take s.1 = l := List.take_of_length_le (by omega)
    rw [e] at ho
    refine ⟨_, ⟨(text l).length, text l, ho.rd.read, rfl⟩, fun hc => ⟨⟨F, M, N1⟩, wk_drop hc (fun q c hq => ?_), fun hw' => k N1 hN1 hw'⟩⟩
    rw [hM1 q (hm.lt hq)]; exact hq
end Go.Proofs.YtgjdjdjhoipfmaaGreatDoor.A
open Go Go.RowKit Go.Proofs.YtgjdjdjhoipfmaaGreatDoor.K Go.Proofs.YtgjdjdjhoipfmaaGreatDoor.T
set_option linter.unusedVariables false
set_option linter.unusedSimpArgs false
namespace Go.Proofs.YtgjdjdjhoipfmaaGreatDoor.A
variable {F F' : Nat → Option (List Value)} {M M' : Nat → Option Chunk} {N N' : Nat} {K : Kont} {E : PanK}
def cmpI (a b : Int) : Int := if a < b then -1 else if a > b then 1 else 0
theorem nan_c {a : Int} {h : Hp} (k : K (.bool false) h) : callv Tryz.prog (.func (.func 157) #[] #[]) #[.int .i64 a] K E h := by
  obtain ⟨F, M, N⟩ := h
  refine callv_of_text mixed Tryz.func157 (by kernel_rfl) (t157 _ E _) (fun hw => ?_)
  exact neq_f rfl fun hc => ⟨_, wk_refl hc, fun _ => k⟩
theorem compare_c {a b : Int} {h : Hp} (k : K (.int .i64 (cmpI a b)) h) : callv Tryz.prog (.func (.func 150) #[] #[]) #[.int .i64 a, .int .i64 b] K E h := by
  obtain ⟨F, M, N⟩ := h
  refine callv_of_text mixed Tryz.func150 (by kernel_rfl) (t150 _ E _ _) (fun hw => ?_)
  refine nan_c (nan_c (cnd_f (cnd_f ?_)))
  refine lss_r (fun h1 => cnd_t fun hc => ⟨_, wk_refl hc, fun _ => ?_⟩) (fun h1 => cnd_f (gtr_r (fun h2 => cnd_t fun hc => ⟨_, wk_refl hc, fun _ => ?_⟩) (fun h2 => cnd_f fun hc => ⟨_, wk_refl hc, fun _ => ?_⟩)))
  · unfold cmpI at k; rw [if_pos h1] at k; exact k
  · unfold cmpI at k; rw [if_neg h1, if_pos h2] at k; exact k
  · unfold cmpI at k; rw [if_neg h1, if_neg h2] at k; exact k
theorem kcmp_at {a b : List Int} {i : Nat} (ha : i < a.length) (hb : i < b.length) : kcmp (a.drop i) (b.drop i) = if cmpI a[i] b[i] = 0 then kcmp (a.drop (i + 1)) (b.drop (i + 1)) else cmpI a[i] b[i] := by
  rw [List.drop_eq_getElem_cons ha, List.drop_eq_getElem_cons hb]
  simp only [kcmp, cmpI]
  split
  · rw [if_neg (by decide)]
  · split
    · rw [if_neg (by decide)]
    · rw [if_pos rfl]
theorem kcmp_end {a b : List Int} {i : Nat} (h : i = min a.length b.length) : kcmp (a.drop i) (b.drop i) = cmpI a.length b.length := by
  unfold cmpI
  rcases Nat.lt_trichotomy a.length b.length with hl | hl | hl
  · rw [if_pos (by omega), List.drop_eq_nil_of_le (by omega), List.drop_eq_getElem_cons (by omega)]; rfl
  · rw [if_neg (by omega), if_neg (by omega), List.drop_eq_nil_of_le (by omega), List.drop_eq_nil_of_le (by omega)]; rfl
  · rw [if_neg (by omega), if_pos (by omega), show b.drop i = [] from List.drop_eq_nil_of_le (by omega), List.drop_eq_getElem_cons (by omega)]; rfl
theorem ints_at {v : Value} {l : List Int} (hv : sF F 1 v l.length (ic l)) {i : Nat} (hi : i < l.length) :
    ∃ b o c cs, v = .slice (some ⟨b, o, none⟩) l.length c ∧ F b = some cs ∧ cs[o + i * 1]? = some (.int .i64 l[i]) := by
  obtain ⟨b, o, c, hab, cs, hF, _, hcs⟩ := hv.at (by decide) hi
  exact ⟨b, o, c, cs, hab, hF, by rw [Nat.mul_one, hcs i (by omega)]; simp [ic, hi]⟩
theorem ixn_r {v : Value} {l : List Int} (hv : sF F 1 v l.length (ic l)) {i : Nat} {K : Value → Kont} (hi : i < l.length) (k : ∀ p, K p (.int .i64 l[i]) ⟨F, M, N⟩) :
    pv (iaV none 1 v (.int .i64 (i : Nat))) (fun p => ld false 1 p (K p)) ⟨F, M, N⟩ := by
  obtain ⟨b, o, c, cs, rfl, hF, hc⟩ := ints_at hv hi
  exact iaN_r hi (ld_r (ldV_c (row_F hF) hc) (k _))
theorem lenF_r {v : Value} {sz n : Nat} {cs : List Value} (hv : sF F sz v n cs) {h : Hp} (k : K (.int .i64 n) h) : pv (lenV v) K h := by
  obtain ⟨a, c, rfl, _⟩ := hv.form
  exact len_r k
theorem first_c {u v : Value} {a b : List Int} (hu : sF F 1 u a.length (ic a)) (hv : sF F 1 v b.length (ic b)) (hla : a.length ≤ 9223372036854775807) (k : K (.int .i64 (kcmp a b)) ⟨F, M, N⟩) :
    callv Tryz.prog (.func (.func 137) #[] #[]) #[u, v] K E ⟨F, M, N⟩ := by
  refine callv_of_text mixed Tryz.func137 (by kernel_rfl) (t137 _ E _ _) (fun hw => ?_)
  refine lenF_r hu (lenF_r hv ?_)
  have e : mm false (.int .i64 a.length) (.int .i64 b.length) = some (.int .i64 ((min a.length b.length : Nat) : Int)) := by
    simp only [mm]
    congr 2
    simp only [Bool.false_eq_true, if_false]
    split <;> omega
  refine pv_r e ?_
  refine l137_1_0_1_0_0 (σ := Nat) (fun i => .int .i64 (i : Nat)) (fun i h => h = ⟨F, M, N⟩ ∧ i ≤ min a.length b.length ∧ kcmp a b = kcmp (a.drop i) (b.drop i)) (fun i => min a.length b.length - i) 0 rfl
    (fun hw1 => ⟨_, wk_refl hw1, rfl, Nat.zero_le _, rfl⟩) (fun k1 i j h1 hI hw1 next => ?_)
  rw [t137_1_0_1_0_0]
  obtain ⟨rfl, hi, he⟩ := hI
  refine lss_r (fun hlt => ?_) (fun hge => ?_)
  · have h1 : i < a.length := by omega
    have h2 : i < b.length := by omega
    refine cnd_t (ixn_r hu h1 fun p => ixn_r hv h2 fun p' => compare_c ?_)
    rw [kcmp_at h1 h2] at he
    refine neq_r (fun hn => ?_) (fun hn => ?_)
    · refine cnd_t fun hc => ⟨_, wk_refl hc, fun _ => ?_⟩
      rw [if_neg hn] at he; rw [← he]; exact k
    · refine cnd_f (inc_r (by omega) ?_)
      rw [if_pos (by omega)] at he
      exact next (i + 1) _ _ (by omega) (fun hw2 => ⟨_, wk_refl hw2, rfl, by omega, he⟩)
  · refine cnd_f ?_
    refine lenF_r hu (lenF_r hv (compare_c fun hc => ⟨_, wk_refl hc, fun _ => ?_⟩))
    rw [kcmp_end (by omega)] at he
    rw [← he]; exact k
theorem Cmp_c {u v : Value} {a b : List Int} (hu : sF F 1 u a.length (ic a)) (hv : sF F 1 v b.length (ic b)) (hla : a.length ≤ 9223372036854775807) (k : K (.int .i64 (kcmp a b)) ⟨F, M, N⟩) :
    callv Tryz.prog (.func (.func 127) #[] #[]) #[u, v] K E ⟨F, M, N⟩ := by
  refine callv_of_text mixed Tryz.func127 (by kernel_rfl) (t127 _ E _ _) (fun hw => ?_)
  exact first_c hu hv hla fun hc => ⟨_, wk_refl hc, fun _ => k⟩
def rowD (F : Nat → Option (List Value)) (cs : List Value) (r : Rw) : Prop := ∃ v, cs = v :: r.2.cs ∧ sF F 1 v r.1.length (ic r.1) ∧ r.1.length ≤ 140737488351232
theorem rowD.mono {cs : List Value} {r : Rw} (h : rowD F cs r) (hF : subF F F') : rowD F' cs r := let ⟨v, h1, h2, h3⟩ := h; ⟨v, h1, h2.mono hF, h3⟩
theorem rowD.one {cs : List Value} {r : Rw} (h : rowD F cs r) : cs.length = 5 ∧ ∀ c ∈ cs, c.oneCell' = true := by
  obtain ⟨v, rfl, hv, _⟩ := h
  obtain ⟨a, c, rfl, _⟩ := hv.form
  exact ⟨rfl, List.all_eq_true.1 rfl⟩
theorem less_c {cs ds : List Value} {r q : Rw} (hr : rowD F cs r) (hq : rowD F ds q) (k : ∀ N', N ≤ N' → (Hp.mk F M N').wf → K (.int .i64 (kcmp r.1 q.1)) ⟨F, M, N'⟩) :
    callv Tryz.prog (.func (.func 104) #[] #[]) #[.agg cs.toArray, .agg ds.toArray] K E ⟨F, M, N⟩ := by
  refine callv_of_text mixed Tryz.func104 (by kernel_rfl) (t104 _ E _ _) (fun hw => ?_)
  have hm := hw.m
  obtain ⟨v, rfl, hv, hvl⟩ := hr
  obtain ⟨u, rfl, hu, _⟩ := hq
  refine nw_r (cs := v :: r.2.cs) (fun b1 hb1 => ?_)
  refine nw_r (cs := u :: q.2.cs) (fun b2 hb2 => ?_)
  refine pv_r rfl (ldM (v := v) ?_)
  refine pv_r rfl (ldM (v := u) ?_)
  refine Cmp_c hv hu (by omega) fun hc => ?_
  exact ⟨⟨F, M, b2 + 1⟩, wk_end hc, fun hw' => k _ (by omega) hw'⟩
end Go.Proofs.YtgjdjdjhoipfmaaGreatDoor.A
open Go Go.RowKit Go.Proofs.YtgjdjdjhoipfmaaGreatDoor.K Go.Proofs.YtgjdjdjhoipfmaaGreatDoor.T
set_option linter.unusedVariables false
set_option linter.unusedSimpArgs false
namespace Go.Proofs.YtgjdjdjhoipfmaaGreatDoor.A
variable {F F' : Nat → Option (List Value)} {M M' : Nat → Option Chunk} {N N' : Nat} {K : Kont} {E : PanK}
open Go.MapKept
def mapOK (es : Array MapEntry) (t : List Rw) : Prop := es.toList.length = t.length ∧ ∀ (i : Nat) (x : MapEntry), es.toList[i]? = some x → ∃ r, t[i]? = some r ∧ x.key = .string (txtB r.1) ∧ x.val = .int .i64 (i : Nat)
theorem mapOK.keys {es : Array MapEntry} {t : List Rw} (h : mapOK es t) : ∀ x ∈ es.toList, IsKey .string x.key := fun x hx => by
  obtain ⟨i, hi, rfl⟩ := List.mem_iff_getElem.1 hx
  obtain ⟨r, _, h2, _⟩ := h.2 i _ (List.getElem?_eq_getElem hi)
  rw [h2]; trivial
theorem mapOK.push {es : Array MapEntry} {t : List Rw} (h : mapOK es t) (r : Rw) (ck : Nat) : mapOK (es.push ⟨.string (txtB r.1), .int .i64 (t.length : Nat), ck⟩) (t ++ [r]) := by
  refine ⟨by simp [← h.1], fun i x hx => ?_⟩
  rw [Array.toList_push] at hx
  rcases Nat.lt_or_ge i es.toList.length with hi | hi
  · rw [List.getElem?_append_left hi] at hx
    obtain ⟨q, h1, h2⟩ := h.2 i x hx
    exact ⟨q, by rw [List.getElem?_append_left (by rw [← h.1]; exact hi)]; exact h1, h2⟩
  · rw [List.getElem?_append_right hi] at hx
    have h0 : i - es.toList.length = 0 := by
      have := (List.getElem?_eq_some_iff.1 hx).1
      simp at this; simpa using this
    rw [h0] at hx
    simp only [List.getElem?_cons_zero, Option.some.injEq] at hx
    have hit : i = t.length := by rw [← h.1]; omega
    subst hx
    exact ⟨r, by rw [hit]; simp, rfl, by rw [hit]⟩
theorem mapOK.set {es : Array MapEntry} {t : List Rw} (h : mapOK es t) {i : Nat} {k : List Int} {c c' : CE} (ht : t[i]? = some (k, c)) : mapOK es (t.set i (k, c')) := by
  refine ⟨by simp [← h.1], fun j x hx => ?_⟩
  obtain ⟨q, h1, h2, h3⟩ := h.2 j x hx
  by_cases hj : i = j
  · subst hj
    rw [ht] at h1; cases h1
    exact ⟨(k, c'), by rw [List.getElem?_set_self (List.getElem?_eq_some_iff.1 ht).1], h2, h3⟩
  · exact ⟨q, by rw [List.getElem?_set_ne hj]; exact h1, h2, h3⟩
structure isSheet (F : Nat → Option (List Value)) (M : Nat → Option Chunk) (B g bm : Nat) (v : Value) (rows : List (List Value)) (t : List Rw) : Prop where
  gg : M g = some (.cells 159 [v, .map (some bm)] 2)
  gB : B ≤ g
  bB : B ≤ bm
  mp : ∃ es clock, M bm = some (.obj (.map es clock)) ∧ mapOK es t
  oo : own M B 78 5 v t.length rows.flatten
  rr : rowsF (rowD F) 5 rows t
  nd : nodup t
theorem isSheet.vg {B g bm : Nat} {v : Value} {rows : List (List Value)} {t : List Rw} (h : isSheet F M B g bm v rows t) : v.ownBlock ≠ some g ∧ v.ownBlock ≠ some bm := by
  obtain ⟨es, clock, hm, _⟩ := h.mp
  rcases h.oo.2 with ⟨rfl, _⟩ | ⟨b, c, rest, rfl, _, _, _, h5⟩
  · simp [Value.ownBlock]
  · simp only [Value.ownBlock, if_true, ne_eq, Option.some.injEq]
    refine ⟨fun e => ?_, fun e => ?_⟩
    · have e' : b = g := by simpa using e
      subst e'; rw [h.gg] at h5; injection h5 with h5; injection h5 with h5; cases h5
    · have e' : b = bm := by simpa using e
      subst e'; rw [hm] at h5; cases h5
theorem isSheet.keep {B g bm : Nat} {v : Value} {rows : List (List Value)} {t : List Rw} (h : isSheet F M B g bm v rows t) (hF : subF F F') (hM : ∀ q, M q ≠ none → M' q = M q) : isSheet F' M' B g bm v rows t := by
  obtain ⟨es, clock, hm, ho⟩ := h.mp
  exact ⟨(hM g (by rw [h.gg]; simp)).trans h.gg, h.gB, h.bB, ⟨es, clock, (hM bm (by rw [hm]; simp)).trans hm, ho⟩, h.oo.keep (fun q hq => hM q (h.oo.ge q hq).2) (Nat.le_refl _), h.rr.mono fun r x hr => hr.mono hF, h.nd⟩
theorem upd_keep (hm : clean M N) {b : Nat} (hb : N ≤ b) (x : Option Chunk) : ∀ q, M q ≠ none → upd M b x q = M q := fun q hq => upd_ne _ _ (fun e => hq (hm q (by omega)))
theorem flat_set {sz : Nat} : ∀ (rows : List (List Value)) (i : Nat) (r : List Value), (∀ r ∈ rows, r.length = sz) → r.length = sz → i < rows.length → splice rows.flatten (i * sz) r = (rows.set i r).flatten
  | [], i, r, _, _, h => by simp at h
  | x :: rows, 0, r, hl, hr, _ => by
    have hx := hl x (by simp)
    simp only [Nat.zero_mul, List.flatten_cons, List.set_cons_zero]
    have := splice_at [] x r rows.flatten (by rw [hx, hr])
    simpa using this
  | x :: rows, i + 1, r, hl, hr, h => by
    have hx := hl x (by simp)
    have ih := flat_set rows i r (fun y hy => hl y (by simp [hy])) hr (by simpa using h)
    simp only [List.flatten_cons, List.set_cons_succ]
    rw [← ih]
    unfold splice
    rw [Nat.succ_mul, show i * sz + sz = x.length + i * sz by omega, List.take_length_add_append, show x.length + i * sz + r.length = x.length + (i * sz + r.length) by omega, List.drop_length_add_append]
    simp
end Go.Proofs.YtgjdjdjhoipfmaaGreatDoor.A
open Go Go.RowKit Go.Proofs.YtgjdjdjhoipfmaaGreatDoor.K Go.Proofs.YtgjdjdjhoipfmaaGreatDoor.T
set_option linter.unusedVariables false
set_option linter.unusedSimpArgs false
namespace Go.Proofs.YtgjdjdjhoipfmaaGreatDoor.A
variable {F F' : Nat → Option (List Value)} {M M' : Nat → Option Chunk} {N N' : Nat} {K : Kont} {E : PanK}
open Go.MapKept
theorem und_map : Tryz.prog.underlying 157 = some (.map 9 3) := by kernel_rfl
theorem und_str : Tryz.prog.underlying 9 = some .string := by kernel_rfl
theorem zero_int (w : World) : (zeroValue 3).run Tryz.prog w = .ok (.int .i64 0) w := by kernel_rfl
theorem splice_app {a b vs : List Value} {o : Nat} (h : o + vs.length ≤ a.length) : splice (a ++ b) o vs = splice a o vs ++ b := by
  unfold splice
  rw [List.take_append_of_le_length (by omega), List.drop_append_of_le_length (by omega)]
  simp
theorem splice_tail {l : List Value} {o : Nat} {x : Value} {vs : List Value} (hx : l[o]? = some x) (h : o + 1 + vs.length ≤ l.length) : splice l (o + 1) vs = splice l o (x :: vs) := by
  rw [splice_cons (by simp; omega)]
  congr 1
  obtain ⟨h1, h2⟩ := List.getElem?_eq_some_iff.1 hx
  rw [← h2, List.set_getElem_self]
theorem lay_c {B g bm : Nat} {v kv : Value} {rows : List (List Value)} {t : List Rw} {key : List Int} {c : CE} (h : isSheet F M B g bm v rows t) (hm : clean M N) (hB : B ≤ N) (hkv : sF F 1 kv key.length (ic key)) (hkl : key.length ≤ 17179869184) (hki : ∀ x ∈ key, i64 x) (ht : t.length ≤ 1099511627776)
    (k : ∀ F' M' N' v' rows', subF F F' → N ≤ N' → isSheet F' M' B g bm v' rows' (layP t key c) → (∀ q, q < B → M' q = M q) → clean M' N' → (Hp.mk F' M' N').wf → K (.tuple #[]) ⟨F', M', N'⟩) :
    callv Tryz.prog (.func (.func 74) #[] #[]) #[.pointer (some ⟨g, 0, none⟩), kv, .agg c.cs.toArray] K E ⟨F, M, N⟩ := by
  refine callv_of_text mixed Tryz.func74 (by kernel_rfl) (t74 _ E _ _ _) (fun hw => ?_)
  refine nw_r (cs := c.cs) (fun b1 hb1 => ?_)
  refine text_c hkv hkl hki (fun N1 hN1 hw1 => ?_)
  have hm1 : clean (upd M b1 (some (.cells 76 c.cs c.cs.length))) N1 := hw1.m
  have h1 : isSheet F (upd M b1 (some (.cells 76 c.cs c.cs.length))) B g bm v rows t := h.keep (subF.refl _) (upd_keep hm hb1 _)
  have hb1M : (upd M b1 (some (.cells 76 c.cs c.cs.length))) b1 = some (.cells 76 c.cs c.cs.length) := upd_same _ _ _
  have hM1 : ∀ q, q < B → (upd M b1 (some (.cells 76 c.cs c.cs.length))) q = M q := fun q hq => upd_ne _ _ (by omega)
  have hb1v : v.ownBlock ≠ some b1 := fun e => by have := h.oo.lt hm b1 e; omega
  have hgb1 : g ≠ b1 := fun e => by have := hm.lt h.gg; omega
  have hmb1 : bm ≠ b1 := fun e => by obtain ⟨es, ck, hx, _⟩ := h.mp; have := hm.lt hx; omega
  have hb1N := hm1.lt hb1M
  generalize upd M b1 (some (.cells 76 c.cs c.cs.length)) = M1 at *
  have hgg := h1.gg
  obtain ⟨es, clock, hmp, hmo⟩ := h1.mp
  have hfl := h1.rr.flen
  refine pv_r rfl (pv_r rfl (ldM ?_))
  refine lk_r und_map und_str zero_int (d := .string) trivial hmo.keys hmp (fun hmiss => ?_) (fun j x hj hx => ?_)
  · have hno : ∀ r ∈ t, r.1 ≠ key := fun r hr e => by
      obtain ⟨i, hi, rfl⟩ := List.mem_iff_getElem.1 hr
      have hil : i < es.toList.length := by rw [hmo.1]; exact hi
      obtain ⟨q, h2, h3, _⟩ := hmo.2 i _ (List.getElem?_eq_getElem hil)
      rw [List.getElem?_eq_getElem hi] at h2; cases h2
      exact hmiss _ (List.getElem_mem hil) (by rw [h3, e])
    rw [layP_miss hno] at k
    refine pv_r rfl (pv_r rfl (cnd_f ?_))
    refine pv_r rfl (pv_r rfl (ldM ?_))
    refine pv_r rfl (pv_r rfl (ldM ?_))
    obtain ⟨av, cv, hvf, hvc⟩ := h1.oo.form
    rw [hvf]
    refine len_r ?_
    refine mu_r und_map und_str (d := .string) trivial hmo.keys hmp (fun _ => ?_) (fun j x hj hx => (hmiss x (List.mem_of_getElem? hj) hx).elim)
    have hne : bm ≠ g := fun e => by rw [e, hgg] at hmp; cases hmp
    have hm2 := hm1.set (hm1.lt hmp) (some (.obj (.map (es.push ⟨.string (txtB key), .int .i64 (t.length : Nat), clock⟩) (clock + 1))))
    have hmo2 := hmo.push (key, c) clock
    generalize hes : es.push ⟨.string (txtB key), .int .i64 (t.length : Nat), clock⟩ = es2 at *
    generalize hM2 : upd M1 bm (some (.obj (.map es2 (clock + 1)))) = M2 at *
    have hgg2 : M2 g = some (.cells 159 [v, .map (some bm)] 2) := by rw [← hM2]; exact (upd_ne _ _ (Ne.symm hne)).trans hgg
    have hb2 : M2 b1 = some (.cells 76 c.cs c.cs.length) := by rw [← hM2]; exact (upd_ne _ _ (Ne.symm hmb1)).trans hb1M
    have ho2 : own M2 B 78 5 v t.length rows.flatten := h1.oo.keep (fun q hq => by rw [← hM2]; exact upd_ne _ _ (fun e => h1.vg.2 (e ▸ hq))) (Nat.le_refl _)
    refine pv_r rfl (pv_r rfl (ldM ?_))
    refine ldMa (vs := c.cs) ?_
    refine clone_f hm2 hkv.sR (by omega) (fun kv' F' N2 hw2 hF hN2 hkv' => ?_)
    obtain ⟨ak, ck, rfl, hck⟩ := hkv'.form
    refine ⟨ldV_a (row_M hb2) (by exact Nat.le_of_ble_eq_true rfl) rfl, ldV_c (row_M hgg2) rfl, ?_⟩
    refine pv_r (v := .agg (.slice ak key.length ck :: c.cs).toArray) (by kernel_rfl) ?_
    refine nws_r (cs := .slice ak key.length ck :: c.cs) (by kernel_rfl) (fun b3 hb3 => ?_)
    have hm2' := hm2.up hN2
    have hgN := hm2'.lt hgg2
    have hg3 : g ≠ b3 := by omega
    refine ⟨ldV_c (row_M ((upd_ne _ _ hg3).trans hgg2)) rfl, ?_⟩
    have ho3 : own (upd M2 b3 (some (.cells 78 (.slice ak key.length ck :: c.cs) (Value.slice ak key.length ck :: c.cs).length))) B 78 5 v t.length rows.flatten := ho2.keep (fun q hq => upd_ne _ _ (fun e => by have := ho2.lt hm2' q hq; omega)) (Nat.le_refl _)
    refine ho3.app (m := 1) (news := .slice ak key.length ck :: c.cs) (hm2'.new hb3 _) (by omega) ⟨rfl, .inr ⟨b3, 0, 1, _, rfl, Nat.le_refl _, .inr ⟨_, _, upd_same _ _ _⟩, rfl⟩⟩ (List.all_eq_true.1 rfl) (by omega) (by simp [maxLen]; omega) (fun v' M3 N3 h4 h5 h6 h7 => ?_)
    have hgg3 : M3 g = some (.cells 159 [v, .map (some bm)] 2) := ((h5 g h1.vg.1 (by omega)).1).trans ((upd_ne _ _ hg3).trans hgg2)
    have hbmN : bm < N2 := hm2'.lt (b := bm) (by rw [← hM2, upd_same])
    have hbm3 : M3 bm = some (.obj (.map es2 (clock + 1))) := ((h5 bm h1.vg.2 (by omega)).1).trans ((upd_ne _ _ (by omega)).trans (by rw [← hM2, upd_same]))
    refine pv_r rfl (pv_r rfl ?_)
    refine stM (cs' := [v', .map (some bm)]) ?_ hgg3 (by obtain ⟨a, c, rfl, _⟩ := h4.form; rfl) (by obtain ⟨a, c, rfl, _⟩ := h4.form; rfl) (by obtain ⟨a, c, rfl, _⟩ := h4.form; exact List.all_eq_true.1 rfl)
    have hv'g := (h5 g h1.vg.1 (by omega)).2
    have hv'm := (h5 bm h1.vg.2 (by omega)).2
    refine fun hc => ⟨_, wk_refl hc, fun hw' => k _ _ _ v' (rows ++ [.slice ak key.length ck :: c.cs]) hF (by omega) ⟨upd_same _ _ _, h1.gB, h1.bB, ⟨es2, _, (upd_ne _ _ hne).trans hbm3, hmo2⟩, ?_, ?_, ?_⟩ (fun q hq => ?_) (h7.set (by omega) _) hw'⟩
    · have h8 : own (upd M3 g (some (.cells 159 [v', .map (some bm)] 2))) B 78 5 v' (t.length + 1) (rows.flatten ++ .slice ak key.length ck :: c.cs) := h4.keep (fun q hq => upd_ne _ _ (fun e => hv'g (e ▸ hq))) (Nat.le_refl _)
      simpa using h8
    · have hr1 : rowD F' (.slice ak key.length ck :: c.cs) (key, c) := ⟨_, rfl, hkv', by simp only; omega⟩
      exact (h1.rr.mono fun r x hr => hr.mono hF).snoc hr1.one.1 hr1.one.2 hr1
    · rw [← layP_miss hno]; exact layP_nodup h.nd
    · have q1 : v.ownBlock ≠ some q := fun e => by have := (h1.oo.ge q e).1; omega
      have hgB := h1.gB
      have hbB := h1.bB
      rw [upd_ne _ _ (by omega), (h5 q q1 (by omega)).1, upd_ne _ _ (by omega), ← hM2, upd_ne _ _ (by omega)]; exact hM1 q hq
  · obtain ⟨⟨key', c'⟩, htj, hxk, hxv⟩ := hmo.2 j x hj
    have hkk : key' = key := by
      rw [hxk] at hx
      injection hx with hx
      exact txtB_inj hx
    subst hkk
    rw [layP_hit h.nd htj] at k
    rw [hxv]
    refine pv_r rfl (pv_r rfl (cnd_t ?_))
    have hjt := (List.getElem?_eq_some_iff.1 htj).1
    obtain ⟨row, hrow, ⟨kv1, hrw, hkv1, hkvl⟩, hread, hle, hrl⟩ := h1.rr.get htj
    simp only at hrw
    subst hrw
    obtain ⟨hol, ho⟩ := h1.oo
    rcases ho with ⟨_, h0⟩ | ⟨b, cp, rest, rfl, hlc, hcm, hbB, hMb⟩
    · omega
    have hbg : b ≠ g := fun e => h1.vg.1 (by rw [e]; rfl)
    have hbm' : b ≠ bm := fun e => h1.vg.2 (by rw [e]; rfl)
    have hlen : j * 5 + 5 ≤ rows.flatten.length := hle
    have hget : ∀ i, i < 5 → rows.flatten[j * 5 + i]? = (kv1 :: c'.cs)[i]? := fun i hi => by
      rw [← hread, List.getElem?_take, if_pos hi, List.getElem?_drop]
    refine pv_r rfl (pv_r rfl (ldM (v := .slice (some ⟨b, 0, none⟩) t.length cp) ?_))
    refine pv_r rfl (pv_r rfl (ldM (v := .slice (some ⟨b, 0, none⟩) t.length cp) ?_))
    refine iaN_r hjt (pv_r rfl ?_)
    refine ld_r (ldV_a (vs := c'.cs) (row_M hMb) (by rw [List.length_append]; omega) ?_) ?_
    · have e : (0 + j * 5 + 1) = j * 5 + 1 := by omega
      rw [e, List.drop_append_of_le_length (by omega), List.take_append_of_le_length (by rw [List.length_drop]; omega)]
      have h3 := congrArg (List.drop 1) hread
      rw [List.drop_take, List.drop_drop] at h3
      simpa using h3
    refine ldMa (vs := c.cs) ?_
    refine merge_c (fun N2 hN2 hw2 => ?_)
    refine ⟨ldV_c (row_M hgg) rfl, ?_⟩
    refine iaN_r hjt (pv_r rfl ?_)
    refine stM (cs' := (rows.set j (kv1 :: (c'.merge c).cs)).flatten ++ rest) ?_ hMb ?_ rfl (List.all_eq_true.1 rfl) (by rw [List.length_append]; omega)
    · refine fun hc => ⟨_, wk_refl hc, fun hw' => k _ _ _ (.slice (some ⟨b, 0, none⟩) t.length cp) (rows.set j (kv1 :: (c'.merge c).cs)) (subF.refl _) (by omega) ⟨(upd_ne _ _ (Ne.symm hbg)).trans hgg, h1.gB, h1.bB, ⟨es, clock, (upd_ne _ _ (Ne.symm hbm')).trans hmp, hmo.set htj⟩, ?_, ?_, ?_⟩ (fun q hq => (upd_ne _ _ (by omega)).trans (hM1 q hq)) hw'.m hw'⟩
      · refine ⟨?_, .inr ⟨b, cp, rest, by simp, by simpa using hlc, hcm, hbB, upd_same _ _ _⟩⟩
        rw [flatten_len (sz := 5)]
        · simp [h1.rr.all.1]
        · intro r hr
          rcases List.mem_or_eq_of_mem_set hr with hr | rfl
          · exact h1.rr.len r hr
          · rfl
      · have hr1 : rowD F (kv1 :: (c'.merge c).cs) (key', c'.merge c) := ⟨kv1, rfl, hkv1, hkvl⟩
        refine ⟨fun r hr => ?_, fun r hr => ?_, by simp [h1.rr.all.1], fun i r x hr hx => ?_⟩
        · rcases List.mem_or_eq_of_mem_set hr with hr | rfl
          · exact h1.rr.len r hr
          · rfl
        · rcases List.mem_or_eq_of_mem_set hr with hr | rfl
          · exact h1.rr.one r hr
          · exact hr1.one.2
        · by_cases hij : j = i
          · subst hij
            have hjr : j < rows.length := by rw [h1.rr.all.1]; exact hjt
            rw [List.getElem?_set_self hjr] at hr
            rw [List.getElem?_set_self hjt] at hx
            cases hr; cases hx; exact hr1
          · rw [List.getElem?_set_ne hij] at hr hx
            exact h1.rr.all.2 i r x hr hx
      · rw [← layP_hit h.nd htj]; exact layP_nodup h.nd
    · have e : (0 + j * 5 + 1) = j * 5 + 1 := by omega
      have hjr : j < rows.length := by rw [h1.rr.all.1]; exact hjt
      rw [e]
      show splice (rows.flatten ++ rest) (j * 5 + 1) (c'.merge c).cs = _
      have h4 : (c'.merge c).cs.length = 4 := rfl
      rw [splice_app (by omega), splice_tail (x := kv1) (by have := hget 0 (by decide); simpa using this) (by omega), flat_set rows j _ h1.rr.len rfl hjr]
end Go.Proofs.YtgjdjdjhoipfmaaGreatDoor.A
open Go Go.RowKit Go.Proofs.YtgjdjdjhoipfmaaGreatDoor.K Go.Proofs.YtgjdjdjhoipfmaaGreatDoor.T
set_option linter.unusedVariables false
set_option linter.unusedSimpArgs false
namespace Go.Proofs.YtgjdjdjhoipfmaaGreatDoor.A
variable {F F' : Nat → Option (List Value)} {M M' : Nat → Option Chunk} {N N' : Nat} {K : Kont} {E : PanK}
open Go.Sort hiding Below
theorem flat_at {sz : Nat} {rows : List (List Value)} (hl : ∀ r ∈ rows, r.length = sz) {i j : Nat} {r : List Value} (hi : rows[i]? = some r) (hj : j < sz) : rows.flatten[i * sz + j]? = r[j]? := by
  have h := flatten_take rows i r hl hi
  rw [← h, List.getElem?_take, if_pos hj, List.getElem?_drop]
theorem below_grow {W w' : World} (h : Below W.heap.size W w') (hd : W.drawn ≤ w'.drawn) : ∃ q os', w' = grow (W.drewN q) os' := by
  refine ⟨w'.drawn - W.drawn, w'.heap.extract W.heap.size w'.heap.size, ?_⟩
  have hh : w'.heap = W.heap ++ w'.heap.extract W.heap.size w'.heap.size := by
    apply Array.ext_getElem?
    intro k
    have hs := h.size
    rw [Array.getElem?_append]
    split
    · rename_i hk; exact h.block k hk
    · rename_i hk
      rw [Array.getElem?_extract]
      split
      · rw [show W.heap.size + (k - W.heap.size) = k by omega]
      · exact Array.getElem?_eq_none (by omega)
  obtain ⟨hp, tp, dr, os, out⟩ := w'
  simp only at hh hd
  have h1 := h.os; have h2 := h.tape; have h3 := h.output
  simp only at h1 h2 h3
  unfold grow World.drewN
  subst h1 h2 h3
  rw [← hh]
  congr 1
  simp only; omega
theorem sF_world {W : World} (hF : ∀ bk cs, F bk = some cs → ∃ arr e z, W.heap[bk]? = some (.cells arr e z) ∧ cs <+: arr.toList) {sz m : Nat} {v : Value} {cells : List Value} (h : sF F sz v m cells) : sF (F0 W) sz v m cells := by
  refine ⟨h.1, h.2.imp id fun ⟨b, o, c, cs, h1, h2, h3, h4⟩ => ?_⟩
  obtain ⟨arr, e, z, h5, h6⟩ := hF b cs h3
  refine ⟨b, o, c, arr.toList, h1, h2, by simp [F0, h5], ?_⟩
  obtain ⟨t, ht⟩ := h6
  rw [← ht]
  have hl := congrArg List.length h4
  rw [List.length_take, List.length_drop, h.1] at hl
  rcases Nat.eq_zero_or_pos (m * sz) with h0 | h0
  · rw [← h4, h0]; simp
  · rw [List.drop_append_of_le_length (by omega), List.take_append_of_le_length (by rw [List.length_drop]; omega)]; exact h4
theorem less_call {cs ds : List Value} {r q : Rw} (hr : rowD F cs r) (hq : rowD F ds q) (k : ∀ N', K (.int .i64 (kcmp r.1 q.1)) ⟨F, M, N'⟩) :
    call Tryz.prog 104 #[.agg cs.toArray, .agg ds.toArray] K E ⟨F, M, N⟩ := by
  refine call_text mixed Tryz.func104 (by kernel_rfl) (t104 _ E _ _) (fun hw => ?_)
  have hm := hw.m
  obtain ⟨v, rfl, hv, hvl⟩ := hr
  obtain ⟨u, rfl, hu, _⟩ := hq
  refine nw_r (cs := v :: r.2.cs) (fun b1 hb1 => ?_)
  refine nw_r (cs := u :: q.2.cs) (fun b2 hb2 => ?_)
  refine pv_r rfl (ldM (v := v) ?_)
  refine pv_r rfl (ldM (v := u) ?_)
  refine Cmp_c hv hu (by omega) fun hc => ?_
  exact ⟨⟨F, M, b2 + 1⟩, wk_end hc, fun hw' => k _⟩
abbrev RowE (F : Nat → Option (List Value)) := { x : List Value × Rw // rowD F x.1 x.2 }
theorem rows_E : ∀ (rows : List (List Value)) (t : List Rw), rowsF (rowD F) 5 rows t → ∃ d : List (RowE F), d.map (·.1.1) = rows ∧ d.map (·.1.2) = t
  | [], [], _ => ⟨[], rfl, rfl⟩
  | [], _ :: _, h => by have := h.all.1; simp at this
  | _ :: _, [], h => by have := h.all.1; simp at this
  | r :: rows, x :: t, h => by
    obtain ⟨d, h1, h2⟩ := rows_E rows t ⟨fun r hr => h.len r (by simp [hr]), fun r hr => h.one r (by simp [hr]), by have := h.all.1; simp at this; exact this, fun i r x hr hx => h.all.2 (i + 1) r x (by simpa using hr) (by simpa using hx)⟩
    exact ⟨⟨(r, x), h.all.2 0 r x rfl rfl⟩ :: d, by simp [h1], by simp [h2]⟩
theorem E_rows (d : List (RowE F)) : rowsF (rowD F) 5 (d.map (·.1.1)) (d.map (·.1.2)) := by
  refine ⟨fun r hr => ?_, fun r hr => ?_, by simp, fun i r x hr hx => ?_⟩
  · obtain ⟨x, _, rfl⟩ := List.mem_map.1 hr; exact x.2.one.1
  · obtain ⟨x, _, rfl⟩ := List.mem_map.1 hr; exact x.2.one.2
  · rw [List.getElem?_map] at hr hx
    cases hd : d[i]? with
    | none => rw [hd] at hr; simp at hr
    | some y => rw [hd] at hr hx; simp at hr hx; subst hr; subst hx; exact y.2
theorem swo_cmp : SWO (ltOf fun (x y : RowE F) => kcmp x.1.2.1 y.1.2.1) := by
  refine ⟨fun x => by simp [ltOf, kcmp_self], fun x y z h1 h2 => ?_, fun x y z h1 h2 => ?_⟩
  · simp only [ltOf, decide_eq_true_eq] at h1 h2 ⊢
    exact kcmp_trans h1 h2
  · simp only [ltOf, decide_eq_false_iff_not] at h1 h2 ⊢
    intro h3
    have e1 := kcmp_neg x.1.2.1 y.1.2.1
    have e2 := kcmp_neg y.1.2.1 z.1.2.1
    rcases Int.lt_or_eq_of_le (show 0 ≤ kcmp x.1.2.1 y.1.2.1 by omega) with h4 | h4
    · have h5 : kcmp y.1.2.1 x.1.2.1 < 0 := by omega
      have := kcmp_trans h5 h3
      omega
    · have := kcmp_eq h4.symm
      rw [this] at h3
      omega
end Go.Proofs.YtgjdjdjhoipfmaaGreatDoor.A
open Go Go.RowKit Go.Proofs.YtgjdjdjhoipfmaaGreatDoor.K Go.Proofs.YtgjdjdjhoipfmaaGreatDoor.T
set_option linter.unusedVariables false
set_option linter.unusedSimpArgs false
namespace Go.Proofs.YtgjdjdjhoipfmaaGreatDoor.A
variable {F F' : Nat → Option (List Value)} {M M' : Nat → Option Chunk} {N N' : Nat} {K : Kont} {E : PanK}
open Go.Sort hiding Below
section
variable {α : Type} [Inhabited α] {enc : α → List Value} {kk n off : Nat} {w : World} {blk q : Nat} {d : Array α} {os : Array Obj}
theorem sw_other (hq : q ≠ blk) (hl : q < w.heap.size) : (sortWorldK enc kk w blk off n d os).heap[q]? = w.heap[q]? := by
  unfold sortWorldK putRowK putRow mapBlock grow Sort.ahead
  simp only
  rw [Array.getElem?_append_left (by simpa using hl), Array.getElem?_modify, if_neg (fun e => hq e.symm)]
theorem sw_at {arr : Array Value} {e : TypeId} {z : Nat × Nat} (h : w.heap[blk]? = some (.cells arr e z)) : (sortWorldK enc kk w blk off n d os).heap[blk]? = some (.cells (putCells id off (flatK enc kk d) arr) e z) := by
  have hl : blk < w.heap.size := (Array.getElem?_eq_some_iff.1 h).1
  unfold sortWorldK putRowK putRow mapBlock grow Sort.ahead
  simp only
  rw [Array.getElem?_append_left (by simpa using hl), Array.getElem?_modify, if_pos rfl, h]
  rfl
theorem sw_size : w.heap.size ≤ (sortWorldK enc kk w blk off n d os).heap.size := by
  unfold sortWorldK putRowK putRow mapBlock grow Sort.ahead
  simp
end
theorem flatK_rows (d : List (RowE F)) [Inhabited (RowE F)] (j : Nat) (hj : j < d.length * 5) : (flatK (fun x : RowE F => x.1.1) 5 d.toArray)[j]? = (d.map (·.1.1)).flatten[j]? := by
  have h5 : j / 5 < d.length := by omega
  have hz : j < d.toArray.size * 5 := by simpa using hj
  have e1 : (flatK (fun x : RowE F => x.1.1) 5 d.toArray)[j]? = some ((flatK (fun x : RowE F => x.1.1) 5 d.toArray)[j]!) := by
    rw [getElem!_def, Array.getElem?_eq_getElem (by simpa using hj)]
  rw [e1, get_flatK _ _ _ _ hz]
  have hr := E_rows d
  have hg : (d.map (·.1.1))[j / 5]? = some (d[j / 5].1.1) := by simp [h5]
  have h6 := flat_at hr.len hg (Nat.mod_lt j (by decide : 0 < 5))
  rw [show j / 5 * 5 + j % 5 = j by omega] at h6
  rw [h6]
  have e2 : d.toArray[j / 5]! = d[j / 5] := by rw [getElem!_def]; simp [h5]
  rw [e2]
  have hl : (d[j / 5].1.1).length = 5 := d[j / 5].2.one.1
  rw [List.getElem?_eq_getElem (by omega), getElem!_def, List.getElem?_eq_getElem (by omega)]
theorem flatK_toList (d : List (RowE F)) [Inhabited (RowE F)] : (flatK (fun x : RowE F => x.1.1) 5 d.toArray).toList = (d.map (·.1.1)).flatten := by
  have hl := flatten_len (d.map (·.1.1)) (E_rows d).len
  apply List.ext_getElem?
  intro j
  rw [Array.getElem?_toList]
  rcases Nat.lt_or_ge j (d.length * 5) with h | h
  · exact flatK_rows d j h
  · rw [Array.getElem?_eq_none (by simpa using h), List.getElem?_eq_none (by rw [hl]; simpa using h)]
theorem put_prefix {a b rest : List Value} {B arr : Array Value} (hb : B.toList = b) (hab : a.length = b.length) (h : a ++ rest <+: arr.toList) : b ++ rest <+: (putCells id 0 B arr).toList := by
  have hsz : B.size = b.length := by rw [← hb]; simp
  obtain ⟨t, ht⟩ := h
  have hlen := congrArg List.length ht
  simp only [List.length_append, Array.length_toList] at hlen
  refine ⟨t, ?_⟩
  apply List.ext_getElem?
  intro i
  refine Eq.trans ?_ (Array.getElem?_toList).symm
  unfold putCells
  rw [Array.getElem?_mapIdx]
  rcases Nat.lt_or_ge i b.length with hi | hi
  · rw [List.append_assoc, List.getElem?_append_left hi, Array.getElem?_eq_getElem (by omega)]
    simp only [Option.map_some]
    rw [if_pos ⟨Nat.zero_le _, by omega⟩]
    have : B[i]? = b[i]? := by rw [← hb, Array.getElem?_toList]
    rw [← this, getElem!_def, Array.getElem?_eq_getElem (by omega)]
    simp [hsz, hi]
  · have e : arr[i]? = (a ++ rest ++ t)[i]? := by rw [ht, Array.getElem?_toList]
    have e2 : (a ++ rest ++ t)[i]? = (rest ++ t)[i - b.length]? := by rw [List.append_assoc, List.getElem?_append_right (by omega), hab]
    rw [List.append_assoc, List.getElem?_append_right hi, e, e2]
    cases hx : (rest ++ t)[i - b.length]? with
    | none => rfl
    | some v => simp only [Option.map_some]; rw [if_neg (by omega)]
end Go.Proofs.YtgjdjdjhoipfmaaGreatDoor.A
open Go Go.RowKit Go.Proofs.YtgjdjdjhoipfmaaGreatDoor.K Go.Proofs.YtgjdjdjhoipfmaaGreatDoor.T
set_option linter.unusedVariables false
set_option linter.unusedSimpArgs false
namespace Go.Proofs.YtgjdjdjhoipfmaaGreatDoor.A
variable {F F' : Nat → Option (List Value)} {M M' : Nat → Option Chunk} {N N' : Nat} {K : Kont} {E : PanK}
theorem row_at {α : Type} {R : List Value → α → Prop} {sz : Nat} {v : Value} {l : List α} {rows : List (List Value)} (hv : sF F sz v l.length rows.flatten) (hr : rowsF R sz rows l) (hz : 0 < sz) {i : Nat} (hi : i < l.length) :
    ∃ b o c cs r, v = .slice (some ⟨b, o, none⟩) l.length c ∧ F b = some cs ∧ rows[i]? = some r ∧ R r l[i] ∧ r.length = sz ∧ (∀ x ∈ r, x.oneCell' = true) ∧ o + i * sz + sz ≤ cs.length ∧ (cs.drop (o + i * sz)).take sz = r ∧ ∀ j, j < sz → cs[o + i * sz + j]? = r[j]? := by
  obtain ⟨b, o, c, hab, cs, hF, hle, hcs⟩ := hv.at hz hi
  obtain ⟨r, h1, h2, h3, h4, h5⟩ := hr.get (List.getElem?_eq_getElem hi)
  have hfl := hr.flen
  have hj : ∀ j, j < sz → cs[o + i * sz + j]? = r[j]? := fun j hj => by
    rw [Nat.add_assoc, hcs (i * sz + j) (by rw [hfl] at h4; omega), ← h3, List.getElem?_take, if_pos hj, List.getElem?_drop]
  refine ⟨b, o, c, cs, r, hab, hF, h1, h2, h5, hr.one r (List.mem_of_getElem? h1), by rw [hfl] at h4; omega, ?_, hj⟩
  apply List.ext_getElem?
  intro j
  rw [List.getElem?_take]
  split
  · rename_i h; rw [List.getElem?_drop]; exact hj j h
  · rw [List.getElem?_eq_none (by omega)]
theorem row_r {α : Type} {R : List Value → α → Prop} {sz : Nat} {v : Value} {l : List α} {rows : List (List Value)} {K : Value → Kont} (hv : sF F sz v l.length rows.flatten) (hr : rowsF R sz rows l) (hz : 0 < sz) {i : Nat} (hi : i < l.length)
    (k : ∀ p r, rows[i]? = some r → R r l[i] → r.length = sz → (∀ x ∈ r, x.oneCell' = true) → K p (.agg r.toArray) ⟨F, M, N⟩) : pv (iaV none sz v (.int .i64 (i : Nat))) (fun p => ld true sz p (K p)) ⟨F, M, N⟩ := by
  obtain ⟨b, o, c, cs, r, rfl, hF, hrr, hR, hl, h1, hle, ht, _⟩ := row_at hv hr hz hi
  exact iaN_r hi (ld_r (ldV_a (row_F hF) hle ht) (k _ r hrr hR hl h1))
theorem fld_r {α : Type} {R : List Value → α → Prop} {sz : Nat} {v : Value} {l : List α} {rows : List (List Value)} {K : Value → Value → Kont} (hv : sF F sz v l.length rows.flatten) (hr : rowsF R sz rows l) (hz : 0 < sz) {i : Nat} (hi : i < l.length) {off : Nat} (ho : off < sz)
    (k : ∀ p q r x, R r l[i] → r.length = sz → r[off]? = some x → K p q x ⟨F, M, N⟩) : pv (iaV none sz v (.int .i64 (i : Nat))) (fun p => pv (faV off p) fun q => ld false 1 q (K p q)) ⟨F, M, N⟩ := by
  obtain ⟨b, o, c, cs, r, rfl, hF, _, hR, hl, h1, hle, ht, hj⟩ := row_at hv hr hz hi
  have hx : r[off]? = some (r[off]'(by omega)) := List.getElem?_eq_getElem _
  exact iaN_r hi (pv_r rfl (ld_r (ldV_c (row_F hF) ((hj off ho).trans hx)) (k _ _ r _ hR hl hx)))
def tblD (F : Nat → Option (List Value)) (v : Value) (t : List Rw) : Prop := ∃ rows, sF F 5 v t.length rows.flatten ∧ rowsF (rowD F) 5 rows t
theorem tblD.mono {v : Value} {t : List Rw} (h : tblD F v t) (hF : subF F F') : tblD F' v t := let ⟨rows, h1, h2⟩ := h; ⟨rows, h1.mono hF, h2.mono fun _ _ hr => hr.mono hF⟩
theorem tblD.form {v : Value} {t : List Rw} (h : tblD F v t) : ∃ a c, v = .slice a t.length c := let ⟨rows, h1, _⟩ := h; let ⟨a, c, h2, _⟩ := h1.form; ⟨a, c, h2⟩
theorem tblD.nil {c : Nat} : tblD F (.slice none 0 c) [] := ⟨[], sF.nil _ _ _, rowsF.nil _ _⟩
abbrev Fc := List Int × Int
def fctD (F : Nat → Option (List Value)) (cs : List Value) (f : Fc) : Prop := ∃ v, cs = [v, .int .i64 f.2] ∧ sF F 1 v f.1.length (ic f.1) ∧ f.1.length ≤ 140737488351232
theorem fctD.mono {cs : List Value} {f : Fc} (h : fctD F cs f) (hF : subF F F') : fctD F' cs f := let ⟨v, h1, h2, h3⟩ := h; ⟨v, h1, h2.mono hF, h3⟩
theorem fctD.one {cs : List Value} {r : Fc} (h : fctD F cs r) : cs.length = 2 ∧ ∀ c ∈ cs, c.oneCell' = true := by
  obtain ⟨v, rfl, hv, _⟩ := h
  obtain ⟨a, c, rfl, _⟩ := hv.form
  exact ⟨rfl, List.all_eq_true.1 rfl⟩
def fctsD (F : Nat → Option (List Value)) (v : Value) (l : List Fc) : Prop := ∃ rows, sF F 2 v l.length rows.flatten ∧ rowsF (fctD F) 2 rows l
theorem fctsD.mono {v : Value} {t : List Fc} (h : fctsD F v t) (hF : subF F F') : fctsD F' v t := let ⟨rows, h1, h2⟩ := h; ⟨rows, h1.mono hF, h2.mono fun _ _ hr => hr.mono hF⟩
def okK (k : List Int) : Prop := k.length ≤ 10000000000 ∧ ∀ x ∈ k, i64 x
def ofC (v : Int) : CE := ⟨1, v, v, v⟩
theorem tbl_frz {v : Value} {t : List Rw} {rows : List (List Value)} (hc : (Hp.mk F M' N').wf) (ho : own M' N 78 5 v t.length rows.flatten) (hr : rowsF (rowD F) 5 rows t) : tblD (frzAll F M' N) v t :=
  ⟨rows, ho.rd.frz hc (fun b hb => .inl (ho.ge b hb).1), hr.mono fun _ _ h => h.mono (subF_frzAll hc)⟩
theorem frz_wf (hm : clean M N) (hk : ∀ q, q < N → M' q = M q) (hc : (Hp.mk F M' N').wf) : (Hp.mk F M' N').wk ⟨frzAll F M' N, M, N'⟩ := wk_all hm hk hc
theorem fldA_r {α : Type} {R : List Value → α → Prop} {sz : Nat} {v : Value} {l : List α} {rows : List (List Value)} {K : Value → Value → Kont} (hv : sF F sz v l.length rows.flatten) (hr : rowsF R sz rows l) (hz : 0 < sz) {i : Nat} (hi : i < l.length) {off n : Nat} (ho : off + n ≤ sz)
    (k : ∀ p q r, R r l[i] → r.length = sz → K p q (.agg ((r.drop off).take n).toArray) ⟨F, M, N⟩) : pv (iaV none sz v (.int .i64 (i : Nat))) (fun p => pv (faV off p) fun q => ld true n q (K p q)) ⟨F, M, N⟩ := by
  obtain ⟨b, o, c, cs, r, rfl, hF, _, hR, hl, h1, hle, ht, hj⟩ := row_at hv hr hz hi
  refine iaN_r hi (pv_r rfl (ld_r (ldV_a (row_F hF) (by omega) ?_) (k _ _ r hR hl)))
  apply List.ext_getElem?
  intro j
  rw [List.getElem?_take, List.getElem?_take, List.getElem?_drop, List.getElem?_drop]
  split
  · rw [show o + i * sz + off + j = o + i * sz + (off + j) by omega, hj _ (by omega)]
  · rfl
theorem key_r {v : Value} {t : List Rw} {rows : List (List Value)} {K : Value → Value → Kont} (hv : sF F 5 v t.length rows.flatten) (hr : rowsF (rowD F) 5 rows t) {i : Nat} (hi : i < t.length)
    (k : ∀ p q kv, sF F 1 kv t[i].1.length (ic t[i].1) → t[i].1.length ≤ 140737488351232 → K p q kv ⟨F, M, N⟩) : pv (iaV none 5 v (.int .i64 (i : Nat))) (fun p => pv (faV 0 p) fun q => ld false 1 q (K p q)) ⟨F, M, N⟩ :=
  fld_r hv hr (by decide) hi (by decide) fun p q r x hR _ hx => by
    obtain ⟨kv, rfl, h1, h2⟩ := hR
    simp at hx; subst hx
    exact k p q _ h1 h2
theorem cell_r {v : Value} {t : List Rw} {rows : List (List Value)} {K : Value → Value → Kont} (hv : sF F 5 v t.length rows.flatten) (hr : rowsF (rowD F) 5 rows t) {i : Nat} (hi : i < t.length)
    (k : ∀ p q, K p q (.agg t[i].2.cs.toArray) ⟨F, M, N⟩) : pv (iaV none 5 v (.int .i64 (i : Nat))) (fun p => pv (faV 1 p) fun q => ld true 4 q (K p q)) ⟨F, M, N⟩ :=
  fldA_r hv hr (by decide) hi (by decide) fun p q r hR _ => by
    obtain ⟨kv, rfl, h1, h2⟩ := hR
    exact k p q
end Go.Proofs.YtgjdjdjhoipfmaaGreatDoor.A
open Go Go.RowKit Go.Proofs.YtgjdjdjhoipfmaaGreatDoor.K Go.Proofs.YtgjdjdjhoipfmaaGreatDoor.T
set_option linter.unusedVariables false
set_option linter.unusedSimpArgs false
namespace Go.Proofs.YtgjdjdjhoipfmaaGreatDoor.A
variable {F F' : Nat → Option (List Value)} {M M' : Nat → Option Chunk} {N N' : Nat} {K : Kont} {E : PanK}
theorem rCmp_c {u v : Value} {a b : List Int} (hu : sF F 1 u a.length (ic a)) (hv : sF F 1 v b.length (ic b)) (hla : a.length ≤ 140737488351232) (k : K (.int .i64 (kcmp a b)) ⟨F, M, N⟩) :
    callv Tryz.prog (.func (.func 39) #[] #[]) #[u, v] K E ⟨F, M, N⟩ := by
  refine callv_of_text mixed Tryz.func39 (by kernel_rfl) (t39 _ E _ _) (fun hw => ?_)
  obtain ⟨ua, uc, rfl, _⟩ := hu.form
  obtain ⟨va, vc, rfl, _⟩ := hv.form
  refine l39_1_0_1_0_0 (σ := Nat) (fun i => .int .i64 (i : Nat)) (fun i h => h = ⟨F, M, N⟩ ∧ i ≤ min a.length b.length ∧ kcmp a b = kcmp (a.drop i) (b.drop i)) (fun i => min a.length b.length - i) 0 rfl
    (fun hw1 => ⟨_, wk_refl hw1, rfl, Nat.zero_le _, rfl⟩) (fun k1 i j h1 hI hw1 next => ?_)
  rw [t39_1_0_1_0_0]
  obtain ⟨rfl, hi, he⟩ := hI
  have fin : i = min a.length b.length → kcmp a b = cmpI a.length b.length := fun h => by rw [he, kcmp_end h]
  have tail : i = min a.length b.length → ∀ (X : Kont), (∀ v, v = kcmp a b → X (.int .i64 v) ⟨F, M, N⟩) → pv (binV .none .lss (.int .i64 (a.length : Nat)) (.int .i64 (b.length : Nat))) (fun t3 => cnd t3 (X (.int .i64 (-1))) (pv (binV .none .gtr (.int .i64 (a.length : Nat)) (.int .i64 (b.length : Nat))) fun t6 => cnd t6 (X (.int .i64 1)) (X (.int .i64 0)))) ⟨F, M, N⟩ := by
    intro hi X hX
    have := fin hi
    unfold cmpI at this
    refine lss_r (fun h => cnd_t (hX _ ?_)) (fun h => cnd_f (gtr_r (fun h' => cnd_t (hX _ ?_)) (fun h' => cnd_f (hX _ ?_))))
    · rw [this, if_pos h]
    · rw [this, if_neg h, if_pos h']
    · rw [this, if_neg h, if_neg h']
  try simp only [sS]
  refine lss_r (fun hlt => ?_) (fun hge => ?_)
  · try simp only [sS]
    refine lss_r (fun hlt2 => ?_) (fun hge2 => ?_)
    · try simp only [sS]
      have h1 : i < a.length := by omega
      have h2 : i < b.length := by omega
      rw [kcmp_at h1 h2] at he
      refine ixn_r hu h1 fun p1 => ixn_r hv h2 fun p2 => ?_
      refine lss_r (fun h => ?_) (fun h => ?_)
      · try simp only [sS]
        refine fun hc => ⟨_, wk_refl hc, fun _ => ?_⟩
        unfold cmpI at he
        rw [if_pos h, if_neg (by decide)] at he; rw [← he]; exact k
      · try simp only [sS]
        refine ixn_r hu h1 fun p1 => ixn_r hv h2 fun p2 => ?_
        refine gtr_r (fun h' => ?_) (fun h' => ?_)
        · try simp only [sS]
          refine fun hc => ⟨_, wk_refl hc, fun _ => ?_⟩
          unfold cmpI at he
          rw [if_neg h, if_pos h', if_neg (by decide)] at he; rw [← he]; exact k
        · try simp only [sS]
          refine inc_r (by omega) ?_
          have h0 : cmpI a[i] b[i] = 0 := by unfold cmpI; rw [if_neg h, if_neg h']
          rw [if_pos h0] at he
          exact next (i + 1) _ _ (by omega) (fun hw2 => ⟨_, wk_refl hw2, rfl, by omega, he⟩)
    · try simp only [sS]
      try simp only [sS]
      refine tail (by omega) (fun v h => h.wf → ∃ h', h.wk h' ∧ (h'.wf → K v h')) (fun v e hc => ⟨_, wk_refl hc, fun _ => by rw [e]; exact k⟩)
  · try simp only [sS]
    try simp only [sS]
    refine tail (by omega) (fun v h => h.wf → ∃ h', h.wk h' ∧ (h'.wf → K v h')) (fun v e hc => ⟨_, wk_refl hc, fun _ => by rw [e]; exact k⟩)
theorem neqc_r {a b : CE} {h : Hp} (k : K (.bool (!decide (a = b))) h) : pv (eqCells .neq [0, 0, 0, 0] (.agg a.cs.toArray) (.agg b.cs.toArray)) K h := by
  refine ⟨_, ?_, k⟩
  obtain ⟨a1, a2, a3, a4⟩ := a
  obtain ⟨b1, b2, b3, b4⟩ := b
  simp only [eqCells, CE.cs]
  have hd : ∀ x y : Int, (x == y) = decide (x = y) := fun _ _ => rfl
  by_cases h1 : a1 = b1 <;> by_cases h2 : a2 = b2 <;> by_cases h3 : a3 = b3 <;> by_cases h4 : a4 = b4 <;> simp [flatVs, flatV, hd, h1, h2, h3, h4]
theorem same_c {u v : Value} {a b : List Rw} (hu : tblD F u a) (hv : tblD F v b) (hla : a.length ≤ 140737488351232) (k : K (.bool (decide (a = b))) ⟨F, M, N⟩) :
    callv Tryz.prog (.func (.func 18) #[] #[]) #[u, v] K E ⟨F, M, N⟩ := by
  refine callv_of_text mixed Tryz.func18 (by kernel_rfl) (t18 _ E _ _) (fun hw => ?_)
  obtain ⟨ru, hu1, hu2⟩ := hu
  obtain ⟨rv, hv1, hv2⟩ := hv
  have hlen := hu1
  obtain ⟨ua, uc, rfl, huc⟩ := hu1.form
  obtain ⟨va, vc, rfl, _⟩ := hv1.form
  try simp only [sS]
  refine neq_r (fun hne => ?_) (fun hne => ?_)
  · try simp only [sS]
    have e : ¬ a = b := fun e => hne (by rw [e])
    rw [decide_eq_false e] at k
    exact fun hc => ⟨_, wk_refl hc, fun _ => k⟩
  have hab : a.length = b.length := by omega
  try simp only [sS]
  refine l18_1_1_0_1_0_0 (σ := Nat) (fun i => .int .i64 (i : Nat)) (fun i h => h = ⟨F, M, N⟩ ∧ i ≤ a.length ∧ a.take i = b.take i) (fun i => a.length - i) 0 rfl
    (fun hw1 => ⟨_, wk_refl hw1, rfl, Nat.zero_le _, rfl⟩) (fun k1 i j h1 hI hw1 next => ?_)
  rw [t18_1_1_0_1_0_0]
  obtain ⟨rfl, hi, he⟩ := hI
  have no : ∀ (h1 : i < a.length) (h2 : i < b.length), a[i] ≠ b[i] → decide (a = b) = false := fun h1 h2 hn => decide_eq_false fun e => by subst e; exact hn rfl
  try simp only [sS]
  refine lss_r (fun hlt => ?_) (fun hge => ?_)
  · try simp only [sS]
    have h1 : i < a.length := by omega
    have h2 : i < b.length := by omega
    refine key_r hu1 hu2 h1 fun p q kv hkv hkl => key_r hv1 hv2 h2 fun p' q' kv' hkv' hkl' => ?_
    refine rCmp_c hkv hkv' hkl ?_
    refine neq_r (fun hn => ?_) (fun hn => ?_)
    · try simp only [sS]
      rw [no h1 h2 (fun e => hn (by rw [e, kcmp_self]))] at k
      exact fun hc => ⟨_, wk_refl hc, fun _ => k⟩
    · try simp only [sS]
      refine cell_r hu1 hu2 h1 fun p q => cell_r hv1 hv2 h2 fun p' q' => ?_
      have hk := kcmp_eq (show kcmp a[i].1 b[i].1 = 0 by omega)
      refine neqc_r ?_
      by_cases hcc : a[i].2 = b[i].2
      · rw [decide_eq_true hcc]
        try simp only [sS]
        refine inc_r (by omega) ?_
        refine next (i + 1) _ _ (by omega) (fun hw2 => ⟨_, wk_refl hw2, rfl, by omega, ?_⟩)
        rw [List.take_add_one, List.take_add_one, he, List.getElem?_eq_getElem h1, List.getElem?_eq_getElem h2, show a[i] = b[i] from Prod.ext hk hcc]
      · rw [decide_eq_false hcc]
        try simp only [sS]
        rw [no h1 h2 (fun e => hcc (by rw [e]))] at k
        exact fun hc => ⟨_, wk_refl hc, fun _ => k⟩
  · try simp only [sS]
    rw [List.take_of_length_le (by omega), List.take_of_length_le (by omega)] at he
    rw [decide_eq_true he] at k
    exact fun hc => ⟨_, wk_refl hc, fun _ => k⟩
end Go.Proofs.YtgjdjdjhoipfmaaGreatDoor.A
open Go Go.RowKit Go.Proofs.YtgjdjdjhoipfmaaGreatDoor.K Go.Proofs.YtgjdjdjhoipfmaaGreatDoor.T
set_option linter.unusedVariables false
set_option linter.unusedSimpArgs false
namespace Go.Proofs.YtgjdjdjhoipfmaaGreatDoor.A
variable {F F' : Nat → Option (List Value)} {M M' : Nat → Option Chunk} {N N' : Nat} {K : Kont} {E : PanK}
theorem row_cells {kv : Value} {c : CE} {key : List Int} (hkv : sF F 1 kv key.length (ic key)) : (kv :: c.cs).length = 5 ∧ (∀ x ∈ kv :: c.cs, x.oneCell' = true) := by
  obtain ⟨a, n, rfl, _⟩ := hkv.form
  exact ⟨rfl, List.all_eq_true.1 rfl⟩
theorem rows_app {α : Type} {R : List Value → α → Prop} {sz : Nat} {r1 r2 : List (List Value)} {x1 x2 : List α} (h1 : rowsF R sz r1 x1) (h2 : rowsF R sz r2 x2) : rowsF R sz (r1 ++ r2) (x1 ++ x2) := by
  refine ⟨fun r hr => ?_, fun r hr => ?_, by simp [h1.all.1, h2.all.1], fun i r x hr hx => ?_⟩
  · rcases List.mem_append.1 hr with h | h; exact h1.len r h; exact h2.len r h
  · rcases List.mem_append.1 hr with h | h; exact h1.one r h; exact h2.one r h
  · have hl := h1.all.1
    rcases Nat.lt_or_ge i r1.length with hi | hi
    · rw [List.getElem?_append_left hi] at hr
      rw [List.getElem?_append_left (by omega)] at hx
      exact h1.all.2 i r x hr hx
    · rw [List.getElem?_append_right hi] at hr
      rw [List.getElem?_append_right (by omega)] at hx
      rw [← hl] at hx
      exact h2.all.2 _ r x hr hx
theorem rows_drop {α : Type} {R : List Value → α → Prop} {sz : Nat} {rows : List (List Value)} {xs : List α} (h : rowsF R sz rows xs) (i : Nat) : rowsF R sz (rows.drop i) (xs.drop i) :=
  ⟨fun r hr => h.len r (List.mem_of_mem_drop hr), fun r hr => h.one r (List.mem_of_mem_drop hr), by simp [h.all.1], fun j r x hr hx => h.all.2 (i + j) r x (by simpa [List.getElem?_drop] using hr) (by simpa [List.getElem?_drop] using hx)⟩
theorem rows_take {α : Type} {R : List Value → α → Prop} {sz : Nat} {rows : List (List Value)} {xs : List α} (h : rowsF R sz rows xs) (i : Nat) : rowsF R sz (rows.take i) (xs.take i) :=
  ⟨fun r hr => h.len r (List.mem_of_mem_take hr), fun r hr => h.one r (List.mem_of_mem_take hr), by simp [h.all.1], fun j r x hr hx => by
    rw [List.getElem?_take] at hr hx
    split at hr
    · rename_i hj; rw [if_pos hj] at hx; exact h.all.2 j r x hr hx
    · cases hr⟩
theorem flatten_drop {sz : Nat} : ∀ (rows : List (List Value)) (i : Nat), (∀ r ∈ rows, r.length = sz) → rows.flatten.drop (i * sz) = (rows.drop i).flatten
  | [], i, _ => by simp
  | x :: rows, 0, _ => by simp
  | x :: rows, i + 1, h => by
    have hx := h x (by simp)
    rw [List.flatten_cons, List.drop_succ_cons, ← flatten_drop rows i (fun r hr => h r (by simp [hr])), Nat.succ_mul, show i * sz + sz = x.length + i * sz by omega, List.drop_length_add_append]
theorem suf_r {α : Type} {R : List Value → α → Prop} {sz : Nat} {v : Value} {l : List α} {rows : List (List Value)} {K : Kont} {ki : IntKind} (hv : sF F sz v l.length rows.flatten) (hr : rowsF R sz rows l) {i : Nat} (hi : i ≤ l.length)
    (k : ∀ v', sF F sz v' (l.drop i).length (rows.drop i).flatten → K v' ⟨F, M, N⟩) : pv (slV sz v (some (.int ki (i : Nat))) none none) K ⟨F, M, N⟩ := by
  have hfd := flatten_drop rows i hr.len
  have hfl := (rows_drop hr i).flen
  have hc : ∃ a c, v = .slice a l.length c ∧ l.length ≤ c := hv.form
  obtain ⟨a, c, rfl, hlc⟩ := hc
  refine sl_r i l.length c hi hlc (Nat.le_refl _) ?_ (h4 := fun _ => ⟨rfl, hlc⟩)
  refine k _ ⟨hfl, ?_⟩
  rcases hv.2 with ⟨a', c', h1, h2⟩ | ⟨b, o, c', cs, h1, h2, h3, h4⟩
  · exact .inl ⟨_, _, by rw [show l.length - i = 0 by omega], by simp; omega⟩
  · injection h1 with h1 _ h1'
    subst h1; subst h1'
    rcases Nat.lt_or_ge i c with hic | hic
    · rw [if_neg (by omega)]
      refine .inr ⟨b, o + i * sz, c - i, cs, by simp [Addr.add_plain], by simp; omega, h3, ?_⟩
      rw [← hfd, ← h4, List.drop_take, List.drop_drop]
      congr 1
      rw [List.length_drop, Nat.sub_mul]
    · exact .inl ⟨_, _, by rw [show l.length - i = 0 by omega], by simp; omega⟩
end Go.Proofs.YtgjdjdjhoipfmaaGreatDoor.A
open Go Go.RowKit Go.Proofs.YtgjdjdjhoipfmaaGreatDoor.K Go.Proofs.YtgjdjdjhoipfmaaGreatDoor.T
set_option linter.unusedVariables false
set_option linter.unusedSimpArgs false
namespace Go.Proofs.YtgjdjdjhoipfmaaGreatDoor.A
variable {F F' : Nat → Option (List Value)} {M M' : Nat → Option Chunk} {N N' : Nat} {K : Kont} {E : PanK}
end Go.Proofs.YtgjdjdjhoipfmaaGreatDoor.A
namespace Go.Proofs
open Go.Shelf
def Tryz.sortRow_ren : Go.Shelf.Ren := ⟨fun | 6 => 112 | 15 => 133 | 14 => 132 | 28 => 148 | 29 => 149 | 20 => 140 | 21 => 141 | 22 => 142 | 23 => 143 | 24 => 144 | 25 => 145 | 26 => 146 | 27 => 147 | 46 => 152 | 47 => 153 | 48 => 154 | 49 => 155 | 50 => 156 | 57 => 162 | n => n, fun | 22 => 42 | 24 => 78 | 25 => 153 | 3 => 3 | 39 => 142 | 0 => 0 | 53 => 33 | 55 => 134 | 4 => 4 | 46 => 181 | 45 => 180 | 50 => 89 | 5 => 5 | 9 => 9 | 66 => 189 | 70 => 193 | 76 => 200 | 77 => 201 | n => n, fun | n => n⟩
theorem Tryz.sortRow : Go.Proofs.SlLaysF0.n6 Tryz.prog Tryz.sortRow_ren := {
  mixed := by kernel_rfl
  f6 := ⟨Tryz.f112.name, by decide, Tryz.func112.trans (congrArg some (by kernel_rfl))⟩
  f14 := ⟨Tryz.f132.name, by decide, Tryz.func132.trans (congrArg some (by kernel_rfl))⟩
  f15 := Tryz.func133.trans (congrArg some (by kernel_rfl))
  f20 := ⟨Tryz.f140.name, by decide, Tryz.func140.trans (congrArg some (by kernel_rfl))⟩
  f21 := ⟨Tryz.f141.name, by decide, Tryz.func141.trans (congrArg some (by kernel_rfl))⟩
  f22 := ⟨Tryz.f142.name, by decide, Tryz.func142.trans (congrArg some (by kernel_rfl))⟩
  f23 := ⟨Tryz.f143.name, by decide, Tryz.func143.trans (congrArg some (by kernel_rfl))⟩
  f24 := ⟨Tryz.f144.name, by decide, Tryz.func144.trans (congrArg some (by kernel_rfl))⟩
  f25 := ⟨Tryz.f145.name, by decide, Tryz.func145.trans (congrArg some (by kernel_rfl))⟩
  f26 := ⟨Tryz.f146.name, by decide, Tryz.func146.trans (congrArg some (by kernel_rfl))⟩
  f27 := ⟨Tryz.f147.name, by decide, Tryz.func147.trans (congrArg some (by kernel_rfl))⟩
  f28 := Tryz.func148.trans (congrArg some (by kernel_rfl))
  f29 := Tryz.func149.trans (congrArg some (by kernel_rfl))
  f46 := ⟨Tryz.f152.name, by decide, Tryz.func152.trans (congrArg some (by kernel_rfl))⟩
  f47 := Tryz.func153.trans (congrArg some (by kernel_rfl))
  f48 := Tryz.func154.trans (congrArg some (by kernel_rfl))
  f49 := ⟨Tryz.f155.name, by decide, Tryz.func155.trans (congrArg some (by kernel_rfl))⟩
  f50 := ⟨Tryz.f156.name, by decide, Tryz.func156.trans (congrArg some (by kernel_rfl))⟩
  f57 := ⟨Tryz.f162.name, by decide, Tryz.func162.trans (congrArg some (by kernel_rfl))⟩
  t0 := Tryz.underlying0
  a0 := Tryz.isAgg0
  z0 := Tryz.sizeOf0
  v0 := Tryz.zeroValue0
  t3 := Tryz.underlying3
  a3 := Tryz.isAgg3
  z3 := Tryz.sizeOf3
  v3 := Tryz.zeroValue3
  t4 := Tryz.underlying4
  a4 := Tryz.isAgg4
  z4 := Tryz.sizeOf4
  v4 := Tryz.zeroValue4
  t5 := Tryz.underlying5
  a5 := Tryz.isAgg5
  z5 := Tryz.sizeOf5
  v5 := Tryz.zeroValue5
  t9 := Tryz.underlying9
  a9 := Tryz.isAgg9
  z9 := Tryz.sizeOf9
  v9 := Tryz.zeroValue9
  t22 := Tryz.underlying42
  a22 := Tryz.isAgg42
  z22 := Tryz.sizeOf42
  v22 := Tryz.zeroValue42
  t25 := Tryz.underlying153
  a25 := Tryz.isAgg153
  z25 := Tryz.sizeOf153
  v25 := Tryz.zeroValue153
  t39 := Tryz.underlying142
  a39 := Tryz.isAgg142
  z39 := Tryz.sizeOf142
  v39 := Tryz.zeroValue142
  t45 := Tryz.underlying180
  a45 := Tryz.isAgg180
  z45 := Tryz.sizeOf180
  v45 := Tryz.zeroValue180
  t46 := Tryz.underlying181
  a46 := Tryz.isAgg181
  z46 := Tryz.sizeOf181
  v46 := Tryz.zeroValue181
  t50 := Tryz.underlying89
  a50 := Tryz.isAgg89
  z50 := Tryz.sizeOf89
  v50 := Tryz.zeroValue89
  t53 := Tryz.underlying33
  a53 := Tryz.isAgg33
  z53 := Tryz.sizeOf33
  v53 := Tryz.zeroValue33
  t55 := Tryz.underlying134
  a55 := Tryz.isAgg134
  z55 := Tryz.sizeOf134
  v55 := Tryz.zeroValue134
  t66 := Tryz.underlying189
  a66 := Tryz.isAgg189
  z66 := Tryz.sizeOf189
  v66 := Tryz.zeroValue189
  t70 := Tryz.underlying193
  a70 := Tryz.isAgg193
  z70 := Tryz.sizeOf193
  v70 := Tryz.zeroValue193
  t76 := Tryz.underlying200
  a76 := Tryz.isAgg200
  z76 := Tryz.sizeOf200
  v76 := Tryz.zeroValue200
  t77 := Tryz.underlying201
  a77 := Tryz.isAgg201
  z77 := Tryz.sizeOf201
  v77 := Tryz.zeroValue201 }
end Go.Proofs
open Go Go.RowKit Go.Proofs.YtgjdjdjhoipfmaaGreatDoor.K Go.Proofs.YtgjdjdjhoipfmaaGreatDoor.T
set_option linter.unusedVariables false
set_option linter.unusedSimpArgs false
namespace Go.Proofs.YtgjdjdjhoipfmaaGreatDoor.A
variable {F F' : Nat → Option (List Value)} {M M' : Nat → Option Chunk} {N N' : Nat} {K : Kont} {E : PanK}
open Go.Sort hiding Below
open Go.Shelf
theorem agg_row (w : World) : (isAgg 78).run Tryz.prog w = .ok true w := by kernel_rfl
theorem size_row (w : World) : (Go.sizeOf 78).run Tryz.prog w = .ok 5 w := by kernel_rfl
theorem cmp_lays [Inhabited (RowE F)] {w : World} {blk size : Nat} (hF : ∀ bk cs, F bk = some cs → bk ≠ blk ∧ bk < w.heap.size ∧ ∃ arr e z, w.heap[bk]? = some (.cells arr e z) ∧ cs <+: arr.toList) :
    CmpLays Tryz.prog 104 #[] (fun x : RowE F => x.1.1) 5 (fun x y => kcmp x.1.2.1 y.1.2.1) blk 0 size w := by
  intro m os dk _ x y
  have hW : ∀ bk cs, F bk = some cs → ∃ arr e z, (sortWorldK (fun x : RowE F => x.1.1) 5 w blk 0 m dk os).heap[bk]? = some (.cells arr e z) ∧ cs <+: arr.toList := fun bk cs h => by
    obtain ⟨h1, h2, arr, e, z, h3, h4⟩ := hF bk cs h
    exact ⟨arr, e, z, (sw_other h1 h2).trans h3, h4⟩
  have up : ∀ z : RowE F, rowD (F0 (sortWorldK (fun x : RowE F => x.1.1) 5 w blk 0 m dk os)) z.1.1 z.1.2 := fun z => by
    obtain ⟨v, h1, h2, h3⟩ := z.2
    exact ⟨v, h1, sF_world hW h2, h3⟩
  have h := calls1 (P := Tryz.prog) (w := sortWorldK (fun x : RowE F => x.1.1) 5 w blk 0 m dk os) (K := fun v => v = .int .i64 (kcmp x.1.2.1 y.1.2.1))
    (less_call (K := fun v _ => v = .int .i64 (kcmp x.1.2.1 y.1.2.1)) (E := fun _ _ => False) (up x) (up y) (fun N' => rfl))
  refine Calls.mono h fun e w' ⟨⟨v, he, hv⟩, hb, hd⟩ => ?_
  exact ⟨by rw [he, hv], below_grow hb hd⟩
theorem perm_map {α β : Type} {a b : List α} (f : α → β) (h : a.Perm b) : (a.map f).Perm (b.map f) := h.map f
theorem sort_c {b cap tot : Nat} {rows : List (List Value)} {t : List Rw} {rest : List Value} (hM : M b = some (.cells 78 (rows.flatten ++ rest) tot)) (hr : rowsF (rowD F) 5 rows t) (hn : nodup t) (h0 : 0 < t.length) (hl : t.length < 4611686018427387904)
    (k : ∀ N' rows' t', N ≤ N' → rowsF (rowD F) 5 rows' t' → t.Perm t' → srt t' → K (.tuple #[]) ⟨F, upd M b (some (.cells 78 (rows'.flatten ++ rest) tot)), N'⟩) :
    callv Tryz.prog (.func (.func 112) #[] #[]) #[.slice (some ⟨b, 0, none⟩) t.length cap, .func (.func 104) #[] #[]] K E ⟨F, M, N⟩ := by
  refine .inl ⟨by kernel_rfl, fun w0 w _ r => ?_⟩
  obtain ⟨d, hd1, hd2⟩ := rows_E rows t hr
  have hdl : d.length = t.length := by rw [← hd2]; simp
  have hne : d ≠ [] := fun e => by rw [e] at hdl; simp at hdl; omega
  obtain ⟨x0, d0, hd0⟩ := List.exists_cons_of_ne_nil hne
  haveI : Inhabited (RowE F) := ⟨x0⟩
  obtain ⟨h1, h2, h3, arr, h4, h5, h6⟩ := r.cl b _ _ _ hM
  have hbw : b < w.heap.size := (Array.getElem?_eq_some_iff.1 h4).1
  have hfl := hr.flen
  have hH : HoldsK (fun x : RowE F => x.1.1) 5 w b 0 d.toArray := by
    intro j hj
    have hj' : j < d.length * 5 := by simpa using hj
    have e1 := flatK_rows d j hj'
    rw [hd1] at e1
    have e2 : rows.flatten[j]? = some (id (flatK (fun x : RowE F => x.1.1) 5 d.toArray)[j]!) := by
      rw [← e1, id, getElem!_def, Array.getElem?_eq_getElem (by simpa using hj')]
    refine ⟨?_, by simp [World.frozen?, h4]⟩
    rw [Nat.zero_add]
    refine r.cell (cs := rows.flatten ++ rest) (.inr ⟨_, _, hM⟩) ?_
    rw [List.getElem?_append_left (by omega)]; exact e2
  have hF : ∀ bk cs, F bk = some cs → bk ≠ b ∧ bk < w.heap.size ∧ ∃ arr e z, w.heap[bk]? = some (.cells arr e z) ∧ cs <+: arr.toList := fun bk cs h => by
    obtain ⟨a1, arr', e, z, a2, a3⟩ := r.fr bk cs h
    exact ⟨fun e => (by subst e; simp only at h3; rw [h] at h3; cases h3), (Array.getElem?_eq_some_iff.1 a2).1, arr', e, z, a2, a3⟩
  have eg : ∀ args w, (callFunc 104 args).run Tryz.prog w = .ok (.enter 104 args) w := enters_of Tryz.func104 (by kernel_rfl) rfl
  have hcon := AnyQ.slices_SortFunc Tryz.sortRow 5 agg_row size_row (fun x : RowE F => x.1.1) (fun x => x.2.one.1) (fun x v hv => x.2.one.2 v hv) (fun x y => kcmp x.1.2.1 y.1.2.1) swo_cmp 104 #[] b 0 cap d.toArray w eg (cmp_lays hF) hH hbw (by simpa [hdl] using hl)
  change Calls Tryz.prog 112 _ _ _ at hcon
  have hsz : d.toArray.size = t.length := by simpa using hdl
  rw [hsz] at hcon
  refine Calls.mono hcon fun e w' ⟨he, d', n, os, hp, hs, hw⟩ => ?_
  subst he
  have hsz' : d'.size = t.length := by rw [hp.1, hsz]
  have hp2 : d'.toList.Perm d := by
    have h7 := hp.2.2
    rw [← hsz, Array.extract_size] at h7
    rw [show d'.extract 0 d.toArray.size = d' from by rw [hsz, ← hsz', Array.extract_size]] at h7
    simpa using h7
  have hr' := E_rows d'.toList
  have hperm : t.Perm (d'.toList.map (·.1.2)) := by rw [← hd2]; exact hp2.symm.map _
  have hsrt : srt (d'.toList.map (·.1.2)) := by
    have hnd := hn.perm hperm
    unfold srt
    rw [List.pairwise_iff_getElem]
    intro i j hi hj hij
    have hnd' := List.pairwise_iff_getElem.1 hnd i j hi hj hij
    simp only [List.length_map, Array.length_toList] at hi hj
    have h8 := hs i j (Nat.zero_le _) hij (by omega)
    simp only [ltOf, decide_eq_false_iff_not] at h8
    rw [getElem!_pos d' j (by omega), getElem!_pos d' i (by omega)] at h8
    simp only [List.getElem_map, Array.getElem_toList] at hnd' ⊢
    have h9 := kcmp_neg d'[i].1.2.1 d'[j].1.2.1
    have h10 : kcmp d'[i].1.2.1 d'[j].1.2.1 ≠ 0 := fun e => hnd' (kcmp_eq e)
    omega
  refine ⟨⟨F, upd M b (some (.cells 78 ((d'.toList.map (·.1.1)).flatten ++ rest) tot)), w'.heap.size⟩, ?_, k _ _ _ (Nat.le_trans r.nx (hw ▸ sw_size)) hr' hperm hsrt⟩
  have hat := sw_at (enc := fun x : RowE F => x.1.1) (kk := 5) (n := n) (off := 0) (d := d') (os := os) h4
  have hsw : w.heap.size ≤ w'.heap.size := hw ▸ sw_size
  refine r.turn (w' := w') (b := b) h2 h3 (by rw [hw]; rfl) (by rw [hw]; rfl) (by rw [hw]; rfl) hsw (by omega) (fun q hq hql => by rw [hw]; exact sw_other hq hql) (some _) w'.heap.size (Nat.le_trans r.nx hsw) (Nat.le_refl _) (by omega) ?_ (by rw [hw]; exact Nat.le_add_right _ _)
  refine ⟨_, by rw [hw]; exact hat, by simpa [putCells] using h5, ?_⟩
  have hfl2 := flatK_toList d'.toList
  rw [Array.toArray_toList] at hfl2
  exact put_prefix (a := rows.flatten) hfl2 (by rw [hfl, hr'.flen]; simp [hsz']) h6
theorem sort_none {a : Option Addr} {c : Nat} (k : ∀ N', N ≤ N' → K (.tuple #[]) ⟨F, M, N'⟩) : callv Tryz.prog (.func (.func 112) #[] #[]) #[.slice a 0 c, .func (.func 104) #[] #[]] K E ⟨F, M, N⟩ := by
  refine .inl ⟨by kernel_rfl, fun w0 w _ r => ?_⟩
  have hcon := AnyF.slices_SortFunc_none Tryz.sortRow a c (.func (.func 104) #[] #[]) w
  change Calls Tryz.prog 112 _ _ _ at hcon
  refine Calls.mono hcon fun e w' ⟨he, hw⟩ => ?_
  subst he; subst hw
  exact ⟨⟨F, M, N⟩, r, k N (Nat.le_refl _)⟩
end Go.Proofs.YtgjdjdjhoipfmaaGreatDoor.A
open Go Go.RowKit Go.Proofs.YtgjdjdjhoipfmaaGreatDoor.K Go.Proofs.YtgjdjdjhoipfmaaGreatDoor.T
set_option linter.unusedVariables false
set_option linter.unusedSimpArgs false
namespace Go.Proofs.YtgjdjdjhoipfmaaGreatDoor.A
variable {F F' : Nat → Option (List Value)} {M M' : Nat → Option Chunk} {N N' : Nat} {K : Kont} {E : PanK}
theorem sorted_c {B g bm : Nat} {v : Value} {rows : List (List Value)} {t : List Rw} (h : isSheet F M B g bm v rows t) (hm : clean M N) (hl : t.length ≤ 1099511627776)
    (k : ∀ M' N' rows' t', N ≤ N' → own M' B 78 5 v t'.length rows'.flatten → rowsF (rowD F) 5 rows' t' → t.Perm t' → srt t' → (∀ q, q < B → M' q = M q) → clean M' N' → (Hp.mk F M' N').wf → K v ⟨F, M', N'⟩) :
    callv Tryz.prog (.func (.func 76) #[] #[]) #[.pointer (some ⟨g, 0, none⟩)] K E ⟨F, M, N⟩ := by
  refine callv_of_text mixed Tryz.func76 (by kernel_rfl) (t76 _ E _) (fun hw => ?_)
  have hgg := h.gg
  refine pv_r rfl (pv_r rfl (ldM (v := v) ?_))
  rcases Nat.eq_zero_or_pos t.length with h0 | h0
  · have ht : t = [] := List.eq_nil_of_length_eq_zero h0
    subst ht
    have hoo := h.oo
    obtain ⟨a, c, hv, _⟩ := h.oo.form
    rw [hv]
    refine sort_none (fun N' hN => ?_)
    refine pv_r rfl (pv_r rfl (ldM (v := v) fun hc => ⟨_, wk_refl hc, fun hw' => k M N' rows [] hN h.oo h.rr (List.Perm.refl _) .nil (fun _ _ => rfl) (hm.up hN) hw'⟩))
  · rcases h.oo.2 with ⟨_, hz⟩ | ⟨b, c, rest, rfl, hc1, hc2, hbB, hMb⟩
    · omega
    refine sort_c hMb h.rr h.nd h0 (by omega) (fun N' rows' t' hN hr' hp hs => ?_)
    have hbg : g ≠ b := fun e => h.vg.1 (by rw [e]; rfl)
    have hbN := hm.lt hMb
    refine pv_r rfl (pv_r rfl (ldM (v := .slice (some ⟨b, 0, none⟩) t.length c) ?_ ((upd_ne _ _ hbg).trans hgg)))
    refine fun hc => ⟨_, wk_refl hc, fun hw' => k _ _ rows' t' hN ⟨hr'.flen, .inr ⟨b, c, rest, by rw [hp.length_eq], by rw [← hp.length_eq]; exact hc1, hc2, hbB, upd_same _ _ _⟩⟩ hr' hp hs (fun q hq => upd_ne _ _ (by omega)) ((hm.set hbN _).up hN) hw'⟩
def fr1 (f : Fc) : Rw := (f.1, ofC f.2)
theorem make_c {v : Value} {l : List Fc} (hv : fctsD F v l) (hl : l.length ≤ 1000000000) (hk : ∀ f ∈ l, okK f.1)
    (k : ∀ v' F' N', (Hp.mk F' M N').wf → subF F F' → N ≤ N' → tblD F' v' (tab (l.map fr1)) → K v' ⟨F', M, N'⟩) :
    callv Tryz.prog (.func (.func 38) #[] #[]) #[v] K E ⟨F, M, N⟩ := by
  refine callv_of_text mixed Tryz.func38 (by kernel_rfl) (t38 _ E _) (fun hw => ?_)
  have hm : clean M N := hw.m
  refine blank_c (fun g bm N1 hbm hg hN1 hw1 => ?_)
  obtain ⟨frs, hvs, hrs⟩ := hv
  refine lenF_r hvs ?_
  refine l38_1_1_0_1_0_0 (σ := Nat) (fun i => .int .i64 (i : Nat))
    (fun i h => ∃ F' M' N' v' rows, h = ⟨F', M', N'⟩ ∧ subF F F' ∧ N ≤ N' ∧ (∀ q, q < N → M' q = M q) ∧ clean M' N' ∧ i ≤ l.length ∧ isSheet F' M' N g bm v' rows (sheet ((l.take i).map fr1))) (fun i => l.length - i) 0 rfl
    (fun hwx => ⟨_, wk_refl hwx, F, _, N1, .slice none 0 0, [], rfl, subF.refl _, by omega, fun q hq => (upd_ne _ _ (by omega)).trans (upd_ne _ _ (by omega)), hw1.m, Nat.zero_le _,
      ⟨upd_same _ _ _, by omega, hbm, ⟨#[], 0, (upd_ne _ _ (by omega)).trans (upd_same _ _ _), by simp [mapOK, sheet]⟩, own.nil, rowsF.nil _ _, .nil⟩⟩) (fun k1 i j h1 hI hwx next => ?_)
  rw [t38_1_1_0_1_0_0]
  obtain ⟨F1, M1, N2, v1, rows, rfl, hF1, hN2, hM1, hm1, hi, hS⟩ := hI
  have hsl : ∀ i, (sheet ((l.take i).map fr1)).length ≤ 1000000000 := fun i => by
    have : ∀ (m : List Rw) (s : List Rw), (m.foldl (fun t r => layP t r.1 r.2) s).length ≤ s.length + m.length := by
      intro m
      induction m with
      | nil => intro s; simp
      | cons r m ih => intro s; have := ih (layP s r.1 r.2); have h2 := layP_len s r.1 r.2; simp at this ⊢; omega
    have h3 := this ((l.take i).map fr1) []
    unfold sheet
    rw [List.length_map, List.length_take] at h3
    simp at h3 ⊢; omega
  refine lss_r (fun hlt => ?_) (fun hge => ?_)
  · have hlt' : i < l.length := by omega
    refine cnd_t ?_
    refine row_r (hvs.mono hF1) (hrs.mono fun _ _ h => h.mono hF1) (by decide) hlt' (fun p r _ hR hrl hr1 => ?_)
    obtain ⟨kv, hre, hkv, hkl⟩ := hR
    subst hre
    refine nw_r (fun b1 hb1 => ?_)
    refine stM (cs' := [kv, .int .i64 l[i].2]) ?_ (upd_same _ _ _) rfl rfl (by obtain ⟨a, c, rfl, _⟩ := hkv.form; exact List.all_eq_true.1 rfl)
    refine pv_r rfl (ldM (v := kv) (pv_r rfl (ldM (v := .int .i64 l[i].2) ?_)))
    refine of_c (fun N3 hN3 hw3 => ?_)
    refine ⟨ldV_c (row_M (upd_same _ _ _)) rfl, ?_⟩
    rw [upd_upd] at hw3 ⊢
    have hok := hk l[i] (List.getElem_mem _)
    refine lay_c (hS.keep (subF.refl _) (upd_keep hm1 hb1 _)) hw3.m (by omega) hkv (Nat.le_trans hok.1 (by decide)) hok.2 (by have := hsl i; omega) (fun F4 M4 N4 v4 rows4 hF4 hN4 hS4 hM4 hm4 hw4 => ?_)
    refine inc_r (by omega) ?_
    refine next (i + 1) _ _ (by omega) (fun hw5 => ⟨_, wk_refl hw5, F4, M4, N4, v4, rows4, rfl, hF1.trans hF4, by omega, fun q hq => (hM4 q hq).trans ((upd_ne _ _ (by omega)).trans (hM1 q hq)), hm4, by omega, ?_⟩)
    rw [List.take_add_one, List.getElem?_eq_getElem hlt', Option.toList_some, List.map_append, List.map_singleton, sheet_snoc]
    exact hS4
  · refine cnd_f ?_
    have e : l.take i = l := List.take_of_length_le (by omega)
    have hs2 := hsl i
    rw [e] at hS hs2
    refine sorted_c hS hm1 (by omega) (fun M4 N4 rows4 t' hN4 ho4 hr4 hp hs hM4 hm4 hw4 hc => ?_)
    rw [sheet_sorted hp hs] at ho4 hr4
    have hMM : ∀ q, q < N → M4 q = M q := fun q hq => (hM4 q hq).trans (hM1 q hq)
    exact ⟨_, frz_wf hm hMM hc, fun hw' => k v1 _ N4 hw' (hF1.trans (subF_frzAll hc)) (by omega) (tbl_frz hc ho4 hr4)⟩
end Go.Proofs.YtgjdjdjhoipfmaaGreatDoor.A
open Go Go.RowKit Go.Proofs.YtgjdjdjhoipfmaaGreatDoor.K Go.Proofs.YtgjdjdjhoipfmaaGreatDoor.T
set_option linter.unusedVariables false
set_option linter.unusedSimpArgs false
namespace Go.Proofs.YtgjdjdjhoipfmaaGreatDoor.A
variable {F F' : Nat → Option (List Value)} {M M' : Nat → Option Chunk} {N N' : Nat} {K : Kont} {E : PanK}
theorem layR_tab_len (l : List Rw) : ∀ t : List Rw, (l.foldl (fun t r => layR t r.1 r.2) t).length ≤ t.length + l.length := by
  induction l with
  | nil => intro t; simp
  | cons r l ih => intro t; have := ih (layR t r.1 r.2); have h2 := layR_len t r.1 r.2; simp at this ⊢; omega
theorem tab_len (l : List Rw) : (tab l).length ≤ l.length := by have := layR_tab_len l []; simpa [tab] using this
end Go.Proofs.YtgjdjdjhoipfmaaGreatDoor.A
