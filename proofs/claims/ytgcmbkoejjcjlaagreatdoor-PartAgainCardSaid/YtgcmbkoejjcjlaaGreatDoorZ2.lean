import Derived.Test.YtgcmbkoejjcjlaaGreatDoorProg
import Derived.Test.YtgcmbkoejjcjlaaGreatDoorZ1
set_option maxHeartbeats 4000000
open Go Go.RowKit Go.Proofs.YtgcmbkoejjcjlaaGreatDoor.K
set_option linter.unusedVariables false
set_option maxRecDepth 100000
namespace Go.Proofs.YtgcmbkoejjcjlaaGreatDoor.T
section
variable (K : Kont) (E : PanK) (k1 k2 k3 k4 k5 : Env → Hp → Prop) (x0 x1 x2 x3 x4 x5 x6 x7 x8 x9 x10 x11 x12 x13 x14 x15 x16 x17 x18 x19 x20 x21 x22 x23 x24 x25 x26 x27 x28 x29 x30 x31 x32 x33 x34 x35 x36 x37 x38 x39 x40 x41 x42 x43 x44 x45 x46 x47 x48 x49 x50 x51 x52 x53 x54 x55 x56 x57 x58 x59 x60 x61 x62 x63 x64 v0 v1 v2 v3 v4 v5 v6 v7 v8 v9 v10 v11 v12 v13 v14 v15 v16 v17 v18 v19 v20 v21 v22 v23 v24 v25 v26 v27 v28 v29 v30 v31 v32 v33 v34 v35 v36 v37 v38 v39 v40 v41 v42 v43 v44 v45 v46 v47 v48 v49 v50 v51 v52 v53 v54 v55 v56 v57 v58 v59 v60 v61 v62 v63 v64 : Value) (j : Nat → Value)
abbrev q94 : QD := bodyQ Tryz.prog Tryz.f94.results.toList K E
abbrev d94 (p : List Nat) : QD → Env → Hp → Prop := den Tryz.prog (sel (bodyOf Tryz.f94) p)
def m94_1_1_0_1_0_0 (j : Nat → Value) : Env := #[x0, x1, x2, x3, x4, x5, (j 6), v7, x8, (j 9), x10, x11, v12, (j 13), (j 14), (j 15), (j 16), (j 17), (j 18), (j 19), (j 20), (j 21), (j 22), (j 23), (j 24), (j 25), (j 26), (j 27), (j 28), (j 29), (j 30), (j 31), (j 32), (j 33), (j 34), (j 35), (j 36), (j 37)]
theorem t94 : d94 [] (q94 K E) #[x0, x1, x2, U, U, U, U, U, U, U, U, U, U, U, U, U, U, U, U, U, U, U, U, U, U, U, U, U, U, U, U, U, U, U, U, U, U, U] =
  pv (lenV x2) fun t1 =>
  lp (fun k1 => d94 [1, 1, 0, 1, 0, 0] (thenD k1 (blk 0 (thenD (d94 [1, 1, 1] (q94 K E)) (q94 K E))))) (m94_1_1_0_1_0_0 x0 x1 x2 U U U U x2 t1 (.int .u32 0) (.int .i64 0) (jf #[U, U, U, U, U, U, (.bool false)])) := by kernel_rfl
theorem t94_1_1_0_1_0_0 : d94 [1, 1, 0, 1, 0, 0] (thenD k1 (blk 0 (thenD (d94 [1, 1, 1] (q94 K E)) (q94 K E)))) (m94_1_1_0_1_0_0 x0 x1 x2 x3 x4 x5 x8 x10 x11 v7 v12 j) =
  pv (binV .none .lss v12 x11) fun t1 =>
  cnd t1 (
   pv (iaV none 2 x10 v12) fun t2 =>
   ld true 2 t2 fun t3 =>
   nw 74 [(.int .u32 0), (.slice none 0 0)] fun t4 =>
   st 2 t4 t3 fun _ =>
   pv (faV 0 t4) fun t5 =>
   ld false 1 t5 fun t6 =>
   pv (binV .none .leq t6 v7) fun t7 =>
   gdK t7 false (fun k => k x0) fun t8 =>
   gdK t7 false (fun k => pv (faV 1 t4) k) fun t9 =>
   gdK t7 false (fun k => ld false 1 t9 k) fun t10 =>
   gdK t7 false (fun k => callv Tryz.prog (.func (.func 27) #[] #[]) #[t8, t10] k E) fun t11 =>
   gdK t7 false (fun k => pv (unV .not t11) k) fun t12 =>
   pv (pickV t7 (.bool true) t12) fun t13 =>
   gdK t13 false (fun k => pv (faV 1 t4) k) fun t14 =>
   gdK t13 false (fun k => ld false 1 t14 k) fun t15 =>
   gdK t13 false (fun k => k x1) fun t16 =>
   gdK t13 false (fun k => callv Tryz.prog (.func (.func 45) #[] #[]) #[t15, t16, (.bool false)] k E) fun t17 =>
   gdK t13 false (fun k => pv (lenV t17) k) fun t18 =>
   gdK t13 false (fun k => pv (binV .none .gtr t18 (.int .i64 0)) k) fun t19 =>
   pv (pickV t13 (.bool true) t19) fun t20 =>
   cnd t20 (
    K (.bool false)) (
    pv (faV 0 t4) fun t21 =>
    ld false 1 t21 fun t22 =>
    pv (binV .none .add v12 (.int .i64 1)) fun t23 =>
    k1 (m94_1_1_0_1_0_0 x0 x1 x2 x3 x4 x5 x8 x10 x11 t22 t23 (jf #[U, U, U, U, U, U, (j 6), U, U, t4, U, U, U, t1, t2, t3, t5, t6, v7, t7, t7, t8, t9, t10, t11, t12, t13, t13, t14, t15, t16, t17, t18, t19, t20, t21, t22, t23])))) (
   K (.bool true)) := by kernel_rfl
abbrev q30 : QD := bodyQ Tryz.prog Tryz.f30.results.toList K E
abbrev d30 (p : List Nat) : QD → Env → Hp → Prop := den Tryz.prog (sel (bodyOf Tryz.f30) p)
def m30_1_1_1_0_1_0_0 (j : Nat → Value) : Env := #[x0, x1, x2, x3, x4, (j 5), x6, x7, x8, x9, x10, x11, x12, v13, (j 14), (j 15), (j 16), (j 17), (j 18), (j 19), (j 20), (j 21), (j 22), (j 23), (j 24), (j 25), (j 26), (j 27), (j 28), (j 29), (j 30), (j 31), (j 32), x33]
theorem t30 : d30 [] (q30 K E) #[x0, U, U, U, U, U, U, U, U, U, U, U, U, U, U, U, U, U, U, U, U, U, U, U, U, U, U, U, U, U, U, U, U, U] =
  callv Tryz.prog (.func (.func 64) #[] #[]) #[x0] (fun t1 =>
  pv (unV .not t1) fun t2 =>
  cnd t2 (
   K (.pointer none)) (
   pv (bdC #[(.slice none 0 0), (.slice none 0 0)] [(0, 1), (1, 1)] #[]) fun t3 =>
   nw 113 (Value.cells t3).toList fun t4 =>
   pv (lenV x0) fun t5 =>
   lp (fun k1 => d30 [1, 1, 1, 0, 1, 0, 0] (thenD k1 (blk 0 (thenD (d30 [1, 1, 1, 1] (q30 K E)) (q30 K E))))) (m30_1_1_1_0_1_0_0 x0 U (.pointer none) t4 U x0 t1 t2 t3 t4 x0 t5 U (.int .i64 0) (jf #[])))) E := by kernel_rfl
theorem t30_1_1_1_0_1_0_0 : d30 [1, 1, 1, 0, 1, 0, 0] (thenD k1 (blk 0 (thenD (d30 [1, 1, 1, 1] (q30 K E)) (q30 K E)))) (m30_1_1_1_0_1_0_0 x0 x1 x2 x3 x4 x6 x7 x8 x9 x10 x11 x12 x33 v13 j) =
  pv (binV .none .lss v13 x12) fun t1 =>
  cnd t1 (
   pv (iaV none 2 x11 v13) fun t2 =>
   ld true 2 t2 fun t3 =>
   nw 88 [(.int .i64 0), (.slice none 0 0)] fun t4 =>
   st 2 t4 t3 fun _ =>
   pv (nilV x3) fun t5 =>
   pv (faV 1 t5) fun t6 =>
   ld false 1 t6 fun t7 =>
   pv (faV 0 t4) fun t8 =>
   ld false 1 t8 fun t9 =>
   pv (faV 1 t4) fun t10 =>
   ld false 1 t10 fun t11 =>
   callv Tryz.prog (.func (.func 65) #[] #[]) #[t11] (fun t12 h13 => (ldV h13 false 1 t8 t9) ∧ (ldV h13 false 1 t6 t7) ∧ (
    pv (bdC #[(.int .i64 0), (.slice none 0 0)] [(0, 1), (1, 1)] #[(0, t9), (1, t12)]) fun t14 =>
    nws 88 1 (bsC #[(.int .i64 0), (.slice none 0 0)] 2 1 #[(0, t14)]) (fun t15 h16 => (ldV h16 false 1 t6 t7) ∧ (
     appX 88 2 32 t7 t15 fun t17 =>
     pv (nilV x3) fun t18 =>
     pv (faV 1 t18) fun t19 =>
     st 1 t19 t17 fun _ =>
     pv (binV .none .add v13 (.int .i64 1)) fun t20 =>
     k1 (m30_1_1_1_0_1_0_0 x0 x1 x2 x3 x4 x6 x7 x8 x9 x10 x11 x12 x33 t20 (jf #[U, U, U, U, U, t4, U, U, U, U, U, U, U, U, t1, t2, t3, x3, x3, t5, t6, t7, t8, t9, t10, t11, t12, t14, t15, t17, t18, t19, t20]))) h16)) h13) E) (
   K x3) := by kernel_rfl
abbrev q45 : QD := bodyQ Tryz.prog Tryz.f45.results.toList K E
abbrev d45 (p : List Nat) : QD → Env → Hp → Prop := den Tryz.prog (sel (bodyOf Tryz.f45) p)
theorem t45 : d45 [] (q45 K E) #[x0, x1, x2, U, U, U, U, U, U, U, U] =
  nw 115 (Value.cells x1).toList fun t1 =>
  nw 4 (Value.cells x2).toList fun t2 =>
  callv Tryz.prog (.func (.func 76) #[] #[]) #[x0] (fun t3 =>
  callv Tryz.prog (.func (.func 75) #[] #[]) #[t3, (.func (.func 77) #[] #[t1, t2])] (fun t4 =>
  K t4) E) E := by kernel_rfl
abbrev q77 : QD := bodyQ Tryz.prog Tryz.f77.results.toList K E
abbrev d77 (p : List Nat) : QD → Env → Hp → Prop := den Tryz.prog (sel (bodyOf Tryz.f77) p)
theorem t77 : d77 [] (q77 K E) #[x0, x1, x2, U, U, U, U, U, U, U] =
  nw 90 (Value.cells x0).toList fun t1 =>
  ld false 1 x1 fun t2 =>
  ld true 2 t1 fun t3 =>
  ld false 1 x2 fun t4 =>
  callv Tryz.prog t2 #[t3] (fun t5 h6 => (ldV h6 false 1 x2 t4) ∧ (
   pv (binV .bool .neq t5 t4) fun t7 =>
   K t7) h6) E := by kernel_rfl
abbrev q76 : QD := bodyQ Tryz.prog Tryz.f76.results.toList K E
abbrev d76 (p : List Nat) : QD → Env → Hp → Prop := den Tryz.prog (sel (bodyOf Tryz.f76) p)
def m76_1_1_0_1_0_0 (j : Nat → Value) : Env := #[x0, x1, x2, v3, x4, (j 5), x6, x7, v8, (j 9), (j 10), (j 11), (j 12), (j 13), (j 14), (j 15), (j 16), (j 17), (j 18), (j 19), (j 20), (j 21), x22]
theorem t76 : d76 [] (q76 K E) #[x0, U, U, U, U, U, U, U, U, U, U, U, U, U, U, U, U, U, U, U, U, U, U] =
  pv (lenV x0) fun t1 =>
  lp (fun k1 => d76 [1, 1, 0, 1, 0, 0] (thenD k1 (blk 0 (thenD (d76 [1, 1, 1] (q76 K E)) (q76 K E))))) (m76_1_1_0_1_0_0 x0 U (.slice none 0 0) U x0 t1 U (.slice none 0 0) (.int .i64 0) (jf #[])) := by kernel_rfl
theorem t76_1_1_0_1_0_0 : d76 [1, 1, 0, 1, 0, 0] (thenD k1 (blk 0 (thenD (d76 [1, 1, 1] (q76 K E)) (q76 K E)))) (m76_1_1_0_1_0_0 x0 x1 x2 x4 x6 x7 x22 v3 v8 j) =
  pv (binV .none .lss v8 x7) fun t1 =>
  cnd t1 (
   pv (iaV none 2 x6 v8) fun t2 =>
   ld true 2 t2 fun t3 =>
   nw 90 [(.slice none 0 0), (.int .i64 0)] fun t4 =>
   st 2 t4 t3 fun _ =>
   pv (faV 0 t4) fun t5 =>
   ld false 1 t5 fun t6 =>
   pv (faV 1 t4) fun t7 =>
   ld false 1 t7 fun t8 =>
   callv Tryz.prog (.func (.func 65) #[] #[]) #[t6] (fun t9 h10 => (ldV h10 false 1 t7 t8) ∧ (
    pv (bdC #[(.slice none 0 0), (.int .i64 0)] [(0, 1), (1, 1)] #[(0, t9), (1, t8)]) fun t11 =>
    nws 90 1 (bsC #[(.slice none 0 0), (.int .i64 0)] 2 1 #[(0, t11)]) fun t12 =>
    appX 90 2 32 v3 t12 fun t13 =>
    pv (binV .none .add v8 (.int .i64 1)) fun t14 =>
    k1 (m76_1_1_0_1_0_0 x0 x1 x2 x4 x6 x7 x22 t13 t14 (jf #[U, U, U, U, U, t4, U, U, U, t1, t2, t3, v3, t5, t6, t9, t7, t8, t11, t12, t13, t14]))) h10) E) (
   K v3) := by kernel_rfl
abbrev q93 : QD := bodyQ Tryz.prog Tryz.f93.results.toList K E
abbrev d93 (p : List Nat) : QD → Env → Hp → Prop := den Tryz.prog (sel (bodyOf Tryz.f93) p)
theorem t93 : d93 [] (q93 K E) #[x0, x1, x2, U, U, U, U, U, U, U, U, U, U, U, U, U, U, U, U, U, U, U, U, U, U, U, U, U, U, U, U, U, U, U, U, U, U, U] =
  callv Tryz.prog (.func (.func 72) #[] #[]) #[x0, x1] (fun t1 =>
  pv (exV 0 t1) fun t2 =>
  pv (exV 1 t1) fun t3 =>
  cnd t3 (
   pv (iaV none 2 x0 t2) fun t4 =>
   pv (faV 1 t4) fun t5 =>
   ld false 1 t5 fun t6 =>
   callv Tryz.prog (.func (.func 76) #[] #[]) #[x2] (fun t7 h8 => (ldV h8 false 1 t5 t6) ∧ (
    nws 38 2 (bsC #[(.slice none 0 0)] 1 2 #[(0, t6), (1, t7)]) fun t9 =>
    callv Tryz.prog (.func (.func 118) #[] #[]) #[t9] (fun t10 =>
    pv (iaV none 2 x0 t2) fun t11 =>
    pv (faV 1 t11) fun t12 =>
    st 1 t12 t10 fun _ =>
    K x0) E) h8) E) (
   callv Tryz.prog (.func (.func 76) #[] #[]) #[x2] (fun t13 =>
   pv (bdC #[(.int .u32 0), (.slice none 0 0)] [(0, 1), (1, 1)] #[(0, x1), (1, t13)]) fun t14 =>
   nws 74 1 (bsC #[(.int .u32 0), (.slice none 0 0)] 2 1 #[(0, t14)]) fun t15 =>
   callv Tryz.prog (.func (.func 119) #[] #[]) #[x0, t2, t15] (fun t16 =>
   K t16) E) E)) E := by kernel_rfl
abbrev q46 : QD := bodyQ Tryz.prog Tryz.f46.results.toList K E
abbrev d46 (p : List Nat) : QD → Env → Hp → Prop := den Tryz.prog (sel (bodyOf Tryz.f46) p)
theorem t46 : d46 [] (q46 K E) #[x0, x1, U, U, U, U] =
  nw 3 (Value.cells x0).toList fun t1 =>
  nw 3 (Value.cells x1).toList fun t2 =>
  K (.func (.func 78) #[] #[t1, t2]) := by kernel_rfl
abbrev q78 : QD := bodyQ Tryz.prog Tryz.f78.results.toList K E
abbrev d78 (p : List Nat) : QD → Env → Hp → Prop := den Tryz.prog (sel (bodyOf Tryz.f78) p)
theorem t78 : d78 [] (q78 K E) #[x0, x1, x2, U, U, U, U, U, U, U, U, U, U, U, U, U, U, U, U, U, U, U, U, U, U] =
  nw 90 (Value.cells x0).toList fun t1 =>
  pv (faV 0 t1) fun t2 =>
  ld false 1 t2 fun t3 =>
  pv (lenV t3) fun t4 =>
  pv (binV .none .gtr t4 (.int .i64 0)) fun t5 =>
  gdK t5 true (fun k => pv (faV 0 t1) k) fun t6 =>
  gdK t5 true (fun k => ld false 1 t6 k) fun t7 =>
  gdK t5 true (fun k => pv (iaV none 1 t7 (.int .i64 0)) k) fun t8 =>
  gdK t5 true (fun k => ld false 1 t8 k) fun t9 =>
  gdK t5 true (fun k => ld false 1 x1 k) fun t10 =>
  gdK t5 true (fun k => pv (binV .none .geq t9 t10) k) fun t11 =>
  pv (pickV t5 t11 (.bool false)) fun t12 =>
  gdK t12 true (fun k => pv (faV 0 t1) k) fun t13 =>
  gdK t12 true (fun k => ld false 1 t13 k) fun t14 =>
  gdK t12 true (fun k => pv (iaV none 1 t14 (.int .i64 0)) k) fun t15 =>
  gdK t12 true (fun k => ld false 1 t15 k) fun t16 =>
  gdK t12 true (fun k => ld false 1 x2 k) fun t17 =>
  gdK t12 true (fun k => pv (binV .none .lss t16 t17) k) fun t18 =>
  pv (pickV t12 t18 (.bool false)) fun t19 =>
  K t19 := by kernel_rfl
abbrev q106 : QD := bodyQ Tryz.prog Tryz.f106.results.toList K E
abbrev d106 (p : List Nat) : QD → Env → Hp → Prop := den Tryz.prog (sel (bodyOf Tryz.f106) p)
def m106_1_1_0_1_0_0 (j : Nat → Value) : Env := #[x0, x1, x2, x3, x4, x5, x6, v7, x8, (j 9), x10, x11, v12, (j 13), (j 14), (j 15), (j 16), (j 17), (j 18), (j 19), (j 20), (j 21), (j 22), (j 23), (j 24), (j 25), (j 26), (j 27), (j 28), (j 29), (j 30), x31]
theorem t106 : d106 [] (q106 K E) #[x0, x1, x2, U, U, U, U, U, U, U, U, U, U, U, U, U, U, U, U, U, U, U, U, U, U, U, U, U, U, U, U, U] =
  pv (lenV x0) fun t1 =>
  lp (fun k1 => d106 [1, 1, 0, 1, 0, 0] (thenD k1 (blk 0 (thenD (d106 [1, 1, 1] (q106 K E)) (q106 K E))))) (m106_1_1_0_1_0_0 x0 x1 x2 U U U (.slice none 0 0) U x0 t1 U (.slice none 0 0) (.int .i64 0) (jf #[])) := by kernel_rfl
theorem t106_1_1_0_1_0_0 : d106 [1, 1, 0, 1, 0, 0] (thenD k1 (blk 0 (thenD (d106 [1, 1, 1] (q106 K E)) (q106 K E)))) (m106_1_1_0_1_0_0 x0 x1 x2 x3 x4 x5 x6 x8 x10 x11 x31 v7 v12 j) =
  pv (binV .none .lss v12 x11) fun t1 =>
  cnd t1 (
   pv (iaV none 5 x10 v12) fun t2 =>
   ld true 5 t2 fun t3 =>
   nw 110 [(.slice none 0 0), (.int .i64 0), (.int .i64 0), (.int .i64 0), (.int .i64 0)] fun t4 =>
   st 5 t4 t3 fun _ =>
   pv (faV 0 t4) fun t5 =>
   ld false 1 t5 fun t6 =>
   callv Tryz.prog (.func (.func 142) #[] #[]) #[x1, x2, t6] (fun t7 =>
   cnd t7 (
    pv (faV 0 t4) fun t8 =>
    ld false 1 t8 fun t9 =>
    pv (faV 1 t4) fun t10 =>
    ld true 4 t10 fun t11 =>
    callv Tryz.prog (.func (.func 65) #[] #[]) #[t9] (fun t12 h13 => (ldV h13 true 4 t10 t11) ∧ (
     pv (bdC #[(.slice none 0 0), (.int .i64 0), (.int .i64 0), (.int .i64 0), (.int .i64 0)] [(0, 1), (1, 4)] #[(0, t12), (1, t11)]) fun t14 =>
     nws 110 1 (bsC #[(.slice none 0 0), (.int .i64 0), (.int .i64 0), (.int .i64 0), (.int .i64 0)] 5 1 #[(0, t14)]) fun t15 =>
     appX 110 5 56 v7 t15 fun t16 =>
     d106 [1, 1, 0, 1, 0, 0, 1, 1, 1] (thenD k1 (blk 0 (thenD (d106 [1, 1, 1] (q106 K E)) (q106 K E)))) #[x0, x1, x2, x3, x4, x5, x6, t16, x8, t4, x10, x11, v12, t1, t2, t3, x1, x2, t5, t6, t7, v7, t8, t9, t12, t10, t11, t14, t15, t16, (j 30), x31]) h13) E) (
    d106 [1, 1, 0, 1, 0, 0, 1, 1, 1] (thenD k1 (blk 0 (thenD (d106 [1, 1, 1] (q106 K E)) (q106 K E)))) #[x0, x1, x2, x3, x4, x5, x6, v7, x8, t4, x10, x11, v12, t1, t2, t3, x1, x2, t5, t6, t7, (j 21), (j 22), (j 23), (j 24), (j 25), (j 26), (j 27), (j 28), (j 29), (j 30), x31])) E) (
   K v7) := by kernel_rfl
theorem t106_1_1_0_1_0_0_1_1_1 : d106 [1, 1, 0, 1, 0, 0, 1, 1, 1] (thenD k1 (blk 0 (thenD (d106 [1, 1, 1] (q106 K E)) (q106 K E)))) #[x0, x1, x2, x3, x4, x5, x6, x7, x8, x9, x10, x11, x12, x13, x14, x15, x16, x17, x18, x19, x20, x21, x22, x23, x24, x25, x26, x27, x28, x29, x30, x31] =
  pv (binV .none .add x12 (.int .i64 1)) fun t1 =>
  k1 (m106_1_1_0_1_0_0 x0 x1 x2 x3 x4 x5 x6 x8 x10 x11 x31 x7 t1 (jf #[U, U, U, U, U, U, U, U, U, x9, U, U, U, x13, x14, x15, x16, x17, x18, x19, x20, x21, x22, x23, x24, x25, x26, x27, x28, x29, t1])) := by kernel_rfl
abbrev q135 : QD := bodyQ Tryz.prog Tryz.f135.results.toList K E
abbrev d135 (p : List Nat) : QD → Env → Hp → Prop := den Tryz.prog (sel (bodyOf Tryz.f135) p)
theorem t135 : d135 [] (q135 K E) #[x0, x1, x2, U, U, U, U, U, U, U, U, U, U, U, U, U, U, U, U] =
  nw 26 (Value.cells x0).toList fun t1 =>
  nw 37 (Value.cells x1).toList fun t2 =>
  nw 37 (Value.cells x2).toList fun t3 =>
  ld false 1 t2 fun t4 =>
  pv (lenV t4) fun t5 =>
  ld false 1 t1 fun t6 =>
  pv (lenV t6) fun t7 =>
  pv (binV .none .eql t5 t7) fun t8 =>
  gdK t8 true (fun k => k (.func (.func 161) #[] #[t2, t3, t1])) fun t9 =>
  gdK t8 true (fun k => ld false 1 t2 k) fun t10 =>
  gdK t8 true (fun k => ld false 1 t3 k) fun t11 =>
  gdK t8 true (fun k => nws 37 2 (bsC #[(.slice none 0 0)] 1 2 #[(0, t10), (1, t11)]) k) fun t12 =>
  gdK t8 true (fun k => callv Tryz.prog (.func (.func 160) #[] #[]) #[t9, t12] k E) fun t13 =>
  pv (pickV t8 t13 (.bool false)) fun t14 =>
  K t14 := by kernel_rfl
abbrev q161 : QD := bodyQ Tryz.prog Tryz.f161.results.toList K E
abbrev d161 (p : List Nat) : QD → Env → Hp → Prop := den Tryz.prog (sel (bodyOf Tryz.f161) p)
theorem t161 : d161 [] (q161 K E) #[x0, x1, x2, x3, U, U, U, U, U, U, U, U, U, U, U, U, U, U, U, U, U, U, U, U, U, U, U, U, U, U, U, U, U, U] =
  ld false 1 x1 fun t1 =>
  pv (iaV none 1 t1 x0) fun t2 =>
  ld false 1 t2 fun t3 =>
  pv (binV .none .geq t3 (.int .i64 0)) fun t4 =>
  gdK t4 true (fun k => ld false 1 x1 k) fun t5 =>
  gdK t4 true (fun k => k x0) fun t6 =>
  gdK t4 true (fun k => pv (iaV none 1 t5 t6) k) fun t7 =>
  gdK t4 true (fun k => ld false 1 t7 k) fun t8 =>
  gdK t4 true (fun k => ld false 1 x2 k) fun t9 =>
  gdK t4 true (fun k => k x0) fun t10 =>
  gdK t4 true (fun k => pv (iaV none 1 t9 t10) k) fun t11 =>
  gdK t4 true (fun k => ld false 1 t11 k) fun t12 =>
  gdK t4 true (fun k => pv (binV .none .leq t8 t12) k) fun t13 =>
  pv (pickV t4 t13 (.bool false)) fun t14 =>
  gdK t14 true (fun k => ld false 1 x2 k) fun t15 =>
  gdK t14 true (fun k => k x0) fun t16 =>
  gdK t14 true (fun k => pv (iaV none 1 t15 t16) k) fun t17 =>
  gdK t14 true (fun k => ld false 1 t17 k) fun t18 =>
  gdK t14 true (fun k => ld false 1 x3 k) fun t19 =>
  gdK t14 true (fun k => k x0) fun t20 =>
  gdK t14 true (fun k => pv (iaV none 2 t19 t20) k) fun t21 =>
  gdK t14 true (fun k => pv (faV 0 t21) k) fun t22 =>
  gdK t14 true (fun k => ld false 1 t22 k) fun t23 =>
  gdK t14 true (fun k => pv (binV .none .leq t18 t23) k) fun t24 =>
  pv (pickV t14 t24 (.bool false)) fun t25 =>
  K t25 := by kernel_rfl
abbrev q142 : QD := bodyQ Tryz.prog Tryz.f142.results.toList K E
abbrev d142 (p : List Nat) : QD → Env → Hp → Prop := den Tryz.prog (sel (bodyOf Tryz.f142) p)
theorem t142 : d142 [] (q142 K E) #[x0, x1, x2, U, U, U, U, U, U, U, U, U, U] =
  nw 37 (Value.cells x0).toList fun t1 =>
  nw 37 (Value.cells x1).toList fun t2 =>
  nw 37 (Value.cells x2).toList fun t3 =>
  ld false 1 t1 fun t4 =>
  ld false 1 t2 fun t5 =>
  ld false 1 t3 fun t6 =>
  nws 37 3 (bsC #[(.slice none 0 0)] 1 3 #[(0, t4), (1, t5), (2, t6)]) fun t7 =>
  callv Tryz.prog (.func (.func 160) #[] #[]) #[(.func (.func 167) #[] #[t3, t1, t2]), t7] (fun t8 =>
  K t8) E := by kernel_rfl
abbrev q167 : QD := bodyQ Tryz.prog Tryz.f167.results.toList K E
abbrev d167 (p : List Nat) : QD → Env → Hp → Prop := den Tryz.prog (sel (bodyOf Tryz.f167) p)
theorem t167 : d167 [] (q167 K E) #[x0, x1, x2, x3, U, U, U, U, U, U, U, U, U, U, U, U, U, U, U, U, U, U, U, U, U, U] =
  ld false 1 x1 fun t1 =>
  pv (iaV none 1 t1 x0) fun t2 =>
  ld false 1 t2 fun t3 =>
  ld false 1 x2 fun t4 =>
  pv (iaV none 1 t4 x0) fun t5 =>
  ld false 1 t5 fun t6 =>
  pv (binV .none .geq t3 t6) fun t7 =>
  gdK t7 true (fun k => ld false 1 x1 k) fun t8 =>
  gdK t7 true (fun k => k x0) fun t9 =>
  gdK t7 true (fun k => pv (iaV none 1 t8 t9) k) fun t10 =>
  gdK t7 true (fun k => ld false 1 t10 k) fun t11 =>
  gdK t7 true (fun k => ld false 1 x3 k) fun t12 =>
  gdK t7 true (fun k => k x0) fun t13 =>
  gdK t7 true (fun k => pv (iaV none 1 t12 t13) k) fun t14 =>
  gdK t7 true (fun k => ld false 1 t14 k) fun t15 =>
  gdK t7 true (fun k => pv (binV .none .lss t11 t15) k) fun t16 =>
  pv (pickV t7 t16 (.bool false)) fun t17 =>
  K t17 := by kernel_rfl
abbrev q160 : QD := bodyQ Tryz.prog Tryz.f160.results.toList K E
abbrev d160 (p : List Nat) : QD → Env → Hp → Prop := den Tryz.prog (sel (bodyOf Tryz.f160) p)
def m160_1_0_1_0_0 (j : Nat → Value) : Env := #[x0, x1, x2, x3, (j 4), x5, (j 6), x7, x8, x9, v10, (j 11), (j 12), (j 13), (j 14), (j 15), (j 16), (j 17), (j 18), (j 19), (j 20), (j 21), x22, x23, x24, x25, x26, x27, x28, x29, x30, x31, x32, x33]
def m160_1_1_0_1_0_0 (j : Nat → Value) : Env := #[x0, x1, x2, x3, (j 4), x5, x6, (j 7), x8, x9, x10, x11, x12, x13, x14, x15, x16, x17, x18, x19, x20, x21, x22, x23, x24, x25, v26, (j 27), (j 28), (j 29), (j 30), (j 31), (j 32), (j 33)]
theorem t160 : d160 [] (q160 K E) #[x0, x1, U, U, U, U, U, U, U, U, U, U, U, U, U, U, U, U, U, U, U, U, U, U, U, U, U, U, U, U, U, U, U, U] =
  pv (lenV x1) fun t1 =>
  lp (fun k1 => d160 [1, 0, 1, 0, 0] (thenD k1 (blk 0 (thenD (d160 [1, 1] (q160 K E)) (q160 K E))))) (m160_1_0_1_0_0 x0 x1 U U U U x1 t1 U U U U U U U U U U U U (.int .i64 0) (jf #[U, U, U, U, (.bool false)])) := by kernel_rfl
theorem t160_1_0_1_0_0 : d160 [1, 0, 1, 0, 0] (thenD k1 (blk 0 (thenD (d160 [1, 1] (q160 K E)) (q160 K E)))) (m160_1_0_1_0_0 x0 x1 x2 x3 x5 x7 x8 x9 x22 x23 x24 x25 x26 x27 x28 x29 x30 x31 x32 x33 v10 j) =
  pv (binV .none .lss v10 x9) fun t1 =>
  cnd t1 (
   pv (iaV none 1 x8 v10) fun t2 =>
   ld false 1 t2 fun t3 =>
   pv (lenV t3) fun t4 =>
   pv (iaV none 1 x1 (.int .i64 0)) fun t5 =>
   ld false 1 t5 fun t6 =>
   pv (lenV t6) fun t7 =>
   pv (binV .none .neq t4 t7) fun t8 =>
   cnd t8 (
    K (.bool false)) (
    pv (binV .none .add v10 (.int .i64 1)) fun t9 =>
    k1 (m160_1_0_1_0_0 x0 x1 x2 x3 x5 x7 x8 x9 x22 x23 x24 x25 x26 x27 x28 x29 x30 x31 x32 x33 t9 (jf #[U, U, U, U, (j 4), U, t3, U, U, U, U, t1, t2, t3, t3, t4, x1, t5, t6, t7, t8, t9])))) (
   pv (iaV none 1 x1 (.int .i64 0)) fun t10 =>
   ld false 1 t10 fun t11 =>
   pv (lenV t11) fun t12 =>
   lp (fun k1 => d160 [1, 1, 0, 1, 0, 0] (thenD k1 (blk 2 (thenD (d160 [1, 1, 1] (q160 K E)) (q160 K E))))) (m160_1_1_0_1_0_0 x0 x1 x2 x3 x5 (j 6) x8 x9 v10 t1 (j 12) (j 13) (j 14) (j 15) (j 16) (j 17) (j 18) (j 19) (j 20) (j 21) x1 t10 t11 t12 (.int .i64 0) (jf #[U, U, U, U, (j 4), U, U, x7, U, U, U, U, U, U, U, U, U, U, U, U, U, U, U, U, U, U, U, x27, x28, x29, x30, x31, x32, x33]))) := by kernel_rfl
theorem t160_1_1_0_1_0_0 : d160 [1, 1, 0, 1, 0, 0] (thenD k1 (blk 2 (thenD (d160 [1, 1, 1] (q160 K E)) (q160 K E)))) (m160_1_1_0_1_0_0 x0 x1 x2 x3 x5 x6 x8 x9 x10 x11 x12 x13 x14 x15 x16 x17 x18 x19 x20 x21 x22 x23 x24 x25 v26 j) =
  pv (binV .none .lss v26 x25) fun t1 =>
  cnd t1 (
   callv Tryz.prog x0 #[v26] (fun t2 =>
   pv (unV .not t2) fun t3 =>
   cnd t3 (
    K (.bool false)) (
    pv (binV .none .add v26 (.int .i64 1)) fun t4 =>
    k1 (m160_1_1_0_1_0_0 x0 x1 x2 x3 x5 x6 x8 x9 x10 x11 x12 x13 x14 x15 x16 x17 x18 x19 x20 x21 x22 x23 x24 x25 t4 (jf #[U, U, U, U, (j 4), U, U, v26, U, U, U, U, U, U, U, U, U, U, U, U, U, U, U, U, U, U, U, t1, v26, x0, v26, t2, t3, t4])))) E) (
   K (.bool true)) := by kernel_rfl
abbrev q141 : QD := bodyQ Tryz.prog Tryz.f141.results.toList K E
abbrev d141 (p : List Nat) : QD → Env → Hp → Prop := den Tryz.prog (sel (bodyOf Tryz.f141) p)
def m141_1_1_1_0_1_0_0 (j : Nat → Value) : Env := #[x0, x1, x2, x3, x4, x5, x6, x7, x8, x9, (j 10), (j 11), x12, x13, x14, x15, x16, x17, x18, x19, x20, x21, x22, x23, x24, x25, x26, x27, x28, x29, x30, x31, x32, x33, x34, x35, x36, x37, x38, x39, x40, v41, (j 42), (j 43), (j 44), (j 45), (j 46), (j 47), (j 48), (j 49), (j 50), (j 51), (j 52), (j 53), (j 54), (j 55), (j 56), (j 57), (j 58), (j 59), (j 60), (j 61), (j 62), (j 63), x64]
theorem t141 : d141 [] (q141 K E) #[x0, x1, x2, x3, U, U, U, U, U, U, U, U, U, U, U, U, U, U, U, U, U, U, U, U, U, U, U, U, U, U, U, U, U, U, U, U, U, U, U, U, U, U, U, U, U, U, U, U, U, U, U, U, U, U, U, U, U, U, U, U, U, U, U, U, U] =
  callv Tryz.prog (.func (.func 64) #[] #[]) #[x0] (fun t1 =>
  pv (unV .not t1) fun t2 =>
  gdK t2 false (fun k => k x1) fun t3 =>
  gdK t2 false (fun k => pv (lenV t3) k) fun t4 =>
  gdK t2 false (fun k => k x0) fun t5 =>
  gdK t2 false (fun k => pv (lenV t5) k) fun t6 =>
  gdK t2 false (fun k => pv (binV .none .neq t4 t6) k) fun t7 =>
  pv (pickV t2 (.bool true) t7) fun t8 =>
  gdK t8 false (fun k => k x2) fun t9 =>
  gdK t8 false (fun k => pv (lenV t9) k) fun t10 =>
  gdK t8 false (fun k => k x0) fun t11 =>
  gdK t8 false (fun k => pv (lenV t11) k) fun t12 =>
  gdK t8 false (fun k => pv (binV .none .neq t10 t12) k) fun t13 =>
  pv (pickV t8 (.bool true) t13) fun t14 =>
  gdK t14 false (fun k => k x3) fun t15 =>
  gdK t14 false (fun k => pv (lenV t15) k) fun t16 =>
  gdK t14 false (fun k => k x0) fun t17 =>
  gdK t14 false (fun k => pv (lenV t17) k) fun t18 =>
  gdK t14 false (fun k => pv (binV .none .neq t16 t18) k) fun t19 =>
  pv (pickV t14 (.bool true) t19) fun t20 =>
  cnd t20 (
   K (.slice none 0 0)) (
   pv (lenV x0) fun t21 =>
   mks 3 [(.int .i64 0)] 1 8 t21 t21 fun t22 =>
   pv (lenV x0) fun t23 =>
   lp (fun k1 => d141 [1, 1, 1, 0, 1, 0, 0] (thenD k1 (blk 0 (thenD (d141 [1, 1, 1, 1] (q141 K E)) (q141 K E))))) (m141_1_1_1_0_1_0_0 x0 x1 x2 x3 U U U U (.slice none 0 0) t22 x0 t1 t2 t2 t3 t4 t5 t6 t7 t8 t8 t9 t10 t11 t12 t13 t14 t14 t15 t16 t17 t18 t19 t20 x0 t21 t22 x0 t23 U (.int .i64 0) (jf #[])))) E := by kernel_rfl
theorem t141_1_1_1_0_1_0_0 : d141 [1, 1, 1, 0, 1, 0, 0] (thenD k1 (blk 0 (thenD (d141 [1, 1, 1, 1] (q141 K E)) (q141 K E)))) (m141_1_1_1_0_1_0_0 x0 x1 x2 x3 x4 x5 x6 x7 x8 x9 x12 x13 x14 x15 x16 x17 x18 x19 x20 x21 x22 x23 x24 x25 x26 x27 x28 x29 x30 x31 x32 x33 x34 x35 x36 x37 x38 x39 x40 x64 v41 j) =
  pv (binV .none .lss v41 x40) fun t1 =>
  cnd t1 (
   pv (iaV none 2 x39 v41) fun t2 =>
   ld true 2 t2 fun t3 =>
   nw 88 [(.int .i64 0), (.slice none 0 0)] fun t4 =>
   st 2 t4 t3 fun _ =>
   ld true 2 t4 fun t5 =>
   pv (iaV none 1 x1 v41) fun t6 =>
   ld false 1 t6 fun t7 =>
   pv (iaV none 1 x2 v41) fun t8 =>
   ld false 1 t8 fun t9 =>
   pv (iaV none 1 x3 v41) fun t10 =>
   ld false 1 t10 fun t11 =>
   callv Tryz.prog (.func (.func 166) #[] #[]) #[t5, t7, t9, t11] (fun t12 =>
   pv (iaV none 1 x9 v41) fun t13 =>
   st 1 t13 t12 fun _ =>
   pv (binV .none .add v41 (.int .i64 1)) fun t14 =>
   k1 (m141_1_1_1_0_1_0_0 x0 x1 x2 x3 x4 x5 x6 x7 x8 x9 x12 x13 x14 x15 x16 x17 x18 x19 x20 x21 x22 x23 x24 x25 x26 x27 x28 x29 x30 x31 x32 x33 x34 x35 x36 x37 x38 x39 x40 x64 t14 (jf #[U, U, U, U, U, U, U, U, U, U, v41, t4, U, U, U, U, U, U, U, U, U, U, U, U, U, U, U, U, U, U, U, U, U, U, U, U, U, U, U, U, U, U, t1, v41, t2, t3, x9, v41, t5, x1, v41, t6, t7, x2, v41, t8, t9, x3, v41, t10, t11, t12, t13, t14]))) E) (
   K x9) := by kernel_rfl
abbrev q165 : QD := bodyQ Tryz.prog Tryz.f165.results.toList K E
abbrev d165 (p : List Nat) : QD → Env → Hp → Prop := den Tryz.prog (sel (bodyOf Tryz.f165) p)
theorem t165 : d165 [] (q165 K E) #[x0, x1, U, U, U, U, U, U] =
  callv Tryz.prog (.func (.func 182) #[] #[]) #[x0, x1] (fun t1 =>
  K t1) E := by kernel_rfl
end
section
variable {K : Kont} {E : PanK} {k1 k2 k3 k4 k5 : Env → Hp → Prop} {σ : Type} {x0 x1 x2 x3 x4 x5 x6 x7 x8 x9 x10 x11 x12 x13 x14 x15 x16 x17 x18 x19 x20 x21 x22 x23 x24 x25 x26 x27 x28 x29 x30 x31 x32 x33 x34 x35 x36 x37 x38 x39 x40 x41 x42 x43 x44 x45 x46 x47 x48 x49 x50 x51 x52 x53 x54 x55 x56 x57 x58 x59 x60 x61 x62 x63 x64 v0 v1 v2 v3 v4 v5 v6 v7 v8 v9 v10 v11 v12 v13 v14 v15 v16 v17 v18 v19 v20 v21 v22 v23 v24 v25 v26 v27 v28 v29 v30 v31 v32 v33 v34 v35 v36 v37 v38 v39 v40 v41 v42 v43 v44 v45 v46 v47 v48 v49 v50 v51 v52 v53 v54 v55 v56 v57 v58 v59 v60 v61 v62 v63 v64 : Value} {h : Hp} {j : Nat → Value}
theorem l94_1_1_0_1_0_0 (f7 f12 : σ → Value) (I : σ → Hp → Prop) (μ : σ → Nat) (s0 : σ) (e7 : v7 = f7 s0) (e12 : v12 = f12 s0) (h0 : h.wf → ∃ h', h.wk h' ∧ I s0 h')
 (round : ∀ (k1 : Env → Hp → Prop) (s : σ) (j : Nat → Value) (h : Hp), I s h → h.wf → (∀ s' j' h', μ s' < μ s → (h'.wf → ∃ h'', h'.wk h'' ∧ I s' h'') → k1 (m94_1_1_0_1_0_0 x0 x1 x2 x3 x4 x5 x8 x10 x11 (f7 s') (f12 s') j') h') → d94 [1, 1, 0, 1, 0, 0] (thenD k1 (blk 0 (thenD (d94 [1, 1, 1] (q94 K E)) (q94 K E)))) (m94_1_1_0_1_0_0 x0 x1 x2 x3 x4 x5 x8 x10 x11 (f7 s) (f12 s) j) h) :
 lp (fun k1 => d94 [1, 1, 0, 1, 0, 0] (thenD k1 (blk 0 (thenD (d94 [1, 1, 1] (q94 K E)) (q94 K E))))) (m94_1_1_0_1_0_0 x0 x1 x2 x3 x4 x5 x8 x10 x11 v7 v12 j) h := by
 subst e7
 subst e12
 exact loop_r (fun s j => m94_1_1_0_1_0_0 x0 x1 x2 x3 x4 x5 x8 x10 x11 (f7 s) (f12 s) j) I μ round s0 j h0
theorem l30_1_1_1_0_1_0_0 (f13 : σ → Value) (I : σ → Hp → Prop) (μ : σ → Nat) (s0 : σ) (e13 : v13 = f13 s0) (h0 : h.wf → ∃ h', h.wk h' ∧ I s0 h')
 (round : ∀ (k1 : Env → Hp → Prop) (s : σ) (j : Nat → Value) (h : Hp), I s h → h.wf → (∀ s' j' h', μ s' < μ s → (h'.wf → ∃ h'', h'.wk h'' ∧ I s' h'') → k1 (m30_1_1_1_0_1_0_0 x0 x1 x2 x3 x4 x6 x7 x8 x9 x10 x11 x12 x33 (f13 s') j') h') → d30 [1, 1, 1, 0, 1, 0, 0] (thenD k1 (blk 0 (thenD (d30 [1, 1, 1, 1] (q30 K E)) (q30 K E)))) (m30_1_1_1_0_1_0_0 x0 x1 x2 x3 x4 x6 x7 x8 x9 x10 x11 x12 x33 (f13 s) j) h) :
 lp (fun k1 => d30 [1, 1, 1, 0, 1, 0, 0] (thenD k1 (blk 0 (thenD (d30 [1, 1, 1, 1] (q30 K E)) (q30 K E))))) (m30_1_1_1_0_1_0_0 x0 x1 x2 x3 x4 x6 x7 x8 x9 x10 x11 x12 x33 v13 j) h := by
 subst e13
 exact loop_r (fun s j => m30_1_1_1_0_1_0_0 x0 x1 x2 x3 x4 x6 x7 x8 x9 x10 x11 x12 x33 (f13 s) j) I μ round s0 j h0
theorem l76_1_1_0_1_0_0 (f3 f8 : σ → Value) (I : σ → Hp → Prop) (μ : σ → Nat) (s0 : σ) (e3 : v3 = f3 s0) (e8 : v8 = f8 s0) (h0 : h.wf → ∃ h', h.wk h' ∧ I s0 h')
 (round : ∀ (k1 : Env → Hp → Prop) (s : σ) (j : Nat → Value) (h : Hp), I s h → h.wf → (∀ s' j' h', μ s' < μ s → (h'.wf → ∃ h'', h'.wk h'' ∧ I s' h'') → k1 (m76_1_1_0_1_0_0 x0 x1 x2 x4 x6 x7 x22 (f3 s') (f8 s') j') h') → d76 [1, 1, 0, 1, 0, 0] (thenD k1 (blk 0 (thenD (d76 [1, 1, 1] (q76 K E)) (q76 K E)))) (m76_1_1_0_1_0_0 x0 x1 x2 x4 x6 x7 x22 (f3 s) (f8 s) j) h) :
 lp (fun k1 => d76 [1, 1, 0, 1, 0, 0] (thenD k1 (blk 0 (thenD (d76 [1, 1, 1] (q76 K E)) (q76 K E))))) (m76_1_1_0_1_0_0 x0 x1 x2 x4 x6 x7 x22 v3 v8 j) h := by
 subst e3
 subst e8
 exact loop_r (fun s j => m76_1_1_0_1_0_0 x0 x1 x2 x4 x6 x7 x22 (f3 s) (f8 s) j) I μ round s0 j h0
theorem l106_1_1_0_1_0_0 (f7 f12 : σ → Value) (I : σ → Hp → Prop) (μ : σ → Nat) (s0 : σ) (e7 : v7 = f7 s0) (e12 : v12 = f12 s0) (h0 : h.wf → ∃ h', h.wk h' ∧ I s0 h')
 (round : ∀ (k1 : Env → Hp → Prop) (s : σ) (j : Nat → Value) (h : Hp), I s h → h.wf → (∀ s' j' h', μ s' < μ s → (h'.wf → ∃ h'', h'.wk h'' ∧ I s' h'') → k1 (m106_1_1_0_1_0_0 x0 x1 x2 x3 x4 x5 x6 x8 x10 x11 x31 (f7 s') (f12 s') j') h') → d106 [1, 1, 0, 1, 0, 0] (thenD k1 (blk 0 (thenD (d106 [1, 1, 1] (q106 K E)) (q106 K E)))) (m106_1_1_0_1_0_0 x0 x1 x2 x3 x4 x5 x6 x8 x10 x11 x31 (f7 s) (f12 s) j) h) :
 lp (fun k1 => d106 [1, 1, 0, 1, 0, 0] (thenD k1 (blk 0 (thenD (d106 [1, 1, 1] (q106 K E)) (q106 K E))))) (m106_1_1_0_1_0_0 x0 x1 x2 x3 x4 x5 x6 x8 x10 x11 x31 v7 v12 j) h := by
 subst e7
 subst e12
 exact loop_r (fun s j => m106_1_1_0_1_0_0 x0 x1 x2 x3 x4 x5 x6 x8 x10 x11 x31 (f7 s) (f12 s) j) I μ round s0 j h0
theorem l160_1_0_1_0_0 (f10 : σ → Value) (I : σ → Hp → Prop) (μ : σ → Nat) (s0 : σ) (e10 : v10 = f10 s0) (h0 : h.wf → ∃ h', h.wk h' ∧ I s0 h')
 (round : ∀ (k1 : Env → Hp → Prop) (s : σ) (j : Nat → Value) (h : Hp), I s h → h.wf → (∀ s' j' h', μ s' < μ s → (h'.wf → ∃ h'', h'.wk h'' ∧ I s' h'') → k1 (m160_1_0_1_0_0 x0 x1 x2 x3 x5 x7 x8 x9 x22 x23 x24 x25 x26 x27 x28 x29 x30 x31 x32 x33 (f10 s') j') h') → d160 [1, 0, 1, 0, 0] (thenD k1 (blk 0 (thenD (d160 [1, 1] (q160 K E)) (q160 K E)))) (m160_1_0_1_0_0 x0 x1 x2 x3 x5 x7 x8 x9 x22 x23 x24 x25 x26 x27 x28 x29 x30 x31 x32 x33 (f10 s) j) h) :
 lp (fun k1 => d160 [1, 0, 1, 0, 0] (thenD k1 (blk 0 (thenD (d160 [1, 1] (q160 K E)) (q160 K E))))) (m160_1_0_1_0_0 x0 x1 x2 x3 x5 x7 x8 x9 x22 x23 x24 x25 x26 x27 x28 x29 x30 x31 x32 x33 v10 j) h := by
 subst e10
 exact loop_r (fun s j => m160_1_0_1_0_0 x0 x1 x2 x3 x5 x7 x8 x9 x22 x23 x24 x25 x26 x27 x28 x29 x30 x31 x32 x33 (f10 s) j) I μ round s0 j h0
theorem l160_1_1_0_1_0_0 (f26 : σ → Value) (I : σ → Hp → Prop) (μ : σ → Nat) (s0 : σ) (e26 : v26 = f26 s0) (h0 : h.wf → ∃ h', h.wk h' ∧ I s0 h')
 (round : ∀ (k1 : Env → Hp → Prop) (s : σ) (j : Nat → Value) (h : Hp), I s h → h.wf → (∀ s' j' h', μ s' < μ s → (h'.wf → ∃ h'', h'.wk h'' ∧ I s' h'') → k1 (m160_1_1_0_1_0_0 x0 x1 x2 x3 x5 x6 x8 x9 x10 x11 x12 x13 x14 x15 x16 x17 x18 x19 x20 x21 x22 x23 x24 x25 (f26 s') j') h') → d160 [1, 1, 0, 1, 0, 0] (thenD k1 (blk 2 (thenD (d160 [1, 1, 1] (q160 K E)) (q160 K E)))) (m160_1_1_0_1_0_0 x0 x1 x2 x3 x5 x6 x8 x9 x10 x11 x12 x13 x14 x15 x16 x17 x18 x19 x20 x21 x22 x23 x24 x25 (f26 s) j) h) :
 lp (fun k1 => d160 [1, 1, 0, 1, 0, 0] (thenD k1 (blk 2 (thenD (d160 [1, 1, 1] (q160 K E)) (q160 K E))))) (m160_1_1_0_1_0_0 x0 x1 x2 x3 x5 x6 x8 x9 x10 x11 x12 x13 x14 x15 x16 x17 x18 x19 x20 x21 x22 x23 x24 x25 v26 j) h := by
 subst e26
 exact loop_r (fun s j => m160_1_1_0_1_0_0 x0 x1 x2 x3 x5 x6 x8 x9 x10 x11 x12 x13 x14 x15 x16 x17 x18 x19 x20 x21 x22 x23 x24 x25 (f26 s) j) I μ round s0 j h0
theorem l141_1_1_1_0_1_0_0 (f41 : σ → Value) (I : σ → Hp → Prop) (μ : σ → Nat) (s0 : σ) (e41 : v41 = f41 s0) (h0 : h.wf → ∃ h', h.wk h' ∧ I s0 h')
 (round : ∀ (k1 : Env → Hp → Prop) (s : σ) (j : Nat → Value) (h : Hp), I s h → h.wf → (∀ s' j' h', μ s' < μ s → (h'.wf → ∃ h'', h'.wk h'' ∧ I s' h'') → k1 (m141_1_1_1_0_1_0_0 x0 x1 x2 x3 x4 x5 x6 x7 x8 x9 x12 x13 x14 x15 x16 x17 x18 x19 x20 x21 x22 x23 x24 x25 x26 x27 x28 x29 x30 x31 x32 x33 x34 x35 x36 x37 x38 x39 x40 x64 (f41 s') j') h') → d141 [1, 1, 1, 0, 1, 0, 0] (thenD k1 (blk 0 (thenD (d141 [1, 1, 1, 1] (q141 K E)) (q141 K E)))) (m141_1_1_1_0_1_0_0 x0 x1 x2 x3 x4 x5 x6 x7 x8 x9 x12 x13 x14 x15 x16 x17 x18 x19 x20 x21 x22 x23 x24 x25 x26 x27 x28 x29 x30 x31 x32 x33 x34 x35 x36 x37 x38 x39 x40 x64 (f41 s) j) h) :
 lp (fun k1 => d141 [1, 1, 1, 0, 1, 0, 0] (thenD k1 (blk 0 (thenD (d141 [1, 1, 1, 1] (q141 K E)) (q141 K E))))) (m141_1_1_1_0_1_0_0 x0 x1 x2 x3 x4 x5 x6 x7 x8 x9 x12 x13 x14 x15 x16 x17 x18 x19 x20 x21 x22 x23 x24 x25 x26 x27 x28 x29 x30 x31 x32 x33 x34 x35 x36 x37 x38 x39 x40 x64 v41 j) h := by
 subst e41
 exact loop_r (fun s j => m141_1_1_1_0_1_0_0 x0 x1 x2 x3 x4 x5 x6 x7 x8 x9 x12 x13 x14 x15 x16 x17 x18 x19 x20 x21 x22 x23 x24 x25 x26 x27 x28 x29 x30 x31 x32 x33 x34 x35 x36 x37 x38 x39 x40 x64 (f41 s) j) I μ round s0 j h0
end
end Go.Proofs.YtgcmbkoejjcjlaaGreatDoor.T
open Go Go.RowKit Go.Proofs.YtgcmbkoejjcjlaaGreatDoor.K
set_option linter.unusedVariables false
set_option maxRecDepth 100000
namespace Go.Proofs.YtgcmbkoejjcjlaaGreatDoor.T
section
variable (K : Kont) (E : PanK) (k1 k2 k3 k4 k5 : Env → Hp → Prop) (x0 x1 x2 x3 x4 x5 x6 x7 x8 x9 x10 x11 x12 x13 x14 x15 x16 x17 x18 x19 x20 x21 x22 x23 x24 x25 x26 x27 x28 x29 x30 x31 x32 x33 x34 x35 x36 x37 x38 x39 x40 x41 x42 x43 x44 x45 x46 x47 x48 x49 x50 x51 x52 x53 x54 x55 x56 x57 x58 x59 x60 x61 x62 x63 x64 x65 x66 x67 x68 x69 x70 x71 x72 x73 x74 x75 x76 x77 x78 x79 x80 x81 x82 x83 x84 x85 x86 x87 x88 x89 x90 x91 x92 x93 x94 x95 x96 x97 x98 x99 x100 x101 v0 v1 v2 v3 v4 v5 v6 v7 v8 v9 v10 v11 v12 v13 v14 v15 v16 v17 v18 v19 v20 v21 v22 v23 v24 v25 v26 v27 v28 v29 v30 v31 v32 v33 v34 v35 v36 v37 v38 v39 v40 v41 v42 v43 v44 v45 v46 v47 v48 v49 v50 v51 v52 v53 v54 v55 v56 v57 v58 v59 v60 v61 v62 v63 v64 v65 v66 v67 v68 v69 v70 v71 v72 v73 v74 v75 v76 v77 v78 v79 v80 v81 v82 v83 v84 v85 v86 v87 v88 v89 v90 v91 v92 v93 v94 v95 v96 v97 v98 v99 v100 v101 : Value) (j : Nat → Value)
abbrev q55 : QD := bodyQ Tryz.prog Tryz.f55.results.toList K E
abbrev d55 (p : List Nat) : QD → Env → Hp → Prop := den Tryz.prog (sel (bodyOf Tryz.f55) p)
theorem t55 : d55 [] (q55 K E) #[x0, x1, U, U, U, U, U, U] =
  callv Tryz.prog (.func (.func 86) #[] #[]) #[x0, x1, (.func (.func 87) #[] #[])] (fun t1 =>
  K t1) E := by kernel_rfl
abbrev q87 : QD := bodyQ Tryz.prog Tryz.f87.results.toList K E
abbrev d87 (p : List Nat) : QD → Env → Hp → Prop := den Tryz.prog (sel (bodyOf Tryz.f87) p)
theorem t87 : d87 [] (q87 K E) #[x0, x1, U, U, U, U, U, U, U, U, U, U, U] =
  nw 88 (Value.cells x0).toList fun t1 =>
  pv (binV .none .geq x1 (.int .i64 0)) fun t2 =>
  gdK t2 true (fun k => k x1) fun t3 =>
  gdK t2 true (fun k => pv (faV 0 t1) k) fun t4 =>
  gdK t2 true (fun k => ld false 1 t4 k) fun t5 =>
  gdK t2 true (fun k => pv (binV .none .lss t3 t5) k) fun t6 =>
  pv (pickV t2 t6 (.bool false)) fun t7 =>
  K t7 := by kernel_rfl
abbrev q134 : QD := bodyQ Tryz.prog Tryz.f134.results.toList K E
abbrev d134 (p : List Nat) : QD → Env → Hp → Prop := den Tryz.prog (sel (bodyOf Tryz.f134) p)
theorem t134 : d134 [] (q134 K E) #[x0, U, U, U, U, U, U] =
  nw 88 (Value.cells x0).toList fun t1 =>
  pv (faV 1 t1) fun t2 =>
  ld false 1 t2 fun t3 =>
  pv (lenV t3) fun t4 =>
  pv (binV .none .add t4 (.int .i64 2)) fun t5 =>
  K t5 := by kernel_rfl
abbrev q64 : QD := bodyQ Tryz.prog Tryz.f64.results.toList K E
abbrev d64 (p : List Nat) : QD → Env → Hp → Prop := den Tryz.prog (sel (bodyOf Tryz.f64) p)
theorem t64 : d64 [] (q64 K E) #[x0, U, U, U, U, U, U, U, U, U, U, U, U, U, U, U] =
  pv (lenV x0) fun t1 =>
  pv (binV .none .gtr t1 (.int .i64 0)) fun t2 =>
  gdK t2 true (fun k => k x0) fun t3 =>
  gdK t2 true (fun k => pv (lenV t3) k) fun t4 =>
  gdK t2 true (fun k => pv (binV .none .leq t4 (.int .i64 4)) k) fun t5 =>
  pv (pickV t2 t5 (.bool false)) fun t6 =>
  gdK t6 true (fun k => k x0) fun t7 =>
  gdK t6 true (fun k => callv Tryz.prog (.func (.func 90) #[] #[]) #[t7, (.func (.func 91) #[] #[])] k E) fun t8 =>
  gdK t6 true (fun k => pv (unV .not t8) k) fun t9 =>
  pv (pickV t6 t9 (.bool false)) fun t10 =>
  K t10 := by kernel_rfl
abbrev q91 : QD := bodyQ Tryz.prog Tryz.f91.results.toList K E
abbrev d91 (p : List Nat) : QD → Env → Hp → Prop := den Tryz.prog (sel (bodyOf Tryz.f91) p)
theorem t91 : d91 [] (q91 K E) #[x0, U, U, U, U, U] =
  nw 88 (Value.cells x0).toList fun t1 =>
  ld true 2 t1 fun t2 =>
  callv Tryz.prog (.func (.func 92) #[] #[]) #[t2] (fun t3 =>
  pv (unV .not t3) fun t4 =>
  K t4) E := by kernel_rfl
abbrev q166 : QD := bodyQ Tryz.prog Tryz.f166.results.toList K E
abbrev d166 (p : List Nat) : QD → Env → Hp → Prop := den Tryz.prog (sel (bodyOf Tryz.f166) p)
theorem t166 : d166 [] (q166 K E) #[x0, x1, x2, x3, U, U, U, U, U, U, U, U, U, U, U, U, U, U, U, U, U, U, U, U, U, U, U, U, U, U, U, U, U, U, U, U, U, U, U, U, U, U, U, U, U, U, U, U, U, U] =
  nw 88 (Value.cells x0).toList fun t1 =>
  ld true 2 t1 fun t2 =>
  callv Tryz.prog (.func (.func 92) #[] #[]) #[t2] (fun t3 =>
  pv (unV .not t3) fun t4 =>
  gdK t4 false (fun k => k x1) fun t5 =>
  gdK t4 false (fun k => pv (binV .none .lss t5 (.int .i64 0)) k) fun t6 =>
  pv (pickV t4 (.bool true) t6) fun t7 =>
  gdK t7 false (fun k => k x2) fun t8 =>
  gdK t7 false (fun k => k x1) fun t9 =>
  gdK t7 false (fun k => pv (binV .none .lss t8 t9) k) fun t10 =>
  pv (pickV t7 (.bool true) t10) fun t11 =>
  gdK t11 false (fun k => k x2) fun t12 =>
  gdK t11 false (fun k => ld true 2 t1 k) fun t13 =>
  gdK t11 false (fun k => callv Tryz.prog (.func (.func 134) #[] #[]) #[t13] k E) fun t14 =>
  gdK t11 false (fun k => pv (binV .none .geq t12 t14) k) fun t15 =>
  pv (pickV t11 (.bool true) t15) fun t16 =>
  gdK t16 false (fun k => k x3) fun t17 =>
  gdK t16 false (fun k => pv (binV .none .lss t17 (.int .i64 0)) k) fun t18 =>
  pv (pickV t16 (.bool true) t18) fun t19 =>
  cnd t19 (
   K (.int .i64 (-1))) (
   ld true 2 t1 fun t20 =>
   callv Tryz.prog (.func (.func 183) #[] #[]) #[t20, x2] (fun t21 =>
   pv (binV .none .eql x1 x2) fun t22 =>
   cnd t22 (
    K x3) (
    pv (binV .none .eql t21 (.int .i64 0)) fun t23 =>
    cnd t23 (
     K (.int .i64 0)) (
     ld true 2 t1 fun t24 =>
     callv Tryz.prog (.func (.func 183) #[] #[]) #[t24, x1] (fun t25 =>
     pv (binV .none .quo t21 t25) fun t26 =>
     pv (binV .none .quo x3 t26) fun t27 =>
     K t27) E))) E)) E := by kernel_rfl
abbrev q183 : QD := bodyQ Tryz.prog Tryz.f183.results.toList K E
abbrev d183 (p : List Nat) : QD → Env → Hp → Prop := den Tryz.prog (sel (bodyOf Tryz.f183) p)
theorem t183 : d183 [] (q183 K E) #[x0, x1, U, U, U, U, U, U, U, U, U, U, U, U, U, U, U, U, U, U] =
  nw 88 (Value.cells x0).toList fun t1 =>
  pv (binV .none .eql x1 (.int .i64 0)) fun t2 =>
  cnd t2 (
   K (.int .i64 1)) (
   pv (faV 1 t1) fun t3 =>
   ld false 1 t3 fun t4 =>
   pv (lenV t4) fun t5 =>
   pv (binV .none .gtr x1 t5) fun t6 =>
   cnd t6 (
    K (.int .i64 0)) (
    pv (faV 1 t1) fun t7 =>
    ld false 1 t7 fun t8 =>
    pv (binV .none .sub x1 (.int .i64 1)) fun t9 =>
    pv (iaV none 1 t8 t9) fun t10 =>
    ld false 1 t10 fun t11 =>
    K t11)) := by kernel_rfl
abbrev q182 : QD := bodyQ Tryz.prog Tryz.f182.results.toList K E
abbrev d182 (p : List Nat) : QD → Env → Hp → Prop := den Tryz.prog (sel (bodyOf Tryz.f182) p)
def m182_1_0_1_0_0 (j : Nat → Value) : Env := #[x0, x1, x2, x3, (j 4), (j 5), (j 6), x7, x8, x9, x10, x11, v12, (j 13), (j 14), (j 15), (j 16), (j 17), (j 18), (j 19), (j 20), (j 21), (j 22), (j 23), (j 24), (j 25), (j 26), (j 27), x28, x29, x30, x31, x32]
theorem t182 : d182 [] (q182 K E) #[x0, x1, U, U, U, U, U, U, U, U, U, U, U, U, U, U, U, U, U, U, U, U, U, U, U, U, U, U, U, U, U, U, U] =
  pv (lenV x0) fun t1 =>
  pv (lenV x1) fun t2 =>
  pv (mm false t1 t2) fun t3 =>
  lp (fun k1 => d182 [1, 0, 1, 0, 0] (thenD k1 (blk 0 (thenD (d182 [1, 1] (q182 K E)) (q182 K E))))) (m182_1_0_1_0_0 x0 x1 U U x0 t1 x1 t2 t3 U U U U U (.int .i64 0) (jf #[U, U, U, U, (.int .i64 0)])) := by kernel_rfl
theorem t182_1_0_1_0_0 : d182 [1, 0, 1, 0, 0] (thenD k1 (blk 0 (thenD (d182 [1, 1] (q182 K E)) (q182 K E)))) (m182_1_0_1_0_0 x0 x1 x2 x3 x7 x8 x9 x10 x11 x28 x29 x30 x31 x32 v12 j) =
  pv (binV .none .lss v12 x11) fun t1 =>
  cnd t1 (
   pv (iaV none 1 x0 v12) fun t2 =>
   ld false 1 t2 fun t3 =>
   pv (iaV none 1 x1 v12) fun t4 =>
   ld false 1 t4 fun t5 =>
   callv Tryz.prog (.func (.func 195) #[] #[]) #[t3, t5] (fun t6 =>
   pv (binV .none .neq t6 (.int .i64 0)) fun t7 =>
   cnd t7 (
    K t6) (
    pv (binV .none .add v12 (.int .i64 1)) fun t8 =>
    k1 (m182_1_0_1_0_0 x0 x1 x2 x3 x7 x8 x9 x10 x11 x28 x29 x30 x31 x32 t8 (jf #[U, U, U, U, (j 4), v12, t6, U, U, U, U, U, U, t1, v12, x0, v12, t2, t3, x1, v12, t4, t5, t6, t6, t7, (j 26), t8])))) E) (
   pv (lenV x0) fun t9 =>
   pv (lenV x1) fun t10 =>
   callv Tryz.prog (.func (.func 195) #[] #[]) #[t9, t10] (fun t11 =>
   K t11) E) := by kernel_rfl
abbrev q92 : QD := bodyQ Tryz.prog Tryz.f92.results.toList K E
abbrev d92 (p : List Nat) : QD → Env → Hp → Prop := den Tryz.prog (sel (bodyOf Tryz.f92) p)
def m92_1_1_1_0_1_0_0 (j : Nat → Value) : Env := #[x0, x1, (j 2), v3, x4, (j 5), x6, x7, x8, x9, x10, x11, x12, x13, x14, x15, x16, x17, x18, x19, x20, x21, x22, v23, (j 24), (j 25), (j 26), (j 27), (j 28), (j 29), (j 30), (j 31), (j 32), (j 33), (j 34), (j 35), (j 36), (j 37), (j 38), (j 39), (j 40), (j 41)]
theorem t92 : d92 [] (q92 K E) #[x0, U, U, U, U, U, U, U, U, U, U, U, U, U, U, U, U, U, U, U, U, U, U, U, U, U, U, U, U, U, U, U, U, U, U, U, U, U, U, U, U, U] =
  nw 88 (Value.cells x0).toList fun t1 =>
  pv (faV 0 t1) fun t2 =>
  ld false 1 t2 fun t3 =>
  pv (binV .none .lss t3 (.int .i64 1)) fun t4 =>
  gdK t4 false (fun k => pv (faV 0 t1) k) fun t5 =>
  gdK t4 false (fun k => ld false 1 t5 k) fun t6 =>
  gdK t4 false (fun k => pv (binV .none .gtr t6 (.int .i64 10000)) k) fun t7 =>
  pv (pickV t4 (.bool true) t7) fun t8 =>
  gdK t8 false (fun k => pv (faV 1 t1) k) fun t9 =>
  gdK t8 false (fun k => ld false 1 t9 k) fun t10 =>
  gdK t8 false (fun k => pv (lenV t10) k) fun t11 =>
  gdK t8 false (fun k => pv (binV .none .gtr t11 (.int .i64 4)) k) fun t12 =>
  pv (pickV t8 (.bool true) t12) fun t13 =>
  cnd t13 (
   K (.bool false)) (
   pv (faV 1 t1) fun t14 =>
   ld false 1 t14 fun t15 =>
   pv (lenV t15) fun t16 =>
   lp (fun k1 => d92 [1, 1, 1, 0, 1, 0, 0] (thenD k1 (blk 0 (thenD (d92 [1, 1, 1, 1] (q92 K E)) (q92 K E))))) (m92_1_1_1_0_1_0_0 x0 t1 U t2 t3 t4 t4 t5 t6 t7 t8 t8 t9 t10 t11 t12 t13 t14 t15 t16 (.int .i64 1) (.int .i64 0) (jf #[U, U, (.bool false)]))) := by kernel_rfl
theorem t92_1_1_1_0_1_0_0 : d92 [1, 1, 1, 0, 1, 0, 0] (thenD k1 (blk 0 (thenD (d92 [1, 1, 1, 1] (q92 K E)) (q92 K E)))) (m92_1_1_1_0_1_0_0 x0 x1 x4 x6 x7 x8 x9 x10 x11 x12 x13 x14 x15 x16 x17 x18 x19 x20 x21 x22 v3 v23 j) =
  pv (binV .none .lss v23 x22) fun t1 =>
  cnd t1 (
   pv (iaV none 1 x21 v23) fun t2 =>
   ld false 1 t2 fun t3 =>
   pv (binV .none .leq t3 v3) fun t4 =>
   gdK t4 false (fun k => k t3) fun t5 =>
   gdK t4 false (fun k => pv (binV .none .gtr t5 (.int .i64 10000)) k) fun t6 =>
   pv (pickV t4 (.bool true) t6) fun t7 =>
   gdK t7 false (fun k => k t3) fun t8 =>
   gdK t7 false (fun k => k v3) fun t9 =>
   gdK t7 false (fun k => pv (binV .none .rem t8 t9) k) fun t10 =>
   gdK t7 false (fun k => pv (binV .none .neq t10 (.int .i64 0)) k) fun t11 =>
   pv (pickV t7 (.bool true) t11) fun t12 =>
   cnd t12 (
    K (.bool false)) (
    pv (binV .none .add v23 (.int .i64 1)) fun t13 =>
    k1 (m92_1_1_1_0_1_0_0 x0 x1 x4 x6 x7 x8 x9 x10 x11 x12 x13 x14 x15 x16 x17 x18 x19 x20 x21 x22 t3 t13 (jf #[U, U, (j 2), U, U, t3, U, U, U, U, U, U, U, U, U, U, U, U, U, U, U, U, U, U, t1, t2, t3, t3, v3, t4, t4, t5, t6, t7, t7, t8, t9, t10, t11, t12, t3, t13])))) (
   K (.bool true)) := by kernel_rfl
abbrev q184 : QD := bodyQ Tryz.prog Tryz.f184.results.toList K E
abbrev d184 (p : List Nat) : QD → Env → Hp → Prop := den Tryz.prog (sel (bodyOf Tryz.f184) p)
theorem t184 : d184 [] (q184 K E) #[x0, x1, x2, U, U, U, U, U, U, U, U, U, U, U, U, U, U, U, U, U, U] =
  pv (cvV .u64 x1) fun t1 =>
  pv (binV .none .lss x1 (.int .i64 0)) fun t2 =>
  cnd t2 (
   nws 5 1 (bsC #[(.int .u8 0)] 1 1 #[(0, (.int .u8 45))]) fun t3 =>
   appX 5 1 1 x0 t3 fun t4 =>
   pv (unV .neg t1) fun t5 =>
   d184 [1, 1, 1] (q184 K E) #[t4, x1, x2, U, U, U, (.slice none 0 0), t5, x1, t1, x1, t2, x0, t3, t4, t1, t5, U, U, U, U]) (
   d184 [1, 1, 1] (q184 K E) #[x0, x1, x2, U, U, U, (.slice none 0 0), t1, x1, t1, x1, t2, U, U, U, U, U, U, U, U, U]) := by kernel_rfl
theorem t184_1_1_1 : d184 [1, 1, 1] (q184 K E) #[x0, x1, x2, x3, x4, x5, x6, x7, x8, x9, x10, x11, x12, x13, x14, x15, x16, x17, x18, x19, x20] =
  callv Tryz.prog (.func (.func 196) #[] #[]) #[x0, x7, x2] (fun t1 =>
  K t1) E := by kernel_rfl
abbrev q196 : QD := bodyQ Tryz.prog Tryz.f196.results.toList K E
abbrev d196 (p : List Nat) : QD → Env → Hp → Prop := den Tryz.prog (sel (bodyOf Tryz.f196) p)
theorem t196 : d196 [] (q196 K E) #[x0, x1, x2, U, U, U, U, U, U, U, U, U, U, U, U, U, U, U, U, U, U, U, U, U, U, U, U, U, U, U, U, U, U, U, U, U] =
  pv (binV .none .eql x2 (.int .i64 10)) fun t1 =>
  cnd t1 (
   pv (binV .none .lss x1 (.int .u64 100)) fun t2 =>
   cnd t2 (
    pv (cvV .i64 x1) fun t3 =>
    callv Tryz.prog (.func (.func 201) #[] #[]) #[t3] (fun t4 =>
    nope fun t5 =>
    K t5) E) (
    nw 244 [(.int .u8 0), (.int .u8 0), (.int .u8 0), (.int .u8 0), (.int .u8 0), (.int .u8 0), (.int .u8 0), (.int .u8 0), (.int .u8 0), (.int .u8 0), (.int .u8 0), (.int .u8 0), (.int .u8 0), (.int .u8 0), (.int .u8 0), (.int .u8 0), (.int .u8 0), (.int .u8 0), (.int .u8 0), (.int .u8 0), (.int .u8 0), (.int .u8 0), (.int .u8 0), (.int .u8 0)] fun t6 =>
    callv Tryz.prog (.func (.func 202) #[] #[]) #[x1] (fun t7 =>
    pv (slV 1 (arrS 24 t6) none (some t7) none) fun t8 =>
    callv Tryz.prog (.func (.func 203) #[] #[]) #[t8, x1] (fun t9 =>
    pv (slV 1 (arrS 24 t6) none (some t7) none) fun t10 =>
    appX 5 1 1 x0 t10 fun t11 =>
    K t11) E) E)) (
   callv Tryz.prog (.func (.func 204) #[] #[]) #[x0, x1, x2, (.bool false), (.bool true)] (fun t12 =>
   pv (exV 0 t12) fun t13 =>
   pv (exV 1 t12) fun t14 =>
   K t13) E) := by kernel_rfl
abbrev q204 : QD := bodyQ Tryz.prog Tryz.f204.results.toList K E
abbrev d204 (p : List Nat) : QD → Env → Hp → Prop := den Tryz.prog (sel (bodyOf Tryz.f204) p)
def m204_1_1_1_1_1_0_1_0_1_1_1_0_0_0 (j : Nat → Value) : Env := #[x0, v1, x2, x3, x4, x5, x6, x7, x8, x9, x10, x11, x12, v13, x14, x15, x16, x17, x18, x19, x20, x21, x22, x23, x24, x25, x26, x27, x28, x29, x30, x31, x32, x33, x34, x35, x36, x37, x38, x39, x40, x41, x42, x43, (j 44), (j 45), (j 46), (j 47), (j 48), (j 49), (j 50), (j 51), (j 52), (j 53), (j 54), (j 55), (j 56), (j 57), x58, x59, x60, x61, x62, x63, x64, x65, x66, x67, x68, x69, x70, x71, x72, x73, x74, x75, x76, x77, x78, x79, x80, x81, x82, x83, x84, x85, x86, x87, x88, x89, x90, x91, x92, x93, x94, x95, x96, x97, x98, x99, x100, x101]
def m204_1_1_1_1_1_0_1_1_1_0_0_0 (j : Nat → Value) : Env := #[x0, v1, x2, x3, x4, x5, x6, x7, x8, x9, x10, x11, x12, v13, x14, x15, x16, x17, (j 18), x19, x20, x21, x22, x23, x24, x25, x26, x27, x28, x29, x30, x31, x32, x33, x34, x35, x36, x37, x38, x39, x40, x41, x42, x43, x44, x45, x46, x47, x48, x49, x50, x51, x52, x53, x54, x55, x56, x57, x58, x59, x60, x61, x62, x63, x64, x65, (j 66), (j 67), (j 68), (j 69), (j 70), (j 71), (j 72), (j 73), (j 74), (j 75), (j 76), (j 77), (j 78), (j 79), (j 80), (j 81), (j 82), x83, x84, x85, x86, x87, x88, x89, x90, x91, x92, x93, x94, x95, x96, x97, x98, x99, x100, x101]
theorem t204 : d204 [] (q204 K E) #[x0, x1, x2, x3, x4, U, U, U, U, U, U, U, U, U, U, U, U, U, U, U, U, U, U, U, U, U, U, U, U, U, U, U, U, U, U, U, U, U, U, U, U, U, U, U, U, U, U, U, U, U, U, U, U, U, U, U, U, U, U, U, U, U, U, U, U, U, U, U, U, U, U, U, U, U, U, U, U, U, U, U, U, U, U, U, U, U, U, U, U, U, U, U, U, U, U, U, U, U, U, U, U, U] =
  pv (binV .none .lss x2 (.int .i64 2)) fun t1 =>
  gdK t1 false (fun k => k x2) fun t2 =>
  gdK t1 false (fun k => pv (binV .none .eql t2 (.int .i64 10)) k) fun t3 =>
  pv (pickV t1 (.bool true) t3) fun t4 =>
  gdK t4 false (fun k => k x2) fun t5 =>
  gdK t4 false (fun k => pv (binV .none .gtr t5 (.int .i64 36)) k) fun t6 =>
  pv (pickV t4 (.bool true) t6) fun t7 =>
  cnd t7 (
   pv (ifcV 9 (.string ⟨#[115, 116, 114, 99, 111, 110, 118, 58, 32, 105, 108, 108, 101, 103, 97, 108, 32, 65, 112, 112, 101, 110, 100, 73, 110, 116, 47, 70, 111, 114, 109, 97, 116, 73, 110, 116, 32, 98, 97, 115, 101]⟩)) fun t8 =>
   pnc t8 E fun _ =>
   d204 [1, 1] (q204 K E) #[x0, x1, x2, x3, x4, U, U, U, U, U, (.slice none 0 0), (.string ⟨#[]⟩), U, U, U, U, U, U, U, x2, t1, t1, t2, t3, t4, t4, t5, t6, t7, t8, U, U, U, U, U, U, U, U, U, U, U, U, U, U, U, U, U, U, U, U, U, U, U, U, U, U, U, U, U, U, U, U, U, U, U, U, U, U, U, U, U, U, U, U, U, U, U, U, U, U, U, U, U, U, U, U, U, U, U, U, U, U, U, U, U, U, U, U, U, U, U, U]) (
   d204 [1, 1] (q204 K E) #[x0, x1, x2, x3, x4, U, U, U, U, U, (.slice none 0 0), (.string ⟨#[]⟩), U, U, U, U, U, U, U, x2, t1, t1, t2, t3, t4, t4, t5, t6, t7, U, U, U, U, U, U, U, U, U, U, U, U, U, U, U, U, U, U, U, U, U, U, U, U, U, U, U, U, U, U, U, U, U, U, U, U, U, U, U, U, U, U, U, U, U, U, U, U, U, U, U, U, U, U, U, U, U, U, U, U, U, U, U, U, U, U, U, U, U, U, U, U, U]) := by kernel_rfl
theorem t204_1_1 : d204 [1, 1] (q204 K E) #[x0, x1, x2, x3, x4, x5, x6, x7, x8, x9, x10, x11, x12, x13, x14, x15, x16, x17, x18, x19, x20, x21, x22, x23, x24, x25, x26, x27, x28, x29, x30, x31, x32, x33, x34, x35, x36, x37, x38, x39, x40, x41, x42, x43, x44, x45, x46, x47, x48, x49, x50, x51, x52, x53, x54, x55, x56, x57, x58, x59, x60, x61, x62, x63, x64, x65, x66, x67, x68, x69, x70, x71, x72, x73, x74, x75, x76, x77, x78, x79, x80, x81, x82, x83, x84, x85, x86, x87, x88, x89, x90, x91, x92, x93, x94, x95, x96, x97, x98, x99, x100, x101] =
  nw 252 [(.int .u8 0), (.int .u8 0), (.int .u8 0), (.int .u8 0), (.int .u8 0), (.int .u8 0), (.int .u8 0), (.int .u8 0), (.int .u8 0), (.int .u8 0), (.int .u8 0), (.int .u8 0), (.int .u8 0), (.int .u8 0), (.int .u8 0), (.int .u8 0), (.int .u8 0), (.int .u8 0), (.int .u8 0), (.int .u8 0), (.int .u8 0), (.int .u8 0), (.int .u8 0), (.int .u8 0), (.int .u8 0), (.int .u8 0), (.int .u8 0), (.int .u8 0), (.int .u8 0), (.int .u8 0), (.int .u8 0), (.int .u8 0), (.int .u8 0), (.int .u8 0), (.int .u8 0), (.int .u8 0), (.int .u8 0), (.int .u8 0), (.int .u8 0), (.int .u8 0), (.int .u8 0), (.int .u8 0), (.int .u8 0), (.int .u8 0), (.int .u8 0), (.int .u8 0), (.int .u8 0), (.int .u8 0), (.int .u8 0), (.int .u8 0), (.int .u8 0), (.int .u8 0), (.int .u8 0), (.int .u8 0), (.int .u8 0), (.int .u8 0), (.int .u8 0), (.int .u8 0), (.int .u8 0), (.int .u8 0), (.int .u8 0), (.int .u8 0), (.int .u8 0), (.int .u8 0), (.int .u8 0)] fun t1 =>
  cnd x3 (
   pv (unV .neg x1) fun t2 =>
   d204 [1, 1, 1, 1, 1] (q204 K E) #[x0, t2, x2, x3, x4, x5, x6, x7, x8, x9, x10, x11, t1, (.int .i64 65), x14, x15, x16, x17, x18, x19, x20, x21, x22, x23, x24, x25, x26, x27, x28, x29, x3, x1, t2, x33, x34, x35, x36, x37, x38, x39, x40, x41, x42, x43, x44, x45, x46, x47, x48, x49, x50, x51, x52, x53, x54, x55, x56, x57, x58, x59, x60, x61, x62, x63, x64, x65, x66, x67, x68, x69, x70, x71, x72, x73, x74, x75, x76, x77, x78, x79, x80, x81, x82, x83, x84, x85, x86, x87, x88, x89, x90, x91, x92, x93, x94, x95, x96, x97, x98, x99, x100, x101]) (
   d204 [1, 1, 1, 1, 1] (q204 K E) #[x0, x1, x2, x3, x4, x5, x6, x7, x8, x9, x10, x11, t1, (.int .i64 65), x14, x15, x16, x17, x18, x19, x20, x21, x22, x23, x24, x25, x26, x27, x28, x29, x3, x31, x32, x33, x34, x35, x36, x37, x38, x39, x40, x41, x42, x43, x44, x45, x46, x47, x48, x49, x50, x51, x52, x53, x54, x55, x56, x57, x58, x59, x60, x61, x62, x63, x64, x65, x66, x67, x68, x69, x70, x71, x72, x73, x74, x75, x76, x77, x78, x79, x80, x81, x82, x83, x84, x85, x86, x87, x88, x89, x90, x91, x92, x93, x94, x95, x96, x97, x98, x99, x100, x101]) := by kernel_rfl
theorem t204_1_1_1_1_1 : d204 [1, 1, 1, 1, 1] (q204 K E) #[x0, x1, x2, x3, x4, x5, x6, x7, x8, x9, x10, x11, x12, x13, x14, x15, x16, x17, x18, x19, x20, x21, x22, x23, x24, x25, x26, x27, x28, x29, x30, x31, x32, x33, x34, x35, x36, x37, x38, x39, x40, x41, x42, x43, x44, x45, x46, x47, x48, x49, x50, x51, x52, x53, x54, x55, x56, x57, x58, x59, x60, x61, x62, x63, x64, x65, x66, x67, x68, x69, x70, x71, x72, x73, x74, x75, x76, x77, x78, x79, x80, x81, x82, x83, x84, x85, x86, x87, x88, x89, x90, x91, x92, x93, x94, x95, x96, x97, x98, x99, x100, x101] =
  callv Tryz.prog (.func (.func 208) #[] #[]) #[x2] (fun t1 =>
  cnd t1 (
   pv (cvV .u64 x2) fun t2 =>
   callv Tryz.prog (.func (.func 209) #[] #[]) #[t2] (fun t3 =>
   pv (cvV .u64 t3) fun t4 =>
   pv (cvV .u64 x2) fun t5 =>
   pv (cvV .u64 x2) fun t6 =>
   pv (binV .none .sub t6 (.int .u64 1)) fun t7 =>
   lp (fun k1 => d204 [1, 1, 1, 1, 1, 0, 1, 0, 1, 1, 1, 0, 0, 0] (thenD k1 (blk 0 (thenD (d204 [1, 1, 1, 1, 1, 0, 1, 0, 1, 1, 1, 1] (thenD (d204 [1, 1, 1, 1, 1, 1] (q204 K E)) (q204 K E))) (thenD (d204 [1, 1, 1, 1, 1, 1] (q204 K E)) (q204 K E)))))) (m204_1_1_1_1_1_0_1_0_1_1_1_0_0_0 x0 x2 x3 x4 x5 x6 x7 x8 x9 x10 x11 x12 t4 t5 t7 x17 x18 x19 x20 x21 x22 x23 x24 x25 x26 x27 x28 x29 x30 x31 x32 x2 t1 x2 t2 t3 t4 x2 t5 x2 t6 t7 x58 x59 x60 x61 x62 x63 x64 x65 x66 x67 x68 x69 x70 x71 x72 x73 x74 x75 x76 x77 x78 x79 x80 x81 x82 x83 x84 x85 x86 x87 x88 x89 x90 x91 x92 x93 x94 x95 x96 x97 x98 x99 x100 x101 x1 x13 (jf #[U, U, U, U, U, U, U, U, U, U, U, U, U, U, U, U, U, U, U, U, U, U, U, U, U, U, U, U, U, U, U, U, U, U, U, U, U, U, U, U, U, U, U, U, x44, x45, x46, x47, x48, x49, x50, x51, x52, x53, x54, x55, x56, x57]))) E) (
   pv (cvV .u64 x2) fun t8 =>
   lp (fun k1 => d204 [1, 1, 1, 1, 1, 0, 1, 1, 1, 0, 0, 0] (thenD k1 (blk 2 (thenD (d204 [1, 1, 1, 1, 1, 0, 1, 1, 1, 1] (thenD (d204 [1, 1, 1, 1, 1, 1] (q204 K E)) (q204 K E))) (thenD (d204 [1, 1, 1, 1, 1, 1] (q204 K E)) (q204 K E)))))) (m204_1_1_1_1_1_0_1_1_1_0_0_0 x0 x2 x3 x4 x5 x6 x7 x8 x9 x10 x11 x12 x14 x15 x16 t8 x19 x20 x21 x22 x23 x24 x25 x26 x27 x28 x29 x30 x31 x32 x2 t1 x35 x36 x37 x38 x39 x40 x41 x42 x43 x44 x45 x46 x47 x48 x49 x50 x51 x52 x53 x54 x55 x56 x57 x58 x59 x60 x61 x62 x63 x2 t8 x83 x84 x85 x86 x87 x88 x89 x90 x91 x92 x93 x94 x95 x96 x97 x98 x99 x100 x101 x1 x13 (jf #[U, U, U, U, U, U, U, U, U, U, U, U, U, U, U, U, U, U, x18, U, U, U, U, U, U, U, U, U, U, U, U, U, U, U, U, U, U, U, U, U, U, U, U, U, U, U, U, U, U, U, U, U, U, U, U, U, U, U, U, U, U, U, U, U, U, U, x66, x67, x68, x69, x70, x71, x72, x73, x74, x75, x76, x77, x78, x79, x80, x81, x82])))) E := by kernel_rfl
theorem t204_1_1_1_1_1_0_1_0_1_1_1_0_0_0 : d204 [1, 1, 1, 1, 1, 0, 1, 0, 1, 1, 1, 0, 0, 0] (thenD k1 (blk 0 (thenD (d204 [1, 1, 1, 1, 1, 0, 1, 0, 1, 1, 1, 1] (thenD (d204 [1, 1, 1, 1, 1, 1] (q204 K E)) (q204 K E))) (thenD (d204 [1, 1, 1, 1, 1, 1] (q204 K E)) (q204 K E))))) (m204_1_1_1_1_1_0_1_0_1_1_1_0_0_0 x0 x2 x3 x4 x5 x6 x7 x8 x9 x10 x11 x12 x14 x15 x16 x17 x18 x19 x20 x21 x22 x23 x24 x25 x26 x27 x28 x29 x30 x31 x32 x33 x34 x35 x36 x37 x38 x39 x40 x41 x42 x43 x58 x59 x60 x61 x62 x63 x64 x65 x66 x67 x68 x69 x70 x71 x72 x73 x74 x75 x76 x77 x78 x79 x80 x81 x82 x83 x84 x85 x86 x87 x88 x89 x90 x91 x92 x93 x94 x95 x96 x97 x98 x99 x100 x101 v1 v13 j) =
  pv (binV .none .geq v1 x15) fun t1 =>
  cnd t1 (
   pv (binV .none .sub v13 (.int .i64 1)) fun t2 =>
   pv (binV .none .and v1 x16) fun t3 =>
   pv (ixV (.string ⟨#[48, 49, 50, 51, 52, 53, 54, 55, 56, 57, 97, 98, 99, 100, 101, 102, 103, 104, 105, 106, 107, 108, 109, 110, 111, 112, 113, 114, 115, 116, 117, 118, 119, 120, 121, 122]⟩) t3) fun t4 =>
   pv (iaV (some 65) 1 x12 t2) fun t5 =>
   st 1 t5 t4 fun _ =>
   pv (binV .none .shr v1 x14) fun t6 =>
   k1 (m204_1_1_1_1_1_0_1_0_1_1_1_0_0_0 x0 x2 x3 x4 x5 x6 x7 x8 x9 x10 x11 x12 x14 x15 x16 x17 x18 x19 x20 x21 x22 x23 x24 x25 x26 x27 x28 x29 x30 x31 x32 x33 x34 x35 x36 x37 x38 x39 x40 x41 x42 x43 x58 x59 x60 x61 x62 x63 x64 x65 x66 x67 x68 x69 x70 x71 x72 x73 x74 x75 x76 x77 x78 x79 x80 x81 x82 x83 x84 x85 x86 x87 x88 x89 x90 x91 x92 x93 x94 x95 x96 x97 x98 x99 x100 x101 t6 t2 (jf #[U, U, U, U, U, U, U, U, U, U, U, U, U, U, U, U, U, U, U, U, U, U, U, U, U, U, U, U, U, U, U, U, U, U, U, U, U, U, U, U, U, U, U, U, v1, x15, t1, v13, t2, t2, v1, x16, t3, t4, t5, v1, x14, t6]))) (
   pv (binV .none .sub v13 (.int .i64 1)) fun t7 =>
   pv (ixV (.string ⟨#[48, 49, 50, 51, 52, 53, 54, 55, 56, 57, 97, 98, 99, 100, 101, 102, 103, 104, 105, 106, 107, 108, 109, 110, 111, 112, 113, 114, 115, 116, 117, 118, 119, 120, 121, 122]⟩) v1) fun t8 =>
   pv (iaV (some 65) 1 x12 t7) fun t9 =>
   st 1 t9 t8 fun _ =>
   d204 [1, 1, 1, 1, 1, 1] (q204 K E) #[x0, v1, x2, x3, x4, x5, x6, x7, x8, x9, x10, x11, x12, t7, x14, x15, x16, x17, x18, x19, x20, x21, x22, x23, x24, x25, x26, x27, x28, x29, x30, x31, x32, x33, x34, x35, x36, x37, x38, x39, x40, x41, x42, x43, v1, x15, t1, (j 47), (j 48), (j 49), (j 50), (j 51), (j 52), (j 53), (j 54), (j 55), (j 56), (j 57), v13, t7, t7, v1, t8, t9, x64, x65, x66, x67, x68, x69, x70, x71, x72, x73, x74, x75, x76, x77, x78, x79, x80, x81, x82, x83, x84, x85, x86, x87, x88, x89, x90, x91, x92, x93, x94, x95, x96, x97, x98, x99, x100, x101]) := by kernel_rfl
theorem t204_1_1_1_1_1_0_1_1_1_0_0_0 : d204 [1, 1, 1, 1, 1, 0, 1, 1, 1, 0, 0, 0] (thenD k1 (blk 2 (thenD (d204 [1, 1, 1, 1, 1, 0, 1, 1, 1, 1] (thenD (d204 [1, 1, 1, 1, 1, 1] (q204 K E)) (q204 K E))) (thenD (d204 [1, 1, 1, 1, 1, 1] (q204 K E)) (q204 K E))))) (m204_1_1_1_1_1_0_1_1_1_0_0_0 x0 x2 x3 x4 x5 x6 x7 x8 x9 x10 x11 x12 x14 x15 x16 x17 x19 x20 x21 x22 x23 x24 x25 x26 x27 x28 x29 x30 x31 x32 x33 x34 x35 x36 x37 x38 x39 x40 x41 x42 x43 x44 x45 x46 x47 x48 x49 x50 x51 x52 x53 x54 x55 x56 x57 x58 x59 x60 x61 x62 x63 x64 x65 x83 x84 x85 x86 x87 x88 x89 x90 x91 x92 x93 x94 x95 x96 x97 x98 x99 x100 x101 v1 v13 j) =
  pv (binV .none .geq v1 x17) fun t1 =>
  cnd t1 (
   pv (binV .none .sub v13 (.int .i64 1)) fun t2 =>
   pv (binV .none .quo v1 x17) fun t3 =>
   pv (binV .none .mul t3 x17) fun t4 =>
   pv (binV .none .sub v1 t4) fun t5 =>
   pv (ixV (.string ⟨#[48, 49, 50, 51, 52, 53, 54, 55, 56, 57, 97, 98, 99, 100, 101, 102, 103, 104, 105, 106, 107, 108, 109, 110, 111, 112, 113, 114, 115, 116, 117, 118, 119, 120, 121, 122]⟩) t5) fun t6 =>
   pv (iaV (some 65) 1 x12 t2) fun t7 =>
   st 1 t7 t6 fun _ =>
   k1 (m204_1_1_1_1_1_0_1_1_1_0_0_0 x0 x2 x3 x4 x5 x6 x7 x8 x9 x10 x11 x12 x14 x15 x16 x17 x19 x20 x21 x22 x23 x24 x25 x26 x27 x28 x29 x30 x31 x32 x33 x34 x35 x36 x37 x38 x39 x40 x41 x42 x43 x44 x45 x46 x47 x48 x49 x50 x51 x52 x53 x54 x55 x56 x57 x58 x59 x60 x61 x62 x63 x64 x65 x83 x84 x85 x86 x87 x88 x89 x90 x91 x92 x93 x94 x95 x96 x97 x98 x99 x100 x101 t3 t2 (jf #[U, U, U, U, U, U, U, U, U, U, U, U, U, U, U, U, U, U, t3, U, U, U, U, U, U, U, U, U, U, U, U, U, U, U, U, U, U, U, U, U, U, U, U, U, U, U, U, U, U, U, U, U, U, U, U, U, U, U, U, U, U, U, U, U, U, U, v1, x17, t1, v13, t2, v1, x17, t3, t2, v1, t3, x17, t4, t5, t6, t7, t3]))) (
   pv (binV .none .sub v13 (.int .i64 1)) fun t8 =>
   pv (ixV (.string ⟨#[48, 49, 50, 51, 52, 53, 54, 55, 56, 57, 97, 98, 99, 100, 101, 102, 103, 104, 105, 106, 107, 108, 109, 110, 111, 112, 113, 114, 115, 116, 117, 118, 119, 120, 121, 122]⟩) v1) fun t9 =>
   pv (iaV (some 65) 1 x12 t8) fun t10 =>
   st 1 t10 t9 fun _ =>
   d204 [1, 1, 1, 1, 1, 1] (q204 K E) #[x0, v1, x2, x3, x4, x5, x6, x7, x8, x9, x10, x11, x12, t8, x14, x15, x16, x17, (j 18), x19, x20, x21, x22, x23, x24, x25, x26, x27, x28, x29, x30, x31, x32, x33, x34, x35, x36, x37, x38, x39, x40, x41, x42, x43, x44, x45, x46, x47, x48, x49, x50, x51, x52, x53, x54, x55, x56, x57, x58, x59, x60, x61, x62, x63, x64, x65, v1, x17, t1, (j 69), (j 70), (j 71), (j 72), (j 73), (j 74), (j 75), (j 76), (j 77), (j 78), (j 79), (j 80), (j 81), (j 82), v13, t8, t8, v1, t9, t10, x89, x90, x91, x92, x93, x94, x95, x96, x97, x98, x99, x100, x101]) := by kernel_rfl
theorem t204_1_1_1_1_1_1 : d204 [1, 1, 1, 1, 1, 1] (q204 K E) #[x0, x1, x2, x3, x4, x5, x6, x7, x8, x9, x10, x11, x12, x13, x14, x15, x16, x17, x18, x19, x20, x21, x22, x23, x24, x25, x26, x27, x28, x29, x30, x31, x32, x33, x34, x35, x36, x37, x38, x39, x40, x41, x42, x43, x44, x45, x46, x47, x48, x49, x50, x51, x52, x53, x54, x55, x56, x57, x58, x59, x60, x61, x62, x63, x64, x65, x66, x67, x68, x69, x70, x71, x72, x73, x74, x75, x76, x77, x78, x79, x80, x81, x82, x83, x84, x85, x86, x87, x88, x89, x90, x91, x92, x93, x94, x95, x96, x97, x98, x99, x100, x101] =
  cnd x3 (
   pv (binV .none .sub x13 (.int .i64 1)) fun t1 =>
   pv (iaV (some 65) 1 x12 t1) fun t2 =>
   st 1 t2 (.int .u8 45) fun _ =>
   d204 [1, 1, 1, 1, 1, 1, 1] (q204 K E) #[x0, x1, x2, x3, x4, x5, x6, x7, x8, x9, x10, x11, x12, t1, x14, x15, x16, x17, x18, x19, x20, x21, x22, x23, x24, x25, x26, x27, x28, x29, x30, x31, x32, x33, x34, x35, x36, x37, x38, x39, x40, x41, x42, x43, x44, x45, x46, x47, x48, x49, x50, x51, x52, x53, x54, x55, x56, x57, x58, x59, x60, x61, x62, x63, x64, x65, x66, x67, x68, x69, x70, x71, x72, x73, x74, x75, x76, x77, x78, x79, x80, x81, x82, x83, x84, x85, x86, x87, x88, x3, x13, t1, t1, t2, x94, x95, x96, x97, x98, x99, x100, x101]) (
   d204 [1, 1, 1, 1, 1, 1, 1] (q204 K E) #[x0, x1, x2, x3, x4, x5, x6, x7, x8, x9, x10, x11, x12, x13, x14, x15, x16, x17, x18, x19, x20, x21, x22, x23, x24, x25, x26, x27, x28, x29, x30, x31, x32, x33, x34, x35, x36, x37, x38, x39, x40, x41, x42, x43, x44, x45, x46, x47, x48, x49, x50, x51, x52, x53, x54, x55, x56, x57, x58, x59, x60, x61, x62, x63, x64, x65, x66, x67, x68, x69, x70, x71, x72, x73, x74, x75, x76, x77, x78, x79, x80, x81, x82, x83, x84, x85, x86, x87, x88, x3, x90, x91, x92, x93, x94, x95, x96, x97, x98, x99, x100, x101]) := by kernel_rfl
theorem t204_1_1_1_1_1_1_1 : d204 [1, 1, 1, 1, 1, 1, 1] (q204 K E) #[x0, x1, x2, x3, x4, x5, x6, x7, x8, x9, x10, x11, x12, x13, x14, x15, x16, x17, x18, x19, x20, x21, x22, x23, x24, x25, x26, x27, x28, x29, x30, x31, x32, x33, x34, x35, x36, x37, x38, x39, x40, x41, x42, x43, x44, x45, x46, x47, x48, x49, x50, x51, x52, x53, x54, x55, x56, x57, x58, x59, x60, x61, x62, x63, x64, x65, x66, x67, x68, x69, x70, x71, x72, x73, x74, x75, x76, x77, x78, x79, x80, x81, x82, x83, x84, x85, x86, x87, x88, x89, x90, x91, x92, x93, x94, x95, x96, x97, x98, x99, x100, x101] =
  cnd x4 (
   pv (slV 1 (arrS 65 x12) (some x13) none none) fun t1 =>
   appX 5 1 1 x0 t1 fun t2 =>
   K (.tuple #[t2, x11])) (
   pv (slV 1 (arrS 65 x12) (some x13) none none) fun t3 =>
   bs t3 fun t4 =>
   K (.tuple #[x10, t4])) := by kernel_rfl
abbrev q208 : QD := bodyQ Tryz.prog Tryz.f208.results.toList K E
abbrev d208 (p : List Nat) : QD → Env → Hp → Prop := den Tryz.prog (sel (bodyOf Tryz.f208) p)
theorem t208 : d208 [] (q208 K E) #[x0, U, U, U, U, U, U, U] =
  pv (binV .none .sub x0 (.int .i64 1)) fun t1 =>
  pv (binV .none .and x0 t1) fun t2 =>
  pv (binV .none .eql t2 (.int .i64 0)) fun t3 =>
  K t3 := by kernel_rfl
abbrev q103 : QD := bodyQ Tryz.prog Tryz.f103.results.toList K E
abbrev d103 (p : List Nat) : QD → Env → Hp → Prop := den Tryz.prog (sel (bodyOf Tryz.f103) p)
theorem t103 : d103 [] (q103 K E) #[x0, x1, U, U, U, U, U, U, U, U, U, U, U, U, U, U, U, U, U, U, U, U, U, U, U] =
  nw 55 (Value.cells x1).toList fun t1 =>
  callv Tryz.prog (.func (.func 64) #[] #[]) #[x0] (fun t2 =>
  pv (unV .not t2) fun t3 =>
  cnd t3 (
   K (.int .u16 30)) (
   pv (faV 0 t1) fun t4 =>
   ld false 1 t4 fun t5 =>
   callv Tryz.prog (.func (.func 86) #[] #[]) #[x0, t5, (.func (.func 133) #[] #[])] (fun t6 =>
   pv (unV .not t6) fun t7 =>
   cnd t7 (
    K (.int .u16 40)) (
    pv (faV 1 t1) fun t8 =>
    ld false 1 t8 fun t9 =>
    pv (faV 2 t1) fun t10 =>
    ld false 1 t10 fun t11 =>
    callv Tryz.prog (.func (.func 135) #[] #[]) #[x0, t9, t11] (fun t12 =>
    pv (unV .not t12) fun t13 =>
    cnd t13 (
     K (.int .u16 60)) (
     K (.int .u16 0))) E)) E)) E := by kernel_rfl
abbrev q133 : QD := bodyQ Tryz.prog Tryz.f133.results.toList K E
abbrev d133 (p : List Nat) : QD → Env → Hp → Prop := den Tryz.prog (sel (bodyOf Tryz.f133) p)
theorem t133 : d133 [] (q133 K E) #[x0, x1, U, U, U, U, U, U, U, U, U, U, U] =
  nw 88 (Value.cells x0).toList fun t1 =>
  pv (binV .none .geq x1 (.int .i64 0)) fun t2 =>
  gdK t2 true (fun k => k x1) fun t3 =>
  gdK t2 true (fun k => ld true 2 t1 k) fun t4 =>
  gdK t2 true (fun k => callv Tryz.prog (.func (.func 134) #[] #[]) #[t4] k E) fun t5 =>
  gdK t2 true (fun k => pv (binV .none .lss t3 t5) k) fun t6 =>
  pv (pickV t2 t6 (.bool false)) fun t7 =>
  K t7 := by kernel_rfl
abbrev q73 : QD := bodyQ Tryz.prog Tryz.f73.results.toList K E
abbrev d73 (p : List Nat) : QD → Env → Hp → Prop := den Tryz.prog (sel (bodyOf Tryz.f73) p)
theorem t73 : d73 [] (q73 K E) #[x0, x1, x2, U, U, U, U, U, U, U, U, U, U, U, U, U, U, U, U, U, U, U, U, U, U, U, U, U, U, U, U, U, U, U, U, U, U, U, U, U, U, U, U, U, U] =
  nw 55 (Value.cells x2).toList fun t1 =>
  ld true 3 t1 fun t2 =>
  callv Tryz.prog (.func (.func 103) #[] #[]) #[x0, t2] (fun t3 =>
  pv (binV .none .neq t3 (.int .u16 0)) fun t4 =>
  cnd t4 (
   K (.tuple #[(.slice none 0 0), t3])) (
   pv (lenV x0) fun t5 =>
   callv Tryz.prog (.func (.func 104) #[] #[]) #[x1, t5] (fun t6 =>
   pv (unV .not t6) fun t7 =>
   cnd t7 (
    K (.tuple #[(.slice none 0 0), (.int .u16 1)])) (
    pv (faV 1 t1) fun t8 =>
    ld false 1 t8 fun t9 =>
    pv (faV 2 t1) fun t10 =>
    ld false 1 t10 fun t11 =>
    pv (lenV x0) fun t12 =>
    pv (faV 0 t1) fun t13 =>
    ld false 1 t13 fun t14 =>
    bth (
     callv Tryz.prog (.func (.func 106) #[] #[]) #[x1, t9, t11] (fun t15 h16 => (ldV h16 false 1 t13 t14) ∧ (
      mks 3 [(.int .i64 0)] 1 8 t12 t12 (fun t17 h18 => (ldV h18 false 1 t13 t14) ∧ (
       callv Tryz.prog (.func (.func 105) #[] #[]) #[x0, t15, t17, t14] (fun t19 =>
       pv (exV 0 t19) fun t20 =>
       pv (exV 1 t19) fun t21 =>
       pv (binV .none .neq t21 (.int .u16 0)) fun t22 =>
       cnd t22 (
        K (.tuple #[(.slice none 0 0), t21])) (
        callv Tryz.prog (.func (.func 107) #[] #[]) #[t20] (fun t23 =>
        pv (exV 0 t23) fun t24 =>
        pv (exV 1 t23) fun t25 =>
        K (.tuple #[t24, t25])) E)) E) h18)) h16) E) (
     mks 3 [(.int .i64 0)] 1 8 t12 t12 (fun t26 h27 => (ldV h27 false 1 t13 t14) ∧ (ldV h27 false 1 t10 t11) ∧ (ldV h27 false 1 t8 t9) ∧ (
      callv Tryz.prog (.func (.func 106) #[] #[]) #[x1, t9, t11] (fun t28 h29 => (ldV h29 false 1 t13 t14) ∧ (
       callv Tryz.prog (.func (.func 105) #[] #[]) #[x0, t28, t26, t14] (fun t30 =>
       pv (exV 0 t30) fun t31 =>
       pv (exV 1 t30) fun t32 =>
       pv (binV .none .neq t32 (.int .u16 0)) fun t33 =>
       cnd t33 (
        K (.tuple #[(.slice none 0 0), t32])) (
        callv Tryz.prog (.func (.func 107) #[] #[]) #[t31] (fun t34 =>
        pv (exV 0 t34) fun t35 =>
        pv (exV 1 t34) fun t36 =>
        K (.tuple #[t35, t36])) E)) E) h29) E) h27)))) E)) E := by kernel_rfl
end
section
variable {K : Kont} {E : PanK} {k1 k2 k3 k4 k5 : Env → Hp → Prop} {σ : Type} {x0 x1 x2 x3 x4 x5 x6 x7 x8 x9 x10 x11 x12 x13 x14 x15 x16 x17 x18 x19 x20 x21 x22 x23 x24 x25 x26 x27 x28 x29 x30 x31 x32 x33 x34 x35 x36 x37 x38 x39 x40 x41 x42 x43 x44 x45 x46 x47 x48 x49 x50 x51 x52 x53 x54 x55 x56 x57 x58 x59 x60 x61 x62 x63 x64 x65 x66 x67 x68 x69 x70 x71 x72 x73 x74 x75 x76 x77 x78 x79 x80 x81 x82 x83 x84 x85 x86 x87 x88 x89 x90 x91 x92 x93 x94 x95 x96 x97 x98 x99 x100 x101 v0 v1 v2 v3 v4 v5 v6 v7 v8 v9 v10 v11 v12 v13 v14 v15 v16 v17 v18 v19 v20 v21 v22 v23 v24 v25 v26 v27 v28 v29 v30 v31 v32 v33 v34 v35 v36 v37 v38 v39 v40 v41 v42 v43 v44 v45 v46 v47 v48 v49 v50 v51 v52 v53 v54 v55 v56 v57 v58 v59 v60 v61 v62 v63 v64 v65 v66 v67 v68 v69 v70 v71 v72 v73 v74 v75 v76 v77 v78 v79 v80 v81 v82 v83 v84 v85 v86 v87 v88 v89 v90 v91 v92 v93 v94 v95 v96 v97 v98 v99 v100 v101 : Value} {h : Hp} {j : Nat → Value}
theorem l182_1_0_1_0_0 (f12 : σ → Value) (I : σ → Hp → Prop) (μ : σ → Nat) (s0 : σ) (e12 : v12 = f12 s0) (h0 : h.wf → ∃ h', h.wk h' ∧ I s0 h')
 (round : ∀ (k1 : Env → Hp → Prop) (s : σ) (j : Nat → Value) (h : Hp), I s h → h.wf → (∀ s' j' h', μ s' < μ s → (h'.wf → ∃ h'', h'.wk h'' ∧ I s' h'') → k1 (m182_1_0_1_0_0 x0 x1 x2 x3 x7 x8 x9 x10 x11 x28 x29 x30 x31 x32 (f12 s') j') h') → d182 [1, 0, 1, 0, 0] (thenD k1 (blk 0 (thenD (d182 [1, 1] (q182 K E)) (q182 K E)))) (m182_1_0_1_0_0 x0 x1 x2 x3 x7 x8 x9 x10 x11 x28 x29 x30 x31 x32 (f12 s) j) h) :
 lp (fun k1 => d182 [1, 0, 1, 0, 0] (thenD k1 (blk 0 (thenD (d182 [1, 1] (q182 K E)) (q182 K E))))) (m182_1_0_1_0_0 x0 x1 x2 x3 x7 x8 x9 x10 x11 x28 x29 x30 x31 x32 v12 j) h := by
 subst e12
 exact loop_r (fun s j => m182_1_0_1_0_0 x0 x1 x2 x3 x7 x8 x9 x10 x11 x28 x29 x30 x31 x32 (f12 s) j) I μ round s0 j h0
theorem l92_1_1_1_0_1_0_0 (f3 f23 : σ → Value) (I : σ → Hp → Prop) (μ : σ → Nat) (s0 : σ) (e3 : v3 = f3 s0) (e23 : v23 = f23 s0) (h0 : h.wf → ∃ h', h.wk h' ∧ I s0 h')
 (round : ∀ (k1 : Env → Hp → Prop) (s : σ) (j : Nat → Value) (h : Hp), I s h → h.wf → (∀ s' j' h', μ s' < μ s → (h'.wf → ∃ h'', h'.wk h'' ∧ I s' h'') → k1 (m92_1_1_1_0_1_0_0 x0 x1 x4 x6 x7 x8 x9 x10 x11 x12 x13 x14 x15 x16 x17 x18 x19 x20 x21 x22 (f3 s') (f23 s') j') h') → d92 [1, 1, 1, 0, 1, 0, 0] (thenD k1 (blk 0 (thenD (d92 [1, 1, 1, 1] (q92 K E)) (q92 K E)))) (m92_1_1_1_0_1_0_0 x0 x1 x4 x6 x7 x8 x9 x10 x11 x12 x13 x14 x15 x16 x17 x18 x19 x20 x21 x22 (f3 s) (f23 s) j) h) :
 lp (fun k1 => d92 [1, 1, 1, 0, 1, 0, 0] (thenD k1 (blk 0 (thenD (d92 [1, 1, 1, 1] (q92 K E)) (q92 K E))))) (m92_1_1_1_0_1_0_0 x0 x1 x4 x6 x7 x8 x9 x10 x11 x12 x13 x14 x15 x16 x17 x18 x19 x20 x21 x22 v3 v23 j) h := by
 subst e3
 subst e23
 exact loop_r (fun s j => m92_1_1_1_0_1_0_0 x0 x1 x4 x6 x7 x8 x9 x10 x11 x12 x13 x14 x15 x16 x17 x18 x19 x20 x21 x22 (f3 s) (f23 s) j) I μ round s0 j h0
theorem l204_1_1_1_1_1_0_1_0_1_1_1_0_0_0 (f1 f13 : σ → Value) (I : σ → Hp → Prop) (μ : σ → Nat) (s0 : σ) (e1 : v1 = f1 s0) (e13 : v13 = f13 s0) (h0 : h.wf → ∃ h', h.wk h' ∧ I s0 h')
 (round : ∀ (k1 : Env → Hp → Prop) (s : σ) (j : Nat → Value) (h : Hp), I s h → h.wf → (∀ s' j' h', μ s' < μ s → (h'.wf → ∃ h'', h'.wk h'' ∧ I s' h'') → k1 (m204_1_1_1_1_1_0_1_0_1_1_1_0_0_0 x0 x2 x3 x4 x5 x6 x7 x8 x9 x10 x11 x12 x14 x15 x16 x17 x18 x19 x20 x21 x22 x23 x24 x25 x26 x27 x28 x29 x30 x31 x32 x33 x34 x35 x36 x37 x38 x39 x40 x41 x42 x43 x58 x59 x60 x61 x62 x63 x64 x65 x66 x67 x68 x69 x70 x71 x72 x73 x74 x75 x76 x77 x78 x79 x80 x81 x82 x83 x84 x85 x86 x87 x88 x89 x90 x91 x92 x93 x94 x95 x96 x97 x98 x99 x100 x101 (f1 s') (f13 s') j') h') → d204 [1, 1, 1, 1, 1, 0, 1, 0, 1, 1, 1, 0, 0, 0] (thenD k1 (blk 0 (thenD (d204 [1, 1, 1, 1, 1, 0, 1, 0, 1, 1, 1, 1] (thenD (d204 [1, 1, 1, 1, 1, 1] (q204 K E)) (q204 K E))) (thenD (d204 [1, 1, 1, 1, 1, 1] (q204 K E)) (q204 K E))))) (m204_1_1_1_1_1_0_1_0_1_1_1_0_0_0 x0 x2 x3 x4 x5 x6 x7 x8 x9 x10 x11 x12 x14 x15 x16 x17 x18 x19 x20 x21 x22 x23 x24 x25 x26 x27 x28 x29 x30 x31 x32 x33 x34 x35 x36 x37 x38 x39 x40 x41 x42 x43 x58 x59 x60 x61 x62 x63 x64 x65 x66 x67 x68 x69 x70 x71 x72 x73 x74 x75 x76 x77 x78 x79 x80 x81 x82 x83 x84 x85 x86 x87 x88 x89 x90 x91 x92 x93 x94 x95 x96 x97 x98 x99 x100 x101 (f1 s) (f13 s) j) h) :
 lp (fun k1 => d204 [1, 1, 1, 1, 1, 0, 1, 0, 1, 1, 1, 0, 0, 0] (thenD k1 (blk 0 (thenD (d204 [1, 1, 1, 1, 1, 0, 1, 0, 1, 1, 1, 1] (thenD (d204 [1, 1, 1, 1, 1, 1] (q204 K E)) (q204 K E))) (thenD (d204 [1, 1, 1, 1, 1, 1] (q204 K E)) (q204 K E)))))) (m204_1_1_1_1_1_0_1_0_1_1_1_0_0_0 x0 x2 x3 x4 x5 x6 x7 x8 x9 x10 x11 x12 x14 x15 x16 x17 x18 x19 x20 x21 x22 x23 x24 x25 x26 x27 x28 x29 x30 x31 x32 x33 x34 x35 x36 x37 x38 x39 x40 x41 x42 x43 x58 x59 x60 x61 x62 x63 x64 x65 x66 x67 x68 x69 x70 x71 x72 x73 x74 x75 x76 x77 x78 x79 x80 x81 x82 x83 x84 x85 x86 x87 x88 x89 x90 x91 x92 x93 x94 x95 x96 x97 x98 x99 x100 x101 v1 v13 j) h := by
 subst e1
 subst e13
 exact loop_r (fun s j => m204_1_1_1_1_1_0_1_0_1_1_1_0_0_0 x0 x2 x3 x4 x5 x6 x7 x8 x9 x10 x11 x12 x14 x15 x16 x17 x18 x19 x20 x21 x22 x23 x24 x25 x26 x27 x28 x29 x30 x31 x32 x33 x34 x35 x36 x37 x38 x39 x40 x41 x42 x43 x58 x59 x60 x61 x62 x63 x64 x65 x66 x67 x68 x69 x70 x71 x72 x73 x74 x75 x76 x77 x78 x79 x80 x81 x82 x83 x84 x85 x86 x87 x88 x89 x90 x91 x92 x93 x94 x95 x96 x97 x98 x99 x100 x101 (f1 s) (f13 s) j) I μ round s0 j h0
theorem l204_1_1_1_1_1_0_1_1_1_0_0_0 (f1 f13 : σ → Value) (I : σ → Hp → Prop) (μ : σ → Nat) (s0 : σ) (e1 : v1 = f1 s0) (e13 : v13 = f13 s0) (h0 : h.wf → ∃ h', h.wk h' ∧ I s0 h')
 (round : ∀ (k1 : Env → Hp → Prop) (s : σ) (j : Nat → Value) (h : Hp), I s h → h.wf → (∀ s' j' h', μ s' < μ s → (h'.wf → ∃ h'', h'.wk h'' ∧ I s' h'') → k1 (m204_1_1_1_1_1_0_1_1_1_0_0_0 x0 x2 x3 x4 x5 x6 x7 x8 x9 x10 x11 x12 x14 x15 x16 x17 x19 x20 x21 x22 x23 x24 x25 x26 x27 x28 x29 x30 x31 x32 x33 x34 x35 x36 x37 x38 x39 x40 x41 x42 x43 x44 x45 x46 x47 x48 x49 x50 x51 x52 x53 x54 x55 x56 x57 x58 x59 x60 x61 x62 x63 x64 x65 x83 x84 x85 x86 x87 x88 x89 x90 x91 x92 x93 x94 x95 x96 x97 x98 x99 x100 x101 (f1 s') (f13 s') j') h') → d204 [1, 1, 1, 1, 1, 0, 1, 1, 1, 0, 0, 0] (thenD k1 (blk 2 (thenD (d204 [1, 1, 1, 1, 1, 0, 1, 1, 1, 1] (thenD (d204 [1, 1, 1, 1, 1, 1] (q204 K E)) (q204 K E))) (thenD (d204 [1, 1, 1, 1, 1, 1] (q204 K E)) (q204 K E))))) (m204_1_1_1_1_1_0_1_1_1_0_0_0 x0 x2 x3 x4 x5 x6 x7 x8 x9 x10 x11 x12 x14 x15 x16 x17 x19 x20 x21 x22 x23 x24 x25 x26 x27 x28 x29 x30 x31 x32 x33 x34 x35 x36 x37 x38 x39 x40 x41 x42 x43 x44 x45 x46 x47 x48 x49 x50 x51 x52 x53 x54 x55 x56 x57 x58 x59 x60 x61 x62 x63 x64 x65 x83 x84 x85 x86 x87 x88 x89 x90 x91 x92 x93 x94 x95 x96 x97 x98 x99 x100 x101 (f1 s) (f13 s) j) h) :
 lp (fun k1 => d204 [1, 1, 1, 1, 1, 0, 1, 1, 1, 0, 0, 0] (thenD k1 (blk 2 (thenD (d204 [1, 1, 1, 1, 1, 0, 1, 1, 1, 1] (thenD (d204 [1, 1, 1, 1, 1, 1] (q204 K E)) (q204 K E))) (thenD (d204 [1, 1, 1, 1, 1, 1] (q204 K E)) (q204 K E)))))) (m204_1_1_1_1_1_0_1_1_1_0_0_0 x0 x2 x3 x4 x5 x6 x7 x8 x9 x10 x11 x12 x14 x15 x16 x17 x19 x20 x21 x22 x23 x24 x25 x26 x27 x28 x29 x30 x31 x32 x33 x34 x35 x36 x37 x38 x39 x40 x41 x42 x43 x44 x45 x46 x47 x48 x49 x50 x51 x52 x53 x54 x55 x56 x57 x58 x59 x60 x61 x62 x63 x64 x65 x83 x84 x85 x86 x87 x88 x89 x90 x91 x92 x93 x94 x95 x96 x97 x98 x99 x100 x101 v1 v13 j) h := by
 subst e1
 subst e13
 exact loop_r (fun s j => m204_1_1_1_1_1_0_1_1_1_0_0_0 x0 x2 x3 x4 x5 x6 x7 x8 x9 x10 x11 x12 x14 x15 x16 x17 x19 x20 x21 x22 x23 x24 x25 x26 x27 x28 x29 x30 x31 x32 x33 x34 x35 x36 x37 x38 x39 x40 x41 x42 x43 x44 x45 x46 x47 x48 x49 x50 x51 x52 x53 x54 x55 x56 x57 x58 x59 x60 x61 x62 x63 x64 x65 x83 x84 x85 x86 x87 x88 x89 x90 x91 x92 x93 x94 x95 x96 x97 x98 x99 x100 x101 (f1 s) (f13 s) j) I μ round s0 j h0
end
end Go.Proofs.YtgcmbkoejjcjlaaGreatDoor.T
open Go Go.RowKit Go.Proofs.YtgcmbkoejjcjlaaGreatDoor.K
set_option linter.unusedVariables false
set_option maxRecDepth 100000
namespace Go.Proofs.YtgcmbkoejjcjlaaGreatDoor.T
section
variable (K : Kont) (E : PanK) (k1 k2 k3 k4 k5 : Env → Hp → Prop) (x0 x1 x2 x3 x4 x5 x6 x7 x8 x9 x10 x11 x12 x13 x14 x15 x16 x17 x18 x19 x20 x21 x22 x23 x24 x25 x26 x27 x28 x29 x30 x31 x32 x33 x34 x35 x36 x37 x38 x39 x40 x41 x42 x43 x44 x45 x46 x47 x48 x49 x50 x51 x52 x53 x54 x55 x56 x57 x58 x59 x60 x61 x62 x63 x64 x65 x66 x67 x68 x69 x70 x71 x72 x73 x74 x75 x76 x77 x78 x79 x80 x81 x82 x83 x84 x85 x86 x87 x88 x89 x90 x91 x92 x93 x94 v0 v1 v2 v3 v4 v5 v6 v7 v8 v9 v10 v11 v12 v13 v14 v15 v16 v17 v18 v19 v20 v21 v22 v23 v24 v25 v26 v27 v28 v29 v30 v31 v32 v33 v34 v35 v36 v37 v38 v39 v40 v41 v42 v43 v44 v45 v46 v47 v48 v49 v50 v51 v52 v53 v54 v55 v56 v57 v58 v59 v60 v61 v62 v63 v64 v65 v66 v67 v68 v69 v70 v71 v72 v73 v74 v75 v76 v77 v78 v79 v80 v81 v82 v83 v84 v85 v86 v87 v88 v89 v90 v91 v92 v93 v94 : Value) (j : Nat → Value)
abbrev q107 : QD := bodyQ Tryz.prog Tryz.f107.results.toList K E
abbrev d107 (p : List Nat) : QD → Env → Hp → Prop := den Tryz.prog (sel (bodyOf Tryz.f107) p)
theorem t107 : d107 [] (q107 K E) #[x0, U, U, U, U, U, U, U] =
  pv (lenV x0) fun t1 =>
  pv (binV .none .gtr t1 (.int .i64 500)) fun t2 =>
  cnd t2 (
   K (.tuple #[(.slice none 0 0), (.int .u16 61)])) (
   K (.tuple #[x0, (.int .u16 0)])) := by kernel_rfl
abbrev q100 : QD := bodyQ Tryz.prog Tryz.f100.results.toList K E
abbrev d100 (p : List Nat) : QD → Env → Hp → Prop := den Tryz.prog (sel (bodyOf Tryz.f100) p)
def m100_1_1_1_0_0_0 (j : Nat → Value) : Env := #[x0, x1, x2, x3, x4, x5, x6, x7, x8, v9, v10, (j 11), x12, x13, x14, (j 15), (j 16), (j 17), (j 18), (j 19), (j 20), (j 21), (j 22), (j 23), (j 24), (j 25), (j 26), (j 27), (j 28), (j 29), (j 30), (j 31), (j 32), (j 33), (j 34), x35, x36, x37, x38, x39, x40, x41, x42, x43, x44, x45, x46, x47, x48]
theorem t100 : d100 [] (q100 K E) #[x0, x1, x2, U, U, U, U, U, U, U, U, U, U, U, U, U, U, U, U, U, U, U, U, U, U, U, U, U, U, U, U, U, U, U, U, U, U, U, U, U, U, U, U, U, U, U, U, U, U] =
  pv (lenV x0) fun t1 =>
  lp (fun k1 => d100 [1, 1, 1, 0, 0, 0] (thenD k1 (blk 0 (thenD (d100 [1, 1, 1, 1] (q100 K E)) (q100 K E))))) (m100_1_1_1_0_0_0 x0 x1 x2 U U U (.int .i64 0) (.bool false) t1 x0 t1 t1 U U U U U U U U U U U U U U (.int .i64 0) t1 (jf #[])) := by kernel_rfl
theorem t100_1_1_1_0_0_0 : d100 [1, 1, 1, 0, 0, 0] (thenD k1 (blk 0 (thenD (d100 [1, 1, 1, 1] (q100 K E)) (q100 K E)))) (m100_1_1_1_0_0_0 x0 x1 x2 x3 x4 x5 x6 x7 x8 x12 x13 x14 x35 x36 x37 x38 x39 x40 x41 x42 x43 x44 x45 x46 x47 x48 v9 v10 j) =
  pv (binV .none .lss v9 v10) fun t1 =>
  cnd t1 (
   pv (binV .none .add v9 v10) fun t2 =>
   pv (cvV .u64 t2) fun t3 =>
   pv (binV .none .shr t3 (.int .u64 1)) fun t4 =>
   pv (cvV .i64 t4) fun t5 =>
   pv (iaV none 2 x0 t5) fun t6 =>
   ld true 2 t6 fun t7 =>
   callv Tryz.prog x2 #[t7, x1] (fun t8 =>
   pv (binV .none .lss t8 (.int .i64 0)) fun t9 =>
   cnd t9 (
    pv (binV .none .add t5 (.int .i64 1)) fun t10 =>
    k1 (m100_1_1_1_0_0_0 x0 x1 x2 x3 x4 x5 x6 x7 x8 x12 x13 x14 x35 x36 x37 x38 x39 x40 x41 x42 x43 x44 x45 x46 x47 x48 t10 v10 (jf #[U, U, U, U, U, U, U, U, U, U, U, t5, U, U, U, v9, v10, t1, v9, v10, t2, t3, t4, t5, x2, x0, t5, t6, t7, x1, t8, t9, t5, t10, (j 34)]))) (
    k1 (m100_1_1_1_0_0_0 x0 x1 x2 x3 x4 x5 x6 x7 x8 x12 x13 x14 x35 x36 x37 x38 x39 x40 x41 x42 x43 x44 x45 x46 x47 x48 v9 t5 (jf #[U, U, U, U, U, U, U, U, U, U, U, t5, U, U, U, v9, v10, t1, v9, v10, t2, t3, t4, t5, x2, x0, t5, t6, t7, x1, t8, t9, (j 32), (j 33), t5])))) E) (
   pv (binV .none .lss v9 x8) fun t11 =>
   gdK t11 true (fun k => k x2) fun t12 =>
   gdK t11 true (fun k => k x0) fun t13 =>
   gdK t11 true (fun k => k v9) fun t14 =>
   gdK t11 true (fun k => pv (iaV none 2 t13 t14) k) fun t15 =>
   gdK t11 true (fun k => ld true 2 t15 k) fun t16 =>
   gdK t11 true (fun k => k x1) fun t17 =>
   gdK t11 true (fun k => callv Tryz.prog t12 #[t16, t17] k E) fun t18 =>
   gdK t11 true (fun k => pv (binV .none .eql t18 (.int .i64 0)) k) fun t19 =>
   pv (pickV t11 t19 (.bool false)) fun t20 =>
   K (.tuple #[v9, t20])) := by kernel_rfl
abbrev q65 : QD := bodyQ Tryz.prog Tryz.f65.results.toList K E
abbrev d65 (p : List Nat) : QD → Env → Hp → Prop := den Tryz.prog (sel (bodyOf Tryz.f65) p)
theorem t65 : d65 [] (q65 K E) #[x0, U, U, U, U, U, U, U] =
  pv (binV .slc .eql x0 (.slice none 0 0)) fun t1 =>
  cnd t1 (
   K (.slice none 0 0)) (
   nws 3 0 (bsC #[(.int .i64 0)] 1 0 #[]) fun t2 =>
   appX 3 1 8 t2 x0 fun t3 =>
   K t3) := by kernel_rfl
abbrev q118 : QD := bodyQ Tryz.prog Tryz.f118.results.toList K E
abbrev d118 (p : List Nat) : QD → Env → Hp → Prop := den Tryz.prog (sel (bodyOf Tryz.f118) p)
def m118_1_1_0_1_0_0 (j : Nat → Value) : Env := #[x0, x1, x2, v3, x4, (j 5), x6, x7, x8, x9, x10, v11, (j 12), (j 13), (j 14), (j 15), (j 16), (j 17), (j 18), (j 19), (j 20), (j 21), (j 22), x23, x24, x25, x26, x27, x28, x29, x30, x31, x32, x33, x34, x35]
def m118_1_1_1_1_0_1_0_0 (j : Nat → Value) : Env := #[x0, x1, x2, x3, x4, x5, v6, x7, (j 8), x9, x10, x11, x12, x13, x14, x15, x16, x17, x18, x19, x20, x21, x22, x23, x24, x25, x26, v27, (j 28), (j 29), (j 30), (j 31), (j 32), (j 33), (j 34), x35]
theorem t118 : d118 [] (q118 K E) #[x0, U, U, U, U, U, U, U, U, U, U, U, U, U, U, U, U, U, U, U, U, U, U, U, U, U, U, U, U, U, U, U, U, U, U, U] =
  pv (lenV x0) fun t1 =>
  lp (fun k1 => d118 [1, 1, 0, 1, 0, 0] (thenD k1 (blk 0 (thenD (d118 [1, 1, 1] (q118 K E)) (q118 K E))))) (m118_1_1_0_1_0_0 x0 U (.slice none 0 0) U U U U x0 t1 U U U U U U U U U U U U U (.int .i64 0) (.int .i64 0) (jf #[])) := by kernel_rfl
theorem t118_1_1_0_1_0_0 : d118 [1, 1, 0, 1, 0, 0] (thenD k1 (blk 0 (thenD (d118 [1, 1, 1] (q118 K E)) (q118 K E)))) (m118_1_1_0_1_0_0 x0 x1 x2 x4 x6 x7 x8 x9 x10 x23 x24 x25 x26 x27 x28 x29 x30 x31 x32 x33 x34 x35 v3 v11 j) =
  pv (binV .none .lss v11 x10) fun t1 =>
  cnd t1 (
   pv (iaV none 1 x9 v11) fun t2 =>
   ld false 1 t2 fun t3 =>
   pv (lenV t3) fun t4 =>
   pv (binV .none .add v3 t4) fun t5 =>
   pv (binV .none .lss t5 (.int .i64 0)) fun t6 =>
   cnd t6 (
    pv (ifcV 9 (.string ⟨#[108, 101, 110, 32, 111, 117, 116, 32, 111, 102, 32, 114, 97, 110, 103, 101]⟩)) fun t7 =>
    pnc t7 E fun _ =>
    d118 [1, 1, 0, 1, 0, 0, 1, 1, 1] (thenD k1 (blk 0 (thenD (d118 [1, 1, 1] (q118 K E)) (q118 K E)))) #[x0, x1, x2, t5, x4, t3, x6, x7, x8, x9, x10, v11, t1, t2, t3, v3, t3, t4, t5, t5, t6, t7, (j 22), x23, x24, x25, x26, x27, x28, x29, x30, x31, x32, x33, x34, x35]) (
    d118 [1, 1, 0, 1, 0, 0, 1, 1, 1] (thenD k1 (blk 0 (thenD (d118 [1, 1, 1] (q118 K E)) (q118 K E)))) #[x0, x1, x2, t5, x4, t3, x6, x7, x8, x9, x10, v11, t1, t2, t3, v3, t3, t4, t5, t5, t6, (j 21), (j 22), x23, x24, x25, x26, x27, x28, x29, x30, x31, x32, x33, x34, x35])) (
   callv Tryz.prog (.func (.func 152) #[] #[]) #[(.slice none 0 0), v3] (fun t8 =>
   pv (lenV x0) fun t9 =>
   lp (fun k1 => d118 [1, 1, 1, 1, 0, 1, 0, 0] (thenD k1 (blk 2 (thenD (d118 [1, 1, 1, 1, 1] (q118 K E)) (q118 K E))))) (m118_1_1_1_1_0_1_0_0 x0 x1 x2 v3 x4 (j 5) x7 x9 x10 v11 t1 (j 13) (j 14) (j 15) (j 16) (j 17) (j 18) (j 19) (j 20) (j 21) (j 22) v3 t8 x0 t9 x35 t8 (.int .i64 0) (jf #[U, U, U, U, U, U, U, U, x8, U, U, U, U, U, U, U, U, U, U, U, U, U, U, U, U, U, U, U, x28, x29, x30, x31, x32, x33, x34]))) E) := by kernel_rfl
theorem t118_1_1_0_1_0_0_1_1_1 : d118 [1, 1, 0, 1, 0, 0, 1, 1, 1] (thenD k1 (blk 0 (thenD (d118 [1, 1, 1] (q118 K E)) (q118 K E)))) #[x0, x1, x2, x3, x4, x5, x6, x7, x8, x9, x10, x11, x12, x13, x14, x15, x16, x17, x18, x19, x20, x21, x22, x23, x24, x25, x26, x27, x28, x29, x30, x31, x32, x33, x34, x35] =
  pv (binV .none .add x11 (.int .i64 1)) fun t1 =>
  k1 (m118_1_1_0_1_0_0 x0 x1 x2 x4 x6 x7 x8 x9 x10 x23 x24 x25 x26 x27 x28 x29 x30 x31 x32 x33 x34 x35 x3 t1 (jf #[U, U, U, U, U, x5, U, U, U, U, U, U, x12, x13, x14, x15, x16, x17, x18, x19, x20, x21, t1])) := by kernel_rfl
theorem t118_1_1_1_1_0_1_0_0 : d118 [1, 1, 1, 1, 0, 1, 0, 0] (thenD k1 (blk 2 (thenD (d118 [1, 1, 1, 1, 1] (q118 K E)) (q118 K E)))) (m118_1_1_1_1_0_1_0_0 x0 x1 x2 x3 x4 x5 x7 x9 x10 x11 x12 x13 x14 x15 x16 x17 x18 x19 x20 x21 x22 x23 x24 x25 x26 x35 v6 v27 j) =
  pv (binV .none .lss v27 x26) fun t1 =>
  cnd t1 (
   pv (iaV none 1 x25 v27) fun t2 =>
   ld false 1 t2 fun t3 =>
   appX 90 2 32 v6 t3 fun t4 =>
   pv (binV .none .add v27 (.int .i64 1)) fun t5 =>
   k1 (m118_1_1_1_1_0_1_0_0 x0 x1 x2 x3 x4 x5 x7 x9 x10 x11 x12 x13 x14 x15 x16 x17 x18 x19 x20 x21 x22 x23 x24 x25 x26 x35 t4 t5 (jf #[U, U, U, U, U, U, U, U, t3, U, U, U, U, U, U, U, U, U, U, U, U, U, U, U, U, U, U, U, t1, t2, t3, v6, t3, t4, t5]))) (
   K v6) := by kernel_rfl
abbrev q90 : QD := bodyQ Tryz.prog Tryz.f90.results.toList K E
abbrev d90 (p : List Nat) : QD → Env → Hp → Prop := den Tryz.prog (sel (bodyOf Tryz.f90) p)
theorem t90 : d90 [] (q90 K E) #[x0, x1, U, U, U, U, U, U, U] =
  callv Tryz.prog (.func (.func 117) #[] #[]) #[x0, x1] (fun t1 =>
  pv (binV .none .geq t1 (.int .i64 0)) fun t2 =>
  K t2) E := by kernel_rfl
abbrev q53 : QD := bodyQ Tryz.prog Tryz.f53.results.toList K E
abbrev d53 (p : List Nat) : QD → Env → Hp → Prop := den Tryz.prog (sel (bodyOf Tryz.f53) p)
theorem t53 : d53 [] (q53 K E) #[x0, x1, U, U, U, U, U, U, U] =
  callv Tryz.prog (.func (.func 85) #[] #[]) #[x0, x1] (fun t1 =>
  pv (binV .none .geq t1 (.int .i64 0)) fun t2 =>
  K t2) E := by kernel_rfl
abbrev q163 : QD := bodyQ Tryz.prog Tryz.f163.results.toList K E
abbrev d163 (p : List Nat) : QD → Env → Hp → Prop := den Tryz.prog (sel (bodyOf Tryz.f163) p)
theorem t163 : d163 [] (q163 K E) #[x0, x1, U, U, U, U, U, U, U] =
  callv Tryz.prog (.func (.func 181) #[] #[]) #[x0, x1] (fun t1 =>
  pv (binV .none .geq t1 (.int .i64 0)) fun t2 =>
  K t2) E := by kernel_rfl
abbrev q96 : QD := bodyQ Tryz.prog Tryz.f96.results.toList K E
abbrev d96 (p : List Nat) : QD → Env → Hp → Prop := den Tryz.prog (sel (bodyOf Tryz.f96) p)
theorem t96 : d96 [] (q96 K E) #[x0, x1, U, U, U, U, U, U, U] =
  callv Tryz.prog (.func (.func 120) #[] #[]) #[x0, x1] (fun t1 =>
  pv (binV .none .geq t1 (.int .i64 0)) fun t2 =>
  K t2) E := by kernel_rfl
abbrev q75 : QD := bodyQ Tryz.prog Tryz.f75.results.toList K E
abbrev d75 (p : List Nat) : QD → Env → Hp → Prop := den Tryz.prog (sel (bodyOf Tryz.f75) p)
def m75_1_1_1_0_1_0_0 (j : Nat → Value) : Env := #[x0, x1, x2, x3, x4, v5, v6, (j 7), x8, x9, x10, x11, x12, x13, x14, x15, (j 16), (j 17), (j 18), (j 19), (j 20), (j 21), (j 22), (j 23), (j 24), (j 25), (j 26), (j 27), (j 28), (j 29), (j 30), (j 31), (j 32), (j 33), (j 34), (j 35), x36, x37, x38, x39, x40, x41]
theorem t75 : d75 [] (q75 K E) #[x0, x1, U, U, U, U, U, U, U, U, U, U, U, U, U, U, U, U, U, U, U, U, U, U, U, U, U, U, U, U, U, U, U, U, U, U, U, U, U, U, U, U] =
  callv Tryz.prog (.func (.func 85) #[] #[]) #[x0, x1] (fun t1 =>
  pv (binV .none .eql t1 (.int .i64 (-1))) fun t2 =>
  cnd t2 (
   K x0) (
   pv (binV .none .add t1 (.int .i64 1)) fun t3 =>
   lp (fun k1 => d75 [1, 1, 1, 0, 1, 0, 0] (thenD k1 (blk 0 (thenD (d75 [1, 1, 1, 1] (q75 K E)) (q75 K E))))) (m75_1_1_1_0_1_0_0 x0 x1 U U (.slice none 0 0) x0 x1 t1 t1 t2 U t1 t3 U U U U U U t1 t3 (jf #[])))) E := by kernel_rfl
theorem t75_1_1_1_0_1_0_0 : d75 [1, 1, 1, 0, 1, 0, 0] (thenD k1 (blk 0 (thenD (d75 [1, 1, 1, 1] (q75 K E)) (q75 K E)))) (m75_1_1_1_0_1_0_0 x0 x1 x2 x3 x4 x8 x9 x10 x11 x12 x13 x14 x15 x36 x37 x38 x39 x40 x41 v5 v6 j) =
  pv (lenV x0) fun t1 =>
  pv (binV .none .lss v6 t1) fun t2 =>
  cnd t2 (
   pv (iaV none 2 x0 v6) fun t3 =>
   ld true 2 t3 fun t4 =>
   nw 90 [(.slice none 0 0), (.int .i64 0)] fun t5 =>
   st 2 t5 t4 fun _ =>
   ld true 2 t5 fun t6 =>
   callv Tryz.prog x1 #[t6] (fun t7 =>
   pv (unV .not t7) fun t8 =>
   cnd t8 (
    ld true 2 t5 fun t9 =>
    pv (iaV none 2 x0 v5) fun t10 =>
    st 2 t10 t9 fun _ =>
    pv (binV .none .add v5 (.int .i64 1)) fun t11 =>
    d75 [1, 1, 1, 0, 1, 0, 0, 1, 1] (thenD k1 (blk 0 (thenD (d75 [1, 1, 1, 1] (q75 K E)) (q75 K E)))) #[x0, x1, x2, x3, x4, t11, v6, t5, x8, x9, x10, x11, x12, x13, x14, x15, v6, x0, t1, t2, (j 20), (j 21), x0, v6, t3, t4, x1, t6, t7, t8, x0, v5, t9, t10, v5, t11, x36, x37, x38, x39, x40, x41]) (
    d75 [1, 1, 1, 0, 1, 0, 0, 1, 1] (thenD k1 (blk 0 (thenD (d75 [1, 1, 1, 1] (q75 K E)) (q75 K E)))) #[x0, x1, x2, x3, x4, v5, v6, t5, x8, x9, x10, x11, x12, x13, x14, x15, v6, x0, t1, t2, (j 20), (j 21), x0, v6, t3, t4, x1, t6, t7, t8, (j 30), (j 31), (j 32), (j 33), (j 34), (j 35), x36, x37, x38, x39, x40, x41])) E) (
   pv (slV 2 x0 (some v5) none none) fun t12 =>
   clr 90 [(.slice none 0 0), (.int .i64 0)] 2 t12 fun _ =>
   pv (slV 2 x0 none (some v5) none) fun t13 =>
   K t13) := by kernel_rfl
theorem t75_1_1_1_0_1_0_0_1_1 : d75 [1, 1, 1, 0, 1, 0, 0, 1, 1] (thenD k1 (blk 0 (thenD (d75 [1, 1, 1, 1] (q75 K E)) (q75 K E)))) #[x0, x1, x2, x3, x4, x5, x6, x7, x8, x9, x10, x11, x12, x13, x14, x15, x16, x17, x18, x19, x20, x21, x22, x23, x24, x25, x26, x27, x28, x29, x30, x31, x32, x33, x34, x35, x36, x37, x38, x39, x40, x41] =
  pv (binV .none .add x6 (.int .i64 1)) fun t1 =>
  k1 (m75_1_1_1_0_1_0_0 x0 x1 x2 x3 x4 x8 x9 x10 x11 x12 x13 x14 x15 x36 x37 x38 x39 x40 x41 x5 t1 (jf #[U, U, U, U, U, U, U, x7, U, U, U, U, U, U, U, U, x16, x17, x18, x19, x6, t1, x22, x23, x24, x25, x26, x27, x28, x29, x30, x31, x32, x33, x34, x35])) := by kernel_rfl
abbrev q86 : QD := bodyQ Tryz.prog Tryz.f86.results.toList K E
abbrev d86 (p : List Nat) : QD → Env → Hp → Prop := den Tryz.prog (sel (bodyOf Tryz.f86) p)
def m86_1_1_0_1_0_0 (j : Nat → Value) : Env := #[x0, x1, x2, x3, x4, x5, (j 6), (j 7), (j 8), (j 9), x10, x11, x12, x13, x14, x15, x16, v17, (j 18), (j 19), (j 20), (j 21), (j 22), (j 23), (j 24), (j 25), (j 26), (j 27), (j 28), (j 29), (j 30), (j 31)]
theorem t86 : d86 [] (q86 K E) #[x0, x1, x2, U, U, U, U, U, U, U, U, U, U, U, U, U, U, U, U, U, U, U, U, U, U, U, U, U, U, U, U, U] =
  pv (lenV x0) fun t1 =>
  pv (lenV x1) fun t2 =>
  pv (binV .none .neq t1 t2) fun t3 =>
  cnd t3 (
   K (.bool false)) (
   pv (lenV x0) fun t4 =>
   lp (fun k1 => d86 [1, 1, 0, 1, 0, 0] (thenD k1 (blk 0 (thenD (d86 [1, 1, 1] (q86 K E)) (q86 K E))))) (m86_1_1_0_1_0_0 x0 x1 x2 U U U x0 t1 x1 t2 t3 x0 t4 (.int .i64 0) (jf #[U, U, U, U, U, U, (.bool false)]))) := by kernel_rfl
theorem t86_1_1_0_1_0_0 : d86 [1, 1, 0, 1, 0, 0] (thenD k1 (blk 0 (thenD (d86 [1, 1, 1] (q86 K E)) (q86 K E)))) (m86_1_1_0_1_0_0 x0 x1 x2 x3 x4 x5 x10 x11 x12 x13 x14 x15 x16 v17 j) =
  pv (binV .none .lss v17 x16) fun t1 =>
  cnd t1 (
   pv (iaV none 2 x15 v17) fun t2 =>
   ld true 2 t2 fun t3 =>
   nw 88 [(.int .i64 0), (.slice none 0 0)] fun t4 =>
   st 2 t4 t3 fun _ =>
   pv (iaV none 1 x1 v17) fun t5 =>
   ld false 1 t5 fun t6 =>
   ld true 2 t4 fun t7 =>
   callv Tryz.prog x2 #[t7, t6] (fun t8 =>
   pv (unV .not t8) fun t9 =>
   cnd t9 (
    K (.bool false)) (
    pv (binV .none .add v17 (.int .i64 1)) fun t10 =>
    k1 (m86_1_1_0_1_0_0 x0 x1 x2 x3 x4 x5 x10 x11 x12 x13 x14 x15 x16 t10 (jf #[U, U, U, U, U, U, (j 6), v17, t4, t6, U, U, U, U, U, U, U, U, t1, v17, t2, t3, x1, v17, t5, t6, x2, t7, t6, t8, t9, t10])))) E) (
   K (.bool true)) := by kernel_rfl
abbrev q152 : QD := bodyQ Tryz.prog Tryz.f152.results.toList K E
abbrev d152 (p : List Nat) : QD → Env → Hp → Prop := den Tryz.prog (sel (bodyOf Tryz.f152) p)
theorem t152 : d152 [] (q152 K E) #[x0, x1, U, U, U, U, U, U, U, U, U, U, U, U, U, U, U, U, U, U, U, U, U, U, U, U, U] =
  pv (binV .none .lss x1 (.int .i64 0)) fun t1 =>
  cnd t1 (
   pv (ifcV 9 (.string ⟨#[99, 97, 110, 110, 111, 116, 32, 98, 101, 32, 110, 101, 103, 97, 116, 105, 118, 101]⟩)) fun t2 =>
   pnc t2 E fun _ =>
   d152 [1, 1] (q152 K E) #[x0, x1, U, U, (.slice none 0 0), x1, t1, t2, U, U, U, U, U, U, U, U, U, U, U, U, U, U, U, U, U, U, U]) (
   d152 [1, 1] (q152 K E) #[x0, x1, U, U, (.slice none 0 0), x1, t1, U, U, U, U, U, U, U, U, U, U, U, U, U, U, U, U, U, U, U, U]) := by kernel_rfl
theorem t152_1_1 : d152 [1, 1] (q152 K E) #[x0, x1, x2, x3, x4, x5, x6, x7, x8, x9, x10, x11, x12, x13, x14, x15, x16, x17, x18, x19, x20, x21, x22, x23, x24, x25, x26] =
  pv (capV x0) fun t1 =>
  pv (lenV x0) fun t2 =>
  pv (binV .none .sub t1 t2) fun t3 =>
  pv (binV .none .sub x1 t3) fun t4 =>
  pv (binV .none .gtr t4 (.int .i64 0)) fun t5 =>
  cnd t5 (
   pv (capV x0) fun t6 =>
   pv (slV 2 x0 none (some t6) none) fun t7 =>
   appZ 90 [(.slice none 0 0), (.int .i64 0)] 2 32 t7 t4 fun t8 =>
   pv (lenV x0) fun t9 =>
   pv (slV 2 t8 none (some t9) none) fun t10 =>
   d152 [1, 1, 1] (q152 K E) #[t10, t4, x2, x3, x4, x5, x6, x7, x1, x0, t1, x0, t2, t3, t4, t4, t5, x0, x0, t6, t7, t4, t8, x0, t9, t10, x26]) (
   d152 [1, 1, 1] (q152 K E) #[x0, t4, x2, x3, x4, x5, x6, x7, x1, x0, t1, x0, t2, t3, t4, t4, t5, x17, x18, x19, x20, x21, x22, x23, x24, x25, x26]) := by kernel_rfl
theorem t152_1_1_1 : d152 [1, 1, 1] (q152 K E) #[x0, x1, x2, x3, x4, x5, x6, x7, x8, x9, x10, x11, x12, x13, x14, x15, x16, x17, x18, x19, x20, x21, x22, x23, x24, x25, x26] =
  K x0 := by kernel_rfl
abbrev q117 : QD := bodyQ Tryz.prog Tryz.f117.results.toList K E
abbrev d117 (p : List Nat) : QD → Env → Hp → Prop := den Tryz.prog (sel (bodyOf Tryz.f117) p)
def m117_1_0_1_0_0 (j : Nat → Value) : Env := #[x0, x1, x2, x3, (j 4), (j 5), x6, x7, v8, (j 9), (j 10), (j 11), (j 12), (j 13), (j 14), (j 15), (j 16), (j 17), (j 18)]
theorem t117 : d117 [] (q117 K E) #[x0, x1, U, U, U, U, U, U, U, U, U, U, U, U, U, U, U, U, U] =
  pv (lenV x0) fun t1 =>
  lp (fun k1 => d117 [1, 0, 1, 0, 0] (thenD k1 (blk 0 (thenD (d117 [1, 1] (q117 K E)) (q117 K E))))) (m117_1_0_1_0_0 x0 x1 U U x0 t1 (.int .i64 0) (jf #[U, U, U, U, (.int .i64 0)])) := by kernel_rfl
theorem t117_1_0_1_0_0 : d117 [1, 0, 1, 0, 0] (thenD k1 (blk 0 (thenD (d117 [1, 1] (q117 K E)) (q117 K E)))) (m117_1_0_1_0_0 x0 x1 x2 x3 x6 x7 v8 j) =
  pv (binV .none .lss v8 x7) fun t1 =>
  cnd t1 (
   pv (iaV none 2 x0 v8) fun t2 =>
   ld true 2 t2 fun t3 =>
   callv Tryz.prog x1 #[t3] (fun t4 =>
   cnd t4 (
    K v8) (
    pv (binV .none .add v8 (.int .i64 1)) fun t5 =>
    k1 (m117_1_0_1_0_0 x0 x1 x2 x3 x6 x7 t5 (jf #[U, U, U, U, (j 4), v8, U, U, U, t1, v8, x1, x0, v8, t2, t3, t4, (j 17), t5])))) E) (
   K (.int .i64 (-1))) := by kernel_rfl
abbrev q85 : QD := bodyQ Tryz.prog Tryz.f85.results.toList K E
abbrev d85 (p : List Nat) : QD → Env → Hp → Prop := den Tryz.prog (sel (bodyOf Tryz.f85) p)
def m85_1_0_1_0_0 (j : Nat → Value) : Env := #[x0, x1, x2, x3, (j 4), (j 5), x6, x7, v8, (j 9), (j 10), (j 11), (j 12), (j 13), (j 14), (j 15), (j 16), (j 17), (j 18)]
theorem t85 : d85 [] (q85 K E) #[x0, x1, U, U, U, U, U, U, U, U, U, U, U, U, U, U, U, U, U] =
  pv (lenV x0) fun t1 =>
  lp (fun k1 => d85 [1, 0, 1, 0, 0] (thenD k1 (blk 0 (thenD (d85 [1, 1] (q85 K E)) (q85 K E))))) (m85_1_0_1_0_0 x0 x1 U U x0 t1 (.int .i64 0) (jf #[U, U, U, U, (.int .i64 0)])) := by kernel_rfl
theorem t85_1_0_1_0_0 : d85 [1, 0, 1, 0, 0] (thenD k1 (blk 0 (thenD (d85 [1, 1] (q85 K E)) (q85 K E)))) (m85_1_0_1_0_0 x0 x1 x2 x3 x6 x7 v8 j) =
  pv (binV .none .lss v8 x7) fun t1 =>
  cnd t1 (
   pv (iaV none 2 x0 v8) fun t2 =>
   ld true 2 t2 fun t3 =>
   callv Tryz.prog x1 #[t3] (fun t4 =>
   cnd t4 (
    K v8) (
    pv (binV .none .add v8 (.int .i64 1)) fun t5 =>
    k1 (m85_1_0_1_0_0 x0 x1 x2 x3 x6 x7 t5 (jf #[U, U, U, U, (j 4), v8, U, U, U, t1, v8, x1, x0, v8, t2, t3, t4, (j 17), t5])))) E) (
   K (.int .i64 (-1))) := by kernel_rfl
abbrev q181 : QD := bodyQ Tryz.prog Tryz.f181.results.toList K E
abbrev d181 (p : List Nat) : QD → Env → Hp → Prop := den Tryz.prog (sel (bodyOf Tryz.f181) p)
def m181_1_0_1_0_0 (j : Nat → Value) : Env := #[x0, x1, x2, x3, (j 4), (j 5), x6, x7, v8, (j 9), (j 10), (j 11), (j 12), (j 13), (j 14), (j 15), (j 16), (j 17), (j 18)]
theorem t181 : d181 [] (q181 K E) #[x0, x1, U, U, U, U, U, U, U, U, U, U, U, U, U, U, U, U, U] =
  pv (lenV x0) fun t1 =>
  lp (fun k1 => d181 [1, 0, 1, 0, 0] (thenD k1 (blk 0 (thenD (d181 [1, 1] (q181 K E)) (q181 K E))))) (m181_1_0_1_0_0 x0 x1 U U x0 t1 (.int .i64 0) (jf #[U, U, U, U, (.int .i64 0)])) := by kernel_rfl
theorem t181_1_0_1_0_0 : d181 [1, 0, 1, 0, 0] (thenD k1 (blk 0 (thenD (d181 [1, 1] (q181 K E)) (q181 K E)))) (m181_1_0_1_0_0 x0 x1 x2 x3 x6 x7 v8 j) =
  pv (binV .none .lss v8 x7) fun t1 =>
  cnd t1 (
   pv (iaV none 1 x0 v8) fun t2 =>
   ld false 1 t2 fun t3 =>
   callv Tryz.prog x1 #[t3] (fun t4 =>
   cnd t4 (
    K v8) (
    pv (binV .none .add v8 (.int .i64 1)) fun t5 =>
    k1 (m181_1_0_1_0_0 x0 x1 x2 x3 x6 x7 t5 (jf #[U, U, U, U, (j 4), v8, U, U, U, t1, v8, x1, x0, v8, t2, t3, t4, (j 17), t5])))) E) (
   K (.int .i64 (-1))) := by kernel_rfl
abbrev q120 : QD := bodyQ Tryz.prog Tryz.f120.results.toList K E
abbrev d120 (p : List Nat) : QD → Env → Hp → Prop := den Tryz.prog (sel (bodyOf Tryz.f120) p)
def m120_1_0_1_0_0 (j : Nat → Value) : Env := #[x0, x1, x2, x3, (j 4), (j 5), x6, x7, v8, (j 9), (j 10), (j 11), (j 12), (j 13), (j 14), (j 15), (j 16), (j 17), (j 18)]
theorem t120 : d120 [] (q120 K E) #[x0, x1, U, U, U, U, U, U, U, U, U, U, U, U, U, U, U, U, U] =
  pv (lenV x0) fun t1 =>
  lp (fun k1 => d120 [1, 0, 1, 0, 0] (thenD k1 (blk 0 (thenD (d120 [1, 1] (q120 K E)) (q120 K E))))) (m120_1_0_1_0_0 x0 x1 U U x0 t1 (.int .i64 0) (jf #[U, U, U, U, (.int .i64 0)])) := by kernel_rfl
theorem t120_1_0_1_0_0 : d120 [1, 0, 1, 0, 0] (thenD k1 (blk 0 (thenD (d120 [1, 1] (q120 K E)) (q120 K E)))) (m120_1_0_1_0_0 x0 x1 x2 x3 x6 x7 v8 j) =
  pv (binV .none .lss v8 x7) fun t1 =>
  cnd t1 (
   pv (iaV none 2 x0 v8) fun t2 =>
   ld true 2 t2 fun t3 =>
   callv Tryz.prog x1 #[t3] (fun t4 =>
   cnd t4 (
    K v8) (
    pv (binV .none .add v8 (.int .i64 1)) fun t5 =>
    k1 (m120_1_0_1_0_0 x0 x1 x2 x3 x6 x7 t5 (jf #[U, U, U, U, (j 4), v8, U, U, U, t1, v8, x1, x0, v8, t2, t3, t4, (j 17), t5])))) E) (
   K (.int .i64 (-1))) := by kernel_rfl
abbrev q119 : QD := bodyQ Tryz.prog Tryz.f119.results.toList K E
abbrev d119 (p : List Nat) : QD → Env → Hp → Prop := den Tryz.prog (sel (bodyOf Tryz.f119) p)
theorem t119 : d119 [] (q119 K E) #[x0, x1, x2, U, U, U, U, U, U, U, U, U, U, U, U, U, U, U, U, U, U, U, U, U, U, U, U, U, U, U, U, U, U, U, U, U, U, U, U, U, U, U, U, U, U, U, U, U, U, U, U, U, U, U, U, U, U, U, U, U, U, U, U, U, U, U, U, U, U, U, U, U, U, U, U, U, U, U, U, U, U, U, U, U, U, U, U, U, U, U, U, U, U, U, U] =
  pv (slV 2 x0 (some x1) none none) fun t1 =>
  pv (lenV x2) fun t2 =>
  pv (binV .none .eql t2 (.int .i64 0)) fun t3 =>
  cnd t3 (
   K x0) (
   pv (lenV x0) fun t4 =>
   pv (binV .none .eql x1 t4) fun t5 =>
   cnd t5 (
    appX 74 2 32 x0 x2 fun t6 =>
    K t6) (
    pv (binV .none .add t4 t2) fun t7 =>
    pv (capV x0) fun t8 =>
    pv (binV .none .gtr t7 t8) fun t9 =>
    cnd t9 (
     pv (slV 2 x0 none (some x1) none) fun t10 =>
     pv (binV .none .add t4 t2) fun t11 =>
     pv (binV .none .sub t11 x1) fun t12 =>
     appZ 74 [(.int .u32 0), (.slice none 0 0)] 2 32 t10 t12 fun t13 =>
     pv (slV 2 t13 (some x1) none none) fun t14 =>
     cpy 2 t14 x2 fun t15 =>
     pv (binV .none .add x1 t2) fun t16 =>
     pv (slV 2 t13 (some t16) none none) fun t17 =>
     pv (slV 2 x0 (some x1) none none) fun t18 =>
     cpy 2 t17 t18 fun t19 =>
     K t13) (
     pv (binV .none .add t4 t2) fun t20 =>
     pv (slV 2 x0 none (some t20) none) fun t21 =>
     pv (binV .none .add x1 t2) fun t22 =>
     pv (slV 2 t21 (some t22) none none) fun t23 =>
     callv Tryz.prog (.func (.func 153) #[] #[]) #[x2, t23] (fun t24 =>
     pv (unV .not t24) fun t25 =>
     cnd t25 (
      pv (binV .none .add x1 t2) fun t26 =>
      pv (slV 2 t21 (some t26) none none) fun t27 =>
      pv (slV 2 t21 (some x1) none none) fun t28 =>
      cpy 2 t27 t28 fun t29 =>
      pv (slV 2 t21 (some x1) none none) fun t30 =>
      cpy 2 t30 x2 fun t31 =>
      K t21) (
      pv (slV 2 t21 (some t4) none none) fun t32 =>
      cpy 2 t32 x2 fun t33 =>
      pv (slV 2 t21 (some x1) none none) fun t34 =>
      callv Tryz.prog (.func (.func 154) #[] #[]) #[t34, t2] (fun t35 =>
      K t21) E)) E))) := by kernel_rfl
end
section
variable {K : Kont} {E : PanK} {k1 k2 k3 k4 k5 : Env → Hp → Prop} {σ : Type} {x0 x1 x2 x3 x4 x5 x6 x7 x8 x9 x10 x11 x12 x13 x14 x15 x16 x17 x18 x19 x20 x21 x22 x23 x24 x25 x26 x27 x28 x29 x30 x31 x32 x33 x34 x35 x36 x37 x38 x39 x40 x41 x42 x43 x44 x45 x46 x47 x48 x49 x50 x51 x52 x53 x54 x55 x56 x57 x58 x59 x60 x61 x62 x63 x64 x65 x66 x67 x68 x69 x70 x71 x72 x73 x74 x75 x76 x77 x78 x79 x80 x81 x82 x83 x84 x85 x86 x87 x88 x89 x90 x91 x92 x93 x94 v0 v1 v2 v3 v4 v5 v6 v7 v8 v9 v10 v11 v12 v13 v14 v15 v16 v17 v18 v19 v20 v21 v22 v23 v24 v25 v26 v27 v28 v29 v30 v31 v32 v33 v34 v35 v36 v37 v38 v39 v40 v41 v42 v43 v44 v45 v46 v47 v48 v49 v50 v51 v52 v53 v54 v55 v56 v57 v58 v59 v60 v61 v62 v63 v64 v65 v66 v67 v68 v69 v70 v71 v72 v73 v74 v75 v76 v77 v78 v79 v80 v81 v82 v83 v84 v85 v86 v87 v88 v89 v90 v91 v92 v93 v94 : Value} {h : Hp} {j : Nat → Value}
theorem l100_1_1_1_0_0_0 (f9 f10 : σ → Value) (I : σ → Hp → Prop) (μ : σ → Nat) (s0 : σ) (e9 : v9 = f9 s0) (e10 : v10 = f10 s0) (h0 : h.wf → ∃ h', h.wk h' ∧ I s0 h')
 (round : ∀ (k1 : Env → Hp → Prop) (s : σ) (j : Nat → Value) (h : Hp), I s h → h.wf → (∀ s' j' h', μ s' < μ s → (h'.wf → ∃ h'', h'.wk h'' ∧ I s' h'') → k1 (m100_1_1_1_0_0_0 x0 x1 x2 x3 x4 x5 x6 x7 x8 x12 x13 x14 x35 x36 x37 x38 x39 x40 x41 x42 x43 x44 x45 x46 x47 x48 (f9 s') (f10 s') j') h') → d100 [1, 1, 1, 0, 0, 0] (thenD k1 (blk 0 (thenD (d100 [1, 1, 1, 1] (q100 K E)) (q100 K E)))) (m100_1_1_1_0_0_0 x0 x1 x2 x3 x4 x5 x6 x7 x8 x12 x13 x14 x35 x36 x37 x38 x39 x40 x41 x42 x43 x44 x45 x46 x47 x48 (f9 s) (f10 s) j) h) :
 lp (fun k1 => d100 [1, 1, 1, 0, 0, 0] (thenD k1 (blk 0 (thenD (d100 [1, 1, 1, 1] (q100 K E)) (q100 K E))))) (m100_1_1_1_0_0_0 x0 x1 x2 x3 x4 x5 x6 x7 x8 x12 x13 x14 x35 x36 x37 x38 x39 x40 x41 x42 x43 x44 x45 x46 x47 x48 v9 v10 j) h := by
 subst e9
 subst e10
 exact loop_r (fun s j => m100_1_1_1_0_0_0 x0 x1 x2 x3 x4 x5 x6 x7 x8 x12 x13 x14 x35 x36 x37 x38 x39 x40 x41 x42 x43 x44 x45 x46 x47 x48 (f9 s) (f10 s) j) I μ round s0 j h0
theorem l118_1_1_0_1_0_0 (f3 f11 : σ → Value) (I : σ → Hp → Prop) (μ : σ → Nat) (s0 : σ) (e3 : v3 = f3 s0) (e11 : v11 = f11 s0) (h0 : h.wf → ∃ h', h.wk h' ∧ I s0 h')
 (round : ∀ (k1 : Env → Hp → Prop) (s : σ) (j : Nat → Value) (h : Hp), I s h → h.wf → (∀ s' j' h', μ s' < μ s → (h'.wf → ∃ h'', h'.wk h'' ∧ I s' h'') → k1 (m118_1_1_0_1_0_0 x0 x1 x2 x4 x6 x7 x8 x9 x10 x23 x24 x25 x26 x27 x28 x29 x30 x31 x32 x33 x34 x35 (f3 s') (f11 s') j') h') → d118 [1, 1, 0, 1, 0, 0] (thenD k1 (blk 0 (thenD (d118 [1, 1, 1] (q118 K E)) (q118 K E)))) (m118_1_1_0_1_0_0 x0 x1 x2 x4 x6 x7 x8 x9 x10 x23 x24 x25 x26 x27 x28 x29 x30 x31 x32 x33 x34 x35 (f3 s) (f11 s) j) h) :
 lp (fun k1 => d118 [1, 1, 0, 1, 0, 0] (thenD k1 (blk 0 (thenD (d118 [1, 1, 1] (q118 K E)) (q118 K E))))) (m118_1_1_0_1_0_0 x0 x1 x2 x4 x6 x7 x8 x9 x10 x23 x24 x25 x26 x27 x28 x29 x30 x31 x32 x33 x34 x35 v3 v11 j) h := by
 subst e3
 subst e11
 exact loop_r (fun s j => m118_1_1_0_1_0_0 x0 x1 x2 x4 x6 x7 x8 x9 x10 x23 x24 x25 x26 x27 x28 x29 x30 x31 x32 x33 x34 x35 (f3 s) (f11 s) j) I μ round s0 j h0
theorem l118_1_1_1_1_0_1_0_0 (f6 f27 : σ → Value) (I : σ → Hp → Prop) (μ : σ → Nat) (s0 : σ) (e6 : v6 = f6 s0) (e27 : v27 = f27 s0) (h0 : h.wf → ∃ h', h.wk h' ∧ I s0 h')
 (round : ∀ (k1 : Env → Hp → Prop) (s : σ) (j : Nat → Value) (h : Hp), I s h → h.wf → (∀ s' j' h', μ s' < μ s → (h'.wf → ∃ h'', h'.wk h'' ∧ I s' h'') → k1 (m118_1_1_1_1_0_1_0_0 x0 x1 x2 x3 x4 x5 x7 x9 x10 x11 x12 x13 x14 x15 x16 x17 x18 x19 x20 x21 x22 x23 x24 x25 x26 x35 (f6 s') (f27 s') j') h') → d118 [1, 1, 1, 1, 0, 1, 0, 0] (thenD k1 (blk 2 (thenD (d118 [1, 1, 1, 1, 1] (q118 K E)) (q118 K E)))) (m118_1_1_1_1_0_1_0_0 x0 x1 x2 x3 x4 x5 x7 x9 x10 x11 x12 x13 x14 x15 x16 x17 x18 x19 x20 x21 x22 x23 x24 x25 x26 x35 (f6 s) (f27 s) j) h) :
 lp (fun k1 => d118 [1, 1, 1, 1, 0, 1, 0, 0] (thenD k1 (blk 2 (thenD (d118 [1, 1, 1, 1, 1] (q118 K E)) (q118 K E))))) (m118_1_1_1_1_0_1_0_0 x0 x1 x2 x3 x4 x5 x7 x9 x10 x11 x12 x13 x14 x15 x16 x17 x18 x19 x20 x21 x22 x23 x24 x25 x26 x35 v6 v27 j) h := by
 subst e6
 subst e27
 exact loop_r (fun s j => m118_1_1_1_1_0_1_0_0 x0 x1 x2 x3 x4 x5 x7 x9 x10 x11 x12 x13 x14 x15 x16 x17 x18 x19 x20 x21 x22 x23 x24 x25 x26 x35 (f6 s) (f27 s) j) I μ round s0 j h0
theorem l75_1_1_1_0_1_0_0 (f5 f6 : σ → Value) (I : σ → Hp → Prop) (μ : σ → Nat) (s0 : σ) (e5 : v5 = f5 s0) (e6 : v6 = f6 s0) (h0 : h.wf → ∃ h', h.wk h' ∧ I s0 h')
 (round : ∀ (k1 : Env → Hp → Prop) (s : σ) (j : Nat → Value) (h : Hp), I s h → h.wf → (∀ s' j' h', μ s' < μ s → (h'.wf → ∃ h'', h'.wk h'' ∧ I s' h'') → k1 (m75_1_1_1_0_1_0_0 x0 x1 x2 x3 x4 x8 x9 x10 x11 x12 x13 x14 x15 x36 x37 x38 x39 x40 x41 (f5 s') (f6 s') j') h') → d75 [1, 1, 1, 0, 1, 0, 0] (thenD k1 (blk 0 (thenD (d75 [1, 1, 1, 1] (q75 K E)) (q75 K E)))) (m75_1_1_1_0_1_0_0 x0 x1 x2 x3 x4 x8 x9 x10 x11 x12 x13 x14 x15 x36 x37 x38 x39 x40 x41 (f5 s) (f6 s) j) h) :
 lp (fun k1 => d75 [1, 1, 1, 0, 1, 0, 0] (thenD k1 (blk 0 (thenD (d75 [1, 1, 1, 1] (q75 K E)) (q75 K E))))) (m75_1_1_1_0_1_0_0 x0 x1 x2 x3 x4 x8 x9 x10 x11 x12 x13 x14 x15 x36 x37 x38 x39 x40 x41 v5 v6 j) h := by
 subst e5
 subst e6
 exact loop_r (fun s j => m75_1_1_1_0_1_0_0 x0 x1 x2 x3 x4 x8 x9 x10 x11 x12 x13 x14 x15 x36 x37 x38 x39 x40 x41 (f5 s) (f6 s) j) I μ round s0 j h0
theorem l86_1_1_0_1_0_0 (f17 : σ → Value) (I : σ → Hp → Prop) (μ : σ → Nat) (s0 : σ) (e17 : v17 = f17 s0) (h0 : h.wf → ∃ h', h.wk h' ∧ I s0 h')
 (round : ∀ (k1 : Env → Hp → Prop) (s : σ) (j : Nat → Value) (h : Hp), I s h → h.wf → (∀ s' j' h', μ s' < μ s → (h'.wf → ∃ h'', h'.wk h'' ∧ I s' h'') → k1 (m86_1_1_0_1_0_0 x0 x1 x2 x3 x4 x5 x10 x11 x12 x13 x14 x15 x16 (f17 s') j') h') → d86 [1, 1, 0, 1, 0, 0] (thenD k1 (blk 0 (thenD (d86 [1, 1, 1] (q86 K E)) (q86 K E)))) (m86_1_1_0_1_0_0 x0 x1 x2 x3 x4 x5 x10 x11 x12 x13 x14 x15 x16 (f17 s) j) h) :
 lp (fun k1 => d86 [1, 1, 0, 1, 0, 0] (thenD k1 (blk 0 (thenD (d86 [1, 1, 1] (q86 K E)) (q86 K E))))) (m86_1_1_0_1_0_0 x0 x1 x2 x3 x4 x5 x10 x11 x12 x13 x14 x15 x16 v17 j) h := by
 subst e17
 exact loop_r (fun s j => m86_1_1_0_1_0_0 x0 x1 x2 x3 x4 x5 x10 x11 x12 x13 x14 x15 x16 (f17 s) j) I μ round s0 j h0
theorem l117_1_0_1_0_0 (f8 : σ → Value) (I : σ → Hp → Prop) (μ : σ → Nat) (s0 : σ) (e8 : v8 = f8 s0) (h0 : h.wf → ∃ h', h.wk h' ∧ I s0 h')
 (round : ∀ (k1 : Env → Hp → Prop) (s : σ) (j : Nat → Value) (h : Hp), I s h → h.wf → (∀ s' j' h', μ s' < μ s → (h'.wf → ∃ h'', h'.wk h'' ∧ I s' h'') → k1 (m117_1_0_1_0_0 x0 x1 x2 x3 x6 x7 (f8 s') j') h') → d117 [1, 0, 1, 0, 0] (thenD k1 (blk 0 (thenD (d117 [1, 1] (q117 K E)) (q117 K E)))) (m117_1_0_1_0_0 x0 x1 x2 x3 x6 x7 (f8 s) j) h) :
 lp (fun k1 => d117 [1, 0, 1, 0, 0] (thenD k1 (blk 0 (thenD (d117 [1, 1] (q117 K E)) (q117 K E))))) (m117_1_0_1_0_0 x0 x1 x2 x3 x6 x7 v8 j) h := by
 subst e8
 exact loop_r (fun s j => m117_1_0_1_0_0 x0 x1 x2 x3 x6 x7 (f8 s) j) I μ round s0 j h0
theorem l85_1_0_1_0_0 (f8 : σ → Value) (I : σ → Hp → Prop) (μ : σ → Nat) (s0 : σ) (e8 : v8 = f8 s0) (h0 : h.wf → ∃ h', h.wk h' ∧ I s0 h')
 (round : ∀ (k1 : Env → Hp → Prop) (s : σ) (j : Nat → Value) (h : Hp), I s h → h.wf → (∀ s' j' h', μ s' < μ s → (h'.wf → ∃ h'', h'.wk h'' ∧ I s' h'') → k1 (m85_1_0_1_0_0 x0 x1 x2 x3 x6 x7 (f8 s') j') h') → d85 [1, 0, 1, 0, 0] (thenD k1 (blk 0 (thenD (d85 [1, 1] (q85 K E)) (q85 K E)))) (m85_1_0_1_0_0 x0 x1 x2 x3 x6 x7 (f8 s) j) h) :
 lp (fun k1 => d85 [1, 0, 1, 0, 0] (thenD k1 (blk 0 (thenD (d85 [1, 1] (q85 K E)) (q85 K E))))) (m85_1_0_1_0_0 x0 x1 x2 x3 x6 x7 v8 j) h := by
 subst e8
 exact loop_r (fun s j => m85_1_0_1_0_0 x0 x1 x2 x3 x6 x7 (f8 s) j) I μ round s0 j h0
theorem l181_1_0_1_0_0 (f8 : σ → Value) (I : σ → Hp → Prop) (μ : σ → Nat) (s0 : σ) (e8 : v8 = f8 s0) (h0 : h.wf → ∃ h', h.wk h' ∧ I s0 h')
 (round : ∀ (k1 : Env → Hp → Prop) (s : σ) (j : Nat → Value) (h : Hp), I s h → h.wf → (∀ s' j' h', μ s' < μ s → (h'.wf → ∃ h'', h'.wk h'' ∧ I s' h'') → k1 (m181_1_0_1_0_0 x0 x1 x2 x3 x6 x7 (f8 s') j') h') → d181 [1, 0, 1, 0, 0] (thenD k1 (blk 0 (thenD (d181 [1, 1] (q181 K E)) (q181 K E)))) (m181_1_0_1_0_0 x0 x1 x2 x3 x6 x7 (f8 s) j) h) :
 lp (fun k1 => d181 [1, 0, 1, 0, 0] (thenD k1 (blk 0 (thenD (d181 [1, 1] (q181 K E)) (q181 K E))))) (m181_1_0_1_0_0 x0 x1 x2 x3 x6 x7 v8 j) h := by
 subst e8
 exact loop_r (fun s j => m181_1_0_1_0_0 x0 x1 x2 x3 x6 x7 (f8 s) j) I μ round s0 j h0
theorem l120_1_0_1_0_0 (f8 : σ → Value) (I : σ → Hp → Prop) (μ : σ → Nat) (s0 : σ) (e8 : v8 = f8 s0) (h0 : h.wf → ∃ h', h.wk h' ∧ I s0 h')
 (round : ∀ (k1 : Env → Hp → Prop) (s : σ) (j : Nat → Value) (h : Hp), I s h → h.wf → (∀ s' j' h', μ s' < μ s → (h'.wf → ∃ h'', h'.wk h'' ∧ I s' h'') → k1 (m120_1_0_1_0_0 x0 x1 x2 x3 x6 x7 (f8 s') j') h') → d120 [1, 0, 1, 0, 0] (thenD k1 (blk 0 (thenD (d120 [1, 1] (q120 K E)) (q120 K E)))) (m120_1_0_1_0_0 x0 x1 x2 x3 x6 x7 (f8 s) j) h) :
 lp (fun k1 => d120 [1, 0, 1, 0, 0] (thenD k1 (blk 0 (thenD (d120 [1, 1] (q120 K E)) (q120 K E))))) (m120_1_0_1_0_0 x0 x1 x2 x3 x6 x7 v8 j) h := by
 subst e8
 exact loop_r (fun s j => m120_1_0_1_0_0 x0 x1 x2 x3 x6 x7 (f8 s) j) I μ round s0 j h0
end
end Go.Proofs.YtgcmbkoejjcjlaaGreatDoor.T
open Go Go.RowKit Go.Proofs.YtgcmbkoejjcjlaaGreatDoor.K
set_option linter.unusedVariables false
set_option maxRecDepth 100000
namespace Go.Proofs.YtgcmbkoejjcjlaaGreatDoor.T
section
variable (K : Kont) (E : PanK) (k1 k2 k3 k4 k5 : Env → Hp → Prop) (x0 x1 x2 x3 x4 x5 x6 x7 x8 x9 x10 x11 x12 x13 x14 x15 x16 x17 x18 x19 x20 x21 x22 x23 x24 x25 x26 x27 x28 x29 x30 x31 x32 x33 x34 x35 x36 x37 x38 x39 x40 x41 x42 x43 x44 x45 x46 x47 x48 x49 x50 x51 x52 x53 x54 x55 x56 x57 x58 x59 x60 x61 x62 x63 x64 x65 x66 x67 x68 x69 x70 x71 x72 v0 v1 v2 v3 v4 v5 v6 v7 v8 v9 v10 v11 v12 v13 v14 v15 v16 v17 v18 v19 v20 v21 v22 v23 v24 v25 v26 v27 v28 v29 v30 v31 v32 v33 v34 v35 v36 v37 v38 v39 v40 v41 v42 v43 v44 v45 v46 v47 v48 v49 v50 v51 v52 v53 v54 v55 v56 v57 v58 v59 v60 v61 v62 v63 v64 v65 v66 v67 v68 v69 v70 v71 v72 : Value) (j : Nat → Value)
abbrev q43 : QD := bodyQ Tryz.prog Tryz.f43.results.toList K E
abbrev d43 (p : List Nat) : QD → Env → Hp → Prop := den Tryz.prog (sel (bodyOf Tryz.f43) p)
def m43_1_1_0_1_0_0 (j : Nat → Value) : Env := #[x0, x1, x2, x3, x4, v5, v6, (j 7), (j 8), (j 9), (j 10), (j 11), (j 12), (j 13), (j 14), (j 15), (j 16), (j 17), (j 18), (j 19), (j 20), (j 21), (j 22), (j 23), (j 24), (j 25), (j 26), (j 27), (j 28), (j 29), (j 30), (j 31), (j 32), x33]
theorem t43 : d43 [] (q43 K E) #[x0, x1, U, U, U, U, U, U, U, U, U, U, U, U, U, U, U, U, U, U, U, U, U, U, U, U, U, U, U, U, U, U, U, U] =
  lp (fun k1 => d43 [1, 1, 0, 1, 0, 0] (thenD k1 (blk 0 (thenD (d43 [1, 1, 1] (q43 K E)) (q43 K E))))) (m43_1_1_0_1_0_0 x0 x1 U U (.slice none 0 0) U (.slice none 0 0) (.int .i64 0) (jf #[])) := by kernel_rfl
theorem t43_1_1_0_1_0_0 : d43 [1, 1, 0, 1, 0, 0] (thenD k1 (blk 0 (thenD (d43 [1, 1, 1] (q43 K E)) (q43 K E)))) (m43_1_1_0_1_0_0 x0 x1 x2 x3 x4 x33 v5 v6 j) =
  pv (lenV x0) fun t1 =>
  pv (binV .none .lss v6 t1) fun t2 =>
  cnd t2 (
   pv (lenV x1) fun t3 =>
   pv (binV .none .lss v6 t3) fun t4 =>
   cnd t4 (
    pv (iaV none 1 x1 v6) fun t5 =>
    ld false 1 t5 fun t6 =>
    pv (cvV .i64 t6) fun t7 =>
    d43 [1, 1, 0, 1, 0, 0, 1, 0, 0, 1, 1] (blk 1 (thenD (d43 [1, 1, 0, 1, 0, 0, 1, 1] (thenD k1 (blk 0 (thenD (d43 [1, 1, 1] (q43 K E)) (q43 K E))))) (thenD k1 (blk 0 (thenD (d43 [1, 1, 1] (q43 K E)) (q43 K E)))))) #[x0, x1, x2, x3, x4, v5, v6, t7, v6, x0, t1, t2, (j 12), (j 13), v6, x1, t3, t4, x1, v6, t5, t6, t7, (j 23), (j 24), (j 25), (j 26), (j 27), (j 28), (j 29), (j 30), (j 31), (j 32), x33]) (
    d43 [1, 1, 0, 1, 0, 0, 1, 0, 0, 1, 1] (blk 1 (thenD (d43 [1, 1, 0, 1, 0, 0, 1, 1] (thenD k1 (blk 0 (thenD (d43 [1, 1, 1] (q43 K E)) (q43 K E))))) (thenD k1 (blk 0 (thenD (d43 [1, 1, 1] (q43 K E)) (q43 K E)))))) #[x0, x1, x2, x3, x4, v5, v6, (.int .i64 0), v6, x0, t1, t2, (j 12), (j 13), v6, x1, t3, t4, (j 18), (j 19), (j 20), (j 21), (j 22), (j 23), (j 24), (j 25), (j 26), (j 27), (j 28), (j 29), (j 30), (j 31), (j 32), x33])) (
   K v5) := by kernel_rfl
theorem t43_1_1_0_1_0_0_1_0_0_1_1 : d43 [1, 1, 0, 1, 0, 0, 1, 0, 0, 1, 1] (blk 1 (thenD (d43 [1, 1, 0, 1, 0, 0, 1, 1] (thenD k1 (blk 0 (thenD (d43 [1, 1, 1] (q43 K E)) (q43 K E))))) (thenD k1 (blk 0 (thenD (d43 [1, 1, 1] (q43 K E)) (q43 K E)))))) #[x0, x1, x2, x3, x4, x5, x6, x7, x8, x9, x10, x11, x12, x13, x14, x15, x16, x17, x18, x19, x20, x21, x22, x23, x24, x25, x26, x27, x28, x29, x30, x31, x32, x33] =
  pv (iaV none 2 x0 x6) fun t1 =>
  pv (faV 0 t1) fun t2 =>
  ld false 1 t2 fun t3 =>
  pv (binV .none .rem x7 t3) fun t4 =>
  nws 3 1 (bsC #[(.int .i64 0)] 1 1 #[(0, t4)]) fun t5 =>
  appX 3 1 8 x5 t5 fun t6 =>
  pv (binV .none .add x6 (.int .i64 1)) fun t7 =>
  k1 (m43_1_1_0_1_0_0 x0 x1 x2 x3 x4 x33 t6 t7 (jf #[U, U, U, U, U, U, U, x7, x8, x9, x10, x11, x6, t7, x14, x15, x16, x17, x18, x19, x20, x21, x22, x5, x7, x0, x6, t1, t2, t3, t4, t5, t6])) := by kernel_rfl
abbrev q36 : QD := bodyQ Tryz.prog Tryz.f36.results.toList K E
abbrev d36 (p : List Nat) : QD → Env → Hp → Prop := den Tryz.prog (sel (bodyOf Tryz.f36) p)
def m36_1_1_0_1_0_0 (j : Nat → Value) : Env := #[x0, x1, x2, x3, x4, x5, x6, v7, v8, (j 9), (j 10), (j 11), (j 12), (j 13), (j 14), (j 15), (j 16), (j 17), (j 18), (j 19), (j 20), (j 21), (j 22), (j 23), (j 24), (j 25), (j 26), (j 27), (j 28), (j 29), (j 30), (j 31), (j 32), (j 33), (j 34), (j 35), (j 36), (j 37), (j 38), (j 39), (j 40), (j 41), (j 42), (j 43), (j 44), (j 45), (j 46), (j 47), (j 48), (j 49), x50]
theorem t36 : d36 [] (q36 K E) #[x0, x1, x2, U, U, U, U, U, U, U, U, U, U, U, U, U, U, U, U, U, U, U, U, U, U, U, U, U, U, U, U, U, U, U, U, U, U, U, U, U, U, U, U, U, U, U, U, U, U, U, U] =
  lp (fun k1 => d36 [1, 1, 0, 1, 0, 0] (thenD k1 (blk 0 (thenD (d36 [1, 1, 1] (q36 K E)) (q36 K E))))) (m36_1_1_0_1_0_0 x0 x1 x2 U U U (.slice none 0 0) U (.slice none 0 0) (.int .i64 0) (jf #[])) := by kernel_rfl
theorem t36_1_1_0_1_0_0 : d36 [1, 1, 0, 1, 0, 0] (thenD k1 (blk 0 (thenD (d36 [1, 1, 1] (q36 K E)) (q36 K E)))) (m36_1_1_0_1_0_0 x0 x1 x2 x3 x4 x5 x6 x50 v7 v8 j) =
  pv (lenV x0) fun t1 =>
  pv (binV .none .lss v8 t1) fun t2 =>
  cnd t2 (
   pv (lenV x1) fun t3 =>
   pv (binV .none .lss v8 t3) fun t4 =>
   cnd t4 (
    pv (iaV none 1 x1 v8) fun t5 =>
    ld false 1 t5 fun t6 =>
    pv (cvV .i64 t6) fun t7 =>
    d36 [1, 1, 0, 1, 0, 0, 1, 0, 0, 1, 1, 1] (blk 1 (thenD (d36 [1, 1, 0, 1, 0, 0, 1, 1] (thenD k1 (blk 0 (thenD (d36 [1, 1, 1] (q36 K E)) (q36 K E))))) (thenD k1 (blk 0 (thenD (d36 [1, 1, 1] (q36 K E)) (q36 K E)))))) #[x0, x1, x2, x3, x4, x5, x6, v7, v8, t7, (.int .i64 0), v8, x0, t1, t2, (j 15), (j 16), v8, x1, t3, t4, x1, v8, t5, t6, t7, (j 26), (j 27), (j 28), (j 29), (j 30), (j 31), (j 32), (j 33), (j 34), (j 35), (j 36), (j 37), (j 38), (j 39), (j 40), (j 41), (j 42), (j 43), (j 44), (j 45), (j 46), (j 47), (j 48), (j 49), x50]) (
    d36 [1, 1, 0, 1, 0, 0, 1, 0, 0, 1, 1, 1] (blk 1 (thenD (d36 [1, 1, 0, 1, 0, 0, 1, 1] (thenD k1 (blk 0 (thenD (d36 [1, 1, 1] (q36 K E)) (q36 K E))))) (thenD k1 (blk 0 (thenD (d36 [1, 1, 1] (q36 K E)) (q36 K E)))))) #[x0, x1, x2, x3, x4, x5, x6, v7, v8, (.int .i64 0), (.int .i64 0), v8, x0, t1, t2, (j 15), (j 16), v8, x1, t3, t4, (j 21), (j 22), (j 23), (j 24), (j 25), (j 26), (j 27), (j 28), (j 29), (j 30), (j 31), (j 32), (j 33), (j 34), (j 35), (j 36), (j 37), (j 38), (j 39), (j 40), (j 41), (j 42), (j 43), (j 44), (j 45), (j 46), (j 47), (j 48), (j 49), x50])) (
   K v7) := by kernel_rfl
theorem t36_1_1_0_1_0_0_1_0_0_1_1_1 : d36 [1, 1, 0, 1, 0, 0, 1, 0, 0, 1, 1, 1] (blk 1 (thenD (d36 [1, 1, 0, 1, 0, 0, 1, 1] (thenD k1 (blk 0 (thenD (d36 [1, 1, 1] (q36 K E)) (q36 K E))))) (thenD k1 (blk 0 (thenD (d36 [1, 1, 1] (q36 K E)) (q36 K E)))))) #[x0, x1, x2, x3, x4, x5, x6, x7, x8, x9, x10, x11, x12, x13, x14, x15, x16, x17, x18, x19, x20, x21, x22, x23, x24, x25, x26, x27, x28, x29, x30, x31, x32, x33, x34, x35, x36, x37, x38, x39, x40, x41, x42, x43, x44, x45, x46, x47, x48, x49, x50] =
  pv (lenV x2) fun t1 =>
  pv (binV .none .lss x8 t1) fun t2 =>
  cnd t2 (
   pv (iaV none 1 x2 x8) fun t3 =>
   ld false 1 t3 fun t4 =>
   d36 [1, 1, 0, 1, 0, 0, 1, 0, 0, 1, 1, 1, 1] (blk 1 (thenD (d36 [1, 1, 0, 1, 0, 0, 1, 1] (thenD k1 (blk 0 (thenD (d36 [1, 1, 1] (q36 K E)) (q36 K E))))) (thenD k1 (blk 0 (thenD (d36 [1, 1, 1] (q36 K E)) (q36 K E)))))) #[x0, x1, x2, x3, x4, x5, x6, x7, x8, x9, t4, x11, x12, x13, x14, x15, x16, x17, x18, x19, x20, x21, x22, x23, x24, x25, x8, x2, t1, t2, x2, x8, t3, t4, x34, x35, x36, x37, x38, x39, x40, x41, x42, x43, x44, x45, x46, x47, x48, x49, x50]) (
   d36 [1, 1, 0, 1, 0, 0, 1, 0, 0, 1, 1, 1, 1] (blk 1 (thenD (d36 [1, 1, 0, 1, 0, 0, 1, 1] (thenD k1 (blk 0 (thenD (d36 [1, 1, 1] (q36 K E)) (q36 K E))))) (thenD k1 (blk 0 (thenD (d36 [1, 1, 1] (q36 K E)) (q36 K E)))))) #[x0, x1, x2, x3, x4, x5, x6, x7, x8, x9, x10, x11, x12, x13, x14, x15, x16, x17, x18, x19, x20, x21, x22, x23, x24, x25, x8, x2, t1, t2, x30, x31, x32, x33, x34, x35, x36, x37, x38, x39, x40, x41, x42, x43, x44, x45, x46, x47, x48, x49, x50]) := by kernel_rfl
theorem t36_1_1_0_1_0_0_1_0_0_1_1_1_1 : d36 [1, 1, 0, 1, 0, 0, 1, 0, 0, 1, 1, 1, 1] (blk 1 (thenD (d36 [1, 1, 0, 1, 0, 0, 1, 1] (thenD k1 (blk 0 (thenD (d36 [1, 1, 1] (q36 K E)) (q36 K E))))) (thenD k1 (blk 0 (thenD (d36 [1, 1, 1] (q36 K E)) (q36 K E)))))) #[x0, x1, x2, x3, x4, x5, x6, x7, x8, x9, x10, x11, x12, x13, x14, x15, x16, x17, x18, x19, x20, x21, x22, x23, x24, x25, x26, x27, x28, x29, x30, x31, x32, x33, x34, x35, x36, x37, x38, x39, x40, x41, x42, x43, x44, x45, x46, x47, x48, x49, x50] =
  pv (iaV none 2 x0 x8) fun t1 =>
  pv (faV 1 t1) fun t2 =>
  ld false 1 t2 fun t3 =>
  pv (lenV t3) fun t4 =>
  pv (binV .none .add t4 (.int .i64 2)) fun t5 =>
  pv (binV .none .sub t5 x10) fun t6 =>
  pv (binV .none .rem x9 t6) fun t7 =>
  pv (binV .none .add x10 t7) fun t8 =>
  nws 3 1 (bsC #[(.int .i64 0)] 1 1 #[(0, t8)]) fun t9 =>
  appX 3 1 8 x7 t9 fun t10 =>
  pv (binV .none .add x8 (.int .i64 1)) fun t11 =>
  k1 (m36_1_1_0_1_0_0 x0 x1 x2 x3 x4 x5 x6 x50 t10 t11 (jf #[U, U, U, U, U, U, U, U, U, x9, x10, x11, x12, x13, x14, x8, t11, x17, x18, x19, x20, x21, x22, x23, x24, x25, x26, x27, x28, x29, x30, x31, x32, x33, x7, x10, x9, x0, x8, t1, t2, t3, t4, t5, x10, t6, t7, t8, t9, t10])) := by kernel_rfl
abbrev q12 : QD := bodyQ Tryz.prog Tryz.f12.results.toList K E
abbrev d12 (p : List Nat) : QD → Env → Hp → Prop := den Tryz.prog (sel (bodyOf Tryz.f12) p)
def m12_1_1_0_1_0_0 (j : Nat → Value) : Env := #[x0, x1, x2, v3, v4, (j 5), (j 6), (j 7), (j 8), (j 9), (j 10), (j 11), (j 12), (j 13), (j 14), (j 15), (j 16), (j 17), (j 18), (j 19), (j 20), (j 21), (j 22), (j 23), (j 24), (j 25), (j 26), (j 27), (j 28), (j 29), (j 30), (j 31), (j 32), (j 33), (j 34), (j 35), (j 36), (j 37), (j 38), (j 39), (j 40), (j 41), (j 42), (j 43), (j 44), (j 45), (j 46), (j 47), (j 48), (j 49), (j 50), (j 51), (j 52), (j 53), (j 54), (j 55), (j 56), (j 57), (j 58), (j 59), (j 60), (j 61), (j 62), (j 63), x64, x65, x66, x67, x68, x69, x70, x71, x72]
def m12_1_1_0_1_0_0_1_0_0_1_1_0_1_0_0 (j : Nat → Value) : Env := #[x0, x1, x2, x3, x4, x5, v6, v7, x8, x9, x10, x11, x12, x13, x14, x15, x16, x17, x18, x19, x20, x21, x22, x23, x24, x25, x26, (j 27), (j 28), (j 29), (j 30), (j 31), (j 32), (j 33), (j 34), (j 35), (j 36), (j 37), (j 38), (j 39), (j 40), (j 41), (j 42), (j 43), (j 44), (j 45), (j 46), (j 47), (j 48), (j 49), (j 50), (j 51), (j 52), (j 53), (j 54), (j 55), (j 56), (j 57), (j 58), (j 59), x60, x61, x62, x63, x64, x65, x66, x67, x68, x69, x70, x71, x72]
theorem t12 : d12 [] (q12 K E) #[x0, U, U, U, U, U, U, U, U, U, U, U, U, U, U, U, U, U, U, U, U, U, U, U, U, U, U, U, U, U, U, U, U, U, U, U, U, U, U, U, U, U, U, U, U, U, U, U, U, U, U, U, U, U, U, U, U, U, U, U, U, U, U, U, U, U, U, U, U, U, U, U, U] =
  lp (fun k1 => d12 [1, 1, 0, 1, 0, 0] (thenD k1 (blk 0 (thenD (d12 [1, 1, 1] (q12 K E)) (q12 K E))))) (m12_1_1_0_1_0_0 x0 U (.slice none 0 0) U U U U U U U U U (.slice none 0 0) (.int .i64 0) (jf #[])) := by kernel_rfl
theorem t12_1_1_0_1_0_0 : d12 [1, 1, 0, 1, 0, 0] (thenD k1 (blk 0 (thenD (d12 [1, 1, 1] (q12 K E)) (q12 K E)))) (m12_1_1_0_1_0_0 x0 x1 x2 x64 x65 x66 x67 x68 x69 x70 x71 x72 v3 v4 j) =
  pv (lenV x0) fun t1 =>
  pv (binV .none .lss v4 t1) fun t2 =>
  gdK t2 true (fun k => k v4) fun t3 =>
  gdK t2 true (fun k => pv (binV .none .lss t3 (.int .i64 4)) k) fun t4 =>
  pv (pickV t2 t4 (.bool false)) fun t5 =>
  cnd t5 (
   pv (iaV none 2 x0 v4) fun t6 =>
   pv (faV 0 t6) fun t7 =>
   ld false 1 t7 fun t8 =>
   pv (binV .none .rem t8 (.int .u16 200)) fun t9 =>
   pv (cvV .i64 t9) fun t10 =>
   pv (binV .none .add (.int .i64 1) t10) fun t11 =>
   pv (bdC #[(.int .i64 0), (.slice none 0 0)] [(0, 1), (1, 1)] #[(0, t11)]) fun t12 =>
   nw 88 [(.int .i64 0), (.slice none 0 0)] fun t13 =>
   st 2 t13 t12 fun _ =>
   lp (fun k2 => d12 [1, 1, 0, 1, 0, 0, 1, 0, 0, 1, 1, 0, 1, 0, 0] (thenD k2 (blk 2 (thenD (d12 [1, 1, 0, 1, 0, 0, 1, 0, 0, 1, 1, 1] (blk 1 (thenD (d12 [1, 1, 0, 1, 0, 0, 1, 1] (thenD k1 (blk 0 (thenD (d12 [1, 1, 1] (q12 K E)) (q12 K E))))) (thenD k1 (blk 0 (thenD (d12 [1, 1, 1] (q12 K E)) (q12 K E))))))) (blk 1 (thenD (d12 [1, 1, 0, 1, 0, 0, 1, 1] (thenD k1 (blk 0 (thenD (d12 [1, 1, 1] (q12 K E)) (q12 K E))))) (thenD k1 (blk 0 (thenD (d12 [1, 1, 1] (q12 K E)) (q12 K E)))))))))) (m12_1_1_0_1_0_0_1_0_0_1_1_0_1_0_0 x0 x1 x2 v3 v4 t13 v4 x0 t1 t2 t2 t3 t4 t5 (j 16) (j 17) x0 v4 t6 t7 t8 t9 t10 t11 t12 (j 60) (j 61) (j 62) (j 63) x64 x65 x66 x67 x68 x69 x70 x71 x72 (.int .i64 1) (.int .i64 0) (jf #[U, U, U, U, U, U, U, U, U, U, U, U, U, U, U, U, U, U, U, U, U, U, U, U, U, U, U, (j 27), (j 28), (j 29), (j 30), (j 31), (j 32), (j 33), (j 34), (j 35), (j 36), (j 37), (j 38), (j 39), (j 40), (j 41), (j 42), (j 43), (j 44), (j 45), (j 46), (j 47), (j 48), (j 49), (j 50), (j 51), (j 52), (j 53), (j 54), (j 55), (j 56), (j 57), (j 58), (j 59)]))) (
   pv (lenV v3) fun t14 =>
   pv (binV .none .eql t14 (.int .i64 0)) fun t15 =>
   cnd t15 (
    nws 3 1 (bsC #[(.int .i64 0)] 1 1 #[(0, (.int .i64 10))]) fun t16 =>
    pv (bdC #[(.int .i64 0), (.slice none 0 0)] [(0, 1), (1, 1)] #[(0, (.int .i64 100)), (1, t16)]) fun t17 =>
    nws 88 1 (bsC #[(.int .i64 0), (.slice none 0 0)] 2 1 #[(0, t17)]) fun t18 =>
    appX 88 2 32 v3 t18 fun t19 =>
    d12 [1, 1, 1, 1] (q12 K E) #[x0, x1, x2, t19, v4, (j 5), (j 6), (j 7), v4, x0, t1, t2, t2, t3, t4, t5, (j 16), (j 17), (j 18), (j 19), (j 20), (j 21), (j 22), (j 23), (j 24), (j 25), (j 26), (j 27), (j 28), (j 29), (j 30), (j 31), (j 32), (j 33), (j 34), (j 35), (j 36), (j 37), (j 38), (j 39), (j 40), (j 41), (j 42), (j 43), (j 44), (j 45), (j 46), (j 47), (j 48), (j 49), (j 50), (j 51), (j 52), (j 53), (j 54), (j 55), (j 56), (j 57), (j 58), (j 59), (j 60), (j 61), (j 62), (j 63), v3, t14, t15, v3, t16, t17, t18, t19, x72]) (
    d12 [1, 1, 1, 1] (q12 K E) #[x0, x1, x2, v3, v4, (j 5), (j 6), (j 7), v4, x0, t1, t2, t2, t3, t4, t5, (j 16), (j 17), (j 18), (j 19), (j 20), (j 21), (j 22), (j 23), (j 24), (j 25), (j 26), (j 27), (j 28), (j 29), (j 30), (j 31), (j 32), (j 33), (j 34), (j 35), (j 36), (j 37), (j 38), (j 39), (j 40), (j 41), (j 42), (j 43), (j 44), (j 45), (j 46), (j 47), (j 48), (j 49), (j 50), (j 51), (j 52), (j 53), (j 54), (j 55), (j 56), (j 57), (j 58), (j 59), (j 60), (j 61), (j 62), (j 63), v3, t14, t15, x67, x68, x69, x70, x71, x72])) := by kernel_rfl
theorem t12_1_1_0_1_0_0_1_0_0_1_1_0_1_0_0 : d12 [1, 1, 0, 1, 0, 0, 1, 0, 0, 1, 1, 0, 1, 0, 0] (thenD k2 (blk 2 (thenD (d12 [1, 1, 0, 1, 0, 0, 1, 0, 0, 1, 1, 1] (blk 1 (thenD (d12 [1, 1, 0, 1, 0, 0, 1, 1] (thenD k1 (blk 0 (thenD (d12 [1, 1, 1] (q12 K E)) (q12 K E))))) (thenD k1 (blk 0 (thenD (d12 [1, 1, 1] (q12 K E)) (q12 K E))))))) (blk 1 (thenD (d12 [1, 1, 0, 1, 0, 0, 1, 1] (thenD k1 (blk 0 (thenD (d12 [1, 1, 1] (q12 K E)) (q12 K E))))) (thenD k1 (blk 0 (thenD (d12 [1, 1, 1] (q12 K E)) (q12 K E))))))))) (m12_1_1_0_1_0_0_1_0_0_1_1_0_1_0_0 x0 x1 x2 x3 x4 x5 x8 x9 x10 x11 x12 x13 x14 x15 x16 x17 x18 x19 x20 x21 x22 x23 x24 x25 x26 x60 x61 x62 x63 x64 x65 x66 x67 x68 x69 x70 x71 x72 v6 v7 j) =
  pv (iaV none 2 x0 x4) fun t1 =>
  pv (faV 1 t1) fun t2 =>
  ld false 1 t2 fun t3 =>
  pv (lenV t3) fun t4 =>
  pv (binV .none .lss v7 t4) fun t5 =>
  gdK t5 true (fun k => k v7) fun t6 =>
  gdK t5 true (fun k => pv (binV .none .lss t6 (.int .i64 4)) k) fun t7 =>
  pv (pickV t5 t7 (.bool false)) fun t8 =>
  cnd t8 (
   pv (iaV none 2 x0 x4) fun t9 =>
   pv (faV 1 t9) fun t10 =>
   ld false 1 t10 fun t11 =>
   pv (iaV none 1 t11 v7) fun t12 =>
   ld false 1 t12 fun t13 =>
   pv (binV .none .rem t13 (.int .u8 4)) fun t14 =>
   pv (cvV .i64 t14) fun t15 =>
   pv (binV .none .add (.int .i64 2) t15) fun t16 =>
   pv (binV .none .mul v6 t16) fun t17 =>
   pv (faV 1 x5) fun t18 =>
   ld false 1 t18 fun t19 =>
   nws 3 1 (bsC #[(.int .i64 0)] 1 1 #[(0, t17)]) fun t20 =>
   appX 3 1 8 t19 t20 fun t21 =>
   pv (faV 1 x5) fun t22 =>
   st 1 t22 t21 fun _ =>
   pv (binV .none .add v7 (.int .i64 1)) fun t23 =>
   k2 (m12_1_1_0_1_0_0_1_0_0_1_1_0_1_0_0 x0 x1 x2 x3 x4 x5 x8 x9 x10 x11 x12 x13 x14 x15 x16 x17 x18 x19 x20 x21 x22 x23 x24 x25 x26 x60 x61 x62 x63 x64 x65 x66 x67 x68 x69 x70 x71 x72 t17 t23 (jf #[U, U, U, U, U, U, U, U, U, U, U, U, U, U, U, U, U, U, U, U, U, U, U, U, U, U, U, v7, x0, x4, t1, t2, t3, t4, t5, t5, t6, t7, t8, v7, t23, v6, x0, x4, t9, t10, t11, v7, t12, t13, t14, t15, t16, t17, t18, t19, t17, t20, t21, t22]))) (
   ld true 2 x5 fun t24 =>
   nws 88 1 (bsC #[(.int .i64 0), (.slice none 0 0)] 2 1 #[(0, t24)]) fun t25 =>
   appX 88 2 32 x3 t25 fun t26 =>
   pv (binV .none .add x4 (.int .i64 1)) fun t27 =>
   k1 (m12_1_1_0_1_0_0 x0 x1 x2 x64 x65 x66 x67 x68 x69 x70 x71 x72 t26 t27 (jf #[U, U, U, U, U, x5, v6, v7, x8, x9, x10, x11, x12, x13, x14, x15, x4, t27, x18, x19, x20, x21, x22, x23, x24, x25, x26, v7, x0, x4, t1, t2, t3, t4, t5, t5, t6, t7, t8, (j 39), (j 40), (j 41), (j 42), (j 43), (j 44), (j 45), (j 46), (j 47), (j 48), (j 49), (j 50), (j 51), (j 52), (j 53), (j 54), (j 55), (j 56), (j 57), (j 58), (j 59), x3, t24, t25, t26]))) := by kernel_rfl
theorem t12_1_1_1_1 : d12 [1, 1, 1, 1] (q12 K E) #[x0, x1, x2, x3, x4, x5, x6, x7, x8, x9, x10, x11, x12, x13, x14, x15, x16, x17, x18, x19, x20, x21, x22, x23, x24, x25, x26, x27, x28, x29, x30, x31, x32, x33, x34, x35, x36, x37, x38, x39, x40, x41, x42, x43, x44, x45, x46, x47, x48, x49, x50, x51, x52, x53, x54, x55, x56, x57, x58, x59, x60, x61, x62, x63, x64, x65, x66, x67, x68, x69, x70, x71, x72] =
  K x3 := by kernel_rfl
abbrev q20 : QD := bodyQ Tryz.prog Tryz.f20.results.toList K E
abbrev d20 (p : List Nat) : QD → Env → Hp → Prop := den Tryz.prog (sel (bodyOf Tryz.f20) p)
def m20_1_1_0_1_0_0 (j : Nat → Value) : Env := #[x0, x1, x2, x3, x4, x5, x6, v7, v8, (j 9), (j 10), (j 11), (j 12), (j 13), (j 14), (j 15), (j 16), (j 17), (j 18), (j 19), (j 20), (j 21), (j 22), (j 23), (j 24), (j 25), (j 26), (j 27), (j 28), (j 29), (j 30), (j 31), (j 32), (j 33), (j 34), (j 35), (j 36), (j 37), (j 38), (j 39), (j 40), (j 41), x42]
theorem t20 : d20 [] (q20 K E) #[x0, x1, x2, U, U, U, U, U, U, U, U, U, U, U, U, U, U, U, U, U, U, U, U, U, U, U, U, U, U, U, U, U, U, U, U, U, U, U, U, U, U, U, U] =
  lp (fun k1 => d20 [1, 1, 0, 1, 0, 0] (thenD k1 (blk 0 (thenD (d20 [1, 1, 1] (q20 K E)) (q20 K E))))) (m20_1_1_0_1_0_0 x0 x1 x2 U U U (.slice none 0 0) U (.slice none 0 0) (.int .i64 0) (jf #[])) := by kernel_rfl
theorem t20_1_1_0_1_0_0 : d20 [1, 1, 0, 1, 0, 0] (thenD k1 (blk 0 (thenD (d20 [1, 1, 1] (q20 K E)) (q20 K E)))) (m20_1_1_0_1_0_0 x0 x1 x2 x3 x4 x5 x6 x42 v7 v8 j) =
  pv (lenV x1) fun t1 =>
  pv (binV .none .lss v8 t1) fun t2 =>
  gdK t2 true (fun k => k v8) fun t3 =>
  gdK t2 true (fun k => pv (binV .none .lss t3 (.int .i64 200)) k) fun t4 =>
  pv (pickV t2 t4 (.bool false)) fun t5 =>
  cnd t5 (
   pv (iaV none 1 x1 v8) fun t6 =>
   ld false 1 t6 fun t7 =>
   callv Tryz.prog (.func (.func 43) #[] #[]) #[x0, t7] (fun t8 =>
   pv (bdC #[(.slice none 0 0), (.int .i64 0)] [(0, 1), (1, 1)] #[(0, t8)]) fun t9 =>
   nw 90 [(.slice none 0 0), (.int .i64 0)] fun t10 =>
   st 2 t10 t9 fun _ =>
   pv (lenV x2) fun t11 =>
   pv (binV .none .gtr t11 (.int .i64 0)) fun t12 =>
   cnd t12 (
    pv (lenV x2) fun t13 =>
    pv (binV .none .rem v8 t13) fun t14 =>
    pv (iaV none 1 x2 t14) fun t15 =>
    ld false 1 t15 fun t16 =>
    pv (faV 1 t10) fun t17 =>
    st 1 t17 t16 fun _ =>
    d20 [1, 1, 0, 1, 0, 0, 1, 0, 0, 1, 1] (blk 1 (thenD (d20 [1, 1, 0, 1, 0, 0, 1, 1] (thenD k1 (blk 0 (thenD (d20 [1, 1, 1] (q20 K E)) (q20 K E))))) (thenD k1 (blk 0 (thenD (d20 [1, 1, 1] (q20 K E)) (q20 K E)))))) #[x0, x1, x2, x3, x4, x5, x6, v7, v8, t10, v8, x1, t1, t2, t2, t3, t4, t5, (j 18), (j 19), x0, x1, v8, t6, t7, t8, t9, x2, t11, t12, x2, v8, x2, t13, t14, t15, t16, t17, (j 38), (j 39), (j 40), (j 41), x42]) (
    d20 [1, 1, 0, 1, 0, 0, 1, 0, 0, 1, 1] (blk 1 (thenD (d20 [1, 1, 0, 1, 0, 0, 1, 1] (thenD k1 (blk 0 (thenD (d20 [1, 1, 1] (q20 K E)) (q20 K E))))) (thenD k1 (blk 0 (thenD (d20 [1, 1, 1] (q20 K E)) (q20 K E)))))) #[x0, x1, x2, x3, x4, x5, x6, v7, v8, t10, v8, x1, t1, t2, t2, t3, t4, t5, (j 18), (j 19), x0, x1, v8, t6, t7, t8, t9, x2, t11, t12, (j 30), (j 31), (j 32), (j 33), (j 34), (j 35), (j 36), (j 37), (j 38), (j 39), (j 40), (j 41), x42])) E) (
   K v7) := by kernel_rfl
theorem t20_1_1_0_1_0_0_1_0_0_1_1 : d20 [1, 1, 0, 1, 0, 0, 1, 0, 0, 1, 1] (blk 1 (thenD (d20 [1, 1, 0, 1, 0, 0, 1, 1] (thenD k1 (blk 0 (thenD (d20 [1, 1, 1] (q20 K E)) (q20 K E))))) (thenD k1 (blk 0 (thenD (d20 [1, 1, 1] (q20 K E)) (q20 K E)))))) #[x0, x1, x2, x3, x4, x5, x6, x7, x8, x9, x10, x11, x12, x13, x14, x15, x16, x17, x18, x19, x20, x21, x22, x23, x24, x25, x26, x27, x28, x29, x30, x31, x32, x33, x34, x35, x36, x37, x38, x39, x40, x41, x42] =
  ld true 2 x9 fun t1 =>
  nws 90 1 (bsC #[(.slice none 0 0), (.int .i64 0)] 2 1 #[(0, t1)]) fun t2 =>
  appX 90 2 32 x7 t2 fun t3 =>
  pv (binV .none .add x8 (.int .i64 1)) fun t4 =>
  k1 (m20_1_1_0_1_0_0 x0 x1 x2 x3 x4 x5 x6 x42 t3 t4 (jf #[U, U, U, U, U, U, U, U, U, x9, x10, x11, x12, x13, x14, x15, x16, x17, x8, t4, x20, x21, x22, x23, x24, x25, x26, x27, x28, x29, x30, x31, x32, x33, x34, x35, x36, x37, x7, t1, t2, t3])) := by kernel_rfl
abbrev q35 : QD := bodyQ Tryz.prog Tryz.f35.results.toList K E
abbrev d35 (p : List Nat) : QD → Env → Hp → Prop := den Tryz.prog (sel (bodyOf Tryz.f35) p)
def m35_1_1_1_0_1_0_0 (j : Nat → Value) : Env := #[x0, x1, x2, x3, x4, x5, x6, x7, x8, x9, v10, (j 11), x12, x13, x14, x15, x16, x17, (j 18), (j 19), (j 20), (j 21), (j 22), (j 23), (j 24), (j 25), (j 26), (j 27), (j 28), (j 29), (j 30), (j 31), (j 32), (j 33), (j 34), (j 35), (j 36), (j 37), (j 38), (j 39), (j 40), (j 41), (j 42), (j 43), (j 44), (j 45), (j 46), (j 47), (j 48), (j 49), x50, x51]
theorem t35 : d35 [] (q35 K E) #[x0, x1, x2, U, U, U, U, U, U, U, U, U, U, U, U, U, U, U, U, U, U, U, U, U, U, U, U, U, U, U, U, U, U, U, U, U, U, U, U, U, U, U, U, U, U, U, U, U, U, U, U, U] =
  callv Tryz.prog (.func (.func 43) #[] #[]) #[x0, x1] (fun t1 =>
  callv Tryz.prog (.func (.func 43) #[] #[]) #[x0, x2] (fun t2 =>
  lp (fun k1 => d35 [1, 1, 1, 0, 1, 0, 0] (thenD k1 (blk 0 (thenD (d35 [1, 1, 1, 1] (q35 K E)) (q35 K E))))) (m35_1_1_1_0_1_0_0 x0 x1 x2 U U U (.slice none 0 0) (.slice none 0 0) t1 t2 x0 x1 t1 x0 x2 t2 U U (.int .i64 0) (jf #[]))) E) E := by kernel_rfl
theorem t35_1_1_1_0_1_0_0 : d35 [1, 1, 1, 0, 1, 0, 0] (thenD k1 (blk 0 (thenD (d35 [1, 1, 1, 1] (q35 K E)) (q35 K E)))) (m35_1_1_1_0_1_0_0 x0 x1 x2 x3 x4 x5 x6 x7 x8 x9 x12 x13 x14 x15 x16 x17 x50 x51 v10 j) =
  pv (lenV x0) fun t1 =>
  pv (binV .none .lss v10 t1) fun t2 =>
  cnd t2 (
   pv (iaV none 1 x8 v10) fun t3 =>
   ld false 1 t3 fun t4 =>
   pv (iaV none 1 x9 v10) fun t5 =>
   ld false 1 t5 fun t6 =>
   pv (mm false t4 t6) fun t7 =>
   pv (iaV none 1 x8 v10) fun t8 =>
   ld false 1 t8 fun t9 =>
   pv (iaV none 1 x9 v10) fun t10 =>
   ld false 1 t10 fun t11 =>
   pv (mm true t9 t11) fun t12 =>
   pv (binV .none .add t12 (.int .i64 1)) fun t13 =>
   pv (iaV none 1 x9 v10) fun t14 =>
   st 1 t14 t13 fun _ =>
   pv (iaV none 1 x8 v10) fun t15 =>
   st 1 t15 t7 fun _ =>
   pv (binV .none .add v10 (.int .i64 1)) fun t16 =>
   k1 (m35_1_1_1_0_1_0_0 x0 x1 x2 x3 x4 x5 x6 x7 x8 x9 x12 x13 x14 x15 x16 x17 x50 x51 t16 (jf #[U, U, U, U, U, U, U, U, U, U, U, t7, U, U, U, U, U, U, v10, x0, t1, t2, v10, t16, x8, v10, t3, t4, x9, v10, t5, t6, t7, x9, v10, x8, v10, t8, t9, x9, v10, t10, t11, t12, t13, t14, x8, v10, t7, t15]))) (
   K (.tuple #[x8, x9])) := by kernel_rfl
abbrev q17 : QD := bodyQ Tryz.prog Tryz.f17.results.toList K E
abbrev d17 (p : List Nat) : QD → Env → Hp → Prop := den Tryz.prog (sel (bodyOf Tryz.f17) p)
theorem t17 : d17 [] (q17 K E) #[x0, x1, x2, x3, U, U, U, U, U, U, U, U, U, U, U, U, U, U, U, U, U, U, U, U] =
  nw 55 [(.slice none 0 0), (.slice none 0 0), (.slice none 0 0)] fun t1 =>
  callv Tryz.prog (.func (.func 35) #[] #[]) #[x0, x2, x3] (fun t2 =>
  pv (exV 0 t2) fun t3 =>
  pv (exV 1 t2) fun t4 =>
  callv Tryz.prog (.func (.func 36) #[] #[]) #[x0, x1, (.slice none 0 0)] (fun t5 =>
  pv (bdC #[(.slice none 0 0), (.slice none 0 0), (.slice none 0 0)] [(0, 1), (1, 1), (2, 1)] #[(0, t5), (1, t3), (2, t4)]) fun t6 =>
  st 3 t1 t6 fun _ =>
  ld true 3 t1 fun t7 =>
  K t7) E) E := by kernel_rfl
abbrev q178 : QD := bodyQ Tryz.prog Tryz.f178.results.toList K E
abbrev d178 (p : List Nat) : QD → Env → Hp → Prop := den Tryz.prog (sel (bodyOf Tryz.f178) p)
abbrev q151 : QD := bodyQ Tryz.prog Tryz.f151.results.toList K E
abbrev d151 (p : List Nat) : QD → Env → Hp → Prop := den Tryz.prog (sel (bodyOf Tryz.f151) p)
abbrev q173 : QD := bodyQ Tryz.prog Tryz.f173.results.toList K E
abbrev d173 (p : List Nat) : QD → Env → Hp → Prop := den Tryz.prog (sel (bodyOf Tryz.f173) p)
abbrev q175 : QD := bodyQ Tryz.prog Tryz.f175.results.toList K E
abbrev d175 (p : List Nat) : QD → Env → Hp → Prop := den Tryz.prog (sel (bodyOf Tryz.f175) p)
abbrev q44 : QD := bodyQ Tryz.prog Tryz.f44.results.toList K E
abbrev d44 (p : List Nat) : QD → Env → Hp → Prop := den Tryz.prog (sel (bodyOf Tryz.f44) p)
def m44_1_0_1_0_0 (j : Nat → Value) : Env := #[x0, x1, x2, x3, (j 4), v5, (j 6), (j 7), (j 8), (j 9), (j 10), (j 11), (j 12), (j 13), (j 14), (j 15), (j 16), (j 17), (j 18), (j 19), (j 20), (j 21), (j 22), (j 23), (j 24), (j 25), (j 26), (j 27), (j 28), (j 29), (j 30), (j 31), (j 32), (j 33), (j 34), (j 35), x36, x37, x38, x39, x40, x41, x42, x43, x44, x45]
theorem t44 : d44 [] (q44 K E) #[x0, x1, U, U, U, U, U, U, U, U, U, U, U, U, U, U, U, U, U, U, U, U, U, U, U, U, U, U, U, U, U, U, U, U, U, U, U, U, U, U, U, U, U, U, U, U] =
  lp (fun k1 => d44 [1, 0, 1, 0, 0] (thenD k1 (blk 0 (thenD (d44 [1, 1] (q44 K E)) (q44 K E))))) (m44_1_0_1_0_0 x0 x1 U U U U U U U U U U U U (.int .i64 0) (jf #[U, U, U, U, (.int .i64 0)])) := by kernel_rfl
theorem t44_1_0_1_0_0 : d44 [1, 0, 1, 0, 0] (thenD k1 (blk 0 (thenD (d44 [1, 1] (q44 K E)) (q44 K E)))) (m44_1_0_1_0_0 x0 x1 x2 x3 x36 x37 x38 x39 x40 x41 x42 x43 x44 x45 v5 j) =
  pv (lenV x0) fun t1 =>
  pv (binV .none .lss v5 t1) fun t2 =>
  gdK t2 true (fun k => k v5) fun t3 =>
  gdK t2 true (fun k => k x1) fun t4 =>
  gdK t2 true (fun k => pv (lenV t4) k) fun t5 =>
  gdK t2 true (fun k => pv (binV .none .lss t3 t5) k) fun t6 =>
  pv (pickV t2 t6 (.bool false)) fun t7 =>
  cnd t7 (
   pv (iaV none 1 x0 v5) fun t8 =>
   ld false 1 t8 fun t9 =>
   pv (iaV none 1 x1 v5) fun t10 =>
   ld false 1 t10 fun t11 =>
   pv (binV .none .lss t9 t11) fun t12 =>
   cnd t12 (
    K (.int .i64 (-1))) (
    pv (iaV none 1 x0 v5) fun t13 =>
    ld false 1 t13 fun t14 =>
    pv (iaV none 1 x1 v5) fun t15 =>
    ld false 1 t15 fun t16 =>
    pv (binV .none .gtr t14 t16) fun t17 =>
    cnd t17 (
     K (.int .i64 1)) (
     pv (binV .none .add v5 (.int .i64 1)) fun t18 =>
     k1 (m44_1_0_1_0_0 x0 x1 x2 x3 x36 x37 x38 x39 x40 x41 x42 x43 x44 x45 t18 (jf #[U, U, U, U, (j 4), U, v5, x0, t1, t2, t2, t3, t4, t5, t6, t7, v5, t18, x0, v5, t8, t9, x1, v5, t10, t11, t12, x0, v5, t13, t14, x1, v5, t15, t16, t17]))))) (
   pv (lenV x0) fun t19 =>
   pv (lenV x1) fun t20 =>
   pv (binV .none .lss t19 t20) fun t21 =>
   cnd t21 (
    K (.int .i64 (-1))) (
    pv (lenV x0) fun t22 =>
    pv (lenV x1) fun t23 =>
    pv (binV .none .gtr t22 t23) fun t24 =>
    cnd t24 (
     K (.int .i64 1)) (
     K (.int .i64 0)))) := by kernel_rfl
abbrev q56 : QD := bodyQ Tryz.prog Tryz.f56.results.toList K E
abbrev d56 (p : List Nat) : QD → Env → Hp → Prop := den Tryz.prog (sel (bodyOf Tryz.f56) p)
abbrev q171 : QD := bodyQ Tryz.prog Tryz.f171.results.toList K E
abbrev d171 (p : List Nat) : QD → Env → Hp → Prop := den Tryz.prog (sel (bodyOf Tryz.f171) p)
abbrev q79 : QD := bodyQ Tryz.prog Tryz.f79.results.toList K E
abbrev d79 (p : List Nat) : QD → Env → Hp → Prop := den Tryz.prog (sel (bodyOf Tryz.f79) p)
abbrev q193 : QD := bodyQ Tryz.prog Tryz.f193.results.toList K E
abbrev d193 (p : List Nat) : QD → Env → Hp → Prop := den Tryz.prog (sel (bodyOf Tryz.f193) p)
abbrev q112 : QD := bodyQ Tryz.prog Tryz.f112.results.toList K E
abbrev d112 (p : List Nat) : QD → Env → Hp → Prop := den Tryz.prog (sel (bodyOf Tryz.f112) p)
end
section
variable {K : Kont} {E : PanK} {k1 k2 k3 k4 k5 : Env → Hp → Prop} {σ : Type} {x0 x1 x2 x3 x4 x5 x6 x7 x8 x9 x10 x11 x12 x13 x14 x15 x16 x17 x18 x19 x20 x21 x22 x23 x24 x25 x26 x27 x28 x29 x30 x31 x32 x33 x34 x35 x36 x37 x38 x39 x40 x41 x42 x43 x44 x45 x46 x47 x48 x49 x50 x51 x52 x53 x54 x55 x56 x57 x58 x59 x60 x61 x62 x63 x64 x65 x66 x67 x68 x69 x70 x71 x72 v0 v1 v2 v3 v4 v5 v6 v7 v8 v9 v10 v11 v12 v13 v14 v15 v16 v17 v18 v19 v20 v21 v22 v23 v24 v25 v26 v27 v28 v29 v30 v31 v32 v33 v34 v35 v36 v37 v38 v39 v40 v41 v42 v43 v44 v45 v46 v47 v48 v49 v50 v51 v52 v53 v54 v55 v56 v57 v58 v59 v60 v61 v62 v63 v64 v65 v66 v67 v68 v69 v70 v71 v72 : Value} {h : Hp} {j : Nat → Value}
theorem l43_1_1_0_1_0_0 (f5 f6 : σ → Value) (I : σ → Hp → Prop) (μ : σ → Nat) (s0 : σ) (e5 : v5 = f5 s0) (e6 : v6 = f6 s0) (h0 : h.wf → ∃ h', h.wk h' ∧ I s0 h')
 (round : ∀ (k1 : Env → Hp → Prop) (s : σ) (j : Nat → Value) (h : Hp), I s h → h.wf → (∀ s' j' h', μ s' < μ s → (h'.wf → ∃ h'', h'.wk h'' ∧ I s' h'') → k1 (m43_1_1_0_1_0_0 x0 x1 x2 x3 x4 x33 (f5 s') (f6 s') j') h') → d43 [1, 1, 0, 1, 0, 0] (thenD k1 (blk 0 (thenD (d43 [1, 1, 1] (q43 K E)) (q43 K E)))) (m43_1_1_0_1_0_0 x0 x1 x2 x3 x4 x33 (f5 s) (f6 s) j) h) :
 lp (fun k1 => d43 [1, 1, 0, 1, 0, 0] (thenD k1 (blk 0 (thenD (d43 [1, 1, 1] (q43 K E)) (q43 K E))))) (m43_1_1_0_1_0_0 x0 x1 x2 x3 x4 x33 v5 v6 j) h := by
 subst e5
 subst e6
 exact loop_r (fun s j => m43_1_1_0_1_0_0 x0 x1 x2 x3 x4 x33 (f5 s) (f6 s) j) I μ round s0 j h0
theorem l36_1_1_0_1_0_0 (f7 f8 : σ → Value) (I : σ → Hp → Prop) (μ : σ → Nat) (s0 : σ) (e7 : v7 = f7 s0) (e8 : v8 = f8 s0) (h0 : h.wf → ∃ h', h.wk h' ∧ I s0 h')
 (round : ∀ (k1 : Env → Hp → Prop) (s : σ) (j : Nat → Value) (h : Hp), I s h → h.wf → (∀ s' j' h', μ s' < μ s → (h'.wf → ∃ h'', h'.wk h'' ∧ I s' h'') → k1 (m36_1_1_0_1_0_0 x0 x1 x2 x3 x4 x5 x6 x50 (f7 s') (f8 s') j') h') → d36 [1, 1, 0, 1, 0, 0] (thenD k1 (blk 0 (thenD (d36 [1, 1, 1] (q36 K E)) (q36 K E)))) (m36_1_1_0_1_0_0 x0 x1 x2 x3 x4 x5 x6 x50 (f7 s) (f8 s) j) h) :
 lp (fun k1 => d36 [1, 1, 0, 1, 0, 0] (thenD k1 (blk 0 (thenD (d36 [1, 1, 1] (q36 K E)) (q36 K E))))) (m36_1_1_0_1_0_0 x0 x1 x2 x3 x4 x5 x6 x50 v7 v8 j) h := by
 subst e7
 subst e8
 exact loop_r (fun s j => m36_1_1_0_1_0_0 x0 x1 x2 x3 x4 x5 x6 x50 (f7 s) (f8 s) j) I μ round s0 j h0
theorem l12_1_1_0_1_0_0 (f3 f4 : σ → Value) (I : σ → Hp → Prop) (μ : σ → Nat) (s0 : σ) (e3 : v3 = f3 s0) (e4 : v4 = f4 s0) (h0 : h.wf → ∃ h', h.wk h' ∧ I s0 h')
 (round : ∀ (k1 : Env → Hp → Prop) (s : σ) (j : Nat → Value) (h : Hp), I s h → h.wf → (∀ s' j' h', μ s' < μ s → (h'.wf → ∃ h'', h'.wk h'' ∧ I s' h'') → k1 (m12_1_1_0_1_0_0 x0 x1 x2 x64 x65 x66 x67 x68 x69 x70 x71 x72 (f3 s') (f4 s') j') h') → d12 [1, 1, 0, 1, 0, 0] (thenD k1 (blk 0 (thenD (d12 [1, 1, 1] (q12 K E)) (q12 K E)))) (m12_1_1_0_1_0_0 x0 x1 x2 x64 x65 x66 x67 x68 x69 x70 x71 x72 (f3 s) (f4 s) j) h) :
 lp (fun k1 => d12 [1, 1, 0, 1, 0, 0] (thenD k1 (blk 0 (thenD (d12 [1, 1, 1] (q12 K E)) (q12 K E))))) (m12_1_1_0_1_0_0 x0 x1 x2 x64 x65 x66 x67 x68 x69 x70 x71 x72 v3 v4 j) h := by
 subst e3
 subst e4
 exact loop_r (fun s j => m12_1_1_0_1_0_0 x0 x1 x2 x64 x65 x66 x67 x68 x69 x70 x71 x72 (f3 s) (f4 s) j) I μ round s0 j h0
theorem l12_1_1_0_1_0_0_1_0_0_1_1_0_1_0_0 (f6 f7 : σ → Value) (I : σ → Hp → Prop) (μ : σ → Nat) (s0 : σ) (e6 : v6 = f6 s0) (e7 : v7 = f7 s0) (h0 : h.wf → ∃ h', h.wk h' ∧ I s0 h')
 (round : ∀ (k2 : Env → Hp → Prop) (s : σ) (j : Nat → Value) (h : Hp), I s h → h.wf → (∀ s' j' h', μ s' < μ s → (h'.wf → ∃ h'', h'.wk h'' ∧ I s' h'') → k2 (m12_1_1_0_1_0_0_1_0_0_1_1_0_1_0_0 x0 x1 x2 x3 x4 x5 x8 x9 x10 x11 x12 x13 x14 x15 x16 x17 x18 x19 x20 x21 x22 x23 x24 x25 x26 x60 x61 x62 x63 x64 x65 x66 x67 x68 x69 x70 x71 x72 (f6 s') (f7 s') j') h') → d12 [1, 1, 0, 1, 0, 0, 1, 0, 0, 1, 1, 0, 1, 0, 0] (thenD k2 (blk 2 (thenD (d12 [1, 1, 0, 1, 0, 0, 1, 0, 0, 1, 1, 1] (blk 1 (thenD (d12 [1, 1, 0, 1, 0, 0, 1, 1] (thenD k1 (blk 0 (thenD (d12 [1, 1, 1] (q12 K E)) (q12 K E))))) (thenD k1 (blk 0 (thenD (d12 [1, 1, 1] (q12 K E)) (q12 K E))))))) (blk 1 (thenD (d12 [1, 1, 0, 1, 0, 0, 1, 1] (thenD k1 (blk 0 (thenD (d12 [1, 1, 1] (q12 K E)) (q12 K E))))) (thenD k1 (blk 0 (thenD (d12 [1, 1, 1] (q12 K E)) (q12 K E))))))))) (m12_1_1_0_1_0_0_1_0_0_1_1_0_1_0_0 x0 x1 x2 x3 x4 x5 x8 x9 x10 x11 x12 x13 x14 x15 x16 x17 x18 x19 x20 x21 x22 x23 x24 x25 x26 x60 x61 x62 x63 x64 x65 x66 x67 x68 x69 x70 x71 x72 (f6 s) (f7 s) j) h) :
 lp (fun k2 => d12 [1, 1, 0, 1, 0, 0, 1, 0, 0, 1, 1, 0, 1, 0, 0] (thenD k2 (blk 2 (thenD (d12 [1, 1, 0, 1, 0, 0, 1, 0, 0, 1, 1, 1] (blk 1 (thenD (d12 [1, 1, 0, 1, 0, 0, 1, 1] (thenD k1 (blk 0 (thenD (d12 [1, 1, 1] (q12 K E)) (q12 K E))))) (thenD k1 (blk 0 (thenD (d12 [1, 1, 1] (q12 K E)) (q12 K E))))))) (blk 1 (thenD (d12 [1, 1, 0, 1, 0, 0, 1, 1] (thenD k1 (blk 0 (thenD (d12 [1, 1, 1] (q12 K E)) (q12 K E))))) (thenD k1 (blk 0 (thenD (d12 [1, 1, 1] (q12 K E)) (q12 K E)))))))))) (m12_1_1_0_1_0_0_1_0_0_1_1_0_1_0_0 x0 x1 x2 x3 x4 x5 x8 x9 x10 x11 x12 x13 x14 x15 x16 x17 x18 x19 x20 x21 x22 x23 x24 x25 x26 x60 x61 x62 x63 x64 x65 x66 x67 x68 x69 x70 x71 x72 v6 v7 j) h := by
 subst e6
 subst e7
 exact loop_r (fun s j => m12_1_1_0_1_0_0_1_0_0_1_1_0_1_0_0 x0 x1 x2 x3 x4 x5 x8 x9 x10 x11 x12 x13 x14 x15 x16 x17 x18 x19 x20 x21 x22 x23 x24 x25 x26 x60 x61 x62 x63 x64 x65 x66 x67 x68 x69 x70 x71 x72 (f6 s) (f7 s) j) I μ round s0 j h0
theorem l20_1_1_0_1_0_0 (f7 f8 : σ → Value) (I : σ → Hp → Prop) (μ : σ → Nat) (s0 : σ) (e7 : v7 = f7 s0) (e8 : v8 = f8 s0) (h0 : h.wf → ∃ h', h.wk h' ∧ I s0 h')
 (round : ∀ (k1 : Env → Hp → Prop) (s : σ) (j : Nat → Value) (h : Hp), I s h → h.wf → (∀ s' j' h', μ s' < μ s → (h'.wf → ∃ h'', h'.wk h'' ∧ I s' h'') → k1 (m20_1_1_0_1_0_0 x0 x1 x2 x3 x4 x5 x6 x42 (f7 s') (f8 s') j') h') → d20 [1, 1, 0, 1, 0, 0] (thenD k1 (blk 0 (thenD (d20 [1, 1, 1] (q20 K E)) (q20 K E)))) (m20_1_1_0_1_0_0 x0 x1 x2 x3 x4 x5 x6 x42 (f7 s) (f8 s) j) h) :
 lp (fun k1 => d20 [1, 1, 0, 1, 0, 0] (thenD k1 (blk 0 (thenD (d20 [1, 1, 1] (q20 K E)) (q20 K E))))) (m20_1_1_0_1_0_0 x0 x1 x2 x3 x4 x5 x6 x42 v7 v8 j) h := by
 subst e7
 subst e8
 exact loop_r (fun s j => m20_1_1_0_1_0_0 x0 x1 x2 x3 x4 x5 x6 x42 (f7 s) (f8 s) j) I μ round s0 j h0
theorem l35_1_1_1_0_1_0_0 (f10 : σ → Value) (I : σ → Hp → Prop) (μ : σ → Nat) (s0 : σ) (e10 : v10 = f10 s0) (h0 : h.wf → ∃ h', h.wk h' ∧ I s0 h')
 (round : ∀ (k1 : Env → Hp → Prop) (s : σ) (j : Nat → Value) (h : Hp), I s h → h.wf → (∀ s' j' h', μ s' < μ s → (h'.wf → ∃ h'', h'.wk h'' ∧ I s' h'') → k1 (m35_1_1_1_0_1_0_0 x0 x1 x2 x3 x4 x5 x6 x7 x8 x9 x12 x13 x14 x15 x16 x17 x50 x51 (f10 s') j') h') → d35 [1, 1, 1, 0, 1, 0, 0] (thenD k1 (blk 0 (thenD (d35 [1, 1, 1, 1] (q35 K E)) (q35 K E)))) (m35_1_1_1_0_1_0_0 x0 x1 x2 x3 x4 x5 x6 x7 x8 x9 x12 x13 x14 x15 x16 x17 x50 x51 (f10 s) j) h) :
 lp (fun k1 => d35 [1, 1, 1, 0, 1, 0, 0] (thenD k1 (blk 0 (thenD (d35 [1, 1, 1, 1] (q35 K E)) (q35 K E))))) (m35_1_1_1_0_1_0_0 x0 x1 x2 x3 x4 x5 x6 x7 x8 x9 x12 x13 x14 x15 x16 x17 x50 x51 v10 j) h := by
 subst e10
 exact loop_r (fun s j => m35_1_1_1_0_1_0_0 x0 x1 x2 x3 x4 x5 x6 x7 x8 x9 x12 x13 x14 x15 x16 x17 x50 x51 (f10 s) j) I μ round s0 j h0
theorem l44_1_0_1_0_0 (f5 : σ → Value) (I : σ → Hp → Prop) (μ : σ → Nat) (s0 : σ) (e5 : v5 = f5 s0) (h0 : h.wf → ∃ h', h.wk h' ∧ I s0 h')
 (round : ∀ (k1 : Env → Hp → Prop) (s : σ) (j : Nat → Value) (h : Hp), I s h → h.wf → (∀ s' j' h', μ s' < μ s → (h'.wf → ∃ h'', h'.wk h'' ∧ I s' h'') → k1 (m44_1_0_1_0_0 x0 x1 x2 x3 x36 x37 x38 x39 x40 x41 x42 x43 x44 x45 (f5 s') j') h') → d44 [1, 0, 1, 0, 0] (thenD k1 (blk 0 (thenD (d44 [1, 1] (q44 K E)) (q44 K E)))) (m44_1_0_1_0_0 x0 x1 x2 x3 x36 x37 x38 x39 x40 x41 x42 x43 x44 x45 (f5 s) j) h) :
 lp (fun k1 => d44 [1, 0, 1, 0, 0] (thenD k1 (blk 0 (thenD (d44 [1, 1] (q44 K E)) (q44 K E))))) (m44_1_0_1_0_0 x0 x1 x2 x3 x36 x37 x38 x39 x40 x41 x42 x43 x44 x45 v5 j) h := by
 subst e5
 exact loop_r (fun s j => m44_1_0_1_0_0 x0 x1 x2 x3 x36 x37 x38 x39 x40 x41 x42 x43 x44 x45 (f5 s) j) I μ round s0 j h0
end
end Go.Proofs.YtgcmbkoejjcjlaaGreatDoor.T
open Go Go.RowKit Go.Proofs.YtgcmbkoejjcjlaaGreatDoor.K
set_option linter.unusedVariables false
set_option maxRecDepth 100000
namespace Go.Proofs.YtgcmbkoejjcjlaaGreatDoor.T
section
variable (K : Kont) (E : PanK) (k1 k2 k3 k4 k5 : Env → Hp → Prop) (x0 x1 x2 x3 x4 x5 x6 x7 x8 x9 x10 x11 x12 x13 x14 x15 x16 x17 x18 x19 x20 x21 x22 x23 x24 x25 x26 x27 x28 x29 x30 x31 x32 x33 x34 x35 x36 x37 x38 x39 x40 x41 x42 x43 x44 x45 x46 x47 x48 x49 x50 x51 x52 x53 x54 x55 x56 x57 x58 x59 x60 x61 x62 x63 x64 x65 x66 x67 x68 x69 x70 x71 x72 x73 x74 x75 x76 v0 v1 v2 v3 v4 v5 v6 v7 v8 v9 v10 v11 v12 v13 v14 v15 v16 v17 v18 v19 v20 v21 v22 v23 v24 v25 v26 v27 v28 v29 v30 v31 v32 v33 v34 v35 v36 v37 v38 v39 v40 v41 v42 v43 v44 v45 v46 v47 v48 v49 v50 v51 v52 v53 v54 v55 v56 v57 v58 v59 v60 v61 v62 v63 v64 v65 v66 v67 v68 v69 v70 v71 v72 v73 v74 v75 v76 : Value) (j : Nat → Value)
abbrev q150 : QD := bodyQ Tryz.prog Tryz.f150.results.toList K E
abbrev d150 (p : List Nat) : QD → Env → Hp → Prop := den Tryz.prog (sel (bodyOf Tryz.f150) p)
abbrev q116 : QD := bodyQ Tryz.prog Tryz.f116.results.toList K E
abbrev d116 (p : List Nat) : QD → Env → Hp → Prop := den Tryz.prog (sel (bodyOf Tryz.f116) p)
abbrev q148 : QD := bodyQ Tryz.prog Tryz.f148.results.toList K E
abbrev d148 (p : List Nat) : QD → Env → Hp → Prop := den Tryz.prog (sel (bodyOf Tryz.f148) p)
abbrev q21 : QD := bodyQ Tryz.prog Tryz.f21.results.toList K E
abbrev d21 (p : List Nat) : QD → Env → Hp → Prop := den Tryz.prog (sel (bodyOf Tryz.f21) p)
def m21_1_1_0_1_0_0 (j : Nat → Value) : Env := #[x0, x1, x2, x3, (j 4), v5, x6, x7, x8, x9, x10, (j 11), (j 12), (j 13), (j 14), (j 15), (j 16), (j 17), (j 18), (j 19), (j 20), (j 21), (j 22), (j 23), (j 24), (j 25), (j 26), (j 27), (j 28), (j 29), (j 30), (j 31), (j 32), (j 33), (j 34), (j 35), (j 36), (j 37), (j 38), (j 39), (j 40), (j 41)]
theorem t21 : d21 [] (q21 K E) #[x0, x1, U, U, U, U, U, U, U, U, U, U, U, U, U, U, U, U, U, U, U, U, U, U, U, U, U, U, U, U, U, U, U, U, U, U, U, U, U, U, U, U] =
  pv (lenV x0) fun t1 =>
  pv (lenV x1) fun t2 =>
  pv (binV .none .neq t1 t2) fun t3 =>
  cnd t3 (
   K (.bool false)) (
   lp (fun k1 => d21 [1, 1, 0, 1, 0, 0] (thenD k1 (blk 0 (thenD (d21 [1, 1, 1] (q21 K E)) (q21 K E))))) (m21_1_1_0_1_0_0 x0 x1 U U x0 t1 x1 t2 t3 (.int .i64 0) (jf #[U, U, U, U, (.bool false)]))) := by kernel_rfl
theorem t21_1_1_0_1_0_0 : d21 [1, 1, 0, 1, 0, 0] (thenD k1 (blk 0 (thenD (d21 [1, 1, 1] (q21 K E)) (q21 K E)))) (m21_1_1_0_1_0_0 x0 x1 x2 x3 x6 x7 x8 x9 x10 v5 j) =
  pv (lenV x0) fun t1 =>
  pv (binV .none .lss v5 t1) fun t2 =>
  cnd t2 (
   pv (iaV none 5 x0 v5) fun t3 =>
   pv (faV 0 t3) fun t4 =>
   ld false 1 t4 fun t5 =>
   pv (iaV none 5 x1 v5) fun t6 =>
   pv (faV 0 t6) fun t7 =>
   ld false 1 t7 fun t8 =>
   callv Tryz.prog (.func (.func 44) #[] #[]) #[t5, t8] (fun t9 =>
   pv (binV .none .neq t9 (.int .i64 0)) fun t10 =>
   gdK t10 false (fun k => k x0) fun t11 =>
   gdK t10 false (fun k => k v5) fun t12 =>
   gdK t10 false (fun k => pv (iaV none 5 t11 t12) k) fun t13 =>
   gdK t10 false (fun k => pv (faV 1 t13) k) fun t14 =>
   gdK t10 false (fun k => ld true 4 t14 k) fun t15 =>
   gdK t10 false (fun k => k x1) fun t16 =>
   gdK t10 false (fun k => k v5) fun t17 =>
   gdK t10 false (fun k => pv (iaV none 5 t16 t17) k) fun t18 =>
   gdK t10 false (fun k => pv (faV 1 t18) k) fun t19 =>
   gdK t10 false (fun k => ld true 4 t19 k) fun t20 =>
   gdK t10 false (fun k => pv (eqCells .neq [0, 0, 0, 0] t15 t20) k) fun t21 =>
   pv (pickV t10 (.bool true) t21) fun t22 =>
   cnd t22 (
    K (.bool false)) (
    pv (binV .none .add v5 (.int .i64 1)) fun t23 =>
    k1 (m21_1_1_0_1_0_0 x0 x1 x2 x3 x6 x7 x8 x9 x10 t23 (jf #[U, U, U, U, (j 4), U, U, U, U, U, U, v5, x0, t1, t2, v5, t23, x0, v5, t3, t4, t5, x1, v5, t6, t7, t8, t9, t10, t10, t11, t12, t13, t14, t15, t16, t17, t18, t19, t20, t21, t22])))) E) (
   K (.bool true)) := by kernel_rfl
abbrev q147 : QD := bodyQ Tryz.prog Tryz.f147.results.toList K E
abbrev d147 (p : List Nat) : QD → Env → Hp → Prop := den Tryz.prog (sel (bodyOf Tryz.f147) p)
abbrev q177 : QD := bodyQ Tryz.prog Tryz.f177.results.toList K E
abbrev d177 (p : List Nat) : QD → Env → Hp → Prop := den Tryz.prog (sel (bodyOf Tryz.f177) p)
abbrev q174 : QD := bodyQ Tryz.prog Tryz.f174.results.toList K E
abbrev d174 (p : List Nat) : QD → Env → Hp → Prop := den Tryz.prog (sel (bodyOf Tryz.f174) p)
abbrev q149 : QD := bodyQ Tryz.prog Tryz.f149.results.toList K E
abbrev d149 (p : List Nat) : QD → Env → Hp → Prop := den Tryz.prog (sel (bodyOf Tryz.f149) p)
abbrev q172 : QD := bodyQ Tryz.prog Tryz.f172.results.toList K E
abbrev d172 (p : List Nat) : QD → Env → Hp → Prop := den Tryz.prog (sel (bodyOf Tryz.f172) p)
abbrev q176 : QD := bodyQ Tryz.prog Tryz.f176.results.toList K E
abbrev d176 (p : List Nat) : QD → Env → Hp → Prop := den Tryz.prog (sel (bodyOf Tryz.f176) p)
abbrev q146 : QD := bodyQ Tryz.prog Tryz.f146.results.toList K E
abbrev d146 (p : List Nat) : QD → Env → Hp → Prop := den Tryz.prog (sel (bodyOf Tryz.f146) p)
abbrev q115 : QD := bodyQ Tryz.prog Tryz.f115.results.toList K E
abbrev d115 (p : List Nat) : QD → Env → Hp → Prop := den Tryz.prog (sel (bodyOf Tryz.f115) p)
abbrev q50 : QD := bodyQ Tryz.prog Tryz.f50.results.toList K E
abbrev d50 (p : List Nat) : QD → Env → Hp → Prop := den Tryz.prog (sel (bodyOf Tryz.f50) p)
abbrev q88 : QD := bodyQ Tryz.prog Tryz.f88.results.toList K E
abbrev d88 (p : List Nat) : QD → Env → Hp → Prop := den Tryz.prog (sel (bodyOf Tryz.f88) p)
abbrev q114 : QD := bodyQ Tryz.prog Tryz.f114.results.toList K E
abbrev d114 (p : List Nat) : QD → Env → Hp → Prop := den Tryz.prog (sel (bodyOf Tryz.f114) p)
abbrev q113 : QD := bodyQ Tryz.prog Tryz.f113.results.toList K E
abbrev d113 (p : List Nat) : QD → Env → Hp → Prop := den Tryz.prog (sel (bodyOf Tryz.f113) p)
end
section
variable {K : Kont} {E : PanK} {k1 k2 k3 k4 k5 : Env → Hp → Prop} {σ : Type} {x0 x1 x2 x3 x4 x5 x6 x7 x8 x9 x10 x11 x12 x13 x14 x15 x16 x17 x18 x19 x20 x21 x22 x23 x24 x25 x26 x27 x28 x29 x30 x31 x32 x33 x34 x35 x36 x37 x38 x39 x40 x41 x42 x43 x44 x45 x46 x47 x48 x49 x50 x51 x52 x53 x54 x55 x56 x57 x58 x59 x60 x61 x62 x63 x64 x65 x66 x67 x68 x69 x70 x71 x72 x73 x74 x75 x76 v0 v1 v2 v3 v4 v5 v6 v7 v8 v9 v10 v11 v12 v13 v14 v15 v16 v17 v18 v19 v20 v21 v22 v23 v24 v25 v26 v27 v28 v29 v30 v31 v32 v33 v34 v35 v36 v37 v38 v39 v40 v41 v42 v43 v44 v45 v46 v47 v48 v49 v50 v51 v52 v53 v54 v55 v56 v57 v58 v59 v60 v61 v62 v63 v64 v65 v66 v67 v68 v69 v70 v71 v72 v73 v74 v75 v76 : Value} {h : Hp} {j : Nat → Value}
theorem l21_1_1_0_1_0_0 (f5 : σ → Value) (I : σ → Hp → Prop) (μ : σ → Nat) (s0 : σ) (e5 : v5 = f5 s0) (h0 : h.wf → ∃ h', h.wk h' ∧ I s0 h')
 (round : ∀ (k1 : Env → Hp → Prop) (s : σ) (j : Nat → Value) (h : Hp), I s h → h.wf → (∀ s' j' h', μ s' < μ s → (h'.wf → ∃ h'', h'.wk h'' ∧ I s' h'') → k1 (m21_1_1_0_1_0_0 x0 x1 x2 x3 x6 x7 x8 x9 x10 (f5 s') j') h') → d21 [1, 1, 0, 1, 0, 0] (thenD k1 (blk 0 (thenD (d21 [1, 1, 1] (q21 K E)) (q21 K E)))) (m21_1_1_0_1_0_0 x0 x1 x2 x3 x6 x7 x8 x9 x10 (f5 s) j) h) :
 lp (fun k1 => d21 [1, 1, 0, 1, 0, 0] (thenD k1 (blk 0 (thenD (d21 [1, 1, 1] (q21 K E)) (q21 K E))))) (m21_1_1_0_1_0_0 x0 x1 x2 x3 x6 x7 x8 x9 x10 v5 j) h := by
 subst e5
 exact loop_r (fun s j => m21_1_1_0_1_0_0 x0 x1 x2 x3 x6 x7 x8 x9 x10 (f5 s) j) I μ round s0 j h0
end
end Go.Proofs.YtgcmbkoejjcjlaaGreatDoor.T
open Go Go.RowKit Go.Proofs.YtgcmbkoejjcjlaaGreatDoor.K
set_option linter.unusedVariables false
set_option maxRecDepth 100000
namespace Go.Proofs.YtgcmbkoejjcjlaaGreatDoor.T
section
variable (K : Kont) (E : PanK) (k1 k2 k3 k4 k5 : Env → Hp → Prop) (x0 x1 x2 x3 x4 x5 x6 x7 x8 x9 x10 x11 x12 x13 x14 x15 x16 x17 x18 x19 x20 x21 x22 x23 x24 x25 x26 x27 x28 x29 x30 x31 x32 x33 x34 x35 x36 x37 x38 x39 x40 x41 x42 x43 x44 x45 x46 x47 x48 x49 x50 x51 x52 x53 x54 x55 x56 x57 x58 x59 x60 x61 x62 x63 x64 x65 x66 x67 x68 x69 x70 x71 x72 x73 x74 x75 x76 x77 x78 x79 x80 x81 x82 x83 x84 x85 x86 x87 x88 x89 x90 x91 x92 x93 x94 x95 x96 x97 x98 x99 x100 x101 x102 x103 x104 x105 x106 x107 x108 x109 x110 x111 x112 x113 x114 x115 x116 x117 x118 x119 x120 x121 x122 x123 x124 x125 x126 x127 x128 x129 x130 x131 x132 x133 x134 x135 x136 x137 x138 x139 x140 x141 x142 x143 x144 x145 x146 x147 v0 v1 v2 v3 v4 v5 v6 v7 v8 v9 v10 v11 v12 v13 v14 v15 v16 v17 v18 v19 v20 v21 v22 v23 v24 v25 v26 v27 v28 v29 v30 v31 v32 v33 v34 v35 v36 v37 v38 v39 v40 v41 v42 v43 v44 v45 v46 v47 v48 v49 v50 v51 v52 v53 v54 v55 v56 v57 v58 v59 v60 v61 v62 v63 v64 v65 v66 v67 v68 v69 v70 v71 v72 v73 v74 v75 v76 v77 v78 v79 v80 v81 v82 v83 v84 v85 v86 v87 v88 v89 v90 v91 v92 v93 v94 v95 v96 v97 v98 v99 v100 v101 v102 v103 v104 v105 v106 v107 v108 v109 v110 v111 v112 v113 v114 v115 v116 v117 v118 v119 v120 v121 v122 v123 v124 v125 v126 v127 v128 v129 v130 v131 v132 v133 v134 v135 v136 v137 v138 v139 v140 v141 v142 v143 v144 v145 v146 v147 : Value) (j : Nat → Value)
abbrev q58 : QD := bodyQ Tryz.prog Tryz.f58.results.toList K E
abbrev d58 (p : List Nat) : QD → Env → Hp → Prop := den Tryz.prog (sel (bodyOf Tryz.f58) p)
abbrev q81 : QD := bodyQ Tryz.prog Tryz.f81.results.toList K E
abbrev d81 (p : List Nat) : QD → Env → Hp → Prop := den Tryz.prog (sel (bodyOf Tryz.f81) p)
abbrev q59 : QD := bodyQ Tryz.prog Tryz.f59.results.toList K E
abbrev d59 (p : List Nat) : QD → Env → Hp → Prop := den Tryz.prog (sel (bodyOf Tryz.f59) p)
abbrev q28 : QD := bodyQ Tryz.prog Tryz.f28.results.toList K E
abbrev d28 (p : List Nat) : QD → Env → Hp → Prop := den Tryz.prog (sel (bodyOf Tryz.f28) p)
abbrev q89 : QD := bodyQ Tryz.prog Tryz.f89.results.toList K E
abbrev d89 (p : List Nat) : QD → Env → Hp → Prop := den Tryz.prog (sel (bodyOf Tryz.f89) p)
abbrev q52 : QD := bodyQ Tryz.prog Tryz.f52.results.toList K E
abbrev d52 (p : List Nat) : QD → Env → Hp → Prop := den Tryz.prog (sel (bodyOf Tryz.f52) p)
abbrev q82 : QD := bodyQ Tryz.prog Tryz.f82.results.toList K E
abbrev d82 (p : List Nat) : QD → Env → Hp → Prop := den Tryz.prog (sel (bodyOf Tryz.f82) p)
abbrev q47 : QD := bodyQ Tryz.prog Tryz.f47.results.toList K E
abbrev d47 (p : List Nat) : QD → Env → Hp → Prop := den Tryz.prog (sel (bodyOf Tryz.f47) p)
abbrev q83 : QD := bodyQ Tryz.prog Tryz.f83.results.toList K E
abbrev d83 (p : List Nat) : QD → Env → Hp → Prop := den Tryz.prog (sel (bodyOf Tryz.f83) p)
abbrev q84 : QD := bodyQ Tryz.prog Tryz.f84.results.toList K E
abbrev d84 (p : List Nat) : QD → Env → Hp → Prop := den Tryz.prog (sel (bodyOf Tryz.f84) p)
abbrev q168 : QD := bodyQ Tryz.prog Tryz.f168.results.toList K E
abbrev d168 (p : List Nat) : QD → Env → Hp → Prop := den Tryz.prog (sel (bodyOf Tryz.f168) p)
theorem t168 : d168 [] (q168 K E) #[x0, x1, x2, U, U, U, U, U, U, U, U] =
  callv Tryz.prog (.func (.func 184) #[] #[]) #[x0, x1, x2] (fun t1 =>
  K t1) E := by kernel_rfl
abbrev q74 : QD := bodyQ Tryz.prog Tryz.f74.results.toList K E
abbrev d74 (p : List Nat) : QD → Env → Hp → Prop := den Tryz.prog (sel (bodyOf Tryz.f74) p)
def m74_1_1_0_1_0_0 (j : Nat → Value) : Env := #[x0, x1, x2, x3, x4, (j 5), x6, x7, x8, v9, (j 10), (j 11), (j 12), (j 13), (j 14), (j 15), (j 16), (j 17), (j 18), (j 19), (j 20), x21, x22]
theorem t74 : d74 [] (q74 K E) #[x0, U, U, U, U, U, U, U, U, U, U, U, U, U, U, U, U, U, U, U, U, U, U] =
  callv Tryz.prog (.func (.func 108) #[] #[]) #[] (fun t1 =>
  pv (lenV x0) fun t2 =>
  lp (fun k1 => d74 [1, 1, 0, 1, 0, 0] (thenD k1 (blk 0 (thenD (d74 [1, 1, 1] (q74 K E)) (q74 K E))))) (m74_1_1_0_1_0_0 x0 U (.slice none 0 0) t1 U t1 x0 t2 U U (.int .i64 0) (jf #[]))) E := by kernel_rfl
theorem t74_1_1_0_1_0_0 : d74 [1, 1, 0, 1, 0, 0] (thenD k1 (blk 0 (thenD (d74 [1, 1, 1] (q74 K E)) (q74 K E)))) (m74_1_1_0_1_0_0 x0 x1 x2 x3 x4 x6 x7 x8 x21 x22 v9 j) =
  pv (binV .none .lss v9 x8) fun t1 =>
  cnd t1 (
   pv (iaV none 2 x7 v9) fun t2 =>
   ld true 2 t2 fun t3 =>
   nw 90 [(.slice none 0 0), (.int .i64 0)] fun t4 =>
   st 2 t4 t3 fun _ =>
   pv (faV 0 t4) fun t5 =>
   ld false 1 t5 fun t6 =>
   pv (faV 1 t4) fun t7 =>
   ld false 1 t7 fun t8 =>
   callv Tryz.prog (.func (.func 110) #[] #[]) #[t8] (fun t9 h10 => (ldV h10 false 1 t5 t6) ∧ (
    callv Tryz.prog (.func (.func 109) #[] #[]) #[x3, t6, t9] (fun t11 =>
    pv (binV .none .add v9 (.int .i64 1)) fun t12 =>
    k1 (m74_1_1_0_1_0_0 x0 x1 x2 x3 x4 x6 x7 x8 x21 x22 t12 (jf #[U, U, U, U, U, t4, U, U, U, U, t1, t2, t3, x3, t5, t6, t7, t8, t9, t11, t12]))) E) h10) E) (
   callv Tryz.prog (.func (.func 111) #[] #[]) #[x3] (fun t13 =>
   K t13) E) := by kernel_rfl
abbrev q105 : QD := bodyQ Tryz.prog Tryz.f105.results.toList K E
abbrev d105 (p : List Nat) : QD → Env → Hp → Prop := den Tryz.prog (sel (bodyOf Tryz.f105) p)
theorem t105 : d105 [] (q105 K E) #[x0, x1, x2, x3, U, U, U, U, U, U, U, U, U, U, U, U, U, U, U, U, U, U, U, U, U, U, U, U, U] =
  nw 26 (Value.cells x0).toList fun t1 =>
  nw 37 (Value.cells x2).toList fun t2 =>
  nw 37 (Value.cells x3).toList fun t3 =>
  ld false 1 t1 fun t4 =>
  callv Tryz.prog (.func (.func 64) #[] #[]) #[t4] (fun t5 =>
  pv (unV .not t5) fun t6 =>
  cnd t6 (
   K (.tuple #[(.slice none 0 0), (.int .u16 30)])) (
   ld false 1 t1 fun t7 =>
   ld false 1 t2 fun t8 =>
   ld false 1 t3 fun t9 =>
   callv Tryz.prog (.func (.func 138) #[] #[]) #[t7, t8, t9] (fun t10 =>
   pv (unV .not t10) fun t11 =>
   cnd t11 (
    K (.tuple #[(.slice none 0 0), (.int .u16 40)])) (
    ld false 1 t1 fun t12 =>
    pv (lenV t12) fun t13 =>
    callv Tryz.prog (.func (.func 104) #[] #[]) #[x1, t13] (fun t14 =>
    pv (unV .not t14) fun t15 =>
    cnd t15 (
     K (.tuple #[(.slice none 0 0), (.int .u16 1)])) (
     callv Tryz.prog (.func (.func 139) #[] #[]) #[x1, (.func (.func 140) #[] #[t1, t2, t3])] (fun t16 =>
     K (.tuple #[t16, (.int .u16 0)])) E)) E)) E)) E := by kernel_rfl
abbrev q140 : QD := bodyQ Tryz.prog Tryz.f140.results.toList K E
abbrev d140 (p : List Nat) : QD → Env → Hp → Prop := den Tryz.prog (sel (bodyOf Tryz.f140) p)
theorem t140 : d140 [] (q140 K E) #[x0, x1, x2, x3, U, U, U, U, U, U, U] =
  ld false 1 x1 fun t1 =>
  ld false 1 x2 fun t2 =>
  ld false 1 x3 fun t3 =>
  callv Tryz.prog (.func (.func 141) #[] #[]) #[t1, t2, t3, x0] (fun t4 =>
  K t4) E := by kernel_rfl
abbrev q104 : QD := bodyQ Tryz.prog Tryz.f104.results.toList K E
abbrev d104 (p : List Nat) : QD → Env → Hp → Prop := den Tryz.prog (sel (bodyOf Tryz.f104) p)
def m104_1_0_1_0_0 (j : Nat → Value) : Env := #[x0, x1, x2, x3, (j 4), (j 5), (j 6), x7, x8, v9, (j 10), (j 11), (j 12), (j 13), (j 14), (j 15), (j 16), (j 17), (j 18), (j 19), (j 20), (j 21), (j 22), (j 23), (j 24), (j 25), (j 26), (j 27), (j 28), (j 29), (j 30), (j 31), (j 32)]
theorem t104 : d104 [] (q104 K E) #[x0, x1, U, U, U, U, U, U, U, U, U, U, U, U, U, U, U, U, U, U, U, U, U, U, U, U, U, U, U, U, U, U, U] =
  pv (lenV x0) fun t1 =>
  lp (fun k1 => d104 [1, 0, 1, 0, 0] (thenD k1 (blk 0 (thenD (d104 [1, 1] (q104 K E)) (q104 K E))))) (m104_1_0_1_0_0 x0 x1 U U x0 t1 (.int .i64 0) (jf #[U, U, U, U, (.bool false)])) := by kernel_rfl
theorem t104_1_0_1_0_0 : d104 [1, 0, 1, 0, 0] (thenD k1 (blk 0 (thenD (d104 [1, 1] (q104 K E)) (q104 K E)))) (m104_1_0_1_0_0 x0 x1 x2 x3 x7 x8 v9 j) =
  pv (binV .none .lss v9 x8) fun t1 =>
  cnd t1 (
   pv (iaV none 5 x7 v9) fun t2 =>
   ld true 5 t2 fun t3 =>
   nw 110 [(.slice none 0 0), (.int .i64 0), (.int .i64 0), (.int .i64 0), (.int .i64 0)] fun t4 =>
   st 5 t4 t3 fun _ =>
   ld true 5 t4 fun t5 =>
   callv Tryz.prog (.func (.func 136) #[] #[]) #[t5, x1] (fun t6 =>
   pv (unV .not t6) fun t7 =>
   gdK t7 false (fun k => k v9) fun t8 =>
   gdK t7 false (fun k => pv (binV .none .gtr t8 (.int .i64 0)) k) fun t9 =>
   gdK t7 false (fun k => k t9) fun t10 =>
   gdK t10 true (fun k => k x0) fun t11 =>
   gdK t10 true (fun k => k v9) fun t12 =>
   gdK t10 true (fun k => pv (binV .none .sub t12 (.int .i64 1)) k) fun t13 =>
   gdK t10 true (fun k => pv (iaV none 5 t11 t13) k) fun t14 =>
   gdK t10 true (fun k => ld true 5 t14 k) fun t15 =>
   gdK t10 true (fun k => ld true 5 t4 k) fun t16 =>
   gdK t10 true (fun k => callv Tryz.prog (.func (.func 137) #[] #[]) #[t15, t16] k E) fun t17 =>
   gdK t10 true (fun k => pv (binV .none .geq t17 (.int .i64 0)) k) fun t18 =>
   gdK t7 false (fun k => pv (pickV t10 t18 (.bool false)) k) fun t19 =>
   pv (pickV t7 (.bool true) t19) fun t20 =>
   cnd t20 (
    K (.bool false)) (
    pv (binV .none .add v9 (.int .i64 1)) fun t21 =>
    k1 (m104_1_0_1_0_0 x0 x1 x2 x3 x7 x8 t21 (jf #[U, U, U, U, (j 4), v9, t4, U, U, U, t1, v9, t2, t3, t5, x1, t6, t7, t7, t8, t9, t10, t11, t12, t13, t14, t15, t16, t17, t18, t19, t20, t21])))) E) (
   K (.bool true)) := by kernel_rfl
abbrev q108 : QD := bodyQ Tryz.prog Tryz.f108.results.toList K E
abbrev d108 (p : List Nat) : QD → Env → Hp → Prop := den Tryz.prog (sel (bodyOf Tryz.f108) p)
theorem t108 : d108 [] (q108 K E) #[U, U, U, U] =
  mkm fun t1 =>
  pv (bdC #[(.slice none 0 0), (.map none)] [(0, 1), (1, 1)] #[(1, t1)]) fun t2 =>
  nw 201 (Value.cells t2).toList fun t3 =>
  K t3 := by kernel_rfl
end
section
variable {K : Kont} {E : PanK} {k1 k2 k3 k4 k5 : Env → Hp → Prop} {σ : Type} {x0 x1 x2 x3 x4 x5 x6 x7 x8 x9 x10 x11 x12 x13 x14 x15 x16 x17 x18 x19 x20 x21 x22 x23 x24 x25 x26 x27 x28 x29 x30 x31 x32 x33 x34 x35 x36 x37 x38 x39 x40 x41 x42 x43 x44 x45 x46 x47 x48 x49 x50 x51 x52 x53 x54 x55 x56 x57 x58 x59 x60 x61 x62 x63 x64 x65 x66 x67 x68 x69 x70 x71 x72 x73 x74 x75 x76 x77 x78 x79 x80 x81 x82 x83 x84 x85 x86 x87 x88 x89 x90 x91 x92 x93 x94 x95 x96 x97 x98 x99 x100 x101 x102 x103 x104 x105 x106 x107 x108 x109 x110 x111 x112 x113 x114 x115 x116 x117 x118 x119 x120 x121 x122 x123 x124 x125 x126 x127 x128 x129 x130 x131 x132 x133 x134 x135 x136 x137 x138 x139 x140 x141 x142 x143 x144 x145 x146 x147 v0 v1 v2 v3 v4 v5 v6 v7 v8 v9 v10 v11 v12 v13 v14 v15 v16 v17 v18 v19 v20 v21 v22 v23 v24 v25 v26 v27 v28 v29 v30 v31 v32 v33 v34 v35 v36 v37 v38 v39 v40 v41 v42 v43 v44 v45 v46 v47 v48 v49 v50 v51 v52 v53 v54 v55 v56 v57 v58 v59 v60 v61 v62 v63 v64 v65 v66 v67 v68 v69 v70 v71 v72 v73 v74 v75 v76 v77 v78 v79 v80 v81 v82 v83 v84 v85 v86 v87 v88 v89 v90 v91 v92 v93 v94 v95 v96 v97 v98 v99 v100 v101 v102 v103 v104 v105 v106 v107 v108 v109 v110 v111 v112 v113 v114 v115 v116 v117 v118 v119 v120 v121 v122 v123 v124 v125 v126 v127 v128 v129 v130 v131 v132 v133 v134 v135 v136 v137 v138 v139 v140 v141 v142 v143 v144 v145 v146 v147 : Value} {h : Hp} {j : Nat → Value}
theorem l74_1_1_0_1_0_0 (f9 : σ → Value) (I : σ → Hp → Prop) (μ : σ → Nat) (s0 : σ) (e9 : v9 = f9 s0) (h0 : h.wf → ∃ h', h.wk h' ∧ I s0 h')
 (round : ∀ (k1 : Env → Hp → Prop) (s : σ) (j : Nat → Value) (h : Hp), I s h → h.wf → (∀ s' j' h', μ s' < μ s → (h'.wf → ∃ h'', h'.wk h'' ∧ I s' h'') → k1 (m74_1_1_0_1_0_0 x0 x1 x2 x3 x4 x6 x7 x8 x21 x22 (f9 s') j') h') → d74 [1, 1, 0, 1, 0, 0] (thenD k1 (blk 0 (thenD (d74 [1, 1, 1] (q74 K E)) (q74 K E)))) (m74_1_1_0_1_0_0 x0 x1 x2 x3 x4 x6 x7 x8 x21 x22 (f9 s) j) h) :
 lp (fun k1 => d74 [1, 1, 0, 1, 0, 0] (thenD k1 (blk 0 (thenD (d74 [1, 1, 1] (q74 K E)) (q74 K E))))) (m74_1_1_0_1_0_0 x0 x1 x2 x3 x4 x6 x7 x8 x21 x22 v9 j) h := by
 subst e9
 exact loop_r (fun s j => m74_1_1_0_1_0_0 x0 x1 x2 x3 x4 x6 x7 x8 x21 x22 (f9 s) j) I μ round s0 j h0
theorem l104_1_0_1_0_0 (f9 : σ → Value) (I : σ → Hp → Prop) (μ : σ → Nat) (s0 : σ) (e9 : v9 = f9 s0) (h0 : h.wf → ∃ h', h.wk h' ∧ I s0 h')
 (round : ∀ (k1 : Env → Hp → Prop) (s : σ) (j : Nat → Value) (h : Hp), I s h → h.wf → (∀ s' j' h', μ s' < μ s → (h'.wf → ∃ h'', h'.wk h'' ∧ I s' h'') → k1 (m104_1_0_1_0_0 x0 x1 x2 x3 x7 x8 (f9 s') j') h') → d104 [1, 0, 1, 0, 0] (thenD k1 (blk 0 (thenD (d104 [1, 1] (q104 K E)) (q104 K E)))) (m104_1_0_1_0_0 x0 x1 x2 x3 x7 x8 (f9 s) j) h) :
 lp (fun k1 => d104 [1, 0, 1, 0, 0] (thenD k1 (blk 0 (thenD (d104 [1, 1] (q104 K E)) (q104 K E))))) (m104_1_0_1_0_0 x0 x1 x2 x3 x7 x8 v9 j) h := by
 subst e9
 exact loop_r (fun s j => m104_1_0_1_0_0 x0 x1 x2 x3 x7 x8 (f9 s) j) I μ round s0 j h0
end
end Go.Proofs.YtgcmbkoejjcjlaaGreatDoor.T
open Go Go.RowKit Go.Proofs.YtgcmbkoejjcjlaaGreatDoor.K
set_option linter.unusedVariables false
set_option maxRecDepth 100000
namespace Go.Proofs.YtgcmbkoejjcjlaaGreatDoor.T
section
variable (K : Kont) (E : PanK) (k1 k2 k3 k4 k5 : Env → Hp → Prop) (x0 x1 x2 x3 x4 x5 x6 x7 x8 x9 x10 x11 x12 x13 x14 x15 x16 x17 x18 x19 x20 x21 x22 x23 x24 x25 x26 x27 x28 x29 x30 x31 x32 x33 x34 x35 x36 x37 x38 x39 x40 x41 x42 x43 x44 x45 x46 x47 x48 x49 x50 x51 x52 x53 x54 x55 x56 x57 x58 x59 x60 v0 v1 v2 v3 v4 v5 v6 v7 v8 v9 v10 v11 v12 v13 v14 v15 v16 v17 v18 v19 v20 v21 v22 v23 v24 v25 v26 v27 v28 v29 v30 v31 v32 v33 v34 v35 v36 v37 v38 v39 v40 v41 v42 v43 v44 v45 v46 v47 v48 v49 v50 v51 v52 v53 v54 v55 v56 v57 v58 v59 v60 : Value) (j : Nat → Value)
abbrev q138 : QD := bodyQ Tryz.prog Tryz.f138.results.toList K E
abbrev d138 (p : List Nat) : QD → Env → Hp → Prop := den Tryz.prog (sel (bodyOf Tryz.f138) p)
def m138_1_1_0_1_0_0 (j : Nat → Value) : Env := #[x0, x1, x2, x3, x4, x5, (j 6), (j 7), (j 8), x9, x10, x11, x12, x13, x14, x15, x16, x17, x18, x19, x20, x21, x22, v23, (j 24), (j 25), (j 26), (j 27), (j 28), (j 29), (j 30), (j 31), (j 32), (j 33), (j 34), (j 35), (j 36), (j 37), (j 38), (j 39), (j 40), (j 41), (j 42), (j 43), (j 44), (j 45), (j 46), (j 47), (j 48), (j 49), (j 50), (j 51), (j 52), (j 53)]
theorem t138 : d138 [] (q138 K E) #[x0, x1, x2, U, U, U, U, U, U, U, U, U, U, U, U, U, U, U, U, U, U, U, U, U, U, U, U, U, U, U, U, U, U, U, U, U, U, U, U, U, U, U, U, U, U, U, U, U, U, U, U, U, U, U] =
  pv (lenV x1) fun t1 =>
  pv (lenV x0) fun t2 =>
  pv (binV .none .neq t1 t2) fun t3 =>
  gdK t3 false (fun k => k x2) fun t4 =>
  gdK t3 false (fun k => pv (lenV t4) k) fun t5 =>
  gdK t3 false (fun k => k x0) fun t6 =>
  gdK t3 false (fun k => pv (lenV t6) k) fun t7 =>
  gdK t3 false (fun k => pv (binV .none .neq t5 t7) k) fun t8 =>
  pv (pickV t3 (.bool true) t8) fun t9 =>
  cnd t9 (
   K (.bool false)) (
   pv (lenV x0) fun t10 =>
   lp (fun k1 => d138 [1, 1, 0, 1, 0, 0] (thenD k1 (blk 0 (thenD (d138 [1, 1, 1] (q138 K E)) (q138 K E))))) (m138_1_1_0_1_0_0 x0 x1 x2 U U U x1 t1 x0 t2 t3 t3 t4 t5 t6 t7 t8 t9 x0 t10 (.int .i64 0) (jf #[U, U, U, U, U, U, (.bool false)]))) := by kernel_rfl
theorem t138_1_1_0_1_0_0 : d138 [1, 1, 0, 1, 0, 0] (thenD k1 (blk 0 (thenD (d138 [1, 1, 1] (q138 K E)) (q138 K E)))) (m138_1_1_0_1_0_0 x0 x1 x2 x3 x4 x5 x9 x10 x11 x12 x13 x14 x15 x16 x17 x18 x19 x20 x21 x22 v23 j) =
  pv (binV .none .lss v23 x22) fun t1 =>
  cnd t1 (
   pv (iaV none 2 x21 v23) fun t2 =>
   ld true 2 t2 fun t3 =>
   nw 88 [(.int .i64 0), (.slice none 0 0)] fun t4 =>
   st 2 t4 t3 fun _ =>
   pv (iaV none 1 x1 v23) fun t5 =>
   ld false 1 t5 fun t6 =>
   pv (binV .none .lss t6 (.int .i64 0)) fun t7 =>
   gdK t7 false (fun k => k x2) fun t8 =>
   gdK t7 false (fun k => k v23) fun t9 =>
   gdK t7 false (fun k => pv (iaV none 1 t8 t9) k) fun t10 =>
   gdK t7 false (fun k => ld false 1 t10 k) fun t11 =>
   gdK t7 false (fun k => k x1) fun t12 =>
   gdK t7 false (fun k => k v23) fun t13 =>
   gdK t7 false (fun k => pv (iaV none 1 t12 t13) k) fun t14 =>
   gdK t7 false (fun k => ld false 1 t14 k) fun t15 =>
   gdK t7 false (fun k => pv (binV .none .lss t11 t15) k) fun t16 =>
   pv (pickV t7 (.bool true) t16) fun t17 =>
   gdK t17 false (fun k => k x2) fun t18 =>
   gdK t17 false (fun k => k v23) fun t19 =>
   gdK t17 false (fun k => pv (iaV none 1 t18 t19) k) fun t20 =>
   gdK t17 false (fun k => ld false 1 t20 k) fun t21 =>
   gdK t17 false (fun k => ld true 2 t4 k) fun t22 =>
   gdK t17 false (fun k => callv Tryz.prog (.func (.func 134) #[] #[]) #[t22] k E) (fun t23 h24 => (isB t17 false = true → ldV h24 false 1 t20 t21) ∧ (
    gdK t17 false (fun k => pv (binV .none .geq t21 t23) k) fun t25 =>
    pv (pickV t17 (.bool true) t25) fun t26 =>
    cnd t26 (
     K (.bool false)) (
     pv (binV .none .add v23 (.int .i64 1)) fun t27 =>
     k1 (m138_1_1_0_1_0_0 x0 x1 x2 x3 x4 x5 x9 x10 x11 x12 x13 x14 x15 x16 x17 x18 x19 x20 x21 x22 t27 (jf #[U, U, U, U, U, U, (j 6), v23, t4, U, U, U, U, U, U, U, U, U, U, U, U, U, U, U, t1, v23, t2, t3, x1, v23, t5, t6, t7, t7, t8, t9, t10, t11, t12, t13, t14, t15, t16, t17, t17, t18, t19, t20, t21, t22, t23, t25, t26, t27])))) h24)) (
   K (.bool true)) := by kernel_rfl
abbrev q137 : QD := bodyQ Tryz.prog Tryz.f137.results.toList K E
abbrev d137 (p : List Nat) : QD → Env → Hp → Prop := den Tryz.prog (sel (bodyOf Tryz.f137) p)
theorem t137 : d137 [] (q137 K E) #[x0, x1, U, U, U, U, U, U, U, U] =
  nw 110 (Value.cells x0).toList fun t1 =>
  nw 110 (Value.cells x1).toList fun t2 =>
  pv (faV 0 t1) fun t3 =>
  ld false 1 t3 fun t4 =>
  pv (faV 0 t2) fun t5 =>
  ld false 1 t5 fun t6 =>
  callv Tryz.prog (.func (.func 165) #[] #[]) #[t4, t6] (fun t7 =>
  K t7) E := by kernel_rfl
abbrev q139 : QD := bodyQ Tryz.prog Tryz.f139.results.toList K E
abbrev d139 (p : List Nat) : QD → Env → Hp → Prop := den Tryz.prog (sel (bodyOf Tryz.f139) p)
def m139_1_1_0_1_0_0 (j : Nat → Value) : Env := #[x0, x1, x2, x3, x4, x5, x6, (j 7), x8, x9, x10, v11, (j 12), (j 13), (j 14), (j 15), (j 16), (j 17), (j 18), (j 19), (j 20), (j 21), (j 22), (j 23), x24, x25]
theorem t139 : d139 [] (q139 K E) #[x0, x1, U, U, U, U, U, U, U, U, U, U, U, U, U, U, U, U, U, U, U, U, U, U, U, U] =
  callv Tryz.prog (.func (.func 108) #[] #[]) #[] (fun t1 =>
  pv (lenV x0) fun t2 =>
  lp (fun k1 => d139 [1, 1, 0, 1, 0, 0] (thenD k1 (blk 0 (thenD (d139 [1, 1, 1] (q139 K E)) (q139 K E))))) (m139_1_1_0_1_0_0 x0 x1 U U (.slice none 0 0) t1 U t1 x0 t2 U U (.int .i64 0) (jf #[]))) E := by kernel_rfl
theorem t139_1_1_0_1_0_0 : d139 [1, 1, 0, 1, 0, 0] (thenD k1 (blk 0 (thenD (d139 [1, 1, 1] (q139 K E)) (q139 K E)))) (m139_1_1_0_1_0_0 x0 x1 x2 x3 x4 x5 x6 x8 x9 x10 x24 x25 v11 j) =
  pv (binV .none .lss v11 x10) fun t1 =>
  cnd t1 (
   pv (iaV none 5 x9 v11) fun t2 =>
   ld true 5 t2 fun t3 =>
   nw 110 [(.slice none 0 0), (.int .i64 0), (.int .i64 0), (.int .i64 0), (.int .i64 0)] fun t4 =>
   st 5 t4 t3 fun _ =>
   pv (faV 0 t4) fun t5 =>
   ld false 1 t5 fun t6 =>
   pv (faV 1 t4) fun t7 =>
   ld true 4 t7 fun t8 =>
   callv Tryz.prog x1 #[t6] (fun t9 h10 => (ldV h10 true 4 t7 t8) ∧ (
    callv Tryz.prog (.func (.func 109) #[] #[]) #[x5, t9, t8] (fun t11 =>
    pv (binV .none .add v11 (.int .i64 1)) fun t12 =>
    k1 (m139_1_1_0_1_0_0 x0 x1 x2 x3 x4 x5 x6 x8 x9 x10 x24 x25 t12 (jf #[U, U, U, U, U, U, U, t4, U, U, U, U, t1, t2, t3, x5, x1, t5, t6, t9, t7, t8, t11, t12]))) E) h10) E) (
   callv Tryz.prog (.func (.func 111) #[] #[]) #[x5] (fun t13 =>
   K t13) E) := by kernel_rfl
abbrev q136 : QD := bodyQ Tryz.prog Tryz.f136.results.toList K E
abbrev d136 (p : List Nat) : QD → Env → Hp → Prop := den Tryz.prog (sel (bodyOf Tryz.f136) p)
theorem t136 : d136 [] (q136 K E) #[x0, x1, U, U, U, U, U, U, U, U, U, U, U, U, U, U, U, U, U, U, U, U, U, U, U, U, U] =
  nw 110 (Value.cells x0).toList fun t1 =>
  pv (faV 0 t1) fun t2 =>
  ld false 1 t2 fun t3 =>
  pv (lenV t3) fun t4 =>
  pv (binV .none .eql t4 x1) fun t5 =>
  gdK t5 true (fun k => pv (faV 1 t1) k) fun t6 =>
  gdK t5 true (fun k => pv (faV 0 t6) k) fun t7 =>
  gdK t5 true (fun k => ld false 1 t7 k) fun t8 =>
  gdK t5 true (fun k => pv (binV .none .gtr t8 (.int .i64 0)) k) fun t9 =>
  pv (pickV t5 t9 (.bool false)) fun t10 =>
  gdK t10 true (fun k => pv (faV 1 t1) k) fun t11 =>
  gdK t10 true (fun k => ld true 4 t11 k) fun t12 =>
  gdK t10 true (fun k => callv Tryz.prog (.func (.func 162) #[] #[]) #[t12] k E) fun t13 =>
  pv (pickV t10 t13 (.bool false)) fun t14 =>
  gdK t14 true (fun k => pv (faV 0 t1) k) fun t15 =>
  gdK t14 true (fun k => ld false 1 t15 k) fun t16 =>
  gdK t14 true (fun k => callv Tryz.prog (.func (.func 163) #[] #[]) #[t16, (.func (.func 164) #[] #[])] k E) fun t17 =>
  gdK t14 true (fun k => pv (unV .not t17) k) fun t18 =>
  pv (pickV t14 t18 (.bool false)) fun t19 =>
  K t19 := by kernel_rfl
abbrev q164 : QD := bodyQ Tryz.prog Tryz.f164.results.toList K E
abbrev d164 (p : List Nat) : QD → Env → Hp → Prop := den Tryz.prog (sel (bodyOf Tryz.f164) p)
theorem t164 : d164 [] (q164 K E) #[x0, U, U, U, U] =
  pv (binV .none .lss x0 (.int .i64 0)) fun t1 =>
  K t1 := by kernel_rfl
abbrev q109 : QD := bodyQ Tryz.prog Tryz.f109.results.toList K E
abbrev d109 (p : List Nat) : QD → Env → Hp → Prop := den Tryz.prog (sel (bodyOf Tryz.f109) p)
theorem t109 : d109 [] (q109 K E) #[x0, x1, x2, U, U, U, U, U, U, U, U, U, U, U, U, U, U, U, U, U, U, U, U, U, U, U, U, U, U, U, U, U, U, U, U, U, U, U, U, U, U, U, U, U, U, U, U, U, U, U, U, U, U, U, U, U, U, U, U, U, U] =
  nw 108 (Value.cells x2).toList fun t1 =>
  callv Tryz.prog (.func (.func 143) #[] #[]) #[x1] (fun t2 =>
  pv (nilV x0) fun t3 =>
  pv (faV 1 t3) fun t4 =>
  ld false 1 t4 fun t5 =>
  lkp Tryz.prog 199 t5 t2 true fun t6 =>
  pv (exV 0 t6) fun t7 =>
  pv (exV 1 t6) fun t8 =>
  cnd t8 (
   pv (nilV x0) fun t9 =>
   pv (faV 0 t9) fun t10 =>
   ld false 1 t10 fun t11 =>
   pv (nilV x0) fun t12 =>
   pv (faV 0 t12) fun t13 =>
   ld false 1 t13 fun t14 =>
   pv (iaV none 5 t14 t7) fun t15 =>
   pv (faV 1 t15) fun t16 =>
   ld true 4 t16 fun t17 =>
   ld true 4 t1 fun t18 =>
   callv Tryz.prog (.func (.func 144) #[] #[]) #[t17, t18] (fun t19 h20 => (ldV h20 false 1 t10 t11) ∧ (
    pv (iaV none 5 t11 t7) fun t21 =>
    pv (faV 1 t21) fun t22 =>
    st 4 t22 t19 fun _ =>
    K (.tuple #[])) h20) E) (
   pv (nilV x0) fun t23 =>
   pv (faV 1 t23) fun t24 =>
   ld false 1 t24 fun t25 =>
   pv (nilV x0) fun t26 =>
   pv (faV 0 t26) fun t27 =>
   ld false 1 t27 fun t28 =>
   pv (lenV t28) fun t29 =>
   mup Tryz.prog 199 t25 t2 t29 fun _ =>
   pv (nilV x0) fun t30 =>
   pv (faV 0 t30) fun t31 =>
   ld false 1 t31 fun t32 =>
   ld true 4 t1 fun t33 =>
   callv Tryz.prog (.func (.func 65) #[] #[]) #[x1] (fun t34 h35 => (ldV h35 true 4 t1 t33) ∧ (ldV h35 false 1 t31 t32) ∧ (
    pv (bdC #[(.slice none 0 0), (.int .i64 0), (.int .i64 0), (.int .i64 0), (.int .i64 0)] [(0, 1), (1, 4)] #[(0, t34), (1, t33)]) fun t36 =>
    nws 110 1 (bsC #[(.slice none 0 0), (.int .i64 0), (.int .i64 0), (.int .i64 0), (.int .i64 0)] 5 1 #[(0, t36)]) (fun t37 h38 => (ldV h38 false 1 t31 t32) ∧ (
     appX 110 5 56 t32 t37 fun t39 =>
     pv (nilV x0) fun t40 =>
     pv (faV 0 t40) fun t41 =>
     st 1 t41 t39 fun _ =>
     K (.tuple #[])) h38)) h35) E)) E := by kernel_rfl
abbrev q111 : QD := bodyQ Tryz.prog Tryz.f111.results.toList K E
abbrev d111 (p : List Nat) : QD → Env → Hp → Prop := den Tryz.prog (sel (bodyOf Tryz.f111) p)
theorem t111 : d111 [] (q111 K E) #[x0, U, U, U, U, U, U, U, U, U, U, U] =
  pv (nilV x0) fun t1 =>
  pv (faV 0 t1) fun t2 =>
  ld false 1 t2 fun t3 =>
  callv Tryz.prog (.func (.func 145) #[] #[]) #[t3, (.func (.func 137) #[] #[])] (fun t4 =>
  pv (nilV x0) fun t5 =>
  pv (faV 0 t5) fun t6 =>
  ld false 1 t6 fun t7 =>
  K t7) E := by kernel_rfl
abbrev q143 : QD := bodyQ Tryz.prog Tryz.f143.results.toList K E
abbrev d143 (p : List Nat) : QD → Env → Hp → Prop := den Tryz.prog (sel (bodyOf Tryz.f143) p)
def m143_1_1_0_1_0_0 (j : Nat → Value) : Env := #[x0, x1, x2, v3, x4, (j 5), x6, x7, v8, (j 9), (j 10), (j 11), (j 12), (j 13), (j 14), (j 15), (j 16), (j 17), (j 18), x19, x20]
theorem t143 : d143 [] (q143 K E) #[x0, U, U, U, U, U, U, U, U, U, U, U, U, U, U, U, U, U, U, U, U] =
  pv (lenV x0) fun t1 =>
  lp (fun k1 => d143 [1, 1, 0, 1, 0, 0] (thenD k1 (blk 0 (thenD (d143 [1, 1, 1] (q143 K E)) (q143 K E))))) (m143_1_1_0_1_0_0 x0 U (.string ⟨#[]⟩) U x0 t1 U U (.slice none 0 0) (.int .i64 0) (jf #[])) := by kernel_rfl
theorem t143_1_1_0_1_0_0 : d143 [1, 1, 0, 1, 0, 0] (thenD k1 (blk 0 (thenD (d143 [1, 1, 1] (q143 K E)) (q143 K E)))) (m143_1_1_0_1_0_0 x0 x1 x2 x4 x6 x7 x19 x20 v3 v8 j) =
  pv (binV .none .lss v8 x7) fun t1 =>
  cnd t1 (
   pv (iaV none 1 x6 v8) fun t2 =>
   ld false 1 t2 fun t3 =>
   callv Tryz.prog (.func (.func 168) #[] #[]) #[v3, t3, (.int .i64 36)] (fun t4 =>
   nws 5 1 (bsC #[(.int .u8 0)] 1 1 #[(0, (.int .u8 32))]) fun t5 =>
   appX 5 1 1 t4 t5 fun t6 =>
   pv (binV .none .add v8 (.int .i64 1)) fun t7 =>
   k1 (m143_1_1_0_1_0_0 x0 x1 x2 x4 x6 x7 x19 x20 t6 t7 (jf #[U, U, U, U, U, t3, U, U, U, t1, t2, t3, v3, t3, t4, t4, t5, t6, t7]))) E) (
   bs v3 fun t8 =>
   K t8) := by kernel_rfl
end
section
variable {K : Kont} {E : PanK} {k1 k2 k3 k4 k5 : Env → Hp → Prop} {σ : Type} {x0 x1 x2 x3 x4 x5 x6 x7 x8 x9 x10 x11 x12 x13 x14 x15 x16 x17 x18 x19 x20 x21 x22 x23 x24 x25 x26 x27 x28 x29 x30 x31 x32 x33 x34 x35 x36 x37 x38 x39 x40 x41 x42 x43 x44 x45 x46 x47 x48 x49 x50 x51 x52 x53 x54 x55 x56 x57 x58 x59 x60 v0 v1 v2 v3 v4 v5 v6 v7 v8 v9 v10 v11 v12 v13 v14 v15 v16 v17 v18 v19 v20 v21 v22 v23 v24 v25 v26 v27 v28 v29 v30 v31 v32 v33 v34 v35 v36 v37 v38 v39 v40 v41 v42 v43 v44 v45 v46 v47 v48 v49 v50 v51 v52 v53 v54 v55 v56 v57 v58 v59 v60 : Value} {h : Hp} {j : Nat → Value}
theorem l138_1_1_0_1_0_0 (f23 : σ → Value) (I : σ → Hp → Prop) (μ : σ → Nat) (s0 : σ) (e23 : v23 = f23 s0) (h0 : h.wf → ∃ h', h.wk h' ∧ I s0 h')
 (round : ∀ (k1 : Env → Hp → Prop) (s : σ) (j : Nat → Value) (h : Hp), I s h → h.wf → (∀ s' j' h', μ s' < μ s → (h'.wf → ∃ h'', h'.wk h'' ∧ I s' h'') → k1 (m138_1_1_0_1_0_0 x0 x1 x2 x3 x4 x5 x9 x10 x11 x12 x13 x14 x15 x16 x17 x18 x19 x20 x21 x22 (f23 s') j') h') → d138 [1, 1, 0, 1, 0, 0] (thenD k1 (blk 0 (thenD (d138 [1, 1, 1] (q138 K E)) (q138 K E)))) (m138_1_1_0_1_0_0 x0 x1 x2 x3 x4 x5 x9 x10 x11 x12 x13 x14 x15 x16 x17 x18 x19 x20 x21 x22 (f23 s) j) h) :
 lp (fun k1 => d138 [1, 1, 0, 1, 0, 0] (thenD k1 (blk 0 (thenD (d138 [1, 1, 1] (q138 K E)) (q138 K E))))) (m138_1_1_0_1_0_0 x0 x1 x2 x3 x4 x5 x9 x10 x11 x12 x13 x14 x15 x16 x17 x18 x19 x20 x21 x22 v23 j) h := by
 subst e23
 exact loop_r (fun s j => m138_1_1_0_1_0_0 x0 x1 x2 x3 x4 x5 x9 x10 x11 x12 x13 x14 x15 x16 x17 x18 x19 x20 x21 x22 (f23 s) j) I μ round s0 j h0
theorem l139_1_1_0_1_0_0 (f11 : σ → Value) (I : σ → Hp → Prop) (μ : σ → Nat) (s0 : σ) (e11 : v11 = f11 s0) (h0 : h.wf → ∃ h', h.wk h' ∧ I s0 h')
 (round : ∀ (k1 : Env → Hp → Prop) (s : σ) (j : Nat → Value) (h : Hp), I s h → h.wf → (∀ s' j' h', μ s' < μ s → (h'.wf → ∃ h'', h'.wk h'' ∧ I s' h'') → k1 (m139_1_1_0_1_0_0 x0 x1 x2 x3 x4 x5 x6 x8 x9 x10 x24 x25 (f11 s') j') h') → d139 [1, 1, 0, 1, 0, 0] (thenD k1 (blk 0 (thenD (d139 [1, 1, 1] (q139 K E)) (q139 K E)))) (m139_1_1_0_1_0_0 x0 x1 x2 x3 x4 x5 x6 x8 x9 x10 x24 x25 (f11 s) j) h) :
 lp (fun k1 => d139 [1, 1, 0, 1, 0, 0] (thenD k1 (blk 0 (thenD (d139 [1, 1, 1] (q139 K E)) (q139 K E))))) (m139_1_1_0_1_0_0 x0 x1 x2 x3 x4 x5 x6 x8 x9 x10 x24 x25 v11 j) h := by
 subst e11
 exact loop_r (fun s j => m139_1_1_0_1_0_0 x0 x1 x2 x3 x4 x5 x6 x8 x9 x10 x24 x25 (f11 s) j) I μ round s0 j h0
theorem l143_1_1_0_1_0_0 (f3 f8 : σ → Value) (I : σ → Hp → Prop) (μ : σ → Nat) (s0 : σ) (e3 : v3 = f3 s0) (e8 : v8 = f8 s0) (h0 : h.wf → ∃ h', h.wk h' ∧ I s0 h')
 (round : ∀ (k1 : Env → Hp → Prop) (s : σ) (j : Nat → Value) (h : Hp), I s h → h.wf → (∀ s' j' h', μ s' < μ s → (h'.wf → ∃ h'', h'.wk h'' ∧ I s' h'') → k1 (m143_1_1_0_1_0_0 x0 x1 x2 x4 x6 x7 x19 x20 (f3 s') (f8 s') j') h') → d143 [1, 1, 0, 1, 0, 0] (thenD k1 (blk 0 (thenD (d143 [1, 1, 1] (q143 K E)) (q143 K E)))) (m143_1_1_0_1_0_0 x0 x1 x2 x4 x6 x7 x19 x20 (f3 s) (f8 s) j) h) :
 lp (fun k1 => d143 [1, 1, 0, 1, 0, 0] (thenD k1 (blk 0 (thenD (d143 [1, 1, 1] (q143 K E)) (q143 K E))))) (m143_1_1_0_1_0_0 x0 x1 x2 x4 x6 x7 x19 x20 v3 v8 j) h := by
 subst e3
 subst e8
 exact loop_r (fun s j => m143_1_1_0_1_0_0 x0 x1 x2 x4 x6 x7 x19 x20 (f3 s) (f8 s) j) I μ round s0 j h0
end
end Go.Proofs.YtgcmbkoejjcjlaaGreatDoor.T
open Go Go.RowKit Go.Proofs.YtgcmbkoejjcjlaaGreatDoor.K
set_option linter.unusedVariables false
set_option maxRecDepth 100000
namespace Go.Proofs.YtgcmbkoejjcjlaaGreatDoor.T
theorem q0 (Q : QD) (x0 x1 x2 : Value) : den Tryz.prog (sel (bodyOf Tryz.f42) [0]) Q #[x0, x1, x2, undef, undef, undef, undef, undef, undef, undef, undef, undef, undef, undef, undef, undef, undef, undef, undef, undef, undef, undef, undef, undef, undef, undef, undef, undef, undef, undef, undef, undef, undef, undef, undef, undef, undef, undef, undef, undef, undef, undef, undef, undef, undef, undef, undef, undef, undef, undef, undef] = nw 55 (Value.cells x1).toList fun t1 => Q .normal #[x0, x1, x2, undef, t1, undef, (.slice none 0 0), (.int .u16 0), undef, undef, undef, undef, undef, undef, undef, undef, undef, undef, undef, undef, undef, undef, undef, undef, undef, undef, undef, undef, undef, undef, undef, undef, undef, undef, undef, undef, undef, undef, undef, undef, undef, undef, undef, undef, undef, undef, undef, undef, undef, undef, undef] := by kernel_rfl
theorem q1 (Q : QD) (x0 x1 x2 t1 : Value) : den Tryz.prog (sel (bodyOf Tryz.f42) [1, 0]) Q #[x0, x1, x2, undef, t1, undef, (.slice none 0 0), (.int .u16 0), undef, undef, undef, undef, undef, undef, undef, undef, undef, undef, undef, undef, undef, undef, undef, undef, undef, undef, undef, undef, undef, undef, undef, undef, undef, undef, undef, undef, undef, undef, undef, undef, undef, undef, undef, undef, undef, undef, undef, undef, undef, undef, undef] = pv (nilV x0) fun t2 => pv (faV 0 t2) fun t3 => ld false 1 t3 fun t4 => callv Tryz.prog (.func (.func 72) #[] #[]) #[t4, x2] (fun t5 => pv (exV 0 t5) fun t6 => pv (exV 1 t5) fun t7 => Q .normal #[x0, x1, x2, undef, t1, undef, (.slice none 0 0), (.int .u16 0), t6, t7, undef, undef, undef, t5, x0, t2, t3, t4, x2, t5, t6, t7, undef, undef, undef, undef, undef, undef, undef, undef, undef, undef, undef, undef, undef, undef, undef, undef, undef, undef, undef, undef, undef, undef, undef, undef, undef, undef, undef, undef, undef]) (fun c => Q (.panic c) #[x0, x1, x2, undef, t1, undef, (.slice none 0 0), (.int .u16 0), undef, undef, undef, undef, undef, undef, x0, t2, t3, t4, x2, undef, undef, undef, undef, undef, undef, undef, undef, undef, undef, undef, undef, undef, undef, undef, undef, undef, undef, undef, undef, undef, undef, undef, undef, undef, undef, undef, undef, undef, undef, undef, undef]) := by kernel_rfl
theorem q2 (Q : QD) (x0 x1 x2 t1 t2 t3 t4 t5 t6 t7 : Value) : den Tryz.prog (sel (bodyOf Tryz.f42) [1, 1, 0]) Q #[x0, x1, x2, undef, t1, undef, (.slice none 0 0), (.int .u16 0), t6, t7, undef, undef, undef, t5, x0, t2, t3, t4, x2, t5, t6, t7, undef, undef, undef, undef, undef, undef, undef, undef, undef, undef, undef, undef, undef, undef, undef, undef, undef, undef, undef, undef, undef, undef, undef, undef, undef, undef, undef, undef, undef] = cnd t7 (pv (binV .none .add t6 (.int .i64 1)) fun t8 => Q .normal #[x0, x1, x2, undef, t1, undef, (.slice none 0 0), (.int .u16 0), t8, t7, undef, undef, undef, t5, x0, t2, t3, t4, x2, t5, t6, t7, t7, t6, t8, undef, undef, undef, undef, undef, undef, undef, undef, undef, undef, undef, undef, undef, undef, undef, undef, undef, undef, undef, undef, undef, undef, undef, undef, undef, undef]) (Q .normal #[x0, x1, x2, undef, t1, undef, (.slice none 0 0), (.int .u16 0), t6, t7, undef, undef, undef, t5, x0, t2, t3, t4, x2, t5, t6, t7, t7, undef, undef, undef, undef, undef, undef, undef, undef, undef, undef, undef, undef, undef, undef, undef, undef, undef, undef, undef, undef, undef, undef, undef, undef, undef, undef, undef, undef]) := by kernel_rfl
theorem t42 (K : Kont) (E : PanK) (x0 x1 x2 : Value)  : den Tryz.prog (sel (bodyOf Tryz.f42) []) (bodyQ Tryz.prog Tryz.f42.results.toList K E) #[x0, x1, x2, undef, undef, undef, undef, undef, undef, undef, undef, undef, undef, undef, undef, undef, undef, undef, undef, undef, undef, undef, undef, undef, undef, undef, undef, undef, undef, undef, undef, undef, undef, undef, undef, undef, undef, undef, undef, undef, undef, undef, undef, undef, undef, undef, undef, undef, undef, undef, undef] =
  nw 55 (Value.cells x1).toList fun t1 =>
  pv (nilV x0) fun t2 =>
  pv (faV 0 t2) fun t3 =>
  ld false 1 t3 fun t4 =>
  callv Tryz.prog (.func (.func 72) #[] #[]) #[t4, x2] (fun t5 =>
  pv (exV 0 t5) fun t6 =>
  pv (exV 1 t5) fun t7 =>
  cnd t7 (
    pv (binV .none .add t6 (.int .i64 1)) fun t8 =>
    den Tryz.prog (sel (bodyOf Tryz.f42) [1, 1, 1]) (bodyQ Tryz.prog Tryz.f42.results.toList K E) #[x0, x1, x2, undef, t1, undef, (.slice none 0 0), (.int .u16 0), t8, t7, undef, undef, undef, t5, x0, t2, t3, t4, x2, t5, t6, t7, t7, t6, t8, undef, undef, undef, undef, undef, undef, undef, undef, undef, undef, undef, undef, undef, undef, undef, undef, undef, undef, undef, undef, undef, undef, undef, undef, undef, undef]) (
    den Tryz.prog (sel (bodyOf Tryz.f42) [1, 1, 1]) (bodyQ Tryz.prog Tryz.f42.results.toList K E) #[x0, x1, x2, undef, t1, undef, (.slice none 0 0), (.int .u16 0), t6, t7, undef, undef, undef, t5, x0, t2, t3, t4, x2, t5, t6, t7, t7, undef, undef, undef, undef, undef, undef, undef, undef, undef, undef, undef, undef, undef, undef, undef, undef, undef, undef, undef, undef, undef, undef, undef, undef, undef, undef, undef, undef])) E := by
  refine (show _ = den Tryz.prog (sel (bodyOf Tryz.f42) [0]) (thenD (den Tryz.prog (sel (bodyOf Tryz.f42) [1]) (bodyQ Tryz.prog Tryz.f42.results.toList K E)) (bodyQ Tryz.prog Tryz.f42.results.toList K E)) #[x0, x1, x2, undef, undef, undef, undef, undef, undef, undef, undef, undef, undef, undef, undef, undef, undef, undef, undef, undef, undef, undef, undef, undef, undef, undef, undef, undef, undef, undef, undef, undef, undef, undef, undef, undef, undef, undef, undef, undef, undef, undef, undef, undef, undef, undef, undef, undef, undef, undef, undef] from by kernel_rfl).trans ?_
  rw [q0]
  refine congrArg (nw 55 (Value.cells x1).toList) (funext fun t1 => ?_)
  show den Tryz.prog (sel (bodyOf Tryz.f42) [1]) (bodyQ Tryz.prog Tryz.f42.results.toList K E) #[x0, x1, x2, undef, t1, undef, (.slice none 0 0), (.int .u16 0), undef, undef, undef, undef, undef, undef, undef, undef, undef, undef, undef, undef, undef, undef, undef, undef, undef, undef, undef, undef, undef, undef, undef, undef, undef, undef, undef, undef, undef, undef, undef, undef, undef, undef, undef, undef, undef, undef, undef, undef, undef, undef, undef] = _
  refine (show _ = den Tryz.prog (sel (bodyOf Tryz.f42) [1, 0]) (thenD (den Tryz.prog (sel (bodyOf Tryz.f42) [1, 1]) (bodyQ Tryz.prog Tryz.f42.results.toList K E)) (bodyQ Tryz.prog Tryz.f42.results.toList K E)) #[x0, x1, x2, undef, t1, undef, (.slice none 0 0), (.int .u16 0), undef, undef, undef, undef, undef, undef, undef, undef, undef, undef, undef, undef, undef, undef, undef, undef, undef, undef, undef, undef, undef, undef, undef, undef, undef, undef, undef, undef, undef, undef, undef, undef, undef, undef, undef, undef, undef, undef, undef, undef, undef, undef, undef] from by kernel_rfl).trans ?_
  rw [q1]
  refine congrArg (pv (nilV x0)) (funext fun t2 => congrArg (pv (faV 0 t2)) (funext fun t3 => congrArg (ld false 1 t3) (funext fun t4 => ?_)))
  refine congrArg (fun X => callv Tryz.prog (.func (.func 72) #[] #[]) #[t4, x2] X E) (funext fun t5 => congrArg (pv (exV 0 t5)) (funext fun t6 => congrArg (pv (exV 1 t5)) (funext fun t7 => ?_)))
  show den Tryz.prog (sel (bodyOf Tryz.f42) [1, 1]) (bodyQ Tryz.prog Tryz.f42.results.toList K E) #[x0, x1, x2, undef, t1, undef, (.slice none 0 0), (.int .u16 0), t6, t7, undef, undef, undef, t5, x0, t2, t3, t4, x2, t5, t6, t7, undef, undef, undef, undef, undef, undef, undef, undef, undef, undef, undef, undef, undef, undef, undef, undef, undef, undef, undef, undef, undef, undef, undef, undef, undef, undef, undef, undef, undef] = _
  refine (show _ = den Tryz.prog (sel (bodyOf Tryz.f42) [1, 1, 0]) (thenD (den Tryz.prog (sel (bodyOf Tryz.f42) [1, 1, 1]) (bodyQ Tryz.prog Tryz.f42.results.toList K E)) (bodyQ Tryz.prog Tryz.f42.results.toList K E)) #[x0, x1, x2, undef, t1, undef, (.slice none 0 0), (.int .u16 0), t6, t7, undef, undef, undef, t5, x0, t2, t3, t4, x2, t5, t6, t7, undef, undef, undef, undef, undef, undef, undef, undef, undef, undef, undef, undef, undef, undef, undef, undef, undef, undef, undef, undef, undef, undef, undef, undef, undef, undef, undef, undef, undef] from by kernel_rfl).trans ?_
  rw [q2]
  rfl
theorem t42_1_1_1 (K : Kont) (E : PanK) (x0 x1 x2 x3 x4 x5 x6 x7 x8 x9 x10 x11 x12 x13 x14 x15 x16 x17 x18 x19 x20 x21 x22 x23 x24 x25 x26 x27 x28 x29 x30 x31 x32 x33 x34 x35 x36 x37 x38 x39 x40 x41 x42 x43 x44 x45 x46 x47 x48 x49 x50 : Value)  : den Tryz.prog (sel (bodyOf Tryz.f42) [1, 1, 1]) (bodyQ Tryz.prog Tryz.f42.results.toList K E) #[x0, x1, x2, x3, x4, x5, x6, x7, x8, x9, x10, x11, x12, x13, x14, x15, x16, x17, x18, x19, x20, x21, x22, x23, x24, x25, x26, x27, x28, x29, x30, x31, x32, x33, x34, x35, x36, x37, x38, x39, x40, x41, x42, x43, x44, x45, x46, x47, x48, x49, x50] =
  pv (nilV x0) fun t1 =>
  pv (faV 0 t1) fun t2 =>
  ld false 1 t2 fun t3 =>
  pv (slV 2 t3 none (some x8) none) fun t4 =>
  pv (lenV t4) fun t5 =>
  lp (fun k1 => den Tryz.prog (sel (bodyOf Tryz.f42) [1, 1, 1, 1, 0, 1, 0, 0]) (thenD k1 (blk 0 (thenD (den Tryz.prog (sel (bodyOf Tryz.f42) [1, 1, 1, 1, 1]) (bodyQ Tryz.prog Tryz.f42.results.toList K E)) (bodyQ Tryz.prog Tryz.f42.results.toList K E))))) #[x0, x1, x2, x3, x4, x5, x6, x7, x8, x9, (.slice none 0 0), x11, x12, x13, x14, x15, x16, x17, x18, x19, x20, x21, x22, x23, x24, x0, t1, t2, t3, x8, t4, t5, (.int .i64 0), x33, x34, x35, x36, x37, x38, x39, x40, x41, x42, x43, x44, x45, x46, x47, x48, x49, x50] := by kernel_rfl
def m42_1_1_1_1_0_1_0_0 (x0 x1 x2 x3 x4 x5 x6 x7 x8 x9 x11 x13 x14 x15 x16 x17 x18 x19 x20 x21 x22 x23 x24 x25 x26 x27 x28 x29 x30 x31 x41 x42 x43 x44 x45 x46 x47 x48 x49 x50 : Value) (v10 v32 : Value) (j : Nat → Value) : Env := #[x0, x1, x2, x3, x4, x5, x6, x7, x8, x9, v10, x11, (j 12), x13, x14, x15, x16, x17, x18, x19, x20, x21, x22, x23, x24, x25, x26, x27, x28, x29, x30, x31, v32, (j 33), (j 34), (j 35), (j 36), (j 37), (j 38), (j 39), (j 40), x41, x42, x43, x44, x45, x46, x47, x48, x49, x50]
theorem t42_1_1_1_1_0_1_0_0 (K : Kont) (E : PanK) (k1 : Env → Hp → Prop) (x0 x1 x2 x3 x4 x5 x6 x7 x8 x9 x11 x13 x14 x15 x16 x17 x18 x19 x20 x21 x22 x23 x24 x25 x26 x27 x28 x29 x30 x31 x41 x42 x43 x44 x45 x46 x47 x48 x49 x50 v10 v32 : Value) (j : Nat → Value) : den Tryz.prog (sel (bodyOf Tryz.f42) [1, 1, 1, 1, 0, 1, 0, 0]) (thenD k1 (blk 0 (thenD (den Tryz.prog (sel (bodyOf Tryz.f42) [1, 1, 1, 1, 1]) (bodyQ Tryz.prog Tryz.f42.results.toList K E)) (bodyQ Tryz.prog Tryz.f42.results.toList K E)))) (m42_1_1_1_1_0_1_0_0 x0 x1 x2 x3 x4 x5 x6 x7 x8 x9 x11 x13 x14 x15 x16 x17 x18 x19 x20 x21 x22 x23 x24 x25 x26 x27 x28 x29 x30 x31 x41 x42 x43 x44 x45 x46 x47 x48 x49 x50 v10 v32 j) =
  pv (binV .none .lss v32 x31) fun t1 =>
  cnd t1 (
    pv (iaV none 2 x30 v32) fun t2 =>
    ld true 2 t2 fun t3 =>
    nw 74 [(.int .u32 0), (.slice none 0 0)] fun t4 =>
    st 2 t4 t3 fun _ =>
    pv (faV 1 t4) fun t5 =>
    ld false 1 t5 fun t6 =>
    appX 90 2 32 v10 t6 fun t7 =>
    pv (binV .none .add v32 (.int .i64 1)) fun t8 =>
    k1 (m42_1_1_1_1_0_1_0_0 x0 x1 x2 x3 x4 x5 x6 x7 x8 x9 x11 x13 x14 x15 x16 x17 x18 x19 x20 x21 x22 x23 x24 x25 x26 x27 x28 x29 x30 x31 x41 x42 x43 x44 x45 x46 x47 x48 x49 x50 t7 t8 (jf #[x0, x1, x2, x3, x4, x5, x6, x7, x8, x9, t7, x11, t4, x13, x14, x15, x16, x17, x18, x19, x20, x21, x22, x23, x24, x25, x26, x27, x28, x29, x30, x31, t8, t1, t2, t3, v10, t5, t6, t7, t8, x41, x42, x43, x44, x45, x46, x47, x48, x49, x50]))) (
    den Tryz.prog (sel (bodyOf Tryz.f42) [1, 1, 1, 1, 1]) (bodyQ Tryz.prog Tryz.f42.results.toList K E) #[x0, x1, x2, x3, x4, x5, x6, x7, x8, x9, v10, x11, (j 12), x13, x14, x15, x16, x17, x18, x19, x20, x21, x22, x23, x24, x25, x26, x27, x28, x29, x30, x31, v32, t1, (j 34), (j 35), (j 36), (j 37), (j 38), (j 39), (j 40), x41, x42, x43, x44, x45, x46, x47, x48, x49, x50]) := by kernel_rfl
theorem t42_1_1_1_1_1 (K : Kont) (E : PanK) (x0 x1 x2 x3 x4 x5 x6 x7 x8 x9 x10 x11 x12 x13 x14 x15 x16 x17 x18 x19 x20 x21 x22 x23 x24 x25 x26 x27 x28 x29 x30 x31 x32 x33 x34 x35 x36 x37 x38 x39 x40 x41 x42 x43 x44 x45 x46 x47 x48 x49 x50 : Value)  : den Tryz.prog (sel (bodyOf Tryz.f42) [1, 1, 1, 1, 1]) (bodyQ Tryz.prog Tryz.f42.results.toList K E) #[x0, x1, x2, x3, x4, x5, x6, x7, x8, x9, x10, x11, x12, x13, x14, x15, x16, x17, x18, x19, x20, x21, x22, x23, x24, x25, x26, x27, x28, x29, x30, x31, x32, x33, x34, x35, x36, x37, x38, x39, x40, x41, x42, x43, x44, x45, x46, x47, x48, x49, x50] =
  pv (nilV x0) fun t1 =>
  pv (faV 1 t1) fun t2 =>
  ld false 1 t2 fun t3 =>
  ld true 3 x4 fun t4 =>
  callv Tryz.prog (.func (.func 74) #[] #[]) #[x10] (fun t5 h6 => (ldV h6 true 3 x4 t4) ∧ (ldV h6 false 1 t2 t3) ∧ (
    callv Tryz.prog (.func (.func 73) #[] #[]) #[t3, t5, t4] (fun t7 =>
    pv (exV 0 t7) fun t8 =>
    pv (exV 1 t7) fun t9 =>
    K (.tuple #[t8, t9])) E) h6) E := by kernel_rfl
theorem l42_1_1_1_1_0_1_0_0 {K : Kont} {E : PanK} {σ : Type} {x0 x1 x2 x3 x4 x5 x6 x7 x8 x9 x11 x13 x14 x15 x16 x17 x18 x19 x20 x21 x22 x23 x24 x25 x26 x27 x28 x29 x30 x31 x41 x42 x43 x44 x45 x46 x47 x48 x49 x50 v10 v32 y12 y33 y34 y35 y36 y37 y38 y39 y40 : Value} {h : Hp} (f10 f32 : σ → Value) (I : σ → Hp → Prop) (μ : σ → Nat) (s0 : σ) (e10 : v10 = f10 s0) (e32 : v32 = f32 s0) (h0 : h.wf → ∃ h', h.wk h' ∧ I s0 h')
  (round : ∀ (k1 : Env → Hp → Prop) (s : σ) (j : Nat → Value) (h : Hp), I s h → h.wf → (∀ s' j' h', μ s' < μ s → (h'.wf → ∃ h'', h'.wk h'' ∧ I s' h'') → k1 (m42_1_1_1_1_0_1_0_0 x0 x1 x2 x3 x4 x5 x6 x7 x8 x9 x11 x13 x14 x15 x16 x17 x18 x19 x20 x21 x22 x23 x24 x25 x26 x27 x28 x29 x30 x31 x41 x42 x43 x44 x45 x46 x47 x48 x49 x50 (f10 s') (f32 s') j') h') → (
  pv (binV .none .lss (f32 s) x31) fun t1 =>
  cnd t1 (
    pv (iaV none 2 x30 (f32 s)) fun t2 =>
    ld true 2 t2 fun t3 =>
    nw 74 [(.int .u32 0), (.slice none 0 0)] fun t4 =>
    st 2 t4 t3 fun _ =>
    pv (faV 1 t4) fun t5 =>
    ld false 1 t5 fun t6 =>
    appX 90 2 32 (f10 s) t6 fun t7 =>
    pv (binV .none .add (f32 s) (.int .i64 1)) fun t8 =>
    k1 (m42_1_1_1_1_0_1_0_0 x0 x1 x2 x3 x4 x5 x6 x7 x8 x9 x11 x13 x14 x15 x16 x17 x18 x19 x20 x21 x22 x23 x24 x25 x26 x27 x28 x29 x30 x31 x41 x42 x43 x44 x45 x46 x47 x48 x49 x50 t7 t8 (jf #[x0, x1, x2, x3, x4, x5, x6, x7, x8, x9, t7, x11, t4, x13, x14, x15, x16, x17, x18, x19, x20, x21, x22, x23, x24, x25, x26, x27, x28, x29, x30, x31, t8, t1, t2, t3, (f10 s), t5, t6, t7, t8, x41, x42, x43, x44, x45, x46, x47, x48, x49, x50]))) (
    den Tryz.prog (sel (bodyOf Tryz.f42) [1, 1, 1, 1, 1]) (bodyQ Tryz.prog Tryz.f42.results.toList K E) #[x0, x1, x2, x3, x4, x5, x6, x7, x8, x9, (f10 s), x11, (j 12), x13, x14, x15, x16, x17, x18, x19, x20, x21, x22, x23, x24, x25, x26, x27, x28, x29, x30, x31, (f32 s), t1, (j 34), (j 35), (j 36), (j 37), (j 38), (j 39), (j 40), x41, x42, x43, x44, x45, x46, x47, x48, x49, x50])) h) :
  lp (fun k1 => den Tryz.prog (sel (bodyOf Tryz.f42) [1, 1, 1, 1, 0, 1, 0, 0]) (thenD k1 (blk 0 (thenD (den Tryz.prog (sel (bodyOf Tryz.f42) [1, 1, 1, 1, 1]) (bodyQ Tryz.prog Tryz.f42.results.toList K E)) (bodyQ Tryz.prog Tryz.f42.results.toList K E))))) #[x0, x1, x2, x3, x4, x5, x6, x7, x8, x9, v10, x11, y12, x13, x14, x15, x16, x17, x18, x19, x20, x21, x22, x23, x24, x25, x26, x27, x28, x29, x30, x31, v32, y33, y34, y35, y36, y37, y38, y39, y40, x41, x42, x43, x44, x45, x46, x47, x48, x49, x50] h := by
  subst e10
  subst e32
  have e : (#[x0, x1, x2, x3, x4, x5, x6, x7, x8, x9, (f10 s0), x11, y12, x13, x14, x15, x16, x17, x18, x19, x20, x21, x22, x23, x24, x25, x26, x27, x28, x29, x30, x31, (f32 s0), y33, y34, y35, y36, y37, y38, y39, y40, x41, x42, x43, x44, x45, x46, x47, x48, x49, x50] : Env) = m42_1_1_1_1_0_1_0_0 x0 x1 x2 x3 x4 x5 x6 x7 x8 x9 x11 x13 x14 x15 x16 x17 x18 x19 x20 x21 x22 x23 x24 x25 x26 x27 x28 x29 x30 x31 x41 x42 x43 x44 x45 x46 x47 x48 x49 x50 (f10 s0) (f32 s0) (jf #[x0, x1, x2, x3, x4, x5, x6, x7, x8, x9, (f10 s0), x11, y12, x13, x14, x15, x16, x17, x18, x19, x20, x21, x22, x23, x24, x25, x26, x27, x28, x29, x30, x31, (f32 s0), y33, y34, y35, y36, y37, y38, y39, y40, x41, x42, x43, x44, x45, x46, x47, x48, x49, x50]) := by kernel_rfl
  rw [e]
  exact loop_r (fun s j => m42_1_1_1_1_0_1_0_0 x0 x1 x2 x3 x4 x5 x6 x7 x8 x9 x11 x13 x14 x15 x16 x17 x18 x19 x20 x21 x22 x23 x24 x25 x26 x27 x28 x29 x30 x31 x41 x42 x43 x44 x45 x46 x47 x48 x49 x50 (f10 s) (f32 s) j) I μ (fun k s j h hI hw next => by rw [t42_1_1_1_1_0_1_0_0]; exact round k s j h hI hw next) s0 (jf #[x0, x1, x2, x3, x4, x5, x6, x7, x8, x9, (f10 s0), x11, y12, x13, x14, x15, x16, x17, x18, x19, x20, x21, x22, x23, x24, x25, x26, x27, x28, x29, x30, x31, (f32 s0), y33, y34, y35, y36, y37, y38, y39, y40, x41, x42, x43, x44, x45, x46, x47, x48, x49, x50]) h0
end Go.Proofs.YtgcmbkoejjcjlaaGreatDoor.T
open Go Go.RowKit Go.Proofs.YtgcmbkoejjcjlaaGreatDoor.K Go.Proofs.YtgcmbkoejjcjlaaGreatDoor.T
set_option linter.unusedVariables false
set_option linter.unusedSimpArgs false
namespace Go.Proofs.YtgcmbkoejjcjlaaGreatDoor.A
theorem mixed : Tryz.prog.follows .mixedOrders = true := by kernel_rfl
variable {F F' : Nat → Option (List Value)} {M M' : Nat → Option Chunk} {N N' : Nat} {K : Kont} {E : PanK}
theorem blank_c (k : ∀ g bm N', N ≤ bm → bm < g → g < N' → (Hp.mk F (upd (upd M bm (some (.obj (.map #[] 0)))) g (some (.cells 201 [.slice none 0 0, .map (some bm)] 2))) N').wf → K (.pointer (some ⟨g, 0, none⟩)) ⟨F, upd (upd M bm (some (.obj (.map #[] 0)))) g (some (.cells 201 [.slice none 0 0, .map (some bm)] 2)), N'⟩) :
    callv Tryz.prog (.func (.func 108) #[] #[]) #[] K E ⟨F, M, N⟩ := by
  refine callv_of_text mixed Tryz.func108 (by kernel_rfl) (t108 _ E) (fun hw => ?_)
  refine mkm_r (fun bm hbm => ?_)
  refine pv_r (v := .agg #[.slice none 0 0, .map (some bm)]) (by kernel_rfl) ?_
  refine nw_r (fun g hg hc => ?_)
  exact ⟨_, wk_refl hc, fun hw' => k g bm _ hbm (by omega) (by omega) hw'⟩
end Go.Proofs.YtgcmbkoejjcjlaaGreatDoor.A
open Go Go.RowKit Go.Proofs.YtgcmbkoejjcjlaaGreatDoor.K Go.Proofs.YtgcmbkoejjcjlaaGreatDoor.T
set_option linter.unusedVariables false
set_option linter.unusedSimpArgs false
namespace Go.Proofs.YtgcmbkoejjcjlaaGreatDoor.A
variable {F F' : Nat → Option (List Value)} {M M' : Nat → Option Chunk} {N N' : Nat} {K : Kont} {E : PanK}
structure CE where
  n : Int
  s : Int
  lo : Int
  hi : Int
  deriving DecidableEq
def CE.cs (c : CE) : List Value := [.int .i64 c.n, .int .i64 c.s, .int .i64 c.lo, .int .i64 c.hi]
theorem of_c {v : Int} (k : ∀ N', N ≤ N' → (Hp.mk F M N').wf → K (.agg (CE.mk 1 v v v).cs.toArray) ⟨F, M, N'⟩) : callv Tryz.prog (.func (.func 110) #[] #[]) #[.int .i64 v] K E ⟨F, M, N⟩ := by
  refine callv_of_text mixed Tryz.func110 (by kernel_rfl) (t110 _ E _) (fun hw => ?_)
  have hm := hw.m
  refine nw_r (fun b hb => ?_)
  refine pv_r (v := .agg #[.int .i64 1, .int .i64 v, .int .i64 v, .int .i64 v]) (by kernel_rfl) ?_
  refine stM ?_
  refine ldMa fun hc => ?_
  exact ⟨⟨F, M, b + 1⟩, wk_end hc, fun hw' => k _ (by omega) hw'⟩
def CE.add (a b : CE) : CE :=
  if b = ⟨0, 0, 0, 0⟩ then a else if a = ⟨0, 0, 0, 0⟩ then b else
    ⟨IntKind.i64.wrap (a.n + b.n), IntKind.i64.wrap (a.s + b.s), if b.lo < a.lo then b.lo else a.lo, if b.hi > a.hi then b.hi else a.hi⟩
theorem eqc_r {a b : CE} {h : Hp} (k : K (.bool (decide (a = b))) h) : pv (eqCells .eql [0, 0, 0, 0] (.agg a.cs.toArray) (.agg b.cs.toArray)) K h := by
  refine ⟨_, ?_, k⟩
  obtain ⟨a1, a2, a3, a4⟩ := a
  obtain ⟨b1, b2, b3, b4⟩ := b
  simp only [eqCells, CE.cs]
  have hd : ∀ x y : Int, (x == y) = decide (x = y) := fun _ _ => rfl
  by_cases h1 : a1 = b1 <;> by_cases h2 : a2 = b2 <;> by_cases h3 : a3 = b3 <;> by_cases h4 : a4 = b4 <;> simp [flatVs, flatV, hd, h1, h2, h3, h4]
theorem add_c {g : Nat} {ty : TypeId} {a b : CE} (hM : M g = some (.cells ty a.cs 4)) (k : ∀ N', N ≤ N' → (Hp.mk F (upd M g (some (.cells ty (a.add b).cs 4))) N').wf → K (.tuple #[]) ⟨F, upd M g (some (.cells ty (a.add b).cs 4)), N'⟩) :
    callv Tryz.prog (.func (.func 169) #[] #[]) #[.pointer (some ⟨g, 0, none⟩), .agg b.cs.toArray] K E ⟨F, M, N⟩ := by
  refine callv_of_text mixed Tryz.func169 (by kernel_rfl) (t169 _ E _ _) (fun hw => ?_)
  have hm := hw.m
  have hg : g < N := by
    rcases Nat.lt_or_ge g N with h | h
    · exact h
    · rw [hm g h] at hM; cases hM
  refine nw_r (cs := b.cs) (fun b1 hb1 => ?_)
  refine pv_r (v := .agg #[.int .i64 0, .int .i64 0, .int .i64 0, .int .i64 0]) (by kernel_rfl) ?_
  refine nw_r (fun b2 hb2 => ?_)
  refine stM ?_
  refine ldMa (vs := b.cs) ?_
  refine ldMa (vs := (CE.mk 0 0 0 0).cs) ?_
  refine eqc_r ?_
  by_cases hb0 : b = ⟨0, 0, 0, 0⟩
  · rw [decide_eq_true hb0]
    refine cnd_t fun hc => ?_
    have e : a.add b = a := by unfold CE.add; rw [if_pos hb0]
    rw [e] at k
    have e2 : upd M g (some (.cells ty a.cs 4)) = M := by
      funext q
      by_cases hq : q = g
      · rw [hq, upd_same, hM]
      · rw [upd_ne _ _ hq]
    rw [e2] at k
    exact ⟨⟨F, M, b2 + 1⟩, wk_end hc, fun hw' => k _ (by omega) hw'⟩
  rw [decide_eq_false hb0]
  refine cnd_f (pv_r rfl (pv_r rfl ?_))
  refine ldMa (vs := a.cs) ?_
  refine ldMa (vs := (CE.mk 0 0 0 0).cs) ?_
  refine eqc_r ?_
  by_cases ha0 : a = ⟨0, 0, 0, 0⟩
  · rw [decide_eq_true ha0]
    refine cnd_t ?_
    refine ldMa (vs := b.cs) ?_
    refine pv_r rfl (pv_r rfl (stM (cs' := b.cs) ?_))
    have e : a.add b = b := by unfold CE.add; rw [if_neg hb0, if_pos ha0]
    rw [e] at k
    refine fun hc => ⟨⟨F, upd M g (some (.cells ty b.cs 4)), b2 + 1⟩, wk_drop hc (subM_keep ?_), fun hw' => k _ (by omega) hw'⟩
    exact subM_drop (subM_drop (subM_drop (subM_refl _) (hm _ (by omega))) (hm _ (by omega))) (hm _ (by omega))
  rw [decide_eq_false ha0]
  have e : a.add b = ⟨IntKind.i64.wrap (a.n + b.n), IntKind.i64.wrap (a.s + b.s), if b.lo < a.lo then b.lo else a.lo, if b.hi > a.hi then b.hi else a.hi⟩ := by unfold CE.add; rw [if_neg hb0, if_neg ha0]
  rw [e] at k
  refine cnd_f (pv_r rfl (pv_r rfl (pv_r rfl ?_)))
  refine ldM (v := .int .i64 a.n) ?_
  refine pv_r rfl (ldM (v := .int .i64 b.n) ?_)
  refine pv_r (v := .int .i64 (IntKind.i64.wrap (a.n + b.n))) (by simp [binV, intV]) ?_
  refine pv_r rfl (pv_r rfl (pv_r rfl ?_))
  refine stM (cs' := [.int .i64 (IntKind.i64.wrap (a.n + b.n)), .int .i64 a.s, .int .i64 a.lo, .int .i64 a.hi]) ?_
  refine pv_r rfl (pv_r rfl (pv_r rfl ?_))
  refine ldM (v := .int .i64 a.s) ?_
  refine pv_r rfl (ldM (v := .int .i64 b.s) ?_)
  refine pv_r (v := .int .i64 (IntKind.i64.wrap (a.s + b.s))) (by simp [binV, intV]) ?_
  refine pv_r rfl (pv_r rfl (pv_r rfl ?_))
  refine stM (cs' := [.int .i64 (IntKind.i64.wrap (a.n + b.n)), .int .i64 (IntKind.i64.wrap (a.s + b.s)), .int .i64 a.lo, .int .i64 a.hi]) ?_
  refine pv_r rfl (pv_r rfl (pv_r rfl ?_))
  refine ldM (v := .int .i64 a.lo) ?_
  refine pv_r rfl (ldM (v := .int .i64 b.lo) ?_)
  refine pv_r (v := .int .i64 (if b.lo < a.lo then b.lo else a.lo)) (by simp [mm]) ?_
  refine pv_r rfl (pv_r rfl (pv_r rfl ?_))
  refine stM (cs' := [.int .i64 (IntKind.i64.wrap (a.n + b.n)), .int .i64 (IntKind.i64.wrap (a.s + b.s)), .int .i64 (if b.lo < a.lo then b.lo else a.lo), .int .i64 a.hi]) ?_
  refine pv_r rfl (pv_r rfl (pv_r rfl ?_))
  refine ldM (v := .int .i64 a.hi) ?_
  refine pv_r rfl (ldM (v := .int .i64 b.hi) ?_)
  refine pv_r (v := .int .i64 (if b.hi > a.hi then b.hi else a.hi)) (by simp [mm]) ?_
  refine pv_r rfl (pv_r rfl (pv_r rfl ?_))
  refine stM (cs' := [.int .i64 (IntKind.i64.wrap (a.n + b.n)), .int .i64 (IntKind.i64.wrap (a.s + b.s)), .int .i64 (if b.lo < a.lo then b.lo else a.lo), .int .i64 (if b.hi > a.hi then b.hi else a.hi)]) ?_
  intro hc
  refine ⟨⟨F, upd M g (some (.cells ty (CE.mk (IntKind.i64.wrap (a.n + b.n)) (IntKind.i64.wrap (a.s + b.s)) (if b.lo < a.lo then b.lo else a.lo) (if b.hi > a.hi then b.hi else a.hi)).cs 4)), b2 + 1⟩, wk_drop hc fun q c hq => ?_, fun hw' => k _ (by omega) hw'⟩
  by_cases hqg : q = g
  · subst hqg; rw [upd_same] at hq ⊢; exact hq
  · rw [upd_ne _ _ hqg] at hq
    have : q < N := by
      rcases Nat.lt_or_ge q N with h | h
      · exact h
      · rw [hm q h] at hq; cases hq
    rw [upd_ne _ _ hqg, upd_ne _ _ hqg, upd_ne _ _ hqg, upd_ne _ _ hqg, upd_ne _ _ (by omega), upd_ne _ _ (by omega), upd_ne _ _ (by omega)]
    exact hq
end Go.Proofs.YtgcmbkoejjcjlaaGreatDoor.A
open Go Go.RowKit Go.Proofs.YtgcmbkoejjcjlaaGreatDoor.K Go.Proofs.YtgcmbkoejjcjlaaGreatDoor.T
set_option linter.unusedVariables false
set_option linter.unusedSimpArgs false
namespace Go.Proofs.YtgcmbkoejjcjlaaGreatDoor.A
variable {F F' : Nat → Option (List Value)} {M M' : Nat → Option Chunk} {N N' : Nat} {K : Kont} {E : PanK}
def CE.merge (a b : CE) : CE := if 0 = a.n then b else if 0 = b.n then a else a.add b
theorem merge_c {a b : CE} (k : ∀ N', N ≤ N' → (Hp.mk F M N').wf → K (.agg (a.merge b).cs.toArray) ⟨F, M, N'⟩) : callv Tryz.prog (.func (.func 144) #[] #[]) #[.agg a.cs.toArray, .agg b.cs.toArray] K E ⟨F, M, N⟩ := by
  refine callv_of_text mixed Tryz.func144 (by kernel_rfl) (t144 _ E _ _) (fun hw => ?_)
  have hm := hw.m
  refine nw_r (cs := a.cs) (fun b1 hb1 => ?_)
  refine nw_r (cs := b.cs) (fun b2 hb2 => ?_)
  refine nw_r (fun b3 hb3 => ?_)
  refine pv_r rfl (ldM (v := .int .i64 a.n) ?_)
  refine eql_r (fun ha => ?_) (fun ha => ?_)
  · have e : a.merge b = b := by unfold CE.merge; rw [if_pos ha]
    rw [e] at k
    refine cnd_t (ldMa (vs := b.cs) ?_)
    refine stM (cs' := b.cs) ?_
    refine ldMa (vs := b.cs) fun hc => ?_
    exact ⟨⟨F, M, b3 + 1⟩, wk_end hc, fun hw' => k _ (by omega) hw'⟩
  refine cnd_f (pv_r rfl (ldM (v := .int .i64 b.n) ?_))
  refine eql_r (fun hb => ?_) (fun hb => ?_)
  · have e : a.merge b = a := by unfold CE.merge; rw [if_neg ha, if_pos hb]
    rw [e] at k
    refine cnd_t (ldMa (vs := a.cs) ?_)
    refine stM (cs' := a.cs) ?_
    refine ldMa (vs := a.cs) fun hc => ?_
    exact ⟨⟨F, M, b3 + 1⟩, wk_end hc, fun hw' => k _ (by omega) hw'⟩
  have e : a.merge b = a.add b := by unfold CE.merge; rw [if_neg ha, if_neg hb]
  rw [e] at k
  refine cnd_f (ldMa (vs := a.cs) ?_)
  refine pv_r (v := .agg a.cs.toArray) (by kernel_rfl) ?_
  refine nw_r (fun b4 hb4 => ?_)
  refine stM (cs' := a.cs) ?_
  refine ldMa (vs := b.cs) ?_
  refine add_c (a := a) (b := b) (ty := 224) (upd_same _ _ _) (fun N' hN' hw' => ?_)
  refine pv_r rfl (ldMa (vs := (a.add b).cs) ?_)
  refine stM (cs' := (a.add b).cs) ?_
  refine ldMa (vs := (a.add b).cs) fun hc => ?_
  exact ⟨⟨F, M, N'⟩, wk_end hc, fun hw' => k _ (by omega) hw'⟩
end Go.Proofs.YtgcmbkoejjcjlaaGreatDoor.A
open Go Go.RowKit Go.Proofs.YtgcmbkoejjcjlaaGreatDoor.K Go.Proofs.YtgcmbkoejjcjlaaGreatDoor.T
set_option linter.unusedVariables false
set_option linter.unusedSimpArgs false
namespace Go.Proofs.YtgcmbkoejjcjlaaGreatDoor.A
variable {F F' : Nat → Option (List Value)} {M M' : Nat → Option Chunk} {N N' : Nat} {K : Kont} {E : PanK}
def ic (l : List Int) : List Value := l.map (.int .i64)
theorem clone_f {v : Value} {l : List Int} (hm0 : ∀ q, N ≤ q → M q = none) (hv : sR F M 1 v l.length (ic l)) (hl : l.length ≤ 10000000000000)
    (k : ∀ v' F' N', (Hp.mk F' M N').wf → subF F F' → N ≤ N' → sF F' 1 v' l.length (ic l) → K v' ⟨F', M, N'⟩) : callv Tryz.prog (.func (.func 65) #[] #[]) #[v] K E ⟨F, M, N⟩ := by
  refine callv_of_text mixed Tryz.func65 (by kernel_rfl) (t65 _ E _) (fun hw => ?_)
  obtain ⟨a, c, rfl, hc⟩ := hv.form
  cases a with
  | none =>
    have h0 : l.length = 0 := by rcases hv.2 with ⟨a', c', h1, h2⟩ | ⟨b, o, c', cs, h1, _⟩; exact h2; simp at h1
    have hl0 : l = [] := List.eq_nil_of_length_eq_zero h0
    refine pv_r rfl (cnd_t fun hc => ⟨_, wk_refl hc, fun hw' => k _ F N hw' (subF.refl _) (Nat.le_refl _) ?_⟩)
    rw [hl0]; exact sF.nil _ _ _
  | some ad =>
    refine pv_r rfl (cnd_f ?_)
    refine nws_r (cs := []) (by kernel_rfl) (fun b0 hb0 => ?_)
    refine app_r0 (n := 0) (cs := []) (m := l.length) (news := ic l) (ownS_new (upd_same _ _ _) rfl) (hv.new hw.m hb0).read (ints_one _) (by omega) (by simp [maxLen]; omega) (fun h => by cases h) (fun _ b c' hb hmc hcm hc => ?_)
    have hb' : N ≤ b := by rcases hb with h | h; omega; simp [Value.ownBlock] at h; omega
    rw [Nat.zero_add] at hmc
    refine ⟨⟨upd F b (some (ic l)), M, max (b0 + 1) (b + 1)⟩, wk_frz (M0 := M) hc ?_ (hm0 b hb') (upd_same _ _ _), fun hw' => k _ _ _ hw' (subF.upd (hw.f b hb')) (by omega) ?_⟩
    · intro q c hq
      have hqN : q < N := by
        rcases Nat.lt_or_ge q N with h | h
        · exact h
        · rw [hm0 q h] at hq; cases hq
      exact (upd_ne _ _ (by omega)).trans ((forget_ne _ (by simp [Value.ownBlock]; omega)).trans ((upd_ne _ _ (by omega)).trans hq))
    · rw [Nat.zero_add]
      exact sF_fresh (by simp [ic]) hmc
end Go.Proofs.YtgcmbkoejjcjlaaGreatDoor.A
open Go Go.RowKit Go.Proofs.YtgcmbkoejjcjlaaGreatDoor.K Go.Proofs.YtgcmbkoejjcjlaaGreatDoor.T
set_option linter.unusedVariables false
set_option linter.unusedSimpArgs false
namespace Go.Proofs.YtgcmbkoejjcjlaaGreatDoor.A
variable {F F' : Nat → Option (List Value)} {M M' : Nat → Option Chunk} {N N' : Nat} {K : Kont} {E : PanK}
def CE.sum (a b : CE) : CE := ⟨IntKind.i64.wrap (a.n + b.n), IntKind.i64.wrap (a.s + b.s), if b.lo < a.lo then b.lo else a.lo, if b.hi > a.hi then b.hi else a.hi⟩
def CE.rmerge (a b : CE) : CE := if a.n = 0 then b else if b.n = 0 then a else a.sum b
end Go.Proofs.YtgcmbkoejjcjlaaGreatDoor.A
open Go
namespace Go.Proofs.YtgcmbkoejjcjlaaGreatDoor.A
end Go.Proofs.YtgcmbkoejjcjlaaGreatDoor.A
open Go
set_option linter.unusedVariables false
set_option linter.unusedSimpArgs false
namespace Go.Proofs.YtgcmbkoejjcjlaaGreatDoor.A
def kcmp : List Int → List Int → Int
  | [], [] => 0
  | [], _ :: _ => -1
  | _ :: _, [] => 1
  | a :: l, b :: m => if a < b then -1 else if a > b then 1 else kcmp l m
theorem kcmp_self : ∀ a, kcmp a a = 0
  | [] => rfl
  | a :: l => by simp [kcmp, kcmp_self l]
theorem kcmp_eq : ∀ {a b : List Int}, kcmp a b = 0 → a = b
  | [], [], _ => rfl
  | [], b :: m, h => by simp [kcmp] at h
  | a :: l, [], h => by simp [kcmp] at h
  | a :: l, b :: m, h => by
    simp only [kcmp] at h
    split at h
    · omega
    · split at h
      · omega
      · have := kcmp_eq h
        rw [this, show a = b by omega]
theorem kcmp_neg : ∀ (a b : List Int), kcmp b a = - kcmp a b
  | [], [] => rfl
  | [], b :: m => rfl
  | a :: l, [] => rfl
  | a :: l, b :: m => by
    simp only [kcmp]
    rcases Int.lt_trichotomy a b with h | h | h
    · rw [if_neg (by omega), if_pos (by omega), if_pos h]; rfl
    · subst h; simp [kcmp_neg l m]
    · rw [if_pos (by omega), if_neg (by omega), if_pos (by omega)]
theorem kcmp_trans : ∀ {a b c : List Int}, kcmp a b < 0 → kcmp b c < 0 → kcmp a c < 0
  | [], [], c, h, _ => by simp [kcmp] at h
  | [], b :: m, [], _, h => by simp [kcmp] at h
  | [], b :: m, c :: o, _, _ => by simp [kcmp]
  | a :: l, [], c, h, _ => by simp [kcmp] at h
  | a :: l, b :: m, [], _, h => by simp [kcmp] at h
  | a :: l, b :: m, c :: o, h1, h2 => by
    simp only [kcmp] at h1 h2 ⊢
    by_cases ha : a < b
    · by_cases hb : b < c
      · rw [if_pos (by omega)]; decide
      · rw [if_neg hb] at h2
        by_cases hc : b > c
        · rw [if_pos hc] at h2; omega
        · rw [if_pos (by omega)]; decide
    · rw [if_neg ha] at h1
      by_cases ha2 : a > b
      · rw [if_pos ha2] at h1; omega
      · rw [if_neg ha2] at h1
        have : a = b := by omega
        subst this
        by_cases hb : a < c
        · rw [if_pos hb]; decide
        · rw [if_neg hb] at h2 ⊢
          by_cases hc : a > c
          · rw [if_pos hc] at h2; omega
          · rw [if_neg hc] at h2 ⊢
            exact kcmp_trans h1 h2
abbrev Rw := List Int × CE
def look : List Rw → List Int → Option CE
  | [], _ => none
  | (k', c) :: t, k => if k' = k then some c else look t k
theorem look_none : ∀ {t : List Rw} {k : List Int}, look t k = none ↔ ∀ x ∈ t, x.1 ≠ k
  | [], k => by simp [look]
  | (k', c) :: t, k => by
    simp only [look]
    split
    · rename_i h; simp [h]
    · rename_i h; rw [look_none]; simp [h]
def nodup (t : List Rw) : Prop := t.Pairwise fun a b => a.1 ≠ b.1
theorem look_some : ∀ {t : List Rw} {k : List Int} {c : CE}, nodup t → (look t k = some c ↔ (k, c) ∈ t)
  | [], k, c, _ => by simp [look]
  | (k', c') :: t, k, c, h => by
    have h' := List.pairwise_cons.1 h
    simp only [look]
    split
    · rename_i e
      subst e
      constructor
      · intro e; cases e; simp
      · intro e
        rcases List.mem_cons.1 e with e | e
        · cases e; rfl
        · exact absurd rfl (h'.1 (k', c) e)
    · rename_i e
      rw [look_some h'.2]
      simp [Ne.symm e]
def srt (t : List Rw) : Prop := t.Pairwise fun a b => kcmp a.1 b.1 < 0
theorem srt.nodup {t : List Rw} (h : srt t) : nodup t := h.imp fun {a b} h e => by rw [e, kcmp_self] at h; omega
theorem nodup.perm {a b : List Rw} (h : nodup a) (p : a.Perm b) : nodup b := p.pairwise h (fun {x y} h => Ne.symm h)
theorem look_perm {a b : List Rw} (h : nodup a) (p : a.Perm b) (k : List Int) : look a k = look b k := by
  cases hb : look b k with
  | none =>
    rw [look_none] at hb ⊢
    exact fun x hx => hb x (p.mem_iff.1 hx)
  | some c =>
    rw [look_some h]
    exact p.mem_iff.2 ((look_some (h.perm p)).1 hb)
theorem srt_ext : ∀ {a b : List Rw}, srt a → srt b → (∀ k, look a k = look b k) → a = b
  | [], [], _, _, _ => rfl
  | [], (k, c) :: b, _, _, h => by have := h k; simp [look] at this
  | (k, c) :: a, [], _, _, h => by have := h k; simp [look] at this
  | (k, c) :: a, (k', c') :: b, ha, hb, h => by
    have ha' := List.pairwise_cons.1 ha
    have hb' := List.pairwise_cons.1 hb
    have hk : k = k' := by
      have h1 : (k, c) ∈ (k', c') :: b := (look_some hb.nodup).1 (by rw [← h k]; simp [look])
      have h2 : (k', c') ∈ (k, c) :: a := (look_some ha.nodup).1 (by rw [h k']; simp [look])
      rcases List.mem_cons.1 h1 with e | e
      · cases e; rfl
      · rcases List.mem_cons.1 h2 with e' | e'
        · cases e'; rfl
        · have := ha'.1 _ e'
          have := hb'.1 _ e
          have h3 := kcmp_neg k k'
          simp only at *
          omega
    subst hk
    have hc : c = c' := by have := h k; simpa [look] using this
    subst hc
    have : a = b := srt_ext ha'.2 hb'.2 fun q => by
      by_cases hq : k = q
      · subst hq
        rw [look_none.2 (fun x hx e => by have := ha'.1 x hx; rw [e, kcmp_self] at this; omega), look_none.2 (fun x hx e => by have := hb'.1 x hx; rw [e, kcmp_self] at this; omega)]
      · have := h q
        simpa [look, hq] using this
    rw [this]
def mrg (o : Option CE) (c : CE) : CE := match o with
  | none => c
  | some c' => c'.merge c
def layP : List Rw → List Int → CE → List Rw
  | [], k, c => [(k, c)]
  | (k', c') :: t, k, c => if k' = k then (k', c'.merge c) :: t else (k', c') :: layP t k c
theorem layP_hit : ∀ {t : List Rw} {i : Nat} {k : List Int} {c c' : CE}, nodup t → t[i]? = some (k, c') → layP t k c = t.set i (k, c'.merge c)
  | [], i, k, c, c', _, h => by simp at h
  | (k1, c1) :: t, 0, k, c, c', _, h => by simp at h; obtain ⟨rfl, rfl⟩ := h; simp [layP]
  | (k1, c1) :: t, i + 1, k, c, c', hn, h => by
    have hn' := List.pairwise_cons.1 hn
    have h' : t[i]? = some (k, c') := by simpa using h
    have : k1 ≠ k := hn'.1 _ (List.mem_of_getElem? h')
    simp [layP, this, layP_hit hn'.2 h']
theorem layP_miss : ∀ {t : List Rw} {k : List Int} {c : CE}, (∀ x ∈ t, x.1 ≠ k) → layP t k c = t ++ [(k, c)]
  | [], k, c, _ => rfl
  | (k1, c1) :: t, k, c, h => by
    have := h (k1, c1) (by simp)
    simp only at this
    simp [layP, this, layP_miss (fun x hx => h x (List.mem_cons_of_mem _ hx))]
theorem layP_keys : ∀ (t : List Rw) (k : List Int) (c : CE) (x : Rw), x ∈ layP t k c → x.1 = k ∨ ∃ y ∈ t, y.1 = x.1
  | [], k, c, x, h => by simp [layP] at h; exact .inl (by rw [h])
  | (k1, c1) :: t, k, c, x, h => by
    simp only [layP] at h
    split at h
    · rename_i e
      rcases List.mem_cons.1 h with h | h
      · exact .inl (by rw [h]; exact e)
      · exact .inr ⟨x, by simp [h], rfl⟩
    · rcases List.mem_cons.1 h with h | h
      · exact .inr ⟨(k1, c1), by simp, by rw [h]⟩
      · rcases layP_keys t k c x h with h | ⟨y, hy, e⟩
        · exact .inl h
        · exact .inr ⟨y, by simp [hy], e⟩
theorem layP_nodup : ∀ {t : List Rw} {k : List Int} {c : CE}, nodup t → nodup (layP t k c)
  | [], k, c, _ => by simp [layP, nodup]
  | (k1, c1) :: t, k, c, h => by
    have h' := List.pairwise_cons.1 h
    simp only [layP]
    split
    · exact List.pairwise_cons.2 ⟨h'.1, h'.2⟩
    · rename_i hk
      refine List.pairwise_cons.2 ⟨fun x hx => ?_, layP_nodup h'.2⟩
      rcases layP_keys t k c x hx with e | ⟨y, hy, e⟩
      · rw [e]; exact hk
      · rw [← e]; exact h'.1 y hy
theorem layP_look : ∀ (t : List Rw) (k : List Int) (c : CE) (q : List Int), look (layP t k c) q = if k = q then some (mrg (look t k) c) else look t q
  | [], k, c, q => by simp [layP, look, mrg]
  | (k1, c1) :: t, k, c, q => by
    simp only [layP]
    by_cases h : k1 = k
    · subst h
      rw [if_pos rfl]
      simp only [look, if_true]
      by_cases h2 : k1 = q
      · simp [h2, mrg]
      · simp [h2]
    · rw [if_neg h]
      simp only [look, if_neg h]
      rw [layP_look t k c q]
      by_cases h2 : k1 = q
      · rw [if_pos h2, if_neg (fun e => h (by rw [h2, e])), if_pos h2]
      · rw [if_neg h2, if_neg h2]
def layR : List Rw → List Int → CE → List Rw
  | [], k, c => [(k, c)]
  | (k', c') :: t, k, c => if kcmp k' k < 0 then (k', c') :: layR t k c else if kcmp k' k = 0 then (k, c'.merge c) :: t else (k, c) :: (k', c') :: t
theorem layR_keys : ∀ (t : List Rw) (k : List Int) (c : CE) (x : Rw), x ∈ layR t k c → x.1 = k ∨ x ∈ t
  | [], k, c, x, h => by simp [layR] at h; exact .inl (by rw [h])
  | (k1, c1) :: t, k, c, x, h => by
    simp only [layR] at h
    split at h
    · rcases List.mem_cons.1 h with h | h
      · exact .inr (by rw [h]; simp)
      · rcases layR_keys t k c x h with h | h
        · exact .inl h
        · exact .inr (by simp [h])
    · split at h
      · rcases List.mem_cons.1 h with h | h
        · exact .inl (by rw [h])
        · exact .inr (by simp [h])
      · rcases List.mem_cons.1 h with h | h
        · exact .inl (by rw [h])
        · exact .inr h
theorem layR_srt : ∀ {t : List Rw} {k : List Int} {c : CE}, srt t → srt (layR t k c)
  | [], k, c, _ => by simp [layR, srt]
  | (k1, c1) :: t, k, c, h => by
    have h' := List.pairwise_cons.1 h
    simp only [layR]
    split
    · rename_i hk
      refine List.pairwise_cons.2 ⟨fun x hx => ?_, layR_srt h'.2⟩
      rcases layR_keys t k c x hx with e | e
      · rw [e]; exact hk
      · exact h'.1 x e
    · split
      · rename_i hk
        have := kcmp_eq hk
        subst this
        exact List.pairwise_cons.2 ⟨h'.1, h'.2⟩
      · rename_i h1 h2
        have h3 : kcmp k k1 < 0 := by rw [kcmp_neg k1 k]; omega
        refine List.pairwise_cons.2 ⟨fun x hx => ?_, h⟩
        rcases List.mem_cons.1 hx with e | e
        · rw [e]; exact h3
        · exact kcmp_trans h3 (h'.1 x e)
theorem layR_look : ∀ {t : List Rw} (k : List Int) (c : CE) (q : List Int), srt t → look (layR t k c) q = if k = q then some (mrg (look t k) c) else look t q
  | [], k, c, q, _ => by simp [layR, look, mrg]
  | (k1, c1) :: t, k, c, q, h => by
    have h' := List.pairwise_cons.1 h
    simp only [layR]
    split
    · rename_i hk
      have hne : k1 ≠ k := fun e => by rw [e, kcmp_self] at hk; omega
      simp only [look, if_neg hne]
      rw [layR_look k c q h'.2]
      by_cases h2 : k1 = q
      · rw [if_pos h2, if_neg (fun e => hne (by rw [h2, e])), if_pos h2]
      · rw [if_neg h2, if_neg h2]
    · split
      · rename_i hk
        have := kcmp_eq hk
        subst this
        simp only [look, if_true]
        by_cases h2 : k1 = q
        · simp [h2, mrg]
        · simp [h2]
      · rename_i h1 h2
        have hne : k1 ≠ k := fun e => h2 (by rw [e, kcmp_self])
        have hno : look t k = none := look_none.2 fun x hx e => by
          have h3 := h'.1 x hx
          rw [e] at h3
          exact h1 h3
        simp only [look, if_neg hne, hno, mrg]
def tab (l : List Rw) : List Rw := l.foldl (fun t r => layR t r.1 r.2) []
def sheet (l : List Rw) : List Rw := l.foldl (fun t r => layP t r.1 r.2) []
theorem sheet_snoc (l : List Rw) (r : Rw) : sheet (l ++ [r]) = layP (sheet l) r.1 r.2 := by simp [sheet]
theorem fold_srt (l : List Rw) : ∀ t, srt t → srt (l.foldl (fun t r => layR t r.1 r.2) t) := by
  induction l with
  | nil => exact fun t h => h
  | cons r l ih => exact fun t h => ih _ (layR_srt h)
theorem fold_nodup (l : List Rw) : ∀ t, nodup t → nodup (l.foldl (fun t r => layP t r.1 r.2) t) := by
  induction l with
  | nil => exact fun t h => h
  | cons r l ih => exact fun t h => ih _ (layP_nodup h)
theorem tab_srt (l : List Rw) : srt (tab l) := fold_srt l [] .nil
theorem sheet_nodup (l : List Rw) : nodup (sheet l) := fold_nodup l [] .nil
theorem fold_look (l : List Rw) : ∀ (s t : List Rw), srt t → (∀ q, look s q = look t q) → ∀ q, look (l.foldl (fun t r => layP t r.1 r.2) s) q = look (l.foldl (fun t r => layR t r.1 r.2) t) q := by
  induction l with
  | nil => exact fun s t _ h => h
  | cons r l ih =>
    intro s t ht h
    refine ih _ _ (layR_srt ht) fun q => ?_
    rw [layP_look, layR_look _ _ _ ht, h, h]
theorem sheet_look (l : List Rw) (q : List Int) : look (sheet l) q = look (tab l) q := fold_look l [] [] .nil (fun _ => rfl) q
theorem sheet_sorted {l d : List Rw} (p : (sheet l).Perm d) (h : srt d) : d = tab l :=
  srt_ext h (tab_srt l) fun q => by rw [← look_perm (sheet_nodup l) p, sheet_look]
theorem layP_len (t : List Rw) (k : List Int) (c : CE) : (layP t k c).length ≤ t.length + 1 := by
  induction t with
  | nil => simp [layP]
  | cons x t ih =>
    obtain ⟨k1, c1⟩ := x
    simp only [layP]
    split
    · simp
    · simp; omega
theorem layR_len (t : List Rw) (k : List Int) (c : CE) : (layR t k c).length ≤ t.length + 1 := by
  induction t with
  | nil => simp [layR]
  | cons x t ih =>
    obtain ⟨k1, c1⟩ := x
    simp only [layR]
    split
    · simp; omega
    · split <;> simp
end Go.Proofs.YtgcmbkoejjcjlaaGreatDoor.A
open Go Go.RowKit Go.Proofs.YtgcmbkoejjcjlaaGreatDoor.K Go.Proofs.YtgcmbkoejjcjlaaGreatDoor.T
set_option linter.unusedVariables false
set_option linter.unusedSimpArgs false
namespace Go.Proofs.YtgcmbkoejjcjlaaGreatDoor.A
variable {F F' : Nat → Option (List Value)} {M M' : Nat → Option Chunk} {N N' : Nat} {K : Kont} {E : PanK}
def clean (M : Nat → Option Chunk) (N : Nat) : Prop := ∀ k, N ≤ k → M k = none
theorem clean.new (h : clean M N) {b : Nat} (hb : N ≤ b) (x : Option Chunk) : clean (upd M b x) (b + 1) := fun k hk => (upd_ne _ _ (by omega)).trans (h k (by omega))
theorem clean.up (h : clean M N) (hN : N ≤ N') : clean M N' := fun k hk => h k (by omega)
theorem clean.set (h : clean M N) {b : Nat} (hb : b < N) (x : Option Chunk) : clean (upd M b x) N := fun k hk => (upd_ne _ _ (by omega)).trans (h k hk)
theorem clean.lt (h : clean M N) {b : Nat} {c : Chunk} (hb : M b = some c) : b < N := by
  rcases Nat.lt_or_ge b N with h' | h'
  · exact h'
  · rw [h b h'] at hb; cases hb
def own (M : Nat → Option Chunk) (B : Nat) (e : TypeId) (sz : Nat) (v : Value) (n : Nat) (cs : List Value) : Prop :=
  cs.length = n * sz ∧ ((v = .slice none 0 0 ∧ n = 0) ∨ ∃ b c rest, v = .slice (some ⟨b, 0, none⟩) n c ∧ n ≤ c ∧ c ≤ maxLen ∧ B ≤ b ∧ M b = some (.cells e (cs ++ rest) (c * sz)))
theorem own.nil {B : Nat} {e : TypeId} {sz : Nat} : own M B e sz (.slice none 0 0) 0 [] := ⟨by simp, .inl ⟨rfl, rfl⟩⟩
theorem own.os {B : Nat} {e : TypeId} {sz n : Nat} {v : Value} {cs : List Value} (h : own M B e sz v n cs) : ownS M e sz v n cs :=
  ⟨h.1, h.2.imp id fun ⟨b, c, rest, h1, h2, h3, _, h5⟩ => ⟨b, c, h1, h2, h3, rest, h5⟩⟩
theorem own.rd {B : Nat} {e : TypeId} {sz n : Nat} {v : Value} {cs : List Value} (h : own M B e sz v n cs) : sR F M sz v n cs := by
  refine ⟨h.1, ?_⟩
  rcases h.2 with ⟨rfl, rfl⟩ | ⟨b, c, rest, rfl, h2, h3, h4, h5⟩
  · exact .inl ⟨_, _, rfl, rfl⟩
  · exact .inr ⟨b, 0, c, cs ++ rest, rfl, h2, .inr ⟨_, _, h5⟩, by rw [List.drop_zero, ← h.1, List.take_left]⟩
theorem own.form {B : Nat} {e : TypeId} {sz n : Nat} {v : Value} {cs : List Value} (h : own M B e sz v n cs) : ∃ a c, v = .slice a n c ∧ n ≤ c := by
  rcases h.2 with ⟨rfl, rfl⟩ | ⟨b, c, rest, rfl, h2, h3, h4, h5⟩
  · exact ⟨_, _, rfl, Nat.le_refl _⟩
  · exact ⟨_, _, rfl, h2⟩
theorem own.one {B : Nat} {e : TypeId} {sz n : Nat} {v : Value} {cs : List Value} (h : own M B e sz v n cs) : v.oneCell' = true := by
  obtain ⟨a, c, rfl, _⟩ := h.form; rfl
theorem own.ge {B : Nat} {e : TypeId} {sz n : Nat} {v : Value} {cs : List Value} (h : own M B e sz v n cs) : ∀ q, v.ownBlock = some q → B ≤ q ∧ M q ≠ none := by
  rcases h.2 with ⟨rfl, rfl⟩ | ⟨b, c, rest, rfl, h2, h3, h4, h5⟩
  · intro q hq; simp [Value.ownBlock] at hq
  · intro q hq; simp [Value.ownBlock] at hq; subst hq; exact ⟨h4, by rw [h5]; simp⟩
theorem own.lt {B : Nat} {e : TypeId} {sz n : Nat} {v : Value} {cs : List Value} (h : own M B e sz v n cs) (hm : clean M N) : ∀ q, v.ownBlock = some q → q < N := fun q hq => by
  have := (h.ge q hq).2
  cases hq : M q with
  | none => exact absurd hq this
  | some c => exact hm.lt hq
theorem own.keep {B B' : Nat} {e : TypeId} {sz n : Nat} {v : Value} {cs : List Value} (h : own M B e sz v n cs) (hM : ∀ q, v.ownBlock = some q → M' q = M q) (hB : B' ≤ B := by omega) : own M' B' e sz v n cs :=
  ⟨h.1, h.2.imp id fun ⟨b, c, rest, h1, h2, h3, h4, h5⟩ => ⟨b, c, rest, h1, h2, h3, by omega, (hM b (by rw [h1]; rfl)).trans h5⟩⟩
def fr (M M' : Nat → Option Chunk) (N : Nat) (v v' : Value) : Prop := ∀ q, v.ownBlock ≠ some q → q < N → M' q = M q ∧ v'.ownBlock ≠ some q
theorem fr.trans {M'' : Nat → Option Chunk} {v v' v'' : Value} (h : fr M M' N v v') (k : fr M' M'' N' v' v'') (hN : N ≤ N') : fr M M'' N v v'' := fun q hq hl =>
  ⟨((k q (h q hq hl).2 (by omega)).1).trans (h q hq hl).1, (k q (h q hq hl).2 (by omega)).2⟩
theorem fr.refl {v : Value} : fr M M N v v := fun q hq _ => ⟨rfl, hq⟩
theorem own.app {B : Nat} {e : TypeId} {sz bytes n m : Nat} {v x : Value} {cs news : List Value} (h : own M B e sz v n cs) (hm : clean M N) (hB : B ≤ N) (hx : sR F M sz x m news) (h1 : ∀ c ∈ news, c.oneCell' = true) (hb : (n + m) * bytes ≤ 140737488355328) (hmx : n + m ≤ maxLen)
    (k : ∀ v' M' N', own M' B e sz v' (n + m) (cs ++ news) → fr M M' N v v' → N ≤ N' → clean M' N' → K v' ⟨F, M', N'⟩) : appX e sz bytes v x K ⟨F, M, N⟩ := by
  have hlen : (cs ++ news).length = (n + m) * sz := by rw [List.length_append, h.1, hx.1, Nat.add_mul]
  refine app_r0 h.os hx.read h1 hb hmx (fun hv h0 => ?_) (fun _ b c hb hc hcm => ?_)
  · subst hv; subst h0
    have hn : news = [] := List.eq_nil_of_length_eq_zero (by simpa using hx.1)
    subst hn
    have hn0 : n = 0 := by
      rcases h.2 with ⟨_, h⟩ | ⟨b, c, rest, h1, _⟩
      · exact h
      · cases h1
    subst hn0
    exact k _ _ _ ⟨hlen, .inl ⟨rfl, rfl⟩⟩ fr.refl (Nat.le_refl _) hm
  · have hlt := h.lt hm
    have hbB : B ≤ b := by rcases hb with hb | hb; omega; exact (h.ge b hb).1
    have hfn : ∀ q, forget M v q = M q ∨ v.ownBlock = some q := fun q => by
      by_cases hq : v.ownBlock = some q
      · exact .inr hq
      · exact .inl (forget_ne _ hq)
    refine k _ _ _ ⟨hlen, .inr ⟨b, c, [], rfl, hc, hcm, hbB, by rw [upd_same, List.append_nil]⟩⟩ (fun q hq hqN => ?_) (Nat.le_max_left _ _) (fun q hq => ?_)
    · have hqb : q ≠ b := by rcases hb with hb | hb; omega; exact fun e => hq (e ▸ hb)
      exact ⟨(upd_ne _ _ hqb).trans (forget_ne _ hq), by simp [Value.ownBlock]; omega⟩
    · rw [upd_ne _ _ (by omega)]
      rcases hfn q with hf | hf
      · rw [hf]; exact hm q (by omega)
      · have := hlt q hf; omega
theorem len_r {a : Option Addr} {n c : Nat} {h : Hp} (k : K (.int .i64 n) h) : pv (lenV (.slice a n c)) K h := ⟨_, rfl, k⟩
theorem inV {e : EqK} {op : BinOp} {k : IntKind} {a b : Int} (hop : op ≠ .shl ∧ op ≠ .shr := by decide) : binV e op (.int k a) (.int k b) = intV op k a b := by
  cases op <;> simp_all [binV]
theorem sub_n {e : EqK} {a b : Nat} {h : Hp} (h1 : b ≤ a) (h2 : a ≤ 9223372036854775807) (k : K (.int .i64 ((a - b : Nat) : Int)) h) : pv (binV e .sub (.int .i64 a) (.int .i64 b)) K h :=
  sub_r (by omega) (by omega) (by rw [← Int.ofNat_sub h1]; exact k)
theorem add_n {e : EqK} {a b : Nat} {h : Hp} (h2 : a + b ≤ 9223372036854775807) (k : K (.int .i64 ((a + b : Nat) : Int)) h) : pv (binV e .add (.int .i64 a) (.int .i64 b)) K h :=
  add_r (by omega) (by omega) (by rw [← Int.natCast_add]; exact k)
theorem u64w {x : Int} (h0 : 0 ≤ x) (h1 : x < 18446744073709551616) : IntKind.u64.wrap x = x := by
  unfold IntKind.wrap
  simp [IntKind.bits, IntKind.signed]
  omega
theorem uquo {e : EqK} {a b : Nat} {h : Hp} (h1 : 0 < b) (h2 : a < 18446744073709551616) (k : K (.int .u64 ((a / b : Nat) : Int)) h) : pv (binV e .quo (.int .u64 a) (.int .u64 b)) K h :=
  ⟨_, by rw [inV]; simp only [intV]; rw [if_neg (by omega)], by
    rw [show (Int.tdiv (a : Int) (b : Int)) = ((a / b : Nat) : Int) by rfl, u64w (Int.natCast_nonneg _) (Int.ofNat_lt.2 (Nat.lt_of_le_of_lt (Nat.div_le_self a b) h2))]; exact k⟩
theorem umul {e : EqK} {a b : Nat} {h : Hp} (h2 : a * b < 18446744073709551616) (k : K (.int .u64 ((a * b : Nat) : Int)) h) : pv (binV e .mul (.int .u64 a) (.int .u64 b)) K h :=
  ⟨_, by rw [inV]; rfl, by rw [← Int.natCast_mul, u64w (by omega) (by omega)]; exact k⟩
theorem usub {e : EqK} {a b : Nat} {h : Hp} (h1 : b ≤ a) (h2 : a < 18446744073709551616) (k : K (.int .u64 ((a - b : Nat) : Int)) h) : pv (binV e .sub (.int .u64 a) (.int .u64 b)) K h :=
  ⟨_, by rw [inV]; rfl, by rw [← Int.ofNat_sub h1, u64w (by omega) (by omega)]; exact k⟩
theorem upd_upd {α : Type} (f : Nat → Option α) (b : Nat) (x y : Option α) : upd (upd f b x) b y = upd f b y := by funext q; simp only [upd]; split <;> rfl
theorem clean.set' (h : clean M N) {b : Nat} (hb : N ≤ b) (hbN : b < N') {x : Option Chunk} : clean (upd M b x) N' := fun k hk => (upd_ne _ _ (by omega)).trans (h k (by omega))
theorem iaA {b o n sz : Nat} {k : IntKind} {i : Nat} {h : Hp} (h1 : i < n) (kk : K (.pointer (some ⟨b, o + i * sz, none⟩)) h) : pv (iaV (some n) sz (.pointer (some ⟨b, o, none⟩)) (.int k (i : Nat))) K h :=
  ⟨_, by simp [iaV]; omega, kk⟩
noncomputable def keepM (M : Nat → Option Chunk) (p : Nat → Prop) : Nat → Option Chunk := fun q => open Classical in if p q then M q else none
theorem keepM_in {p : Nat → Prop} {q : Nat} (h : p q) : keepM M p q = M q := if_pos h
theorem keepM_sub (M : Nat → Option Chunk) (p : Nat → Prop) : subM (keepM M p) M := fun k c h => by
  unfold keepM at h
  split at h
  · exact h
  · cases h
theorem keepM_clean {p : Nat → Prop} (h : clean M N) : clean (keepM M p) N := fun k hk => by
  unfold keepM
  split
  · exact h k hk
  · rfl
def keepV (N : Nat) (v : Value) (q : Nat) : Prop := q < N ∨ v.ownBlock = some q
theorem fr_keep {v v' : Value} (h : ∀ q, v.ownBlock ≠ some q → q < N → M' q = M q ∧ v'.ownBlock ≠ some q) : fr M (keepM M' (keepV N v')) N v v' := fun q hq hl =>
  ⟨(keepM_in (.inl hl)).trans (h q hq hl).1, (h q hq hl).2⟩
theorem own.trim {B : Nat} {e : TypeId} {sz n : Nat} {v : Value} {cs : List Value} (h : own M B e sz v n cs) : own (keepM M (keepV N v)) B e sz v n cs := h.keep (fun q hq => keepM_in (.inr hq)) (Nat.le_refl _)
theorem gdTT {A : Kont → Hp → Prop} : gdK (.bool true) true A K = A K := by funext h; unfold gdK; rw [if_pos (by simp [isB])]
theorem gdFF {A : Kont → Hp → Prop} : gdK (.bool false) false A K = A K := by funext h; unfold gdK; rw [if_pos (by simp [isB])]
theorem gdTF {A : Kont → Hp → Prop} : gdK (.bool true) false A K = K undef := by funext h; unfold gdK; rw [if_neg (by simp [isB])]
theorem gdFT {A : Kont → Hp → Prop} : gdK (.bool false) true A K = K undef := by funext h; unfold gdK; rw [if_neg (by simp [isB])]
theorem pvS {v : Value} : pv (some v) K = K v := by funext h; exact propext ⟨fun ⟨u, h1, h2⟩ => by cases h1; exact h2, fun h => ⟨_, rfl, h⟩⟩
theorem pickT {a b : Value} : pickV (.bool true) a b = some a := rfl
theorem pickF {a b : Value} : pickV (.bool false) a b = some b := rfl
theorem faP {b o off : Nat} : faV off (.pointer (some ⟨b, o, none⟩)) = some (.pointer (some ⟨b, o + off, none⟩)) := rfl
theorem lenS {a : Option Addr} {n c : Nat} : lenV (.slice a n c) = some (.int .i64 n) := rfl
theorem capS {a : Option Addr} {n c : Nat} : capV (.slice a n c) = some (.int .i64 c) := rfl
theorem nilP {a : Addr} : nilV (.pointer (some a)) = some (.pointer (some a)) := rfl
theorem exA {a : Value} {l : List Value} : exV 0 (.tuple ⟨a :: l⟩) = some a := rfl
theorem exB {a b : Value} {l : List Value} : exV 1 (.tuple ⟨a :: b :: l⟩) = some b := rfl
theorem exC {a b c : Value} {l : List Value} : exV 2 (.tuple ⟨a :: b :: c :: l⟩) = some c := rfl
theorem notB {b : Bool} : unV .not (.bool b) = some (.bool !b) := rfl
theorem cndT {A B : Hp → Prop} : cnd (.bool true) A B = A := by funext h; exact propext ⟨fun ⟨t, h1, h2⟩ => by cases h1; simpa using h2, fun h => ⟨true, rfl, by simpa using h⟩⟩
theorem cndF {A B : Hp → Prop} : cnd (.bool false) A B = B := by funext h; exact propext ⟨fun ⟨t, h1, h2⟩ => by cases h1; simpa using h2, fun h => ⟨false, rfl, by simpa using h⟩⟩
theorem sS : (∀ (A : Kont → Hp → Prop) (K : Kont), gdK (.bool true) true A K = A K) ∧ (∀ (A : Kont → Hp → Prop) (K : Kont), gdK (.bool false) false A K = A K) ∧ (∀ (A : Kont → Hp → Prop) (K : Kont), gdK (.bool true) false A K = K undef) ∧ (∀ (A : Kont → Hp → Prop) (K : Kont), gdK (.bool false) true A K = K undef) ∧
    (∀ (v : Value) (K : Kont), pv (some v) K = K v) ∧ (∀ (a b : Value), pickV (.bool true) a b = some a) ∧ (∀ (a b : Value), pickV (.bool false) a b = some b) ∧ (∀ (b o off : Nat), faV off (.pointer (some ⟨b, o, none⟩)) = some (.pointer (some ⟨b, o + off, none⟩))) ∧
    (∀ (a : Option Addr) (n c : Nat), lenV (.slice a n c) = some (.int .i64 n)) ∧ (∀ (a : Option Addr) (n c : Nat), capV (.slice a n c) = some (.int .i64 c)) ∧ (∀ (a : Addr), nilV (.pointer (some a)) = some (.pointer (some a))) ∧
    (∀ (a : Value) (l : List Value), exV 0 (.tuple ⟨a :: l⟩) = some a) ∧ (∀ (a b : Value) (l : List Value), exV 1 (.tuple ⟨a :: b :: l⟩) = some b) ∧ (∀ (a b c : Value) (l : List Value), exV 2 (.tuple ⟨a :: b :: c :: l⟩) = some c) ∧
    (∀ (b : Bool), unV .not (.bool b) = some (.bool !b)) ∧ (∀ (A B : Hp → Prop), cnd (.bool true) A B = A) ∧ (∀ (A B : Hp → Prop), cnd (.bool false) A B = B) ∧ ((!true) = false) ∧ ((!false) = true) ∧ (∀ n : Nat, 0 + n = n) ∧ (∀ n : Nat, n + 0 = n) :=
  ⟨fun _ _ => gdTT, fun _ _ => gdFF, fun _ _ => gdTF, fun _ _ => gdFT, fun _ _ => pvS, fun _ _ => pickT, fun _ _ => pickF, fun _ _ _ => faP, fun _ _ _ => lenS, fun _ _ _ => capS, fun _ => nilP, fun _ _ => exA, fun _ _ _ => exB, fun _ _ _ _ => exC, fun _ => notB, fun _ _ => cndT, fun _ _ => cndF, Bool.not_true, Bool.not_false, Nat.zero_add, Nat.add_zero⟩
end Go.Proofs.YtgcmbkoejjcjlaaGreatDoor.A
open Go Go.RowKit Go.Proofs.YtgcmbkoejjcjlaaGreatDoor.K Go.Proofs.YtgcmbkoejjcjlaaGreatDoor.T
set_option linter.unusedVariables false
set_option linter.unusedSimpArgs false
namespace Go.Proofs.YtgcmbkoejjcjlaaGreatDoor.A
variable {F F' : Nat → Option (List Value)} {M M' : Nat → Option Chunk} {N N' : Nat} {K : Kont} {E : PanK}
def dig (d : Nat) : Int := if d < 10 then 48 + d else 87 + d
def num (u : Nat) : List Int := if h : u < 36 then [dig u] else num (u / 36) ++ [dig (u % 36)]
termination_by u
decreasing_by omega
def txt (i : Int) : List Int := if i < 0 then 45 :: num i.natAbs else num i.natAbs
def text (l : List Int) : List Int := l.flatMap (fun v => txt v ++ [32])
def undig (c : Int) : Nat := if c < 58 then (c - 48).toNat else (c - 87).toNat
def val (l : List Int) : Nat := l.foldl (fun a c => a * 36 + undig c) 0
theorem undig_dig (d : Nat) : undig (dig d) = d := by unfold undig dig; split <;> split <;> omega
theorem dig_ne (d : Nat) : dig d ≠ 32 ∧ dig d ≠ 45 := by unfold dig; split <;> omega
theorem val_num (u : Nat) : val (num u) = u := by
  induction u using Nat.strongRecOn with
  | _ u ih =>
    rw [num]
    split
    · simp [val, undig_dig]
    · rename_i h
      have hi := ih (u / 36) (by omega)
      unfold val at hi ⊢
      rw [List.foldl_append, hi]
      simp [undig_dig]
      omega
theorem num_ne (u : Nat) : ∀ c ∈ num u, c ≠ 32 ∧ c ≠ 45 := by
  induction u using Nat.strongRecOn with
  | _ u ih =>
    rw [num]
    split
    · intro c hc; simp at hc; subst hc; exact dig_ne u
    · rename_i h
      intro c hc
      rcases List.mem_append.1 hc with h1 | h1
      · exact ih _ (by omega) c h1
      · simp at h1; subst h1; exact dig_ne _
theorem num_inj {u v : Nat} (h : num u = num v) : u = v := by rw [← val_num u, h, val_num]
theorem txt_ne (i : Int) : ∀ c ∈ txt i, c ≠ 32 := by
  intro c hc
  unfold txt at hc
  split at hc
  · rcases List.mem_cons.1 hc with rfl | h
    · omega
    · exact (num_ne _ c h).1
  · exact (num_ne _ c hc).1
theorem txt_inj {i j : Int} (h : txt i = txt j) : i = j := by
  unfold txt at h
  split at h <;> split at h
  · injection h with _ h; have := num_inj h; omega
  · have := (num_ne j.natAbs 45 (by rw [← h]; simp)).2; simp at this
  · have := (num_ne i.natAbs 45 (by rw [h]; simp)).2; simp at this
  · have := num_inj h; omega
theorem cut_inj {a b s t : List Int} (ha : ∀ c ∈ a, c ≠ 32) (hb : ∀ c ∈ b, c ≠ 32) (h : a ++ 32 :: s = b ++ 32 :: t) : a = b ∧ s = t := by
  induction a generalizing b with
  | nil =>
    cases b with
    | nil => exact ⟨rfl, by simpa using h⟩
    | cons y b => simp at h; exact absurd h.1.symm (hb y (by simp))
  | cons x a ih =>
    cases b with
    | nil => simp at h; exact absurd h.1 (ha x (by simp))
    | cons y b =>
      simp at h
      obtain ⟨h1, h2⟩ := ih (fun c hc => ha c (by simp [hc])) (fun c hc => hb c (by simp [hc])) h.2
      exact ⟨by rw [h.1, h1], h2⟩
theorem text_inj : ∀ {a b : List Int}, text a = text b → a = b
  | [], [], _ => rfl
  | [], y :: b, h => by simp [text] at h
  | x :: a, [], h => by simp [text] at h
  | x :: a, y :: b, h => by
    have h' : txt x ++ 32 :: text a = txt y ++ 32 :: text b := by simpa [text] using h
    obtain ⟨h1, h2⟩ := cut_inj (txt_ne x) (txt_ne y) h'
    rw [txt_inj h1, text_inj h2]
theorem num_len (k : Nat) : ∀ u, u < 36 ^ (k + 1) → (num u).length ≤ k + 1 := by
  induction k with
  | zero => intro u h; rw [num, dif_pos (by simpa using h)]; simp
  | succ k ih =>
    intro u h
    rw [num]
    split
    · simp
    · have := ih (u / 36) (by rw [Nat.div_lt_iff_lt_mul (by decide)]; rw [Nat.pow_succ] at h; exact h)
      simp; omega
theorem num_pos (u : Nat) : 0 < (num u).length := by
  rw [num]; split <;> simp
def bts (l : List Int) : List Value := l.map (.int .u8)
theorem digs_at : ∀ d : Fin 36, ((#[48, 49, 50, 51, 52, 53, 54, 55, 56, 57, 97, 98, 99, 100, 101, 102, 103, 104, 105, 106, 107, 108, 109, 110, 111, 112, 113, 114, 115, 116, 117, 118, 119, 120, 121, 122] : Array UInt8)[d.val]?).map (fun b => (b.toNat : Int)) = some (dig d.val) := by decide
theorem ix_dig {d : Nat} (hd : d < 36) {k : IntKind} : ixV (.string ⟨#[48, 49, 50, 51, 52, 53, 54, 55, 56, 57, 97, 98, 99, 100, 101, 102, 103, 104, 105, 106, 107, 108, 109, 110, 111, 112, 113, 114, 115, 116, 117, 118, 119, 120, 121, 122]⟩) (.int k (d : Nat)) = some (.int .u8 (dig d)) := by
  have h := digs_at ⟨d, hd⟩
  simp only [ixV]
  rw [if_pos (by omega)]
  simp only [Int.toNat_natCast]
  have e : ∀ (a : Array UInt8) (i : Nat), (ByteArray.mk a)[i]? = a[i]? := fun a i => by
    simp only [getElem?_def]; rfl
  rw [e]
  simp only at h
  rw [Option.map_eq_some_iff] at h
  obtain ⟨b, h1, h2⟩ := h
  rw [h1, ← h2]; rfl
theorem drop_set {l : List Value} {i : Nat} (h : i < l.length) (x : Value) : (l.set i x).drop i = x :: l.drop (i + 1) := by
  induction l generalizing i with
  | nil => simp at h
  | cons a l ih =>
    cases i with
    | zero => simp
    | succ i => simpa using ih (by simpa using h)
theorem splice_one {l : List Value} {i : Nat} (h : i < l.length) (x : Value) : splice l i [x] = l.set i x := by
  rw [splice_cons (by simp; omega), splice_nil]
structure fbS (u : Nat) (s : Nat × List Int) (l : List Value) : Prop where
  len : l.length = 65
  num : num u = A.num s.1 ++ s.2
  tail : l.drop (65 - s.2.length) = bts s.2
  room : u < 18446744073709551616
  lt : s.1 < 18446744073709551616
theorem fbS.short {u : Nat} {s : Nat × List Int} {l : List Value} (h : fbS u s l) : s.2.length ≤ 12 := by
  have h1 := num_len 12 u (by have := h.room; omega)
  have h2 := congrArg List.length h.num
  have h3 := num_pos s.1
  simp at h2; omega
end Go.Proofs.YtgcmbkoejjcjlaaGreatDoor.A
open Go Go.RowKit Go.Proofs.YtgcmbkoejjcjlaaGreatDoor.K Go.Proofs.YtgcmbkoejjcjlaaGreatDoor.T
set_option linter.unusedVariables false
set_option linter.unusedSimpArgs false
namespace Go.Proofs.YtgcmbkoejjcjlaaGreatDoor.A
variable {F F' : Nat → Option (List Value)} {M M' : Nat → Option Chunk} {N N' : Nat} {K : Kont} {E : PanK}
theorem isp_c {h : Hp} (k : K (.bool false) h) : callv Tryz.prog (.func (.func 208) #[] #[]) #[.int .i64 36] K E h := by
  obtain ⟨F, M, N⟩ := h
  refine callv_of_text mixed Tryz.func208 (by kernel_rfl) (t208 _ E _) (fun hw => ?_)
  refine sub_r (by decide) (by decide) ?_
  refine pv_r (v := .int .i64 32) (by kernel_rfl) ?_
  refine eql_f (by decide) fun hc => ?_
  exact ⟨_, wk_refl hc, fun _ => k⟩
theorem fb_c {B n u : Nat} {v : Value} {cs : List Value} (h : own M B 5 1 v n cs) (hm : clean M N) (hB : B ≤ N) (hu : u < 18446744073709551616) (hn : n ≤ 1099511627776)
    (k : ∀ v' M' N', own M' B 5 1 v' (n + (num u).length) (cs ++ bts (num u)) → fr M M' N v v' → N ≤ N' → clean M' N' → (Hp.mk F M' N').wf → K (.tuple #[v', .string ⟨#[]⟩]) ⟨F, M', N'⟩) :
    callv Tryz.prog (.func (.func 204) #[] #[]) #[v, .int .u64 (u : Nat), .int .i64 36, .bool false, .bool true] K E ⟨F, M, N⟩ := by
  refine callv_of_text mixed Tryz.func204 (by kernel_rfl) (t204 _ E _ _ _ _ _) (fun hw => ?_)
  refine lss_f (by decide) (gd_ff (gd_ff (eql_f (by decide) (pv_r (v := .bool false) rfl ?_))))
  refine gd_ff (gd_ff (gtr_f (by decide) (pv_r (v := .bool false) rfl ?_)))
  refine cnd_f ?_
  rw [t204_1_1]
  refine nw_r (fun b hb => ?_)
  refine cnd_f ?_
  rw [t204_1_1_1_1_1]
  refine isp_c ?_
  refine cnd_f ?_
  refine pv_r (v := .int .u64 36) (by kernel_rfl) ?_
  refine l204_1_1_1_1_1_0_1_1_1_0_0_0 (σ := Nat × List Int) (fun s => .int .u64 (s.1 : Nat)) (fun s => .int .i64 ((65 - s.2.length : Nat) : Int))
    (fun s h => ∃ l N', h = ⟨F, upd M b (some (.cells 252 l 65)), N'⟩ ∧ b < N' ∧ fbS u s l) (fun s => s.1) (u, []) rfl rfl (fun hw1 => ⟨_, wk_refl hw1, _, _, rfl, Nat.lt_succ_self _, ⟨rfl, by simp, rfl, hu, hu⟩⟩) (fun k1 s j h1 hI hw1 next => ?_)
  rw [t204_1_1_1_1_1_0_1_1_1_0_0_0]
  obtain ⟨l, N1, rfl, hbN, hs⟩ := hI
  have hl := hs.len
  have hsh := hs.short
  have hlt := hs.lt
  refine geq_r (fun hq => ?_) (fun hq => ?_)
  · refine cnd_t ?_
    refine sub_n (b := 1) (by omega) (by omega) ?_
    refine uquo (b := 36) (by decide) hlt ?_
    refine umul (b := 36) (by omega) ?_
    refine usub (by omega) hlt ?_
    rw [show s.1 - s.1 / 36 * 36 = s.1 % 36 by omega, show 65 - s.2.length - 1 = 65 - (s.2.length + 1) by omega]
    refine pv_r (ix_dig (Nat.mod_lt _ (by decide))) ?_
    refine iaA (by omega) ?_
    refine stM (cs' := l.set (65 - (s.2.length + 1)) (.int .u8 (dig (s.1 % 36)))) ?_ (upd_same _ _ _) (by rw [Nat.zero_add, Nat.mul_one]; exact splice_one (by omega) _) rfl (List.all_eq_true.1 rfl) (by omega)
    refine next (s.1 / 36, dig (s.1 % 36) :: s.2) _ _ (by simp only; omega) (fun hw2 => ⟨_, wk_refl hw2, _, _, by rw [upd_upd], hbN, ⟨by simpa using hl, ?_, ?_, hu, by simp only; omega⟩⟩)
    · rw [hs.num]
      simp only
      rw [num, dif_neg (by omega)]; simp
    · have h1 := hs.tail
      simp only [List.length_cons]
      rw [drop_set (by omega), show 65 - (s.2.length + 1) + 1 = 65 - s.2.length by omega, h1]; rfl
  · refine cnd_f ?_
    refine sub_n (b := 1) (by omega) (by omega) ?_
    rw [show 65 - s.2.length - 1 = 65 - (s.2.length + 1) by omega]
    refine pv_r (ix_dig (by omega)) ?_
    refine iaA (by omega) ?_
    refine stM (cs' := l.set (65 - (s.2.length + 1)) (.int .u8 (dig s.1))) ?_ (upd_same _ _ _) (by rw [Nat.zero_add, Nat.mul_one]; exact splice_one (by omega) _) rfl (List.all_eq_true.1 rfl) (by omega)
    rw [upd_upd]
    rw [t204_1_1_1_1_1_1]
    refine cnd_f ?_
    rw [t204_1_1_1_1_1_1_1]
    refine cnd_t ?_
    have hnum : num u = dig s.1 :: s.2 := by rw [hs.num, num, dif_pos (by omega)]; rfl
    have hnl : (num u).length = s.2.length + 1 := by rw [hnum]; rfl
    refine sl_suf (65 - (s.2.length + 1)) (by omega) (by omega) ?_
    rw [if_neg (by omega)]
    have hx : sR F (upd M b (some (.cells 252 (l.set (65 - (s.2.length + 1)) (.int .u8 (dig s.1))) 65))) 1 (.slice (some ⟨b, 0 + (65 - (s.2.length + 1)) * 1, none⟩) (65 - (65 - (s.2.length + 1))) (65 - (65 - (s.2.length + 1)))) (num u).length (bts (num u)) := by
      refine ⟨by simp [bts], .inr ⟨b, _, _, _, by rw [show 65 - (65 - (s.2.length + 1)) = (num u).length by omega], Nat.le_refl _, .inr ⟨_, _, upd_same _ _ _⟩, ?_⟩⟩
      rw [show 0 + (65 - (s.2.length + 1)) * 1 = 65 - (s.2.length + 1) by omega, drop_set (by omega), show 65 - (s.2.length + 1) + 1 = 65 - s.2.length by omega, hs.tail, hnum, List.take_of_length_le (by simp [bts])]
      rfl
    have hbne : v.ownBlock ≠ some b := fun e => by have := h.lt hm b e; omega
    have hk1 : own (upd M b (some (.cells 252 (l.set (65 - (s.2.length + 1)) (.int .u8 (dig s.1))) 65))) B 5 1 v n cs := h.keep (fun q hq => upd_ne _ _ (fun e => hbne (e ▸ hq))) (Nat.le_refl _)
    refine hk1.app (N := N1) (hm.set' hb hbN) (by omega) hx (fun c hc => by obtain ⟨x, _, rfl⟩ := List.mem_map.1 hc; rfl) (by simp [hnl]; omega) (by simp [maxLen]; omega) (fun v' M' N' hv' hfr hN' hm' hc => ?_)
    exact ⟨_, wk_drop hc (keepM_sub _ (keepV N v')), fun hw' => k v' _ N' hv'.trim (fr_keep fun q hq hqN => ⟨((hfr q hq (by omega)).1).trans (upd_ne _ _ (by omega)), (hfr q hq (by omega)).2⟩) (by omega) (keepM_clean hm') hw'⟩
end Go.Proofs.YtgcmbkoejjcjlaaGreatDoor.A
open Go Go.RowKit Go.Proofs.YtgcmbkoejjcjlaaGreatDoor.K Go.Proofs.YtgcmbkoejjcjlaaGreatDoor.T
set_option linter.unusedVariables false
set_option linter.unusedSimpArgs false
namespace Go.Proofs.YtgcmbkoejjcjlaaGreatDoor.A
variable {F F' : Nat → Option (List Value)} {M M' : Nat → Option Chunk} {N N' : Nat} {K : Kont} {E : PanK}
def appK (F : Nat → Option (List Value)) (M : Nat → Option Chunk) (N B n : Nat) (v : Value) (cs out : List Value) (K : Kont) : Prop :=
  ∀ v' M' N', own M' B 5 1 v' (n + out.length) (cs ++ out) → fr M M' N v v' → N ≤ N' → clean M' N' → (Hp.mk F M' N').wf → K v' ⟨F, M', N'⟩
theorem bts_len (l : List Int) : (bts l).length = l.length := by simp [bts]
theorem au_c {B n u : Nat} {v : Value} {cs : List Value} (h : own M B 5 1 v n cs) (hm : clean M N) (hB : B ≤ N) (hu : u < 18446744073709551616) (hn : n ≤ 1099511627776) (k : appK F M N B n v cs (bts (num u)) K) :
    callv Tryz.prog (.func (.func 196) #[] #[]) #[v, .int .u64 (u : Nat), .int .i64 36] K E ⟨F, M, N⟩ := by
  refine callv_of_text mixed Tryz.func196 (by kernel_rfl) (t196 _ E _ _ _) (fun hw => ?_)
  refine eql_f (by decide) (cnd_f ?_)
  refine fb_c h hm hB hu hn (fun v' M' N' h1 h2 h3 h4 h5 => ?_)
  refine pv_r rfl (pv_r rfl fun hc => ⟨_, wk_refl hc, fun hw' => k v' M' N' (by rw [bts_len]; exact h1) h2 h3 h4 hw'⟩)
theorem num_short {u : Nat} (hu : u < 18446744073709551616) : (num u).length ≤ 13 := num_len 12 u (by omega)
theorem ai_c {B n : Nat} {i : Int} {v : Value} {cs : List Value} (h : own M B 5 1 v n cs) (hm : clean M N) (hB : B ≤ N) (h0 : -9223372036854775808 ≤ i) (h1 : i ≤ 9223372036854775807) (hn : n ≤ 549755813888) (k : appK F M N B n v cs (bts (txt i)) K) :
    callv Tryz.prog (.func (.func 184) #[] #[]) #[v, .int .i64 i, .int .i64 36] K E ⟨F, M, N⟩ := by
  refine callv_of_text mixed Tryz.func184 (by kernel_rfl) (t184 _ E _ _ _) (fun hw => ?_)
  have wr : ∀ x : Int, IntKind.u64.wrap x = x % 18446744073709551616 := fun x => by
    unfold IntKind.wrap
    simp [IntKind.bits, IntKind.signed]
  refine pv_r rfl ?_
  refine lss_r (fun hi => ?_) (fun hi => ?_)
  · refine cnd_t (nws_r (cs := [.int .u8 45]) (by kernel_rfl) (fun b hb => ?_))
    have hbne : v.ownBlock ≠ some b := fun e => by have := h.lt hm b e; omega
    have h2 : own (upd M b (some (.cells 5 [.int .u8 45] [Value.int .u8 45].length))) B 5 1 v n cs := h.keep (fun q hq => upd_ne _ _ (fun e => hbne (e ▸ hq))) (Nat.le_refl _)
    refine h2.app (m := 1) (news := [.int .u8 45]) (hm.new hb _) (by omega) ⟨rfl, .inr ⟨b, 0, 1, _, rfl, Nat.le_refl _, .inr ⟨_, _, upd_same _ _ _⟩, rfl⟩⟩ (List.all_eq_true.1 rfl) (by omega) (by simp [maxLen]; omega) (fun v1 M1 N1 h3 h4 h5 h6 => ?_)
    have e : unV .neg (.int .u64 (IntKind.u64.wrap i)) = some (.int .u64 (i.natAbs : Nat)) := by
      simp only [unV, wr]; congr 2; omega
    refine pv_r e ?_
    rw [t184_1_1_1]
    refine au_c h3 h6 (by omega) (by omega) (by omega) (fun v' M' N' h7 h8 h9 h10 h11 hc => ?_)
    have h12 : fr M (keepM M' (keepV N v')) N v v' := fr_keep fun q hq hqN => by
      obtain ⟨a1, a2⟩ := h4 q hq (by omega)
      obtain ⟨a3, a4⟩ := h8 q a2 (by omega)
      exact ⟨a3.trans (a1.trans (upd_ne _ _ (by omega))), a4⟩
    refine ⟨_, wk_drop hc (keepM_sub _ (keepV N v')), fun hw' => k v' _ N' ?_ h12 (by omega) (keepM_clean h10) hw'⟩
    have e2 : txt i = 45 :: num i.natAbs := by unfold txt; rw [if_pos hi]
    have h13 := h7.trim (N := N)
    rw [e2]
    simpa [bts, Nat.add_assoc, Nat.add_comm] using h13
  · refine cnd_f ?_
    have e : IntKind.u64.wrap i = (i.natAbs : Nat) := by rw [wr]; omega
    rw [e, t184_1_1_1]
    refine au_c h hm hB (by omega) (by omega) (fun v' M' N' h7 h8 h9 h10 h11 hc => ?_)
    have e2 : txt i = num i.natAbs := by unfold txt; rw [if_neg hi]
    exact ⟨_, wk_refl hc, fun hw' => k v' M' N' (by rw [e2]; exact h7) h8 h9 h10 hw'⟩
theorem sai_c {B n : Nat} {i : Int} {v : Value} {cs : List Value} (h : own M B 5 1 v n cs) (hm : clean M N) (hB : B ≤ N) (h0 : -9223372036854775808 ≤ i) (h1 : i ≤ 9223372036854775807) (hn : n ≤ 549755813888) (k : appK F M N B n v cs (bts (txt i)) K) :
    callv Tryz.prog (.func (.func 168) #[] #[]) #[v, .int .i64 i, .int .i64 36] K E ⟨F, M, N⟩ := by
  refine callv_of_text mixed Tryz.func168 (by kernel_rfl) (t168 _ E _ _ _) (fun hw => ?_)
  refine ai_c h hm hB h0 h1 hn (fun v' M' N' h7 h8 h9 h10 h11 hc => ?_)
  exact ⟨_, wk_refl hc, fun hw' => k v' M' N' h7 h8 h9 h10 hw'⟩
def i64 (x : Int) : Prop := -9223372036854775808 ≤ x ∧ x ≤ 9223372036854775807
def txtB (k : List Int) : ByteArray := ⟨((text k).map (fun n => UInt8.ofNat (Int.toNat n))).toArray⟩
theorem dig_b (d : Nat) (h : d < 36) : 0 ≤ dig d ∧ dig d < 256 := by unfold dig; split <;> omega
theorem num_b (u : Nat) : ∀ c ∈ num u, 0 ≤ c ∧ c < 256 := by
  induction u using Nat.strongRecOn with
  | _ u ih =>
    rw [num]
    split
    · rename_i h; intro c hc; simp at hc; subst hc; exact dig_b u h
    · rename_i h
      intro c hc
      rcases List.mem_append.1 hc with h1 | h1
      · exact ih _ (by omega) c h1
      · simp at h1; subst h1; exact dig_b _ (by omega)
theorem text_b (k : List Int) : ∀ c ∈ text k, 0 ≤ c ∧ c < 256 := by
  intro c hc
  simp only [text, List.mem_flatMap] at hc
  obtain ⟨x, _, hx⟩ := hc
  rcases List.mem_append.1 hx with h1 | h1
  · unfold txt at h1
    split at h1
    · rcases List.mem_cons.1 h1 with rfl | h
      · omega
      · exact num_b _ c h
    · exact num_b _ c h1
  · simp at h1; omega
theorem txtB_inj {a b : List Int} (h : txtB a = txtB b) : a = b := by
  apply text_inj
  have h1 : (text a).map (fun n => UInt8.ofNat (Int.toNat n)) = (text b).map (fun n => UInt8.ofNat (Int.toNat n)) := by
    unfold txtB at h
    injection h with h
    simpa using h
  have key : ∀ (x y : List Int), (∀ c ∈ x, 0 ≤ c ∧ c < 256) → (∀ c ∈ y, 0 ≤ c ∧ c < 256) → x.map (fun n => UInt8.ofNat (Int.toNat n)) = y.map (fun n => UInt8.ofNat (Int.toNat n)) → x = y := by
    intro x
    induction x with
    | nil => intro y _ _ h; cases y with | nil => rfl | cons _ _ => simp at h
    | cons p x ih =>
      intro y hx hy h
      cases y with
      | nil => simp at h
      | cons q y =>
        simp only [List.map_cons, List.cons.injEq] at h
        obtain ⟨a1, a2⟩ := hx p (by simp)
        obtain ⟨b1, b2⟩ := hy q (by simp)
        have h3 := congrArg UInt8.toNat h.1
        simp only [UInt8.toNat_ofNat'] at h3
        rw [show p = q by omega, ih y (fun c hc => hx c (by simp [hc])) (fun c hc => hy c (by simp [hc])) h.2]
  exact key _ _ (text_b a) (text_b b) h1
theorem txt_len {i : Int} (h : i64 i) : (txt i).length ≤ 14 := by
  unfold txt
  have := num_short (u := i.natAbs) (by have := h.1; have := h.2; omega)
  split
  · simp; omega
  · omega
theorem text_len : ∀ {l : List Int}, (∀ x ∈ l, i64 x) → (text l).length ≤ 15 * l.length
  | [], _ => by simp [text]
  | x :: l, h => by
    have h1 := text_len (l := l) (fun y hy => h y (by simp [hy]))
    have h2 := txt_len (h x (by simp))
    simp only [text, List.flatMap_cons, List.length_append, List.length_cons, List.length_nil] at h1 ⊢
    omega
theorem text_snoc (l : List Int) (x : Int) : text (l ++ [x]) = text l ++ txt x ++ [32] := by simp [text]
theorem text_c {v : Value} {l : List Int} (hv : sF F 1 v l.length (ic l)) (hl : l.length ≤ 17179869184) (hi : ∀ x ∈ l, i64 x) (k : ∀ N', N ≤ N' → (Hp.mk F M N').wf → K (.string (txtB l)) ⟨F, M, N'⟩) :
    callv Tryz.prog (.func (.func 143) #[] #[]) #[v] K E ⟨F, M, N⟩ := by
  refine callv_of_text mixed Tryz.func143 (by kernel_rfl) (t143 _ E _) (fun hw => ?_)
  have hm : clean M N := hw.m
  obtain ⟨a, c, rfl, hac⟩ := hv.form
  refine len_r ?_
  refine l143_1_1_0_1_0_0 (σ := Nat × Value) (fun s => s.2) (fun s => .int .i64 (s.1 : Nat))
    (fun s h => ∃ M' N', h = ⟨F, M', N'⟩ ∧ N ≤ N' ∧ (∀ q, q < N → M' q = M q) ∧ clean M' N' ∧ s.1 ≤ l.length ∧ own M' N 5 1 s.2 (text (l.take s.1)).length (bts (text (l.take s.1)))) (fun s => l.length - s.1)
    (0, .slice none 0 0) rfl rfl (fun hw1 => ⟨_, wk_refl hw1, _, _, rfl, Nat.le_refl _, fun _ _ => rfl, hm, Nat.zero_le _, own.nil⟩) (fun k1 s j h1 hI hw1 next => ?_)
  rw [t143_1_1_0_1_0_0]
  obtain ⟨M1, N1, rfl, hN1, hM1, hm1, hs, ho⟩ := hI
  refine lss_r (fun hlt => ?_) (fun hge => ?_)
  · have hlt' : s.1 < l.length := by omega
    obtain ⟨b, o, c', hab, cs, hF, hcl, hcs⟩ := hv.at (by decide) hlt'
    cases hab
    refine cnd_t (iaN_r hlt' ?_)
    have hx : (ic l)[s.1]? = some (.int .i64 l[s.1]) := by simp [ic, hlt']
    refine ld_r (ldV_c (row_F hF) (by rw [Nat.mul_one, hcs s.1 (by omega)]; exact hx)) ?_
    have htk : (text (l.take s.1)).length ≤ 15 * s.1 := by
      have := text_len (l := l.take s.1) (fun x hx => hi x (List.mem_of_mem_take hx))
      rw [List.length_take, Nat.min_eq_left (by omega)] at this; exact this
    have hxi := hi l[s.1] (List.getElem_mem _)
    refine sai_c ho hm1 hN1 hxi.1 hxi.2 (by omega) (fun v2 M2 N2 h2 h3 h4 h5 h6 => ?_)
    refine nws_r (cs := [.int .u8 32]) (by kernel_rfl) (fun b1 hb1 => ?_)
    have h7 : own (upd M2 b1 (some (.cells 5 [.int .u8 32] [Value.int .u8 32].length))) N 5 1 v2 _ _ := h2.keep (fun q hq => upd_ne _ _ (fun e => by have := h2.lt h5 q hq; omega)) (Nat.le_refl _)
    have htx := txt_len hxi
    refine h7.app (m := 1) (news := [.int .u8 32]) (h5.new hb1 _) (by omega) ⟨rfl, .inr ⟨b1, 0, 1, _, rfl, Nat.le_refl _, .inr ⟨_, _, upd_same _ _ _⟩, rfl⟩⟩ (List.all_eq_true.1 rfl) (by rw [bts_len]; omega) (by simp [maxLen, bts_len]; omega) (fun v3 M3 N3 h8 h9 h10 h11 => ?_)
    refine inc_r (by omega) ?_
    refine next (s.1 + 1, v3) _ _ (by simp only; omega) (fun hw2 => ⟨_, wk_refl hw2, M3, N3, rfl, by omega, fun q hq => ?_, h11, by simp only; omega, ?_⟩)
    · have q1 : s.2.ownBlock ≠ some q := fun e => by have := (ho.ge q e).1; omega
      obtain ⟨a1, a2⟩ := h3 q q1 (by omega)
      obtain ⟨a3, a4⟩ := h9 q a2 (by omega)
      exact a3.trans ((upd_ne _ _ (by omega)).trans (a1.trans (hM1 q hq)))
    · simp only
      rw [List.take_add_one, List.getElem?_eq_getElem hlt', Option.toList_some, text_snoc]
      simpa [bts, Nat.add_assoc] using h8
  · refine cnd_f ?_
    have e : l.take s.1 = l := List.take_of_length_le (by omega)
    rw [e] at ho
    refine ⟨_, ⟨(text l).length, text l, ho.rd.read, rfl⟩, fun hc => ⟨⟨F, M, N1⟩, wk_drop hc (fun q c hq => ?_), fun hw' => k N1 hN1 hw'⟩⟩
    rw [hM1 q (hm.lt hq)]; exact hq
end Go.Proofs.YtgcmbkoejjcjlaaGreatDoor.A
open Go Go.RowKit Go.Proofs.YtgcmbkoejjcjlaaGreatDoor.K Go.Proofs.YtgcmbkoejjcjlaaGreatDoor.T
set_option linter.unusedVariables false
set_option linter.unusedSimpArgs false
namespace Go.Proofs.YtgcmbkoejjcjlaaGreatDoor.A
variable {F F' : Nat → Option (List Value)} {M M' : Nat → Option Chunk} {N N' : Nat} {K : Kont} {E : PanK}
def cmpI (a b : Int) : Int := if a < b then -1 else if a > b then 1 else 0
theorem nan_c {a : Int} {h : Hp} (k : K (.bool false) h) : callv Tryz.prog (.func (.func 200) #[] #[]) #[.int .i64 a] K E h := by
  obtain ⟨F, M, N⟩ := h
  refine callv_of_text mixed Tryz.func200 (by kernel_rfl) (t200 _ E _) (fun hw => ?_)
  exact neq_f rfl fun hc => ⟨_, wk_refl hc, fun _ => k⟩
theorem compare_c {a b : Int} {h : Hp} (k : K (.int .i64 (cmpI a b)) h) : callv Tryz.prog (.func (.func 195) #[] #[]) #[.int .i64 a, .int .i64 b] K E h := by
  obtain ⟨F, M, N⟩ := h
  refine callv_of_text mixed Tryz.func195 (by kernel_rfl) (t195 _ E _ _) (fun hw => ?_)
  refine nan_c (nan_c (cnd_f (cnd_f ?_)))
  refine lss_r (fun h1 => cnd_t fun hc => ⟨_, wk_refl hc, fun _ => ?_⟩) (fun h1 => cnd_f (gtr_r (fun h2 => cnd_t fun hc => ⟨_, wk_refl hc, fun _ => ?_⟩) (fun h2 => cnd_f fun hc => ⟨_, wk_refl hc, fun _ => ?_⟩)))
  · unfold cmpI at k; rw [if_pos h1] at k; exact k
  · unfold cmpI at k; rw [if_neg h1, if_pos h2] at k; exact k
  · unfold cmpI at k; rw [if_neg h1, if_neg h2] at k; exact k
theorem kcmp_at {a b : List Int} {i : Nat} (ha : i < a.length) (hb : i < b.length) : kcmp (a.drop i) (b.drop i) = if cmpI a[i] b[i] = 0 then kcmp (a.drop (i + 1)) (b.drop (i + 1)) else cmpI a[i] b[i] := by
  rw [List.drop_eq_getElem_cons ha, List.drop_eq_getElem_cons hb]
  simp only [kcmp, cmpI]
  split
  · rw [if_neg (by decide)]
  · split
    · rw [if_neg (by decide)]
    · rw [if_pos rfl]
theorem kcmp_end {a b : List Int} {i : Nat} (h : i = min a.length b.length) : kcmp (a.drop i) (b.drop i) = cmpI a.length b.length := by
  unfold cmpI
  rcases Nat.lt_trichotomy a.length b.length with hl | hl | hl
  · rw [if_pos (by omega), List.drop_eq_nil_of_le (by omega), List.drop_eq_getElem_cons (by omega)]; rfl
  · rw [if_neg (by omega), if_neg (by omega), List.drop_eq_nil_of_le (by omega), List.drop_eq_nil_of_le (by omega)]; rfl
  · rw [if_neg (by omega), if_pos (by omega), show b.drop i = [] from List.drop_eq_nil_of_le (by omega), List.drop_eq_getElem_cons (by omega)]; rfl
theorem ints_at {v : Value} {l : List Int} (hv : sF F 1 v l.length (ic l)) {i : Nat} (hi : i < l.length) :
    ∃ b o c cs, v = .slice (some ⟨b, o, none⟩) l.length c ∧ F b = some cs ∧ cs[o + i * 1]? = some (.int .i64 l[i]) := by
  obtain ⟨b, o, c, hab, cs, hF, _, hcs⟩ := hv.at (by decide) hi
  exact ⟨b, o, c, cs, hab, hF, by rw [Nat.mul_one, hcs i (by omega)]; simp [ic, hi]⟩
theorem ixn_r {v : Value} {l : List Int} (hv : sF F 1 v l.length (ic l)) {i : Nat} {K : Value → Kont} (hi : i < l.length) (k : ∀ p, K p (.int .i64 l[i]) ⟨F, M, N⟩) :
    pv (iaV none 1 v (.int .i64 (i : Nat))) (fun p => ld false 1 p (K p)) ⟨F, M, N⟩ := by
  obtain ⟨b, o, c, cs, rfl, hF, hc⟩ := ints_at hv hi
  exact iaN_r hi (ld_r (ldV_c (row_F hF) hc) (k _))
theorem lenF_r {v : Value} {sz n : Nat} {cs : List Value} (hv : sF F sz v n cs) {h : Hp} (k : K (.int .i64 n) h) : pv (lenV v) K h := by
  obtain ⟨a, c, rfl, _⟩ := hv.form
  exact len_r k
theorem first_c {u v : Value} {a b : List Int} (hu : sF F 1 u a.length (ic a)) (hv : sF F 1 v b.length (ic b)) (hla : a.length ≤ 9223372036854775807) (k : K (.int .i64 (kcmp a b)) ⟨F, M, N⟩) :
    callv Tryz.prog (.func (.func 182) #[] #[]) #[u, v] K E ⟨F, M, N⟩ := by
  refine callv_of_text mixed Tryz.func182 (by kernel_rfl) (t182 _ E _ _) (fun hw => ?_)
  refine lenF_r hu (lenF_r hv ?_)
  have e : mm false (.int .i64 a.length) (.int .i64 b.length) = some (.int .i64 ((min a.length b.length : Nat) : Int)) := by
    simp only [mm]
    congr 2
    simp only [Bool.false_eq_true, if_false]
    split <;> omega
  refine pv_r e ?_
  refine l182_1_0_1_0_0 (σ := Nat) (fun i => .int .i64 (i : Nat)) (fun i h => h = ⟨F, M, N⟩ ∧ i ≤ min a.length b.length ∧ kcmp a b = kcmp (a.drop i) (b.drop i)) (fun i => min a.length b.length - i) 0 rfl
    (fun hw1 => ⟨_, wk_refl hw1, rfl, Nat.zero_le _, rfl⟩) (fun k1 i j h1 hI hw1 next => ?_)
  rw [t182_1_0_1_0_0]
  obtain ⟨rfl, hi, he⟩ := hI
  refine lss_r (fun hlt => ?_) (fun hge => ?_)
  · have h1 : i < a.length := by omega
    have h2 : i < b.length := by omega
    refine cnd_t (ixn_r hu h1 fun p => ixn_r hv h2 fun p' => compare_c ?_)
    rw [kcmp_at h1 h2] at he
    refine neq_r (fun hn => ?_) (fun hn => ?_)
    · refine cnd_t fun hc => ⟨_, wk_refl hc, fun _ => ?_⟩
      rw [if_neg hn] at he; rw [← he]; exact k
    · refine cnd_f (inc_r (by omega) ?_)
      rw [if_pos (by omega)] at he
      exact next (i + 1) _ _ (by omega) (fun hw2 => ⟨_, wk_refl hw2, rfl, by omega, he⟩)
  · refine cnd_f ?_
    refine lenF_r hu (lenF_r hv (compare_c fun hc => ⟨_, wk_refl hc, fun _ => ?_⟩))
    rw [kcmp_end (by omega)] at he
    rw [← he]; exact k
theorem Cmp_c {u v : Value} {a b : List Int} (hu : sF F 1 u a.length (ic a)) (hv : sF F 1 v b.length (ic b)) (hla : a.length ≤ 9223372036854775807) (k : K (.int .i64 (kcmp a b)) ⟨F, M, N⟩) :
    callv Tryz.prog (.func (.func 165) #[] #[]) #[u, v] K E ⟨F, M, N⟩ := by
  refine callv_of_text mixed Tryz.func165 (by kernel_rfl) (t165 _ E _ _) (fun hw => ?_)
  exact first_c hu hv hla fun hc => ⟨_, wk_refl hc, fun _ => k⟩
def rowD (F : Nat → Option (List Value)) (cs : List Value) (r : Rw) : Prop := ∃ v, cs = v :: r.2.cs ∧ sF F 1 v r.1.length (ic r.1) ∧ r.1.length ≤ 140737488351232
theorem rowD.mono {cs : List Value} {r : Rw} (h : rowD F cs r) (hF : subF F F') : rowD F' cs r := let ⟨v, h1, h2, h3⟩ := h; ⟨v, h1, h2.mono hF, h3⟩
theorem rowD.one {cs : List Value} {r : Rw} (h : rowD F cs r) : cs.length = 5 ∧ ∀ c ∈ cs, c.oneCell' = true := by
  obtain ⟨v, rfl, hv, _⟩ := h
  obtain ⟨a, c, rfl, _⟩ := hv.form
  exact ⟨rfl, List.all_eq_true.1 rfl⟩
theorem less_c {cs ds : List Value} {r q : Rw} (hr : rowD F cs r) (hq : rowD F ds q) (k : ∀ N', N ≤ N' → (Hp.mk F M N').wf → K (.int .i64 (kcmp r.1 q.1)) ⟨F, M, N'⟩) :
    callv Tryz.prog (.func (.func 137) #[] #[]) #[.agg cs.toArray, .agg ds.toArray] K E ⟨F, M, N⟩ := by
  refine callv_of_text mixed Tryz.func137 (by kernel_rfl) (t137 _ E _ _) (fun hw => ?_)
  have hm := hw.m
  obtain ⟨v, rfl, hv, hvl⟩ := hr
  obtain ⟨u, rfl, hu, _⟩ := hq
  refine nw_r (cs := v :: r.2.cs) (fun b1 hb1 => ?_)
  refine nw_r (cs := u :: q.2.cs) (fun b2 hb2 => ?_)
  refine pv_r rfl (ldM (v := v) ?_)
  refine pv_r rfl (ldM (v := u) ?_)
  refine Cmp_c hv hu (by omega) fun hc => ?_
  exact ⟨⟨F, M, b2 + 1⟩, wk_end hc, fun hw' => k _ (by omega) hw'⟩
end Go.Proofs.YtgcmbkoejjcjlaaGreatDoor.A
