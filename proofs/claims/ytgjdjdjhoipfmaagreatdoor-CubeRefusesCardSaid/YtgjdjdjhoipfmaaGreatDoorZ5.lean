import Derived.Test.YtgjdjdjhoipfmaaGreatDoorProg
import Derived.Test.YtgjdjdjhoipfmaaGreatDoorZ1
import Derived.Test.YtgjdjdjhoipfmaaGreatDoorZ4
set_option maxHeartbeats 4000000
open Go Go.RowKit Go.Proofs.YtgjdjdjhoipfmaaGreatDoor.K
set_option linter.unusedVariables false
set_option maxRecDepth 100000
namespace Go.Proofs.YtgjdjdjhoipfmaaGreatDoor.T
section
variable (K : Kont) (E : PanK) (k1 k2 k3 k4 k5 : Env → Hp → Prop) (x0 x1 x2 x3 x4 x5 x6 x7 x8 x9 x10 x11 x12 x13 x14 x15 x16 x17 x18 x19 x20 x21 x22 x23 x24 x25 x26 x27 x28 x29 x30 x31 x32 x33 x34 x35 x36 x37 x38 x39 x40 x41 x42 x43 x44 x45 x46 x47 x48 x49 x50 x51 x52 x53 x54 x55 x56 x57 x58 x59 x60 x61 x62 x63 x64 x65 x66 x67 x68 x69 x70 x71 x72 x73 x74 x75 x76 x77 x78 x79 x80 x81 x82 x83 x84 x85 x86 x87 x88 x89 x90 x91 x92 x93 x94 x95 x96 x97 x98 x99 x100 x101 x102 x103 x104 x105 x106 x107 x108 x109 x110 x111 x112 x113 x114 x115 x116 x117 x118 x119 x120 x121 x122 x123 x124 x125 x126 x127 x128 x129 x130 x131 x132 x133 x134 x135 x136 x137 x138 x139 x140 x141 x142 x143 x144 x145 x146 x147 v0 v1 v2 v3 v4 v5 v6 v7 v8 v9 v10 v11 v12 v13 v14 v15 v16 v17 v18 v19 v20 v21 v22 v23 v24 v25 v26 v27 v28 v29 v30 v31 v32 v33 v34 v35 v36 v37 v38 v39 v40 v41 v42 v43 v44 v45 v46 v47 v48 v49 v50 v51 v52 v53 v54 v55 v56 v57 v58 v59 v60 v61 v62 v63 v64 v65 v66 v67 v68 v69 v70 v71 v72 v73 v74 v75 v76 v77 v78 v79 v80 v81 v82 v83 v84 v85 v86 v87 v88 v89 v90 v91 v92 v93 v94 v95 v96 v97 v98 v99 v100 v101 v102 v103 v104 v105 v106 v107 v108 v109 v110 v111 v112 v113 v114 v115 v116 v117 v118 v119 v120 v121 v122 v123 v124 v125 v126 v127 v128 v129 v130 v131 v132 v133 v134 v135 v136 v137 v138 v139 v140 v141 v142 v143 v144 v145 v146 v147 : Value) (j : Nat → Value)
abbrev q20 : QD := bodyQ Tryz.prog Tryz.f20.results.toList K E
abbrev d20 (p : List Nat) : QD → Env → Hp → Prop := den Tryz.prog (sel (bodyOf Tryz.f20) p)
abbrev q22 : QD := bodyQ Tryz.prog Tryz.f22.results.toList K E
abbrev d22 (p : List Nat) : QD → Env → Hp → Prop := den Tryz.prog (sel (bodyOf Tryz.f22) p)
def m22_1_1_1_0_1_0_0 (j : Nat → Value) : Env := #[x0, x1, x2, x3, v4, (j 5), x6, x7, x8, x9, x10, (j 11), (j 12), (j 13), (j 14), (j 15), (j 16), (j 17), (j 18), (j 19), (j 20), (j 21), (j 22), (j 23), (j 24), (j 25), (j 26), (j 27), (j 28), (j 29), (j 30), (j 31), (j 32), (j 33), (j 34), (j 35), (j 36), (j 37), (j 38), (j 39), x40]
theorem t22 : d22 [] (q22 K E) #[x0, U, U, U, U, U, U, U, U, U, U, U, U, U, U, U, U, U, U, U, U, U, U, U, U, U, U, U, U, U, U, U, U, U, U, U, U, U, U, U, U] =
  callv Tryz.prog (.func (.func 43) #[] #[]) #[x0] (fun t1 =>
  pv (unV .not t1) fun t2 =>
  cnd t2 (
   K (.pointer none)) (
   pv (bdC #[(.slice none 0 0), (.slice none 0 0)] [(0, 1), (1, 1)] #[]) fun t3 =>
   nw 102 (Value.cells t3).toList fun t4 =>
   lp (fun k1 => d22 [1, 1, 1, 0, 1, 0, 0] (thenD k1 (blk 0 (thenD (d22 [1, 1, 1, 1] (q22 K E)) (q22 K E))))) (m22_1_1_1_0_1_0_0 x0 U (.pointer none) t4 x0 t1 t2 t3 t4 U (.int .i64 0) (jf #[])))) E := by kernel_rfl
theorem t22_1_1_1_0_1_0_0 : d22 [1, 1, 1, 0, 1, 0, 0] (thenD k1 (blk 0 (thenD (d22 [1, 1, 1, 1] (q22 K E)) (q22 K E)))) (m22_1_1_1_0_1_0_0 x0 x1 x2 x3 x6 x7 x8 x9 x10 x40 v4 j) =
  pv (lenV x0) fun t1 =>
  pv (binV .none .lss v4 t1) fun t2 =>
  cnd t2 (
   pv (iaV none 2 x0 v4) fun t3 =>
   pv (faV 1 t3) fun t4 =>
   ld false 1 t4 fun t5 =>
   appX 3 1 8 (.slice none 0 0) t5 fun t6 =>
   pv (nilV x3) fun t7 =>
   pv (faV 0 t7) fun t8 =>
   ld false 1 t8 fun t9 =>
   pv (iaV none 2 x0 v4) fun t10 =>
   pv (faV 0 t10) fun t11 =>
   ld false 1 t11 fun t12 =>
   pv (bdC #[(.int .i64 0), (.slice none 0 0)] [(0, 1), (1, 1)] #[(0, t12), (1, t6)]) fun t13 =>
   nws 74 1 (bsC #[(.int .i64 0), (.slice none 0 0)] 2 1 #[(0, t13)]) (fun t14 h15 => (ldV h15 false 1 t8 t9) ∧ (
    appX 74 2 32 t9 t14 fun t16 =>
    pv (nilV x3) fun t17 =>
    pv (faV 0 t17) fun t18 =>
    st 1 t18 t16 fun _ =>
    pv (binV .none .add v4 (.int .i64 1)) fun t19 =>
    k1 (m22_1_1_1_0_1_0_0 x0 x1 x2 x3 x6 x7 x8 x9 x10 x40 t19 (jf #[U, U, U, U, U, t6, U, U, U, U, U, v4, x0, t1, t2, v4, t19, (.slice none 0 0), x0, v4, t3, t4, t5, t6, x3, x3, t7, t8, t9, x0, v4, t10, t11, t12, t6, t13, t14, t16, t17, t18]))) h15)) (
   K x3) := by kernel_rfl
abbrev q24 : QD := bodyQ Tryz.prog Tryz.f24.results.toList K E
abbrev d24 (p : List Nat) : QD → Env → Hp → Prop := den Tryz.prog (sel (bodyOf Tryz.f24) p)
abbrev q27 : QD := bodyQ Tryz.prog Tryz.f27.results.toList K E
abbrev d27 (p : List Nat) : QD → Env → Hp → Prop := den Tryz.prog (sel (bodyOf Tryz.f27) p)
theorem t27 : d27 [] (q27 K E) #[x0, x1, U, U, U, U, U, U, U, U, U, U] =
  callv Tryz.prog (.func (.func 53) #[] #[]) #[(.slice none 0 0), x0] (fun t1 =>
  bs t1 fun t2 =>
  callv Tryz.prog (.func (.func 53) #[] #[]) #[(.slice none 0 0), x1] (fun t3 h4 => (bsV h4 t1 t2) ∧ (
   bs t3 fun t5 =>
   pv (binV .none .eql t2 t5) fun t6 =>
   K t6) h4) E) E := by kernel_rfl
abbrev q28 : QD := bodyQ Tryz.prog Tryz.f28.results.toList K E
abbrev d28 (p : List Nat) : QD → Env → Hp → Prop := den Tryz.prog (sel (bodyOf Tryz.f28) p)
def m28_1_1_0_1_0_0 (j : Nat → Value) : Env := #[x0, x1, x2, x3, x4, x5, x6, v7, v8, (j 9), (j 10), (j 11), (j 12), (j 13), (j 14), (j 15), (j 16), (j 17), (j 18), (j 19), (j 20), (j 21), (j 22), (j 23), (j 24), (j 25), (j 26), (j 27), (j 28), (j 29), (j 30), (j 31), (j 32), (j 33), (j 34), (j 35), (j 36), (j 37), (j 38), (j 39), (j 40), (j 41), (j 42), (j 43), (j 44), (j 45), (j 46), (j 47), (j 48), (j 49), (j 50), (j 51), (j 52), (j 53), (j 54), (j 55), (j 56), (j 57), (j 58), (j 59), (j 60), (j 61), (j 62), (j 63), (j 64), (j 65), (j 66), (j 67), (j 68), (j 69), (j 70), (j 71), (j 72), (j 73), (j 74), (j 75), (j 76), (j 77), x78]
def m28_1_1_0_1_0_0_1_0_0_1_0_1_0_0 (j : Nat → Value) : Env := #[x0, x1, x2, x3, x4, x5, x6, x7, x8, v9, v10, x11, x12, x13, x14, x15, x16, x17, x18, x19, (j 20), (j 21), (j 22), (j 23), (j 24), (j 25), (j 26), (j 27), (j 28), (j 29), (j 30), (j 31), (j 32), (j 33), (j 34), (j 35), (j 36), (j 37), (j 38), (j 39), (j 40), (j 41), (j 42), (j 43), (j 44), (j 45), (j 46), (j 47), (j 48), (j 49), (j 50), (j 51), (j 52), (j 53), (j 54), (j 55), (j 56), (j 57), (j 58), (j 59), (j 60), x61, x62, x63, x64, x65, x66, x67, x68, x69, x70, x71, x72, x73, x74, x75, x76, x77, x78]
theorem t28 : d28 [] (q28 K E) #[x0, x1, x2, U, U, U, U, U, U, U, U, U, U, U, U, U, U, U, U, U, U, U, U, U, U, U, U, U, U, U, U, U, U, U, U, U, U, U, U, U, U, U, U, U, U, U, U, U, U, U, U, U, U, U, U, U, U, U, U, U, U, U, U, U, U, U, U, U, U, U, U, U, U, U, U, U, U, U, U] =
  lp (fun k1 => d28 [1, 1, 0, 1, 0, 0] (thenD k1 (blk 0 (thenD (d28 [1, 1, 1] (q28 K E)) (q28 K E))))) (m28_1_1_0_1_0_0 x0 x1 x2 U U U (.slice none 0 0) U (.slice none 0 0) (.int .i64 0) (jf #[])) := by kernel_rfl
theorem t28_1_1_0_1_0_0 : d28 [1, 1, 0, 1, 0, 0] (thenD k1 (blk 0 (thenD (d28 [1, 1, 1] (q28 K E)) (q28 K E)))) (m28_1_1_0_1_0_0 x0 x1 x2 x3 x4 x5 x6 x78 v7 v8 j) =
  pv (nilV x0) fun t1 =>
  pv (faV 1 t1) fun t2 =>
  ld false 1 t2 fun t3 =>
  pv (lenV t3) fun t4 =>
  pv (binV .none .lss v8 t4) fun t5 =>
  cnd t5 (
   lp (fun k2 => d28 [1, 1, 0, 1, 0, 0, 1, 0, 0, 1, 0, 1, 0, 0] (thenD k2 (blk 2 (thenD (d28 [1, 1, 0, 1, 0, 0, 1, 0, 0, 1, 1] (blk 1 (thenD (d28 [1, 1, 0, 1, 0, 0, 1, 1] (thenD k1 (blk 0 (thenD (d28 [1, 1, 1] (q28 K E)) (q28 K E))))) (thenD k1 (blk 0 (thenD (d28 [1, 1, 1] (q28 K E)) (q28 K E))))))) (blk 1 (thenD (d28 [1, 1, 0, 1, 0, 0, 1, 1] (thenD k1 (blk 0 (thenD (d28 [1, 1, 1] (q28 K E)) (q28 K E))))) (thenD k1 (blk 0 (thenD (d28 [1, 1, 1] (q28 K E)) (q28 K E)))))))))) (m28_1_1_0_1_0_0_1_0_0_1_0_1_0_0 x0 x1 x2 x3 x4 x5 x6 v7 v8 v8 x0 t1 t2 t3 t4 t5 (j 18) (j 19) (j 61) (j 62) (j 63) (j 64) (j 65) (j 66) (j 67) (j 68) (j 69) (j 70) (j 71) (j 72) (j 73) (j 74) (j 75) (j 76) (j 77) x78 (.slice none 0 0) (.int .i64 0) (jf #[U, U, U, U, U, U, U, U, U, U, U, U, U, U, U, U, U, U, U, U, (j 20), (j 21), (j 22), (j 23), (j 24), (j 25), (j 26), (j 27), (j 28), (j 29), (j 30), (j 31), (j 32), (j 33), (j 34), (j 35), (j 36), (j 37), (j 38), (j 39), (j 40), (j 41), (j 42), (j 43), (j 44), (j 45), (j 46), (j 47), (j 48), (j 49), (j 50), (j 51), (j 52), (j 53), (j 54), (j 55), (j 56), (j 57), (j 58), (j 59), (j 60)]))) (
   K v7) := by kernel_rfl
theorem t28_1_1_0_1_0_0_1_0_0_1_0_1_0_0 : d28 [1, 1, 0, 1, 0, 0, 1, 0, 0, 1, 0, 1, 0, 0] (thenD k2 (blk 2 (thenD (d28 [1, 1, 0, 1, 0, 0, 1, 0, 0, 1, 1] (blk 1 (thenD (d28 [1, 1, 0, 1, 0, 0, 1, 1] (thenD k1 (blk 0 (thenD (d28 [1, 1, 1] (q28 K E)) (q28 K E))))) (thenD k1 (blk 0 (thenD (d28 [1, 1, 1] (q28 K E)) (q28 K E))))))) (blk 1 (thenD (d28 [1, 1, 0, 1, 0, 0, 1, 1] (thenD k1 (blk 0 (thenD (d28 [1, 1, 1] (q28 K E)) (q28 K E))))) (thenD k1 (blk 0 (thenD (d28 [1, 1, 1] (q28 K E)) (q28 K E))))))))) (m28_1_1_0_1_0_0_1_0_0_1_0_1_0_0 x0 x1 x2 x3 x4 x5 x6 x7 x8 x11 x12 x13 x14 x15 x16 x17 x18 x19 x61 x62 x63 x64 x65 x66 x67 x68 x69 x70 x71 x72 x73 x74 x75 x76 x77 x78 v9 v10 j) =
  pv (nilV x0) fun t1 =>
  pv (faV 1 t1) fun t2 =>
  ld false 1 t2 fun t3 =>
  pv (iaV none 2 t3 x8) fun t4 =>
  pv (faV 1 t4) fun t5 =>
  ld false 1 t5 fun t6 =>
  pv (lenV t6) fun t7 =>
  pv (binV .none .lss v10 t7) fun t8 =>
  cnd t8 (
   pv (nilV x0) fun t9 =>
   pv (faV 1 t9) fun t10 =>
   ld false 1 t10 fun t11 =>
   pv (iaV none 2 t11 x8) fun t12 =>
   pv (faV 1 t12) fun t13 =>
   ld false 1 t13 fun t14 =>
   pv (iaV none 2 t14 v10) fun t15 =>
   ld true 2 t15 fun t16 =>
   callv Tryz.prog (.func (.func 54) #[] #[]) #[t16, x1, x2] (fun t17 =>
   cnd t17 (
    pv (nilV x0) fun t18 =>
    pv (faV 1 t18) fun t19 =>
    ld false 1 t19 fun t20 =>
    pv (iaV none 2 t20 x8) fun t21 =>
    pv (faV 1 t21) fun t22 =>
    ld false 1 t22 fun t23 =>
    pv (iaV none 2 t23 v10) fun t24 =>
    ld true 2 t24 fun t25 =>
    nws 48 1 (bsC #[(.slice none 0 0), (.int .i64 0)] 2 1 #[(0, t25)]) fun t26 =>
    appX 48 2 32 v9 t26 fun t27 =>
    d28 [1, 1, 0, 1, 0, 0, 1, 0, 0, 1, 0, 1, 0, 0, 1, 1] (thenD k2 (blk 2 (thenD (d28 [1, 1, 0, 1, 0, 0, 1, 0, 0, 1, 1] (blk 1 (thenD (d28 [1, 1, 0, 1, 0, 0, 1, 1] (thenD k1 (blk 0 (thenD (d28 [1, 1, 1] (q28 K E)) (q28 K E))))) (thenD k1 (blk 0 (thenD (d28 [1, 1, 1] (q28 K E)) (q28 K E))))))) (blk 1 (thenD (d28 [1, 1, 0, 1, 0, 0, 1, 1] (thenD k1 (blk 0 (thenD (d28 [1, 1, 1] (q28 K E)) (q28 K E))))) (thenD k1 (blk 0 (thenD (d28 [1, 1, 1] (q28 K E)) (q28 K E))))))))) #[x0, x1, x2, x3, x4, x5, x6, x7, x8, t27, v10, x11, x12, x13, x14, x15, x16, x17, x18, x19, v10, x0, t1, t2, t3, x8, t4, t5, t6, t7, t8, (j 31), (j 32), x0, t9, t10, t11, x8, t12, t13, t14, v10, t15, t16, x1, x2, t17, v9, x0, t18, t19, t20, x8, t21, t22, t23, v10, t24, t25, t26, t27, x61, x62, x63, x64, x65, x66, x67, x68, x69, x70, x71, x72, x73, x74, x75, x76, x77, x78]) (
    d28 [1, 1, 0, 1, 0, 0, 1, 0, 0, 1, 0, 1, 0, 0, 1, 1] (thenD k2 (blk 2 (thenD (d28 [1, 1, 0, 1, 0, 0, 1, 0, 0, 1, 1] (blk 1 (thenD (d28 [1, 1, 0, 1, 0, 0, 1, 1] (thenD k1 (blk 0 (thenD (d28 [1, 1, 1] (q28 K E)) (q28 K E))))) (thenD k1 (blk 0 (thenD (d28 [1, 1, 1] (q28 K E)) (q28 K E))))))) (blk 1 (thenD (d28 [1, 1, 0, 1, 0, 0, 1, 1] (thenD k1 (blk 0 (thenD (d28 [1, 1, 1] (q28 K E)) (q28 K E))))) (thenD k1 (blk 0 (thenD (d28 [1, 1, 1] (q28 K E)) (q28 K E))))))))) #[x0, x1, x2, x3, x4, x5, x6, x7, x8, v9, v10, x11, x12, x13, x14, x15, x16, x17, x18, x19, v10, x0, t1, t2, t3, x8, t4, t5, t6, t7, t8, (j 31), (j 32), x0, t9, t10, t11, x8, t12, t13, t14, v10, t15, t16, x1, x2, t17, (j 47), (j 48), (j 49), (j 50), (j 51), (j 52), (j 53), (j 54), (j 55), (j 56), (j 57), (j 58), (j 59), (j 60), x61, x62, x63, x64, x65, x66, x67, x68, x69, x70, x71, x72, x73, x74, x75, x76, x77, x78])) E) (
   pv (lenV v9) fun t28 =>
   pv (binV .none .gtr t28 (.int .i64 0)) fun t29 =>
   cnd t29 (
    pv (nilV x0) fun t30 =>
    pv (faV 1 t30) fun t31 =>
    ld false 1 t31 fun t32 =>
    pv (iaV none 2 t32 x8) fun t33 =>
    pv (faV 0 t33) fun t34 =>
    ld false 1 t34 fun t35 =>
    callv Tryz.prog (.func (.func 55) #[] #[]) #[v9] (fun t36 h37 => (ldV h37 false 1 t34 t35) ∧ (ldV h37 false 1 t31 t32) ∧ (
     pv (bdC #[(.int .u32 0), (.slice none 0 0)] [(0, 1), (1, 1)] #[(0, t35), (1, t36)]) fun t38 =>
     nws 52 1 (bsC #[(.int .u32 0), (.slice none 0 0)] 2 1 #[(0, t38)]) fun t39 =>
     appX 52 2 32 x7 t39 fun t40 =>
     d28 [1, 1, 0, 1, 0, 0, 1, 1] (thenD k1 (blk 0 (thenD (d28 [1, 1, 1] (q28 K E)) (q28 K E)))) #[x0, x1, x2, x3, x4, x5, x6, t40, x8, v9, v10, x11, x12, x13, x14, x15, x16, x17, x18, x19, v10, x0, t1, t2, t3, x8, t4, t5, t6, t7, t8, (j 31), (j 32), (j 33), (j 34), (j 35), (j 36), (j 37), (j 38), (j 39), (j 40), (j 41), (j 42), (j 43), (j 44), (j 45), (j 46), (j 47), (j 48), (j 49), (j 50), (j 51), (j 52), (j 53), (j 54), (j 55), (j 56), (j 57), (j 58), (j 59), (j 60), v9, t28, t29, x7, x0, t30, t31, t32, x8, t33, t34, t35, v9, t36, t38, t39, t40, x78]) h37) E) (
    d28 [1, 1, 0, 1, 0, 0, 1, 1] (thenD k1 (blk 0 (thenD (d28 [1, 1, 1] (q28 K E)) (q28 K E)))) #[x0, x1, x2, x3, x4, x5, x6, x7, x8, v9, v10, x11, x12, x13, x14, x15, x16, x17, x18, x19, v10, x0, t1, t2, t3, x8, t4, t5, t6, t7, t8, (j 31), (j 32), (j 33), (j 34), (j 35), (j 36), (j 37), (j 38), (j 39), (j 40), (j 41), (j 42), (j 43), (j 44), (j 45), (j 46), (j 47), (j 48), (j 49), (j 50), (j 51), (j 52), (j 53), (j 54), (j 55), (j 56), (j 57), (j 58), (j 59), (j 60), v9, t28, t29, x64, x65, x66, x67, x68, x69, x70, x71, x72, x73, x74, x75, x76, x77, x78])) := by kernel_rfl
theorem t28_1_1_0_1_0_0_1_0_0_1_0_1_0_0_1_1 : d28 [1, 1, 0, 1, 0, 0, 1, 0, 0, 1, 0, 1, 0, 0, 1, 1] (thenD k2 (blk 2 (thenD (d28 [1, 1, 0, 1, 0, 0, 1, 0, 0, 1, 1] (blk 1 (thenD (d28 [1, 1, 0, 1, 0, 0, 1, 1] (thenD k1 (blk 0 (thenD (d28 [1, 1, 1] (q28 K E)) (q28 K E))))) (thenD k1 (blk 0 (thenD (d28 [1, 1, 1] (q28 K E)) (q28 K E))))))) (blk 1 (thenD (d28 [1, 1, 0, 1, 0, 0, 1, 1] (thenD k1 (blk 0 (thenD (d28 [1, 1, 1] (q28 K E)) (q28 K E))))) (thenD k1 (blk 0 (thenD (d28 [1, 1, 1] (q28 K E)) (q28 K E))))))))) #[x0, x1, x2, x3, x4, x5, x6, x7, x8, x9, x10, x11, x12, x13, x14, x15, x16, x17, x18, x19, x20, x21, x22, x23, x24, x25, x26, x27, x28, x29, x30, x31, x32, x33, x34, x35, x36, x37, x38, x39, x40, x41, x42, x43, x44, x45, x46, x47, x48, x49, x50, x51, x52, x53, x54, x55, x56, x57, x58, x59, x60, x61, x62, x63, x64, x65, x66, x67, x68, x69, x70, x71, x72, x73, x74, x75, x76, x77, x78] =
  pv (binV .none .add x10 (.int .i64 1)) fun t1 =>
  k2 (m28_1_1_0_1_0_0_1_0_0_1_0_1_0_0 x0 x1 x2 x3 x4 x5 x6 x7 x8 x11 x12 x13 x14 x15 x16 x17 x18 x19 x61 x62 x63 x64 x65 x66 x67 x68 x69 x70 x71 x72 x73 x74 x75 x76 x77 x78 x9 t1 (jf #[U, U, U, U, U, U, U, U, U, U, U, U, U, U, U, U, U, U, U, U, x20, x21, x22, x23, x24, x25, x26, x27, x28, x29, x30, x10, t1, x33, x34, x35, x36, x37, x38, x39, x40, x41, x42, x43, x44, x45, x46, x47, x48, x49, x50, x51, x52, x53, x54, x55, x56, x57, x58, x59, x60])) := by kernel_rfl
theorem t28_1_1_0_1_0_0_1_1 : d28 [1, 1, 0, 1, 0, 0, 1, 1] (thenD k1 (blk 0 (thenD (d28 [1, 1, 1] (q28 K E)) (q28 K E)))) #[x0, x1, x2, x3, x4, x5, x6, x7, x8, x9, x10, x11, x12, x13, x14, x15, x16, x17, x18, x19, x20, x21, x22, x23, x24, x25, x26, x27, x28, x29, x30, x31, x32, x33, x34, x35, x36, x37, x38, x39, x40, x41, x42, x43, x44, x45, x46, x47, x48, x49, x50, x51, x52, x53, x54, x55, x56, x57, x58, x59, x60, x61, x62, x63, x64, x65, x66, x67, x68, x69, x70, x71, x72, x73, x74, x75, x76, x77, x78] =
  pv (binV .none .add x8 (.int .i64 1)) fun t1 =>
  k1 (m28_1_1_0_1_0_0 x0 x1 x2 x3 x4 x5 x6 x78 x7 t1 (jf #[U, U, U, U, U, U, U, U, U, x9, x10, x11, x12, x13, x14, x15, x16, x17, x8, t1, x20, x21, x22, x23, x24, x25, x26, x27, x28, x29, x30, x31, x32, x33, x34, x35, x36, x37, x38, x39, x40, x41, x42, x43, x44, x45, x46, x47, x48, x49, x50, x51, x52, x53, x54, x55, x56, x57, x58, x59, x60, x61, x62, x63, x64, x65, x66, x67, x68, x69, x70, x71, x72, x73, x74, x75, x76, x77])) := by kernel_rfl
abbrev q42 : QD := bodyQ Tryz.prog Tryz.f42.results.toList K E
abbrev d42 (p : List Nat) : QD → Env → Hp → Prop := den Tryz.prog (sel (bodyOf Tryz.f42) p)
def m42_1_1_0_1_0_0 (j : Nat → Value) : Env := #[v0, x1, x2, x3, x4, v5, (j 6), x7, x8, x9, x10, x11, (j 12), (j 13), (j 14), (j 15), (j 16), (j 17), (j 18), (j 19), (j 20), (j 21), (j 22), (j 23), (j 24), (j 25), (j 26), (j 27), (j 28), (j 29), (j 30), (j 31), (j 32), (j 33), (j 34), (j 35), (j 36), (j 37), (j 38), (j 39), (j 40), (j 41), (j 42), (j 43), (j 44), (j 45), (j 46), (j 47), (j 48), (j 49), (j 50), (j 51), (j 52), (j 53), (j 54), (j 55), x56]
def m42_1_1_0_1_0_0_1_0_0_1_0_1_0_0 (j : Nat → Value) : Env := #[v0, x1, x2, x3, x4, x5, v6, x7, x8, x9, x10, x11, x12, x13, x14, x15, x16, x17, x18, x19, x20, x21, x22, x23, x24, x25, x26, (j 27), (j 28), (j 29), (j 30), (j 31), (j 32), (j 33), (j 34), (j 35), (j 36), (j 37), (j 38), (j 39), (j 40), (j 41), (j 42), (j 43), (j 44), (j 45), (j 46), (j 47), x48, x49, x50, x51, x52, x53, x54, x55, x56]
theorem t42 : d42 [] (q42 K E) #[x0, x1, U, U, U, U, U, U, U, U, U, U, U, U, U, U, U, U, U, U, U, U, U, U, U, U, U, U, U, U, U, U, U, U, U, U, U, U, U, U, U, U, U, U, U, U, U, U, U, U, U, U, U, U, U, U, U] =
  pv (lenV x1) fun t1 =>
  pv (cvV .u64 t1) fun t2 =>
  callv Tryz.prog (.func (.func 80) #[] #[]) #[x0, t2, (.int .i64 4)] (fun t3 =>
  lp (fun k1 => d42 [1, 1, 0, 1, 0, 0] (thenD k1 (blk 0 (thenD (d42 [1, 1, 1] (q42 K E)) (q42 K E))))) (m42_1_1_0_1_0_0 x1 U U (.slice none 0 0) x0 x1 t1 t2 t3 U t3 (.int .i64 0) (jf #[]))) E := by kernel_rfl
theorem t42_1_1_0_1_0_0 : d42 [1, 1, 0, 1, 0, 0] (thenD k1 (blk 0 (thenD (d42 [1, 1, 1] (q42 K E)) (q42 K E)))) (m42_1_1_0_1_0_0 x1 x2 x3 x4 x7 x8 x9 x10 x11 x56 v0 v5 j) =
  pv (lenV x1) fun t1 =>
  pv (binV .none .lss v5 t1) fun t2 =>
  cnd t2 (
   pv (iaV none 2 x1 v5) fun t3 =>
   pv (faV 0 t3) fun t4 =>
   ld false 1 t4 fun t5 =>
   pv (lenV t5) fun t6 =>
   pv (cvV .u64 t6) fun t7 =>
   callv Tryz.prog (.func (.func 80) #[] #[]) #[v0, t7, (.int .i64 1)] (fun t8 =>
   lp (fun k2 => d42 [1, 1, 0, 1, 0, 0, 1, 0, 0, 1, 0, 1, 0, 0] (thenD k2 (blk 2 (thenD (d42 [1, 1, 0, 1, 0, 0, 1, 0, 0, 1, 1] (blk 1 (thenD (d42 [1, 1, 0, 1, 0, 0, 1, 1] (thenD k1 (blk 0 (thenD (d42 [1, 1, 1] (q42 K E)) (q42 K E))))) (thenD k1 (blk 0 (thenD (d42 [1, 1, 1] (q42 K E)) (q42 K E))))))) (blk 1 (thenD (d42 [1, 1, 0, 1, 0, 0, 1, 1] (thenD k1 (blk 0 (thenD (d42 [1, 1, 1] (q42 K E)) (q42 K E))))) (thenD k1 (blk 0 (thenD (d42 [1, 1, 1] (q42 K E)) (q42 K E)))))))))) (m42_1_1_0_1_0_0_1_0_0_1_0_1_0_0 x1 x2 x3 x4 v5 x7 x8 x9 x10 x11 v5 x1 t1 t2 (j 16) (j 17) v0 x1 v5 t3 t4 t5 t6 t7 t8 (j 48) (j 49) (j 50) (j 51) (j 52) (j 53) (j 54) (j 55) x56 t8 (.int .i64 0) (jf #[U, U, U, U, U, U, U, U, U, U, U, U, U, U, U, U, U, U, U, U, U, U, U, U, U, U, U, (j 27), (j 28), (j 29), (j 30), (j 31), (j 32), (j 33), (j 34), (j 35), (j 36), (j 37), (j 38), (j 39), (j 40), (j 41), (j 42), (j 43), (j 44), (j 45), (j 46), (j 47)]))) E) (
   K v0) := by kernel_rfl
theorem t42_1_1_0_1_0_0_1_0_0_1_0_1_0_0 : d42 [1, 1, 0, 1, 0, 0, 1, 0, 0, 1, 0, 1, 0, 0] (thenD k2 (blk 2 (thenD (d42 [1, 1, 0, 1, 0, 0, 1, 0, 0, 1, 1] (blk 1 (thenD (d42 [1, 1, 0, 1, 0, 0, 1, 1] (thenD k1 (blk 0 (thenD (d42 [1, 1, 1] (q42 K E)) (q42 K E))))) (thenD k1 (blk 0 (thenD (d42 [1, 1, 1] (q42 K E)) (q42 K E))))))) (blk 1 (thenD (d42 [1, 1, 0, 1, 0, 0, 1, 1] (thenD k1 (blk 0 (thenD (d42 [1, 1, 1] (q42 K E)) (q42 K E))))) (thenD k1 (blk 0 (thenD (d42 [1, 1, 1] (q42 K E)) (q42 K E))))))))) (m42_1_1_0_1_0_0_1_0_0_1_0_1_0_0 x1 x2 x3 x4 x5 x7 x8 x9 x10 x11 x12 x13 x14 x15 x16 x17 x18 x19 x20 x21 x22 x23 x24 x25 x26 x48 x49 x50 x51 x52 x53 x54 x55 x56 v0 v6 j) =
  pv (iaV none 2 x1 x5) fun t1 =>
  pv (faV 0 t1) fun t2 =>
  ld false 1 t2 fun t3 =>
  pv (lenV t3) fun t4 =>
  pv (binV .none .lss v6 t4) fun t5 =>
  cnd t5 (
   pv (iaV none 2 x1 x5) fun t6 =>
   pv (faV 0 t6) fun t7 =>
   ld false 1 t7 fun t8 =>
   pv (iaV none 1 t8 v6) fun t9 =>
   ld false 1 t9 fun t10 =>
   pv (cvV .u64 t10) fun t11 =>
   callv Tryz.prog (.func (.func 80) #[] #[]) #[v0, t11, (.int .i64 4)] (fun t12 =>
   pv (binV .none .add v6 (.int .i64 1)) fun t13 =>
   k2 (m42_1_1_0_1_0_0_1_0_0_1_0_1_0_0 x1 x2 x3 x4 x5 x7 x8 x9 x10 x11 x12 x13 x14 x15 x16 x17 x18 x19 x20 x21 x22 x23 x24 x25 x26 x48 x49 x50 x51 x52 x53 x54 x55 x56 t12 t13 (jf #[U, U, U, U, U, U, U, U, U, U, U, U, U, U, U, U, U, U, U, U, U, U, U, U, U, U, U, v6, x1, x5, t1, t2, t3, t4, t5, v6, t13, v0, x1, x5, t6, t7, t8, v6, t9, t10, t11, t12]))) E) (
   pv (iaV none 2 x1 x5) fun t14 =>
   pv (faV 1 t14) fun t15 =>
   ld false 1 t15 fun t16 =>
   pv (cvV .u64 t16) fun t17 =>
   callv Tryz.prog (.func (.func 80) #[] #[]) #[v0, t17, (.int .i64 8)] (fun t18 =>
   pv (binV .none .add x5 (.int .i64 1)) fun t19 =>
   k1 (m42_1_1_0_1_0_0 x1 x2 x3 x4 x7 x8 x9 x10 x11 x56 t18 t19 (jf #[U, U, U, U, U, U, v6, U, U, U, U, U, x12, x13, x14, x15, x5, t19, x18, x19, x20, x21, x22, x23, x24, x25, x26, v6, x1, x5, t1, t2, t3, t4, t5, (j 35), (j 36), (j 37), (j 38), (j 39), (j 40), (j 41), (j 42), (j 43), (j 44), (j 45), (j 46), (j 47), v0, x1, x5, t14, t15, t16, t17, t18]))) E) := by kernel_rfl
abbrev q44 : QD := bodyQ Tryz.prog Tryz.f44.results.toList K E
abbrev d44 (p : List Nat) : QD → Env → Hp → Prop := den Tryz.prog (sel (bodyOf Tryz.f44) p)
def m44_1_1_1_0_1_0_0 (j : Nat → Value) : Env := #[x0, x1, x2, x3, x4, x5, (j 6), v7, x8, x9, x10, x11, x12, x13, (j 14), (j 15), (j 16), (j 17), (j 18), (j 19), (j 20), (j 21), (j 22), (j 23), (j 24), (j 25), (j 26), (j 27), (j 28), (j 29), (j 30), (j 31), (j 32), x33, x34, x35, x36, x37, x38, x39, x40, x41, x42, x43, x44, x45, x46, x47, x48]
theorem t44 : d44 [] (q44 K E) #[x0, x1, x2, U, U, U, U, U, U, U, U, U, U, U, U, U, U, U, U, U, U, U, U, U, U, U, U, U, U, U, U, U, U, U, U, U, U, U, U, U, U, U, U, U, U, U, U, U, U] =
  callv Tryz.prog (.func (.func 45) #[] #[]) #[x0, x2] (fun t1 =>
  pv (unV .not t1) fun t2 =>
  cnd t2 (
   K (.int .i64 1)) (
   pv (binV .none .eql x1 (.int .u32 0)) fun t3 =>
   cnd t3 (
    K (.int .i64 130)) (
    lp (fun k1 => d44 [1, 1, 1, 0, 1, 0, 0] (thenD k1 (blk 0 (thenD (d44 [1, 1, 1, 1] (q44 K E)) (q44 K E))))) (m44_1_1_1_0_1_0_0 x0 x1 x2 U U U x0 x2 t1 t2 x1 t3 U U U U U U U U U U U U U U U U (.int .i64 0) (jf #[U, U, U, U, U, U, (.int .i64 0)]))))) E := by kernel_rfl
theorem t44_1_1_1_0_1_0_0 : d44 [1, 1, 1, 0, 1, 0, 0] (thenD k1 (blk 0 (thenD (d44 [1, 1, 1, 1] (q44 K E)) (q44 K E)))) (m44_1_1_1_0_1_0_0 x0 x1 x2 x3 x4 x5 x8 x9 x10 x11 x12 x13 x33 x34 x35 x36 x37 x38 x39 x40 x41 x42 x43 x44 x45 x46 x47 x48 v7 j) =
  pv (nilV x0) fun t1 =>
  pv (faV 1 t1) fun t2 =>
  ld false 1 t2 fun t3 =>
  pv (lenV t3) fun t4 =>
  pv (binV .none .lss v7 t4) fun t5 =>
  cnd t5 (
   pv (nilV x0) fun t6 =>
   pv (faV 1 t6) fun t7 =>
   ld false 1 t7 fun t8 =>
   pv (iaV none 2 t8 v7) fun t9 =>
   pv (faV 0 t9) fun t10 =>
   ld false 1 t10 fun t11 =>
   pv (binV .none .eql t11 x1) fun t12 =>
   cnd t12 (
    K (.int .i64 130)) (
    pv (binV .none .add v7 (.int .i64 1)) fun t13 =>
    k1 (m44_1_1_1_0_1_0_0 x0 x1 x2 x3 x4 x5 x8 x9 x10 x11 x12 x13 x33 x34 x35 x36 x37 x38 x39 x40 x41 x42 x43 x44 x45 x46 x47 x48 t13 (jf #[U, U, U, U, U, U, (j 6), U, U, U, U, U, U, U, v7, x0, t1, t2, t3, t4, t5, v7, t13, x0, t6, t7, t8, v7, t9, t10, t11, x1, t12])))) (
   pv (nilV x0) fun t14 =>
   pv (faV 1 t14) fun t15 =>
   ld false 1 t15 fun t16 =>
   pv (lenV t16) fun t17 =>
   pv (binV .none .geq t17 (.int .i64 5000)) fun t18 =>
   cnd t18 (
    K (.int .i64 3)) (
    pv (nilV x0) fun t19 =>
    pv (faV 1 t19) fun t20 =>
    ld false 1 t20 fun t21 =>
    callv Tryz.prog (.func (.func 82) #[] #[]) #[t21, x1, x2] (fun t22 =>
    pv (nilV x0) fun t23 =>
    pv (faV 1 t23) fun t24 =>
    st 1 t24 t22 fun _ =>
    K (.int .i64 0)) E)) := by kernel_rfl
abbrev q45 : QD := bodyQ Tryz.prog Tryz.f45.results.toList K E
abbrev d45 (p : List Nat) : QD → Env → Hp → Prop := den Tryz.prog (sel (bodyOf Tryz.f45) p)
def m45_1_0_1_0_0 (j : Nat → Value) : Env := #[x0, x1, x2, x3, (j 4), v5, (j 6), (j 7), (j 8), (j 9), (j 10), (j 11), (j 12), (j 13), (j 14), (j 15), (j 16), (j 17), (j 18), (j 19), (j 20), (j 21), (j 22), x23, x24, x25]
theorem t45 : d45 [] (q45 K E) #[x0, x1, U, U, U, U, U, U, U, U, U, U, U, U, U, U, U, U, U, U, U, U, U, U, U, U] =
  lp (fun k1 => d45 [1, 0, 1, 0, 0] (thenD k1 (blk 0 (thenD (d45 [1, 1] (q45 K E)) (q45 K E))))) (m45_1_0_1_0_0 x0 x1 U U U U U (.int .i64 0) (jf #[U, U, U, U, (.bool false)])) := by kernel_rfl
theorem t45_1_0_1_0_0 : d45 [1, 0, 1, 0, 0] (thenD k1 (blk 0 (thenD (d45 [1, 1] (q45 K E)) (q45 K E)))) (m45_1_0_1_0_0 x0 x1 x2 x3 x23 x24 x25 v5 j) =
  pv (lenV x1) fun t1 =>
  pv (binV .none .lss v5 t1) fun t2 =>
  cnd t2 (
   pv (nilV x0) fun t3 =>
   pv (faV 0 t3) fun t4 =>
   ld false 1 t4 fun t5 =>
   pv (iaV none 2 x1 v5) fun t6 =>
   pv (faV 0 t6) fun t7 =>
   ld false 1 t7 fun t8 =>
   callv Tryz.prog (.func (.func 83) #[] #[]) #[t5, t8] (fun t9 =>
   pv (unV .not t9) fun t10 =>
   cnd t10 (
    K (.bool false)) (
    pv (binV .none .add v5 (.int .i64 1)) fun t11 =>
    k1 (m45_1_0_1_0_0 x0 x1 x2 x3 x23 x24 x25 t11 (jf #[U, U, U, U, (j 4), U, v5, x1, t1, t2, v5, t11, x0, t3, t4, t5, x1, v5, t6, t7, t8, t9, t10])))) E) (
   pv (lenV x1) fun t12 =>
   pv (binV .none .leq t12 (.int .i64 200)) fun t13 =>
   K t13) := by kernel_rfl
abbrev q46 : QD := bodyQ Tryz.prog Tryz.f46.results.toList K E
abbrev d46 (p : List Nat) : QD → Env → Hp → Prop := den Tryz.prog (sel (bodyOf Tryz.f46) p)
def m46_1_1_1_0_1_0_0 (j : Nat → Value) : Env := #[x0, x1, x2, x3, x4, x5, x6, x7, x8, v9, v10, (j 11), (j 12), x13, x14, x15, x16, x17, x18, x19, x20, (j 21), (j 22), (j 23), (j 24), (j 25), (j 26), (j 27), (j 28), (j 29), (j 30), (j 31), (j 32), (j 33), (j 34), (j 35), (j 36), (j 37), (j 38), (j 39), (j 40), (j 41), (j 42), (j 43), (j 44), (j 45), (j 46), (j 47), (j 48), (j 49), (j 50), (j 51), (j 52), (j 53), (j 54), (j 55), (j 56), (j 57), (j 58), (j 59), (j 60), (j 61), (j 62), (j 63), (j 64), (j 65), (j 66), (j 67), (j 68), (j 69), (j 70), (j 71), (j 72), (j 73), (j 74), (j 75), (j 76), (j 77), (j 78), (j 79), (j 80), (j 81), (j 82), (j 83), (j 84), (j 85), (j 86), (j 87), (j 88), (j 89), (j 90), (j 91), (j 92), (j 93), (j 94), (j 95), (j 96), (j 97), (j 98), (j 99), (j 100), (j 101), (j 102), x103, x104, x105, x106, x107, x108, x109, x110, x111, x112, x113, x114, x115, x116, x117, x118, x119, x120, x121, x122, x123, x124, x125, x126, x127, x128, x129, x130, x131, x132, x133, x134, x135, x136, x137, x138, x139, x140, x141, x142, x143, x144, x145, x146, x147]
def m46_1_1_1_0_1_0_0_1_0_0_1_0_1_0_0 (j : Nat → Value) : Env := #[x0, x1, x2, x3, x4, x5, x6, x7, x8, x9, x10, x11, v12, x13, x14, x15, x16, x17, x18, x19, x20, x21, x22, x23, x24, x25, x26, x27, x28, x29, x30, x31, x32, x33, x34, x35, x36, x37, x38, (j 39), (j 40), (j 41), (j 42), (j 43), (j 44), (j 45), (j 46), (j 47), (j 48), (j 49), (j 50), (j 51), (j 52), (j 53), (j 54), (j 55), (j 56), (j 57), (j 58), (j 59), (j 60), (j 61), (j 62), (j 63), (j 64), (j 65), (j 66), (j 67), (j 68), (j 69), (j 70), (j 71), (j 72), (j 73), (j 74), (j 75), (j 76), (j 77), (j 78), (j 79), (j 80), (j 81), (j 82), x83, x84, x85, x86, x87, x88, x89, x90, x91, x92, x93, x94, x95, x96, x97, x98, x99, x100, x101, x102, x103, x104, x105, x106, x107, x108, x109, x110, x111, x112, x113, x114, x115, x116, x117, x118, x119, x120, x121, x122, x123, x124, x125, x126, x127, x128, x129, x130, x131, x132, x133, x134, x135, x136, x137, x138, x139, x140, x141, x142, x143, x144, x145, x146, x147]
def m46_1_1_1_1_0_1_0_0 (j : Nat → Value) : Env := #[x0, x1, x2, x3, x4, x5, x6, x7, x8, v9, x10, x11, x12, v13, x14, x15, x16, x17, x18, x19, x20, x21, x22, x23, x24, x25, x26, x27, x28, x29, x30, x31, x32, x33, x34, x35, x36, x37, x38, x39, x40, x41, x42, x43, x44, x45, x46, x47, x48, x49, x50, x51, x52, x53, x54, x55, x56, x57, x58, x59, x60, x61, x62, x63, x64, x65, x66, x67, x68, x69, x70, x71, x72, x73, x74, x75, x76, x77, x78, x79, x80, x81, x82, x83, x84, x85, x86, x87, x88, x89, x90, x91, x92, x93, x94, x95, x96, x97, x98, x99, x100, x101, x102, (j 103), (j 104), (j 105), (j 106), (j 107), (j 108), (j 109), (j 110), (j 111), (j 112), (j 113), (j 114), (j 115), (j 116), (j 117), (j 118), (j 119), (j 120), (j 121), (j 122), (j 123), (j 124), (j 125), (j 126), (j 127), x128, x129, x130, x131, x132, x133, x134, x135, x136, x137, x138, x139, x140, x141, x142, x143, x144, x145, x146, x147]
def m46_1_1_1_1_1_0_1_0_0 (j : Nat → Value) : Env := #[x0, x1, x2, x3, x4, x5, x6, x7, (j 8), x9, x10, x11, x12, x13, v14, x15, x16, x17, x18, x19, x20, x21, x22, x23, x24, x25, x26, x27, x28, x29, x30, x31, x32, x33, x34, x35, x36, x37, x38, x39, x40, x41, x42, x43, x44, x45, x46, x47, x48, x49, x50, x51, x52, x53, x54, x55, x56, x57, x58, x59, x60, x61, x62, x63, x64, x65, x66, x67, x68, x69, x70, x71, x72, x73, x74, x75, x76, x77, x78, x79, x80, x81, x82, x83, x84, x85, x86, x87, x88, x89, x90, x91, x92, x93, x94, x95, x96, x97, x98, x99, x100, x101, x102, x103, x104, x105, x106, x107, x108, x109, x110, x111, x112, x113, x114, x115, x116, x117, x118, x119, x120, x121, x122, x123, x124, x125, x126, x127, (j 128), (j 129), (j 130), (j 131), (j 132), (j 133), (j 134), (j 135), (j 136), (j 137), (j 138), (j 139), (j 140), x141, x142, x143, x144, x145, x146, x147]
theorem t46 : d46 [] (q46 K E) #[x0, x1, x2, x3, U, U, U, U, U, U, U, U, U, U, U, U, U, U, U, U, U, U, U, U, U, U, U, U, U, U, U, U, U, U, U, U, U, U, U, U, U, U, U, U, U, U, U, U, U, U, U, U, U, U, U, U, U, U, U, U, U, U, U, U, U, U, U, U, U, U, U, U, U, U, U, U, U, U, U, U, U, U, U, U, U, U, U, U, U, U, U, U, U, U, U, U, U, U, U, U, U, U, U, U, U, U, U, U, U, U, U, U, U, U, U, U, U, U, U, U, U, U, U, U, U, U, U, U, U, U, U, U, U, U, U, U, U, U, U, U, U, U, U, U, U, U, U, U] =
  callv Tryz.prog (.func (.func 84) #[] #[]) #[x0, x1, x2, x3] (fun t1 =>
  pv (unV .not t1) fun t2 =>
  cnd t2 (
   K (.int .i64 1)) (
   lp (fun k1 => d46 [1, 1, 1, 0, 1, 0, 0] (thenD k1 (blk 0 (thenD (d46 [1, 1, 1, 1] (q46 K E)) (q46 K E))))) (m46_1_1_1_0_1_0_0 x0 x1 x2 x3 U U U U (.int .i64 0) U U x0 x1 x2 x3 t1 t2 U U U U U U U U U U U U U U U U U U U U U U U U U U U U U U U U U U U U U U U U U U U U U (.slice none 0 0) (.int .i64 0) (jf #[])))) E := by kernel_rfl
theorem t46_1_1_1_0_1_0_0 : d46 [1, 1, 1, 0, 1, 0, 0] (thenD k1 (blk 0 (thenD (d46 [1, 1, 1, 1] (q46 K E)) (q46 K E)))) (m46_1_1_1_0_1_0_0 x0 x1 x2 x3 x4 x5 x6 x7 x8 x13 x14 x15 x16 x17 x18 x19 x20 x103 x104 x105 x106 x107 x108 x109 x110 x111 x112 x113 x114 x115 x116 x117 x118 x119 x120 x121 x122 x123 x124 x125 x126 x127 x128 x129 x130 x131 x132 x133 x134 x135 x136 x137 x138 x139 x140 x141 x142 x143 x144 x145 x146 x147 v9 v10 j) =
  pv (nilV x0) fun t1 =>
  pv (faV 1 t1) fun t2 =>
  ld false 1 t2 fun t3 =>
  pv (lenV t3) fun t4 =>
  pv (binV .none .lss v10 t4) fun t5 =>
  cnd t5 (
   pv (nilV x0) fun t6 =>
   pv (faV 1 t6) fun t7 =>
   ld false 1 t7 fun t8 =>
   pv (iaV none 2 t8 v10) fun t9 =>
   pv (faV 0 t9) fun t10 =>
   ld false 1 t10 fun t11 =>
   pv (bdC #[(.int .u32 0), (.slice none 0 0)] [(0, 1), (1, 1)] #[(0, t11)]) fun t12 =>
   nw 52 [(.int .u32 0), (.slice none 0 0)] fun t13 =>
   st 2 t13 t12 fun _ =>
   lp (fun k2 => d46 [1, 1, 1, 0, 1, 0, 0, 1, 0, 0, 1, 0, 1, 0, 0] (thenD k2 (blk 2 (thenD (d46 [1, 1, 1, 0, 1, 0, 0, 1, 0, 0, 1, 1] (blk 1 (thenD (d46 [1, 1, 1, 0, 1, 0, 0, 1, 1] (thenD k1 (blk 0 (thenD (d46 [1, 1, 1, 1] (q46 K E)) (q46 K E))))) (thenD k1 (blk 0 (thenD (d46 [1, 1, 1, 1] (q46 K E)) (q46 K E))))))) (blk 1 (thenD (d46 [1, 1, 1, 0, 1, 0, 0, 1, 1] (thenD k1 (blk 0 (thenD (d46 [1, 1, 1, 1] (q46 K E)) (q46 K E))))) (thenD k1 (blk 0 (thenD (d46 [1, 1, 1, 1] (q46 K E)) (q46 K E)))))))))) (m46_1_1_1_0_1_0_0_1_0_0_1_0_1_0_0 x0 x1 x2 x3 x4 x5 x6 x7 x8 v9 v10 t13 x13 x14 x15 x16 x17 x18 x19 x20 v10 x0 t1 t2 t3 t4 t5 (j 28) (j 29) x0 t6 t7 t8 v10 t9 t10 t11 t12 (j 83) (j 84) (j 85) (j 86) (j 87) (j 88) (j 89) (j 90) (j 91) (j 92) (j 93) (j 94) (j 95) (j 96) (j 97) (j 98) (j 99) (j 100) (j 101) (j 102) x103 x104 x105 x106 x107 x108 x109 x110 x111 x112 x113 x114 x115 x116 x117 x118 x119 x120 x121 x122 x123 x124 x125 x126 x127 x128 x129 x130 x131 x132 x133 x134 x135 x136 x137 x138 x139 x140 x141 x142 x143 x144 x145 x146 x147 (.int .i64 0) (jf #[U, U, U, U, U, U, U, U, U, U, U, U, U, U, U, U, U, U, U, U, U, U, U, U, U, U, U, U, U, U, U, U, U, U, U, U, U, U, U, (j 39), (j 40), (j 41), (j 42), (j 43), (j 44), (j 45), (j 46), (j 47), (j 48), (j 49), (j 50), (j 51), (j 52), (j 53), (j 54), (j 55), (j 56), (j 57), (j 58), (j 59), (j 60), (j 61), (j 62), (j 63), (j 64), (j 65), (j 66), (j 67), (j 68), (j 69), (j 70), (j 71), (j 72), (j 73), (j 74), (j 75), (j 76), (j 77), (j 78), (j 79), (j 80), (j 81), (j 82)]))) (
   lp (fun k1 => d46 [1, 1, 1, 1, 0, 1, 0, 0] (thenD k1 (blk 4 (thenD (d46 [1, 1, 1, 1, 1] (q46 K E)) (q46 K E))))) (m46_1_1_1_1_0_1_0_0 x0 x1 x2 x3 x4 x5 x6 x7 x8 v10 (j 11) (j 12) x14 x15 x16 x17 x18 x19 x20 v10 x0 t1 t2 t3 t4 t5 (j 28) (j 29) (j 30) (j 31) (j 32) (j 33) (j 34) (j 35) (j 36) (j 37) (j 38) (j 39) (j 40) (j 41) (j 42) (j 43) (j 44) (j 45) (j 46) (j 47) (j 48) (j 49) (j 50) (j 51) (j 52) (j 53) (j 54) (j 55) (j 56) (j 57) (j 58) (j 59) (j 60) (j 61) (j 62) (j 63) (j 64) (j 65) (j 66) (j 67) (j 68) (j 69) (j 70) (j 71) (j 72) (j 73) (j 74) (j 75) (j 76) (j 77) (j 78) (j 79) (j 80) (j 81) (j 82) (j 83) (j 84) (j 85) (j 86) (j 87) (j 88) (j 89) (j 90) (j 91) (j 92) (j 93) (j 94) (j 95) (j 96) (j 97) (j 98) (j 99) (j 100) (j 101) (j 102) x128 x129 x130 x131 x132 x133 x134 x135 x136 x137 x138 x139 x140 x141 x142 x143 x144 x145 x146 x147 v9 (.int .i64 0) (jf #[U, U, U, U, U, U, U, U, U, U, U, U, U, U, U, U, U, U, U, U, U, U, U, U, U, U, U, U, U, U, U, U, U, U, U, U, U, U, U, U, U, U, U, U, U, U, U, U, U, U, U, U, U, U, U, U, U, U, U, U, U, U, U, U, U, U, U, U, U, U, U, U, U, U, U, U, U, U, U, U, U, U, U, U, U, U, U, U, U, U, U, U, U, U, U, U, U, U, U, U, U, U, U, x103, x104, x105, x106, x107, x108, x109, x110, x111, x112, x113, x114, x115, x116, x117, x118, x119, x120, x121, x122, x123, x124, x125, x126, x127]))) := by kernel_rfl
theorem t46_1_1_1_0_1_0_0_1_0_0_1_0_1_0_0 : d46 [1, 1, 1, 0, 1, 0, 0, 1, 0, 0, 1, 0, 1, 0, 0] (thenD k2 (blk 2 (thenD (d46 [1, 1, 1, 0, 1, 0, 0, 1, 0, 0, 1, 1] (blk 1 (thenD (d46 [1, 1, 1, 0, 1, 0, 0, 1, 1] (thenD k1 (blk 0 (thenD (d46 [1, 1, 1, 1] (q46 K E)) (q46 K E))))) (thenD k1 (blk 0 (thenD (d46 [1, 1, 1, 1] (q46 K E)) (q46 K E))))))) (blk 1 (thenD (d46 [1, 1, 1, 0, 1, 0, 0, 1, 1] (thenD k1 (blk 0 (thenD (d46 [1, 1, 1, 1] (q46 K E)) (q46 K E))))) (thenD k1 (blk 0 (thenD (d46 [1, 1, 1, 1] (q46 K E)) (q46 K E))))))))) (m46_1_1_1_0_1_0_0_1_0_0_1_0_1_0_0 x0 x1 x2 x3 x4 x5 x6 x7 x8 x9 x10 x11 x13 x14 x15 x16 x17 x18 x19 x20 x21 x22 x23 x24 x25 x26 x27 x28 x29 x30 x31 x32 x33 x34 x35 x36 x37 x38 x83 x84 x85 x86 x87 x88 x89 x90 x91 x92 x93 x94 x95 x96 x97 x98 x99 x100 x101 x102 x103 x104 x105 x106 x107 x108 x109 x110 x111 x112 x113 x114 x115 x116 x117 x118 x119 x120 x121 x122 x123 x124 x125 x126 x127 x128 x129 x130 x131 x132 x133 x134 x135 x136 x137 x138 x139 x140 x141 x142 x143 x144 x145 x146 x147 v12 j) =
  pv (nilV x0) fun t1 =>
  pv (faV 1 t1) fun t2 =>
  ld false 1 t2 fun t3 =>
  pv (iaV none 2 t3 x10) fun t4 =>
  pv (faV 1 t4) fun t5 =>
  ld false 1 t5 fun t6 =>
  pv (lenV t6) fun t7 =>
  pv (binV .none .lss v12 t7) fun t8 =>
  cnd t8 (
   pv (nilV x0) fun t9 =>
   pv (faV 1 t9) fun t10 =>
   ld false 1 t10 fun t11 =>
   pv (iaV none 2 t11 x10) fun t12 =>
   pv (faV 1 t12) fun t13 =>
   ld false 1 t13 fun t14 =>
   pv (iaV none 2 t14 v12) fun t15 =>
   ld true 2 t15 fun t16 =>
   callv Tryz.prog (.func (.func 54) #[] #[]) #[t16, x1, x2] (fun t17 =>
   pv (unV .not t17) fun t18 =>
   cnd t18 (
    pv (faV 1 x11) fun t19 =>
    ld false 1 t19 fun t20 =>
    pv (nilV x0) fun t21 =>
    pv (faV 1 t21) fun t22 =>
    ld false 1 t22 fun t23 =>
    pv (iaV none 2 t23 x10) fun t24 =>
    pv (faV 1 t24) fun t25 =>
    ld false 1 t25 fun t26 =>
    pv (iaV none 2 t26 v12) fun t27 =>
    ld true 2 t27 fun t28 =>
    nws 48 1 (bsC #[(.slice none 0 0), (.int .i64 0)] 2 1 #[(0, t28)]) (fun t29 h30 => (ldV h30 false 1 t19 t20) ∧ (
     appX 48 2 32 t20 t29 fun t31 =>
     pv (faV 1 x11) fun t32 =>
     st 1 t32 t31 fun _ =>
     d46 [1, 1, 1, 0, 1, 0, 0, 1, 0, 0, 1, 0, 1, 0, 0, 1, 1] (thenD k2 (blk 2 (thenD (d46 [1, 1, 1, 0, 1, 0, 0, 1, 0, 0, 1, 1] (blk 1 (thenD (d46 [1, 1, 1, 0, 1, 0, 0, 1, 1] (thenD k1 (blk 0 (thenD (d46 [1, 1, 1, 1] (q46 K E)) (q46 K E))))) (thenD k1 (blk 0 (thenD (d46 [1, 1, 1, 1] (q46 K E)) (q46 K E))))))) (blk 1 (thenD (d46 [1, 1, 1, 0, 1, 0, 0, 1, 1] (thenD k1 (blk 0 (thenD (d46 [1, 1, 1, 1] (q46 K E)) (q46 K E))))) (thenD k1 (blk 0 (thenD (d46 [1, 1, 1, 1] (q46 K E)) (q46 K E))))))))) #[x0, x1, x2, x3, x4, x5, x6, x7, x8, x9, x10, x11, v12, x13, x14, x15, x16, x17, x18, x19, x20, x21, x22, x23, x24, x25, x26, x27, x28, x29, x30, x31, x32, x33, x34, x35, x36, x37, x38, v12, x0, t1, t2, t3, x10, t4, t5, t6, t7, t8, (j 50), (j 51), x0, t9, t10, t11, x10, t12, t13, t14, v12, t15, t16, x1, x2, t17, t18, t19, t20, x0, t21, t22, t23, x10, t24, t25, t26, v12, t27, t28, t29, t31, t32, x83, x84, x85, x86, x87, x88, x89, x90, x91, x92, x93, x94, x95, x96, x97, x98, x99, x100, x101, x102, x103, x104, x105, x106, x107, x108, x109, x110, x111, x112, x113, x114, x115, x116, x117, x118, x119, x120, x121, x122, x123, x124, x125, x126, x127, x128, x129, x130, x131, x132, x133, x134, x135, x136, x137, x138, x139, x140, x141, x142, x143, x144, x145, x146, x147]) h30)) (
    d46 [1, 1, 1, 0, 1, 0, 0, 1, 0, 0, 1, 0, 1, 0, 0, 1, 1] (thenD k2 (blk 2 (thenD (d46 [1, 1, 1, 0, 1, 0, 0, 1, 0, 0, 1, 1] (blk 1 (thenD (d46 [1, 1, 1, 0, 1, 0, 0, 1, 1] (thenD k1 (blk 0 (thenD (d46 [1, 1, 1, 1] (q46 K E)) (q46 K E))))) (thenD k1 (blk 0 (thenD (d46 [1, 1, 1, 1] (q46 K E)) (q46 K E))))))) (blk 1 (thenD (d46 [1, 1, 1, 0, 1, 0, 0, 1, 1] (thenD k1 (blk 0 (thenD (d46 [1, 1, 1, 1] (q46 K E)) (q46 K E))))) (thenD k1 (blk 0 (thenD (d46 [1, 1, 1, 1] (q46 K E)) (q46 K E))))))))) #[x0, x1, x2, x3, x4, x5, x6, x7, x8, x9, x10, x11, v12, x13, x14, x15, x16, x17, x18, x19, x20, x21, x22, x23, x24, x25, x26, x27, x28, x29, x30, x31, x32, x33, x34, x35, x36, x37, x38, v12, x0, t1, t2, t3, x10, t4, t5, t6, t7, t8, (j 50), (j 51), x0, t9, t10, t11, x10, t12, t13, t14, v12, t15, t16, x1, x2, t17, t18, (j 67), (j 68), (j 69), (j 70), (j 71), (j 72), (j 73), (j 74), (j 75), (j 76), (j 77), (j 78), (j 79), (j 80), (j 81), (j 82), x83, x84, x85, x86, x87, x88, x89, x90, x91, x92, x93, x94, x95, x96, x97, x98, x99, x100, x101, x102, x103, x104, x105, x106, x107, x108, x109, x110, x111, x112, x113, x114, x115, x116, x117, x118, x119, x120, x121, x122, x123, x124, x125, x126, x127, x128, x129, x130, x131, x132, x133, x134, x135, x136, x137, x138, x139, x140, x141, x142, x143, x144, x145, x146, x147])) E) (
   pv (faV 1 x11) fun t33 =>
   ld false 1 t33 fun t34 =>
   pv (lenV t34) fun t35 =>
   pv (binV .none .gtr t35 (.int .i64 0)) fun t36 =>
   gdK t36 false (fun k => k x0) fun t37 =>
   gdK t36 false (fun k => pv (nilV t37) k) fun t38 =>
   gdK t36 false (fun k => pv (faV 1 t38) k) fun t39 =>
   gdK t36 false (fun k => ld false 1 t39 k) fun t40 =>
   gdK t36 false (fun k => k x10) fun t41 =>
   gdK t36 false (fun k => pv (iaV none 2 t40 t41) k) fun t42 =>
   gdK t36 false (fun k => pv (faV 1 t42) k) fun t43 =>
   gdK t36 false (fun k => ld false 1 t43 k) fun t44 =>
   gdK t36 false (fun k => pv (lenV t44) k) fun t45 =>
   gdK t36 false (fun k => pv (binV .none .eql t45 (.int .i64 0)) k) fun t46 =>
   pv (pickV t36 (.bool true) t46) fun t47 =>
   cnd t47 (
    ld true 2 x11 fun t48 =>
    nws 52 1 (bsC #[(.int .u32 0), (.slice none 0 0)] 2 1 #[(0, t48)]) fun t49 =>
    appX 52 2 32 x9 t49 fun t50 =>
    d46 [1, 1, 1, 0, 1, 0, 0, 1, 1] (thenD k1 (blk 0 (thenD (d46 [1, 1, 1, 1] (q46 K E)) (q46 K E)))) #[x0, x1, x2, x3, x4, x5, x6, x7, x8, t50, x10, x11, v12, x13, x14, x15, x16, x17, x18, x19, x20, x21, x22, x23, x24, x25, x26, x27, x28, x29, x30, x31, x32, x33, x34, x35, x36, x37, x38, v12, x0, t1, t2, t3, x10, t4, t5, t6, t7, t8, (j 50), (j 51), (j 52), (j 53), (j 54), (j 55), (j 56), (j 57), (j 58), (j 59), (j 60), (j 61), (j 62), (j 63), (j 64), (j 65), (j 66), (j 67), (j 68), (j 69), (j 70), (j 71), (j 72), (j 73), (j 74), (j 75), (j 76), (j 77), (j 78), (j 79), (j 80), (j 81), (j 82), t33, t34, t35, t36, t36, t37, t38, t39, t40, t41, t42, t43, t44, t45, t46, t47, x9, t48, t49, t50, x103, x104, x105, x106, x107, x108, x109, x110, x111, x112, x113, x114, x115, x116, x117, x118, x119, x120, x121, x122, x123, x124, x125, x126, x127, x128, x129, x130, x131, x132, x133, x134, x135, x136, x137, x138, x139, x140, x141, x142, x143, x144, x145, x146, x147]) (
    d46 [1, 1, 1, 0, 1, 0, 0, 1, 1] (thenD k1 (blk 0 (thenD (d46 [1, 1, 1, 1] (q46 K E)) (q46 K E)))) #[x0, x1, x2, x3, x4, x5, x6, x7, x8, x9, x10, x11, v12, x13, x14, x15, x16, x17, x18, x19, x20, x21, x22, x23, x24, x25, x26, x27, x28, x29, x30, x31, x32, x33, x34, x35, x36, x37, x38, v12, x0, t1, t2, t3, x10, t4, t5, t6, t7, t8, (j 50), (j 51), (j 52), (j 53), (j 54), (j 55), (j 56), (j 57), (j 58), (j 59), (j 60), (j 61), (j 62), (j 63), (j 64), (j 65), (j 66), (j 67), (j 68), (j 69), (j 70), (j 71), (j 72), (j 73), (j 74), (j 75), (j 76), (j 77), (j 78), (j 79), (j 80), (j 81), (j 82), t33, t34, t35, t36, t36, t37, t38, t39, t40, t41, t42, t43, t44, t45, t46, t47, x99, x100, x101, x102, x103, x104, x105, x106, x107, x108, x109, x110, x111, x112, x113, x114, x115, x116, x117, x118, x119, x120, x121, x122, x123, x124, x125, x126, x127, x128, x129, x130, x131, x132, x133, x134, x135, x136, x137, x138, x139, x140, x141, x142, x143, x144, x145, x146, x147])) := by kernel_rfl
theorem t46_1_1_1_1_0_1_0_0 : d46 [1, 1, 1, 1, 0, 1, 0, 0] (thenD k1 (blk 4 (thenD (d46 [1, 1, 1, 1, 1] (q46 K E)) (q46 K E)))) (m46_1_1_1_1_0_1_0_0 x0 x1 x2 x3 x4 x5 x6 x7 x8 x10 x11 x12 x14 x15 x16 x17 x18 x19 x20 x21 x22 x23 x24 x25 x26 x27 x28 x29 x30 x31 x32 x33 x34 x35 x36 x37 x38 x39 x40 x41 x42 x43 x44 x45 x46 x47 x48 x49 x50 x51 x52 x53 x54 x55 x56 x57 x58 x59 x60 x61 x62 x63 x64 x65 x66 x67 x68 x69 x70 x71 x72 x73 x74 x75 x76 x77 x78 x79 x80 x81 x82 x83 x84 x85 x86 x87 x88 x89 x90 x91 x92 x93 x94 x95 x96 x97 x98 x99 x100 x101 x102 x128 x129 x130 x131 x132 x133 x134 x135 x136 x137 x138 x139 x140 x141 x142 x143 x144 x145 x146 x147 v9 v13 j) =
  pv (lenV x3) fun t1 =>
  pv (binV .none .lss v13 t1) fun t2 =>
  cnd t2 (
   pv (iaV none 2 x3 v13) fun t3 =>
   pv (faV 1 t3) fun t4 =>
   ld false 1 t4 fun t5 =>
   pv (lenV t5) fun t6 =>
   pv (binV .none .gtr t6 (.int .i64 0)) fun t7 =>
   cnd t7 (
    pv (iaV none 2 x3 v13) fun t8 =>
    pv (faV 0 t8) fun t9 =>
    ld false 1 t9 fun t10 =>
    pv (iaV none 2 x3 v13) fun t11 =>
    pv (faV 1 t11) fun t12 =>
    ld false 1 t12 fun t13 =>
    callv Tryz.prog (.func (.func 82) #[] #[]) #[v9, t10, t13] (fun t14 =>
    d46 [1, 1, 1, 1, 0, 1, 0, 0, 1, 1] (thenD k1 (blk 4 (thenD (d46 [1, 1, 1, 1, 1] (q46 K E)) (q46 K E)))) #[x0, x1, x2, x3, x4, x5, x6, x7, x8, t14, x10, x11, x12, v13, x14, x15, x16, x17, x18, x19, x20, x21, x22, x23, x24, x25, x26, x27, x28, x29, x30, x31, x32, x33, x34, x35, x36, x37, x38, x39, x40, x41, x42, x43, x44, x45, x46, x47, x48, x49, x50, x51, x52, x53, x54, x55, x56, x57, x58, x59, x60, x61, x62, x63, x64, x65, x66, x67, x68, x69, x70, x71, x72, x73, x74, x75, x76, x77, x78, x79, x80, x81, x82, x83, x84, x85, x86, x87, x88, x89, x90, x91, x92, x93, x94, x95, x96, x97, x98, x99, x100, x101, x102, v13, x3, t1, t2, (j 107), (j 108), x3, v13, t3, t4, t5, t6, t7, v9, x3, v13, t8, t9, t10, x3, v13, t11, t12, t13, t14, x128, x129, x130, x131, x132, x133, x134, x135, x136, x137, x138, x139, x140, x141, x142, x143, x144, x145, x146, x147]) E) (
    d46 [1, 1, 1, 1, 0, 1, 0, 0, 1, 1] (thenD k1 (blk 4 (thenD (d46 [1, 1, 1, 1, 1] (q46 K E)) (q46 K E)))) #[x0, x1, x2, x3, x4, x5, x6, x7, x8, v9, x10, x11, x12, v13, x14, x15, x16, x17, x18, x19, x20, x21, x22, x23, x24, x25, x26, x27, x28, x29, x30, x31, x32, x33, x34, x35, x36, x37, x38, x39, x40, x41, x42, x43, x44, x45, x46, x47, x48, x49, x50, x51, x52, x53, x54, x55, x56, x57, x58, x59, x60, x61, x62, x63, x64, x65, x66, x67, x68, x69, x70, x71, x72, x73, x74, x75, x76, x77, x78, x79, x80, x81, x82, x83, x84, x85, x86, x87, x88, x89, x90, x91, x92, x93, x94, x95, x96, x97, x98, x99, x100, x101, x102, v13, x3, t1, t2, (j 107), (j 108), x3, v13, t3, t4, t5, t6, t7, (j 116), (j 117), (j 118), (j 119), (j 120), (j 121), (j 122), (j 123), (j 124), (j 125), (j 126), (j 127), x128, x129, x130, x131, x132, x133, x134, x135, x136, x137, x138, x139, x140, x141, x142, x143, x144, x145, x146, x147])) (
   lp (fun k1 => d46 [1, 1, 1, 1, 1, 0, 1, 0, 0] (thenD k1 (blk 6 (thenD (d46 [1, 1, 1, 1, 1, 1] (q46 K E)) (q46 K E))))) (m46_1_1_1_1_1_0_1_0_0 x0 x1 x2 x3 x4 x5 x6 x7 v9 x10 x11 x12 v13 x15 x16 x17 x18 x19 x20 x21 x22 x23 x24 x25 x26 x27 x28 x29 x30 x31 x32 x33 x34 x35 x36 x37 x38 x39 x40 x41 x42 x43 x44 x45 x46 x47 x48 x49 x50 x51 x52 x53 x54 x55 x56 x57 x58 x59 x60 x61 x62 x63 x64 x65 x66 x67 x68 x69 x70 x71 x72 x73 x74 x75 x76 x77 x78 x79 x80 x81 x82 x83 x84 x85 x86 x87 x88 x89 x90 x91 x92 x93 x94 x95 x96 x97 x98 x99 x100 x101 x102 v13 x3 t1 t2 (j 107) (j 108) (j 109) (j 110) (j 111) (j 112) (j 113) (j 114) (j 115) (j 116) (j 117) (j 118) (j 119) (j 120) (j 121) (j 122) (j 123) (j 124) (j 125) (j 126) (j 127) x141 x142 x143 x144 x145 x146 x147 (.int .i64 0) (jf #[U, U, U, U, U, U, U, U, x8, U, U, U, U, U, U, U, U, U, U, U, U, U, U, U, U, U, U, U, U, U, U, U, U, U, U, U, U, U, U, U, U, U, U, U, U, U, U, U, U, U, U, U, U, U, U, U, U, U, U, U, U, U, U, U, U, U, U, U, U, U, U, U, U, U, U, U, U, U, U, U, U, U, U, U, U, U, U, U, U, U, U, U, U, U, U, U, U, U, U, U, U, U, U, U, U, U, U, U, U, U, U, U, U, U, U, U, U, U, U, U, U, U, U, U, U, U, U, U, x128, x129, x130, x131, x132, x133, x134, x135, x136, x137, x138, x139, x140]))) := by kernel_rfl
theorem t46_1_1_1_0_1_0_0_1_0_0_1_0_1_0_0_1_1 : d46 [1, 1, 1, 0, 1, 0, 0, 1, 0, 0, 1, 0, 1, 0, 0, 1, 1] (thenD k2 (blk 2 (thenD (d46 [1, 1, 1, 0, 1, 0, 0, 1, 0, 0, 1, 1] (blk 1 (thenD (d46 [1, 1, 1, 0, 1, 0, 0, 1, 1] (thenD k1 (blk 0 (thenD (d46 [1, 1, 1, 1] (q46 K E)) (q46 K E))))) (thenD k1 (blk 0 (thenD (d46 [1, 1, 1, 1] (q46 K E)) (q46 K E))))))) (blk 1 (thenD (d46 [1, 1, 1, 0, 1, 0, 0, 1, 1] (thenD k1 (blk 0 (thenD (d46 [1, 1, 1, 1] (q46 K E)) (q46 K E))))) (thenD k1 (blk 0 (thenD (d46 [1, 1, 1, 1] (q46 K E)) (q46 K E))))))))) #[x0, x1, x2, x3, x4, x5, x6, x7, x8, x9, x10, x11, x12, x13, x14, x15, x16, x17, x18, x19, x20, x21, x22, x23, x24, x25, x26, x27, x28, x29, x30, x31, x32, x33, x34, x35, x36, x37, x38, x39, x40, x41, x42, x43, x44, x45, x46, x47, x48, x49, x50, x51, x52, x53, x54, x55, x56, x57, x58, x59, x60, x61, x62, x63, x64, x65, x66, x67, x68, x69, x70, x71, x72, x73, x74, x75, x76, x77, x78, x79, x80, x81, x82, x83, x84, x85, x86, x87, x88, x89, x90, x91, x92, x93, x94, x95, x96, x97, x98, x99, x100, x101, x102, x103, x104, x105, x106, x107, x108, x109, x110, x111, x112, x113, x114, x115, x116, x117, x118, x119, x120, x121, x122, x123, x124, x125, x126, x127, x128, x129, x130, x131, x132, x133, x134, x135, x136, x137, x138, x139, x140, x141, x142, x143, x144, x145, x146, x147] =
  pv (binV .none .add x12 (.int .i64 1)) fun t1 =>
  k2 (m46_1_1_1_0_1_0_0_1_0_0_1_0_1_0_0 x0 x1 x2 x3 x4 x5 x6 x7 x8 x9 x10 x11 x13 x14 x15 x16 x17 x18 x19 x20 x21 x22 x23 x24 x25 x26 x27 x28 x29 x30 x31 x32 x33 x34 x35 x36 x37 x38 x83 x84 x85 x86 x87 x88 x89 x90 x91 x92 x93 x94 x95 x96 x97 x98 x99 x100 x101 x102 x103 x104 x105 x106 x107 x108 x109 x110 x111 x112 x113 x114 x115 x116 x117 x118 x119 x120 x121 x122 x123 x124 x125 x126 x127 x128 x129 x130 x131 x132 x133 x134 x135 x136 x137 x138 x139 x140 x141 x142 x143 x144 x145 x146 x147 t1 (jf #[U, U, U, U, U, U, U, U, U, U, U, U, U, U, U, U, U, U, U, U, U, U, U, U, U, U, U, U, U, U, U, U, U, U, U, U, U, U, U, x39, x40, x41, x42, x43, x44, x45, x46, x47, x48, x49, x12, t1, x52, x53, x54, x55, x56, x57, x58, x59, x60, x61, x62, x63, x64, x65, x66, x67, x68, x69, x70, x71, x72, x73, x74, x75, x76, x77, x78, x79, x80, x81, x82])) := by kernel_rfl
theorem t46_1_1_1_0_1_0_0_1_1 : d46 [1, 1, 1, 0, 1, 0, 0, 1, 1] (thenD k1 (blk 0 (thenD (d46 [1, 1, 1, 1] (q46 K E)) (q46 K E)))) #[x0, x1, x2, x3, x4, x5, x6, x7, x8, x9, x10, x11, x12, x13, x14, x15, x16, x17, x18, x19, x20, x21, x22, x23, x24, x25, x26, x27, x28, x29, x30, x31, x32, x33, x34, x35, x36, x37, x38, x39, x40, x41, x42, x43, x44, x45, x46, x47, x48, x49, x50, x51, x52, x53, x54, x55, x56, x57, x58, x59, x60, x61, x62, x63, x64, x65, x66, x67, x68, x69, x70, x71, x72, x73, x74, x75, x76, x77, x78, x79, x80, x81, x82, x83, x84, x85, x86, x87, x88, x89, x90, x91, x92, x93, x94, x95, x96, x97, x98, x99, x100, x101, x102, x103, x104, x105, x106, x107, x108, x109, x110, x111, x112, x113, x114, x115, x116, x117, x118, x119, x120, x121, x122, x123, x124, x125, x126, x127, x128, x129, x130, x131, x132, x133, x134, x135, x136, x137, x138, x139, x140, x141, x142, x143, x144, x145, x146, x147] =
  pv (binV .none .add x10 (.int .i64 1)) fun t1 =>
  k1 (m46_1_1_1_0_1_0_0 x0 x1 x2 x3 x4 x5 x6 x7 x8 x13 x14 x15 x16 x17 x18 x19 x20 x103 x104 x105 x106 x107 x108 x109 x110 x111 x112 x113 x114 x115 x116 x117 x118 x119 x120 x121 x122 x123 x124 x125 x126 x127 x128 x129 x130 x131 x132 x133 x134 x135 x136 x137 x138 x139 x140 x141 x142 x143 x144 x145 x146 x147 x9 t1 (jf #[U, U, U, U, U, U, U, U, U, U, U, x11, x12, U, U, U, U, U, U, U, U, x21, x22, x23, x24, x25, x26, x27, x10, t1, x30, x31, x32, x33, x34, x35, x36, x37, x38, x39, x40, x41, x42, x43, x44, x45, x46, x47, x48, x49, x50, x51, x52, x53, x54, x55, x56, x57, x58, x59, x60, x61, x62, x63, x64, x65, x66, x67, x68, x69, x70, x71, x72, x73, x74, x75, x76, x77, x78, x79, x80, x81, x82, x83, x84, x85, x86, x87, x88, x89, x90, x91, x92, x93, x94, x95, x96, x97, x98, x99, x100, x101, x102])) := by kernel_rfl
theorem t46_1_1_1_1_0_1_0_0_1_1 : d46 [1, 1, 1, 1, 0, 1, 0, 0, 1, 1] (thenD k1 (blk 4 (thenD (d46 [1, 1, 1, 1, 1] (q46 K E)) (q46 K E)))) #[x0, x1, x2, x3, x4, x5, x6, x7, x8, x9, x10, x11, x12, x13, x14, x15, x16, x17, x18, x19, x20, x21, x22, x23, x24, x25, x26, x27, x28, x29, x30, x31, x32, x33, x34, x35, x36, x37, x38, x39, x40, x41, x42, x43, x44, x45, x46, x47, x48, x49, x50, x51, x52, x53, x54, x55, x56, x57, x58, x59, x60, x61, x62, x63, x64, x65, x66, x67, x68, x69, x70, x71, x72, x73, x74, x75, x76, x77, x78, x79, x80, x81, x82, x83, x84, x85, x86, x87, x88, x89, x90, x91, x92, x93, x94, x95, x96, x97, x98, x99, x100, x101, x102, x103, x104, x105, x106, x107, x108, x109, x110, x111, x112, x113, x114, x115, x116, x117, x118, x119, x120, x121, x122, x123, x124, x125, x126, x127, x128, x129, x130, x131, x132, x133, x134, x135, x136, x137, x138, x139, x140, x141, x142, x143, x144, x145, x146, x147] =
  pv (binV .none .add x13 (.int .i64 1)) fun t1 =>
  k1 (m46_1_1_1_1_0_1_0_0 x0 x1 x2 x3 x4 x5 x6 x7 x8 x10 x11 x12 x14 x15 x16 x17 x18 x19 x20 x21 x22 x23 x24 x25 x26 x27 x28 x29 x30 x31 x32 x33 x34 x35 x36 x37 x38 x39 x40 x41 x42 x43 x44 x45 x46 x47 x48 x49 x50 x51 x52 x53 x54 x55 x56 x57 x58 x59 x60 x61 x62 x63 x64 x65 x66 x67 x68 x69 x70 x71 x72 x73 x74 x75 x76 x77 x78 x79 x80 x81 x82 x83 x84 x85 x86 x87 x88 x89 x90 x91 x92 x93 x94 x95 x96 x97 x98 x99 x100 x101 x102 x128 x129 x130 x131 x132 x133 x134 x135 x136 x137 x138 x139 x140 x141 x142 x143 x144 x145 x146 x147 x9 t1 (jf #[U, U, U, U, U, U, U, U, U, U, U, U, U, U, U, U, U, U, U, U, U, U, U, U, U, U, U, U, U, U, U, U, U, U, U, U, U, U, U, U, U, U, U, U, U, U, U, U, U, U, U, U, U, U, U, U, U, U, U, U, U, U, U, U, U, U, U, U, U, U, U, U, U, U, U, U, U, U, U, U, U, U, U, U, U, U, U, U, U, U, U, U, U, U, U, U, U, U, U, U, U, U, U, x103, x104, x105, x106, x13, t1, x109, x110, x111, x112, x113, x114, x115, x116, x117, x118, x119, x120, x121, x122, x123, x124, x125, x126, x127])) := by kernel_rfl
theorem t46_1_1_1_1_1_0_1_0_0 : d46 [1, 1, 1, 1, 1, 0, 1, 0, 0] (thenD k1 (blk 6 (thenD (d46 [1, 1, 1, 1, 1, 1] (q46 K E)) (q46 K E)))) (m46_1_1_1_1_1_0_1_0_0 x0 x1 x2 x3 x4 x5 x6 x7 x9 x10 x11 x12 x13 x15 x16 x17 x18 x19 x20 x21 x22 x23 x24 x25 x26 x27 x28 x29 x30 x31 x32 x33 x34 x35 x36 x37 x38 x39 x40 x41 x42 x43 x44 x45 x46 x47 x48 x49 x50 x51 x52 x53 x54 x55 x56 x57 x58 x59 x60 x61 x62 x63 x64 x65 x66 x67 x68 x69 x70 x71 x72 x73 x74 x75 x76 x77 x78 x79 x80 x81 x82 x83 x84 x85 x86 x87 x88 x89 x90 x91 x92 x93 x94 x95 x96 x97 x98 x99 x100 x101 x102 x103 x104 x105 x106 x107 x108 x109 x110 x111 x112 x113 x114 x115 x116 x117 x118 x119 x120 x121 x122 x123 x124 x125 x126 x127 x141 x142 x143 x144 x145 x146 x147 v14 j) =
  pv (lenV x9) fun t1 =>
  pv (binV .none .lss v14 t1) fun t2 =>
  cnd t2 (
   pv (iaV none 2 x9 v14) fun t3 =>
   pv (faV 1 t3) fun t4 =>
   ld false 1 t4 fun t5 =>
   pv (lenV t5) fun t6 =>
   pv (binV .none .gtr t6 (.int .i64 200)) fun t7 =>
   cnd t7 (
    K (.int .i64 3)) (
    pv (binV .none .add v14 (.int .i64 1)) fun t8 =>
    k1 (m46_1_1_1_1_1_0_1_0_0 x0 x1 x2 x3 x4 x5 x6 x7 x9 x10 x11 x12 x13 x15 x16 x17 x18 x19 x20 x21 x22 x23 x24 x25 x26 x27 x28 x29 x30 x31 x32 x33 x34 x35 x36 x37 x38 x39 x40 x41 x42 x43 x44 x45 x46 x47 x48 x49 x50 x51 x52 x53 x54 x55 x56 x57 x58 x59 x60 x61 x62 x63 x64 x65 x66 x67 x68 x69 x70 x71 x72 x73 x74 x75 x76 x77 x78 x79 x80 x81 x82 x83 x84 x85 x86 x87 x88 x89 x90 x91 x92 x93 x94 x95 x96 x97 x98 x99 x100 x101 x102 x103 x104 x105 x106 x107 x108 x109 x110 x111 x112 x113 x114 x115 x116 x117 x118 x119 x120 x121 x122 x123 x124 x125 x126 x127 x141 x142 x143 x144 x145 x146 x147 t8 (jf #[U, U, U, U, U, U, U, U, (j 8), U, U, U, U, U, U, U, U, U, U, U, U, U, U, U, U, U, U, U, U, U, U, U, U, U, U, U, U, U, U, U, U, U, U, U, U, U, U, U, U, U, U, U, U, U, U, U, U, U, U, U, U, U, U, U, U, U, U, U, U, U, U, U, U, U, U, U, U, U, U, U, U, U, U, U, U, U, U, U, U, U, U, U, U, U, U, U, U, U, U, U, U, U, U, U, U, U, U, U, U, U, U, U, U, U, U, U, U, U, U, U, U, U, U, U, U, U, U, U, v14, x9, t1, t2, v14, t8, x9, v14, t3, t4, t5, t6, t7])))) (
   pv (lenV x9) fun t9 =>
   pv (binV .none .gtr t9 (.int .i64 5000)) fun t10 =>
   cnd t10 (
    K (.int .i64 3)) (
    pv (nilV x0) fun t11 =>
    pv (faV 1 t11) fun t12 =>
    st 1 t12 x9 fun _ =>
    K (.int .i64 0))) := by kernel_rfl
abbrev q53 : QD := bodyQ Tryz.prog Tryz.f53.results.toList K E
abbrev d53 (p : List Nat) : QD → Env → Hp → Prop := den Tryz.prog (sel (bodyOf Tryz.f53) p)
def m53_1_1_0_1_0_0 (j : Nat → Value) : Env := #[v0, x1, x2, x3, x4, v5, x6, x7, x8, x9, x10, (j 11), (j 12), (j 13), (j 14), (j 15), (j 16), (j 17), (j 18), (j 19), (j 20), (j 21), (j 22), (j 23), (j 24), (j 25), (j 26), (j 27), (j 28), (j 29), (j 30), (j 31), x32]
theorem t53 : d53 [] (q53 K E) #[x0, x1, U, U, U, U, U, U, U, U, U, U, U, U, U, U, U, U, U, U, U, U, U, U, U, U, U, U, U, U, U, U, U] =
  pv (lenV x1) fun t1 =>
  pv (cvV .u64 t1) fun t2 =>
  callv Tryz.prog (.func (.func 80) #[] #[]) #[x0, t2, (.int .i64 4)] (fun t3 =>
  lp (fun k1 => d53 [1, 1, 0, 1, 0, 0] (thenD k1 (blk 0 (thenD (d53 [1, 1, 1] (q53 K E)) (q53 K E))))) (m53_1_1_0_1_0_0 x1 U U (.slice none 0 0) x0 x1 t1 t2 t3 U t3 (.int .i64 0) (jf #[]))) E := by kernel_rfl
theorem t53_1_1_0_1_0_0 : d53 [1, 1, 0, 1, 0, 0] (thenD k1 (blk 0 (thenD (d53 [1, 1, 1] (q53 K E)) (q53 K E)))) (m53_1_1_0_1_0_0 x1 x2 x3 x4 x6 x7 x8 x9 x10 x32 v0 v5 j) =
  pv (lenV x1) fun t1 =>
  pv (binV .none .lss v5 t1) fun t2 =>
  cnd t2 (
   pv (iaV none 2 x1 v5) fun t3 =>
   pv (faV 0 t3) fun t4 =>
   ld false 1 t4 fun t5 =>
   pv (cvV .u64 t5) fun t6 =>
   callv Tryz.prog (.func (.func 80) #[] #[]) #[v0, t6, (.int .i64 4)] (fun t7 =>
   pv (iaV none 2 x1 v5) fun t8 =>
   pv (faV 1 t8) fun t9 =>
   ld false 1 t9 fun t10 =>
   callv Tryz.prog (.func (.func 42) #[] #[]) #[t7, t10] (fun t11 =>
   pv (binV .none .add v5 (.int .i64 1)) fun t12 =>
   k1 (m53_1_1_0_1_0_0 x1 x2 x3 x4 x6 x7 x8 x9 x10 x32 t11 t12 (jf #[U, U, U, U, U, U, U, U, U, U, U, v5, x1, t1, t2, v5, t12, v0, x1, v5, t3, t4, t5, t6, t7, t7, x1, v5, t8, t9, t10, t11]))) E) E) (
   K v0) := by kernel_rfl
abbrev q54 : QD := bodyQ Tryz.prog Tryz.f54.results.toList K E
abbrev d54 (p : List Nat) : QD → Env → Hp → Prop := den Tryz.prog (sel (bodyOf Tryz.f54) p)
theorem t54 : d54 [] (q54 K E) #[x0, x1, x2, U, U, U, U, U, U, U, U, U, U, U, U, U, U, U, U, U, U, U, U, U, U, U, U] =
  nw 48 (Value.cells x0).toList fun t1 =>
  pv (faV 0 t1) fun t2 =>
  ld false 1 t2 fun t3 =>
  pv (lenV t3) fun t4 =>
  pv (binV .none .gtr t4 (.int .i64 0)) fun t5 =>
  gdK t5 true (fun k => pv (faV 0 t1) k) fun t6 =>
  gdK t5 true (fun k => ld false 1 t6 k) fun t7 =>
  gdK t5 true (fun k => pv (iaV none 1 t7 (.int .i64 0)) k) fun t8 =>
  gdK t5 true (fun k => ld false 1 t8 k) fun t9 =>
  gdK t5 true (fun k => k x1) fun t10 =>
  gdK t5 true (fun k => pv (binV .none .geq t9 t10) k) fun t11 =>
  pv (pickV t5 t11 (.bool false)) fun t12 =>
  gdK t12 true (fun k => pv (faV 0 t1) k) fun t13 =>
  gdK t12 true (fun k => ld false 1 t13 k) fun t14 =>
  gdK t12 true (fun k => pv (iaV none 1 t14 (.int .i64 0)) k) fun t15 =>
  gdK t12 true (fun k => ld false 1 t15 k) fun t16 =>
  gdK t12 true (fun k => k x2) fun t17 =>
  gdK t12 true (fun k => pv (binV .none .lss t16 t17) k) fun t18 =>
  pv (pickV t12 t18 (.bool false)) fun t19 =>
  K t19 := by kernel_rfl
abbrev q55 : QD := bodyQ Tryz.prog Tryz.f55.results.toList K E
abbrev d55 (p : List Nat) : QD → Env → Hp → Prop := den Tryz.prog (sel (bodyOf Tryz.f55) p)
def m55_1_1_0_1_0_0 (j : Nat → Value) : Env := #[x0, x1, x2, v3, v4, (j 5), (j 6), (j 7), (j 8), (j 9), (j 10), (j 11), (j 12), (j 13), (j 14), (j 15), (j 16), (j 17), (j 18), (j 19), (j 20), (j 21), (j 22), (j 23), (j 24), (j 25), (j 26), (j 27), (j 28), x29]
theorem t55 : d55 [] (q55 K E) #[x0, U, U, U, U, U, U, U, U, U, U, U, U, U, U, U, U, U, U, U, U, U, U, U, U, U, U, U, U, U] =
  lp (fun k1 => d55 [1, 1, 0, 1, 0, 0] (thenD k1 (blk 0 (thenD (d55 [1, 1, 1] (q55 K E)) (q55 K E))))) (m55_1_1_0_1_0_0 x0 U (.slice none 0 0) U (.slice none 0 0) (.int .i64 0) (jf #[])) := by kernel_rfl
theorem t55_1_1_0_1_0_0 : d55 [1, 1, 0, 1, 0, 0] (thenD k1 (blk 0 (thenD (d55 [1, 1, 1] (q55 K E)) (q55 K E)))) (m55_1_1_0_1_0_0 x0 x1 x2 x29 v3 v4 j) =
  pv (lenV x0) fun t1 =>
  pv (binV .none .lss v4 t1) fun t2 =>
  cnd t2 (
   pv (iaV none 2 x0 v4) fun t3 =>
   pv (faV 0 t3) fun t4 =>
   ld false 1 t4 fun t5 =>
   appX 3 1 8 (.slice none 0 0) t5 fun t6 =>
   pv (iaV none 2 x0 v4) fun t7 =>
   pv (faV 1 t7) fun t8 =>
   ld false 1 t8 fun t9 =>
   pv (bdC #[(.slice none 0 0), (.int .i64 0)] [(0, 1), (1, 1)] #[(0, t6), (1, t9)]) fun t10 =>
   nws 48 1 (bsC #[(.slice none 0 0), (.int .i64 0)] 2 1 #[(0, t10)]) fun t11 =>
   appX 48 2 32 v3 t11 fun t12 =>
   pv (binV .none .add v4 (.int .i64 1)) fun t13 =>
   k1 (m55_1_1_0_1_0_0 x0 x1 x2 x29 t12 t13 (jf #[U, U, U, U, U, t6, v4, x0, t1, t2, v4, t13, (.slice none 0 0), x0, v4, t3, t4, t5, t6, v3, t6, x0, v4, t7, t8, t9, t10, t11, t12]))) (
   K v3) := by kernel_rfl
abbrev q80 : QD := bodyQ Tryz.prog Tryz.f80.results.toList K E
abbrev d80 (p : List Nat) : QD → Env → Hp → Prop := den Tryz.prog (sel (bodyOf Tryz.f80) p)
def m80_1_0_1_0_0 (j : Nat → Value) : Env := #[v0, x1, x2, x3, x4, x5, x6, v7, x8, x9, (j 10), (j 11), (j 12), (j 13), (j 14), (j 15), (j 16), (j 17), (j 18), (j 19), (j 20), (j 21), (j 22), x23]
theorem t80 : d80 [] (q80 K E) #[x0, x1, x2, U, U, U, U, U, U, U, U, U, U, U, U, U, U, U, U, U, U, U, U, U] =
  pv (binV .none .sub x2 (.int .i64 1)) fun t1 =>
  lp (fun k1 => d80 [1, 0, 1, 0, 0] (thenD k1 (blk 0 (thenD (d80 [1, 1] (q80 K E)) (q80 K E))))) (m80_1_0_1_0_0 x1 x2 U U U (.slice none 0 0) x2 t1 U x0 t1 (jf #[])) := by kernel_rfl
theorem t80_1_0_1_0_0 : d80 [1, 0, 1, 0, 0] (thenD k1 (blk 0 (thenD (d80 [1, 1] (q80 K E)) (q80 K E)))) (m80_1_0_1_0_0 x1 x2 x3 x4 x5 x6 x8 x9 x23 v0 v7 j) =
  pv (binV .none .geq v7 (.int .i64 0)) fun t1 =>
  cnd t1 (
   pv (cvV .u64 v7) fun t2 =>
   pv (binV .none .mul (.int .u64 8) t2) fun t3 =>
   pv (binV .none .shr x1 t3) fun t4 =>
   pv (cvV .u8 t4) fun t5 =>
   nws 5 1 (bsC #[(.int .u8 0)] 1 1 #[(0, t5)]) fun t6 =>
   appX 5 1 1 v0 t6 fun t7 =>
   pv (binV .none .sub v7 (.int .i64 1)) fun t8 =>
   k1 (m80_1_0_1_0_0 x1 x2 x3 x4 x5 x6 x8 x9 x23 t7 t8 (jf #[U, U, U, U, U, U, U, U, U, U, v7, t1, v7, t8, v0, x1, v7, t2, t3, t4, t5, t6, t7]))) (
   K v0) := by kernel_rfl
abbrev q82 : QD := bodyQ Tryz.prog Tryz.f82.results.toList K E
abbrev d82 (p : List Nat) : QD → Env → Hp → Prop := den Tryz.prog (sel (bodyOf Tryz.f82) p)
def m82_1_1_1_0_0_0 (j : Nat → Value) : Env := #[x0, x1, x2, x3, x4, x5, x6, v7, v8, x9, (j 10), (j 11), (j 12), (j 13), (j 14), (j 15), (j 16), (j 17), (j 18), (j 19), (j 20), (j 21), (j 22), (j 23), (j 24), (j 25), (j 26), (j 27), (j 28), (j 29), (j 30), (j 31), x32, x33, x34, x35, x36, x37, x38, x39, x40, x41, x42, x43, x44, x45, x46, x47, x48, x49, x50, x51, x52, x53, x54, x55, x56, x57, x58, x59, x60, x61, x62, x63, x64, x65, x66, x67, x68, x69, x70, x71]
theorem t82 : d82 [] (q82 K E) #[x0, x1, x2, U, U, U, U, U, U, U, U, U, U, U, U, U, U, U, U, U, U, U, U, U, U, U, U, U, U, U, U, U, U, U, U, U, U, U, U, U, U, U, U, U, U, U, U, U, U, U, U, U, U, U, U, U, U, U, U, U, U, U, U, U, U, U, U, U, U, U, U, U] =
  lp (fun k1 => d82 [1, 1, 1, 0, 0, 0] (thenD k1 (blk 0 (thenD (d82 [1, 1, 1, 1] (q82 K E)) (q82 K E))))) (m82_1_1_1_0_0_0 x0 x1 x2 U U U (.slice none 0 0) U U U U U U U U U U U U U U U U U U U U U U U U U U U U U U U U U U U U U U U U U (.slice none 0 0) (.int .i64 0) (jf #[])) := by kernel_rfl
theorem t82_1_1_1_0_0_0 : d82 [1, 1, 1, 0, 0, 0] (thenD k1 (blk 0 (thenD (d82 [1, 1, 1, 1] (q82 K E)) (q82 K E)))) (m82_1_1_1_0_0_0 x0 x1 x2 x3 x4 x5 x6 x9 x32 x33 x34 x35 x36 x37 x38 x39 x40 x41 x42 x43 x44 x45 x46 x47 x48 x49 x50 x51 x52 x53 x54 x55 x56 x57 x58 x59 x60 x61 x62 x63 x64 x65 x66 x67 x68 x69 x70 x71 v7 v8 j) =
  pv (lenV x0) fun t1 =>
  pv (binV .none .lss v8 t1) fun t2 =>
  gdK t2 true (fun k => k x0) fun t3 =>
  gdK t2 true (fun k => k v8) fun t4 =>
  gdK t2 true (fun k => pv (iaV none 2 t3 t4) k) fun t5 =>
  gdK t2 true (fun k => pv (faV 0 t5) k) fun t6 =>
  gdK t2 true (fun k => ld false 1 t6 k) fun t7 =>
  gdK t2 true (fun k => k x1) fun t8 =>
  gdK t2 true (fun k => pv (binV .none .lss t7 t8) k) fun t9 =>
  pv (pickV t2 t9 (.bool false)) fun t10 =>
  cnd t10 (
   pv (iaV none 2 x0 v8) fun t11 =>
   ld true 2 t11 fun t12 =>
   nws 52 1 (bsC #[(.int .u32 0), (.slice none 0 0)] 2 1 #[(0, t12)]) fun t13 =>
   appX 52 2 32 v7 t13 fun t14 =>
   pv (binV .none .add v8 (.int .i64 1)) fun t15 =>
   k1 (m82_1_1_1_0_0_0 x0 x1 x2 x3 x4 x5 x6 x9 x32 x33 x34 x35 x36 x37 x38 x39 x40 x41 x42 x43 x44 x45 x46 x47 x48 x49 x50 x51 x52 x53 x54 x55 x56 x57 x58 x59 x60 x61 x62 x63 x64 x65 x66 x67 x68 x69 x70 x71 t14 t15 (jf #[U, U, U, U, U, U, U, U, U, U, v8, x0, t1, t2, t2, t3, t4, t5, t6, t7, t8, t9, t10, v7, x0, v8, t11, t12, t13, t14, v8, t15]))) (
   pv (bdC #[(.int .u32 0), (.slice none 0 0)] [(0, 1), (1, 1)] #[(0, x1)]) fun t16 =>
   nw 52 [(.int .u32 0), (.slice none 0 0)] fun t17 =>
   st 2 t17 t16 fun _ =>
   pv (lenV x0) fun t18 =>
   pv (binV .none .lss v8 t18) fun t19 =>
   gdK t19 true (fun k => k x0) fun t20 =>
   gdK t19 true (fun k => k v8) fun t21 =>
   gdK t19 true (fun k => pv (iaV none 2 t20 t21) k) fun t22 =>
   gdK t19 true (fun k => pv (faV 0 t22) k) fun t23 =>
   gdK t19 true (fun k => ld false 1 t23 k) fun t24 =>
   gdK t19 true (fun k => k x1) fun t25 =>
   gdK t19 true (fun k => pv (binV .none .eql t24 t25) k) fun t26 =>
   pv (pickV t19 t26 (.bool false)) fun t27 =>
   cnd t27 (
    pv (iaV none 2 x0 v8) fun t28 =>
    pv (faV 1 t28) fun t29 =>
    ld false 1 t29 fun t30 =>
    callv Tryz.prog (.func (.func 55) #[] #[]) #[t30] (fun t31 =>
    pv (faV 1 t17) fun t32 =>
    st 1 t32 t31 fun _ =>
    pv (binV .none .add v8 (.int .i64 1)) fun t33 =>
    d82 [1, 1, 1, 1, 1, 1] (q82 K E) #[x0, x1, x2, x3, x4, x5, x6, v7, t33, t17, v8, x0, t1, t2, t2, t3, t4, t5, t6, t7, t8, t9, t10, (j 23), (j 24), (j 25), (j 26), (j 27), (j 28), (j 29), (j 30), (j 31), x1, t16, v8, x0, t18, t19, t19, t20, t21, t22, t23, t24, t25, t26, t27, x0, v8, t28, t29, t30, t31, t32, v8, t33, x56, x57, x58, x59, x60, x61, x62, x63, x64, x65, x66, x67, x68, x69, x70, x71]) E) (
    d82 [1, 1, 1, 1, 1, 1] (q82 K E) #[x0, x1, x2, x3, x4, x5, x6, v7, v8, t17, v8, x0, t1, t2, t2, t3, t4, t5, t6, t7, t8, t9, t10, (j 23), (j 24), (j 25), (j 26), (j 27), (j 28), (j 29), (j 30), (j 31), x1, t16, v8, x0, t18, t19, t19, t20, t21, t22, t23, t24, t25, t26, t27, x47, x48, x49, x50, x51, x52, x53, x54, x55, x56, x57, x58, x59, x60, x61, x62, x63, x64, x65, x66, x67, x68, x69, x70, x71])) := by kernel_rfl
theorem t82_1_1_1_1_1_1 : d82 [1, 1, 1, 1, 1, 1] (q82 K E) #[x0, x1, x2, x3, x4, x5, x6, x7, x8, x9, x10, x11, x12, x13, x14, x15, x16, x17, x18, x19, x20, x21, x22, x23, x24, x25, x26, x27, x28, x29, x30, x31, x32, x33, x34, x35, x36, x37, x38, x39, x40, x41, x42, x43, x44, x45, x46, x47, x48, x49, x50, x51, x52, x53, x54, x55, x56, x57, x58, x59, x60, x61, x62, x63, x64, x65, x66, x67, x68, x69, x70, x71] =
  pv (faV 1 x9) fun t1 =>
  ld false 1 t1 fun t2 =>
  callv Tryz.prog (.func (.func 55) #[] #[]) #[x2] (fun t3 h4 => (ldV h4 false 1 t1 t2) ∧ (
   appX 48 2 32 t2 t3 fun t5 =>
   pv (faV 1 x9) fun t6 =>
   st 1 t6 t5 fun _ =>
   ld true 2 x9 fun t7 =>
   nws 52 1 (bsC #[(.int .u32 0), (.slice none 0 0)] 2 1 #[(0, t7)]) fun t8 =>
   appX 52 2 32 x7 t8 fun t9 =>
   pv (slV 2 x0 (some x8) none none) fun t10 =>
   appX 52 2 32 t9 t10 fun t11 =>
   K t11) h4) E := by kernel_rfl
abbrev q83 : QD := bodyQ Tryz.prog Tryz.f83.results.toList K E
abbrev d83 (p : List Nat) : QD → Env → Hp → Prop := den Tryz.prog (sel (bodyOf Tryz.f83) p)
def m83_1_0_1_0_0 (j : Nat → Value) : Env := #[x0, x1, x2, x3, (j 4), v5, (j 6), (j 7), (j 8), (j 9), (j 10), (j 11), (j 12), (j 13), (j 14), (j 15), (j 16), (j 17), (j 18), (j 19), (j 20), (j 21), (j 22), (j 23), (j 24), (j 25), (j 26), (j 27), (j 28), (j 29), (j 30), (j 31), (j 32), (j 33), (j 34), x35, x36, x37, x38, x39]
theorem t83 : d83 [] (q83 K E) #[x0, x1, U, U, U, U, U, U, U, U, U, U, U, U, U, U, U, U, U, U, U, U, U, U, U, U, U, U, U, U, U, U, U, U, U, U, U, U, U, U] =
  lp (fun k1 => d83 [1, 0, 1, 0, 0] (thenD k1 (blk 0 (thenD (d83 [1, 1] (q83 K E)) (q83 K E))))) (m83_1_0_1_0_0 x0 x1 U U U U U U U (.int .i64 0) (jf #[U, U, U, U, (.bool false)])) := by kernel_rfl
theorem t83_1_0_1_0_0 : d83 [1, 0, 1, 0, 0] (thenD k1 (blk 0 (thenD (d83 [1, 1] (q83 K E)) (q83 K E)))) (m83_1_0_1_0_0 x0 x1 x2 x3 x35 x36 x37 x38 x39 v5 j) =
  pv (lenV x0) fun t1 =>
  pv (binV .none .lss v5 t1) fun t2 =>
  gdK t2 true (fun k => k v5) fun t3 =>
  gdK t2 true (fun k => k x1) fun t4 =>
  gdK t2 true (fun k => pv (lenV t4) k) fun t5 =>
  gdK t2 true (fun k => pv (binV .none .lss t3 t5) k) fun t6 =>
  pv (pickV t2 t6 (.bool false)) fun t7 =>
  cnd t7 (
   pv (iaV none 1 x1 v5) fun t8 =>
   ld false 1 t8 fun t9 =>
   pv (binV .none .lss t9 (.int .i64 0)) fun t10 =>
   gdK t10 false (fun k => k x1) fun t11 =>
   gdK t10 false (fun k => k v5) fun t12 =>
   gdK t10 false (fun k => pv (iaV none 1 t11 t12) k) fun t13 =>
   gdK t10 false (fun k => ld false 1 t13 k) fun t14 =>
   gdK t10 false (fun k => k x0) fun t15 =>
   gdK t10 false (fun k => k v5) fun t16 =>
   gdK t10 false (fun k => pv (iaV none 2 t15 t16) k) fun t17 =>
   gdK t10 false (fun k => pv (faV 0 t17) k) fun t18 =>
   gdK t10 false (fun k => ld false 1 t18 k) fun t19 =>
   gdK t10 false (fun k => pv (binV .none .geq t14 t19) k) fun t20 =>
   pv (pickV t10 (.bool true) t20) fun t21 =>
   cnd t21 (
    K (.bool false)) (
    pv (binV .none .add v5 (.int .i64 1)) fun t22 =>
    k1 (m83_1_0_1_0_0 x0 x1 x2 x3 x35 x36 x37 x38 x39 t22 (jf #[U, U, U, U, (j 4), U, v5, x0, t1, t2, t2, t3, t4, t5, t6, t7, v5, t22, x1, v5, t8, t9, t10, t10, t11, t12, t13, t14, t15, t16, t17, t18, t19, t20, t21])))) (
   pv (lenV x0) fun t23 =>
   pv (lenV x1) fun t24 =>
   pv (binV .none .eql t23 t24) fun t25 =>
   K t25) := by kernel_rfl
abbrev q84 : QD := bodyQ Tryz.prog Tryz.f84.results.toList K E
abbrev d84 (p : List Nat) : QD → Env → Hp → Prop := den Tryz.prog (sel (bodyOf Tryz.f84) p)
def m84_1_0_1_0_0 (j : Nat → Value) : Env := #[x0, x1, x2, x3, x4, x5, x6, x7, (j 8), v9, (j 10), (j 11), (j 12), (j 13), (j 14), (j 15), (j 16), (j 17), (j 18), (j 19), (j 20), (j 21), (j 22), (j 23), (j 24), (j 25), (j 26), (j 27), (j 28), (j 29), (j 30), (j 31), (j 32), (j 33), (j 34), (j 35), (j 36), (j 37), (j 38), (j 39), (j 40), (j 41), (j 42), (j 43), (j 44), (j 45), (j 46), (j 47), (j 48), (j 49), (j 50), (j 51), (j 52), (j 53), (j 54), (j 55), (j 56), (j 57), (j 58), (j 59), (j 60), (j 61), (j 62), (j 63), (j 64), (j 65), (j 66), (j 67), (j 68), (j 69), (j 70), (j 71), (j 72)]
def m84_1_0_1_0_0_1_0_0_1_1_0_0 (j : Nat → Value) : Env := #[x0, x1, x2, x3, x4, x5, x6, x7, (j 8), x9, v10, x11, x12, x13, x14, x15, x16, x17, x18, x19, x20, x21, x22, x23, x24, x25, x26, x27, x28, x29, x30, x31, x32, x33, x34, x35, x36, x37, x38, x39, x40, x41, x42, x43, x44, x45, x46, x47, x48, x49, x50, (j 51), (j 52), (j 53), (j 54), (j 55), (j 56), (j 57), (j 58), (j 59), (j 60), (j 61), (j 62), (j 63), (j 64), (j 65), (j 66), (j 67), (j 68), (j 69), (j 70), (j 71), (j 72)]
theorem t84 : d84 [] (q84 K E) #[x0, x1, x2, x3, U, U, U, U, U, U, U, U, U, U, U, U, U, U, U, U, U, U, U, U, U, U, U, U, U, U, U, U, U, U, U, U, U, U, U, U, U, U, U, U, U, U, U, U, U, U, U, U, U, U, U, U, U, U, U, U, U, U, U, U, U, U, U, U, U, U, U, U, U] =
  lp (fun k1 => d84 [1, 0, 1, 0, 0] (thenD k1 (blk 0 (thenD (d84 [1, 1] (q84 K E)) (q84 K E))))) (m84_1_0_1_0_0 x0 x1 x2 x3 U U U U (.int .i64 0) (jf #[U, U, U, U, U, U, U, U, (.bool false)])) := by kernel_rfl
theorem t84_1_0_1_0_0 : d84 [1, 0, 1, 0, 0] (thenD k1 (blk 0 (thenD (d84 [1, 1] (q84 K E)) (q84 K E)))) (m84_1_0_1_0_0 x0 x1 x2 x3 x4 x5 x6 x7 v9 j) =
  pv (lenV x3) fun t1 =>
  pv (binV .none .lss v9 t1) fun t2 =>
  cnd t2 (
   pv (iaV none 2 x3 v9) fun t3 =>
   pv (faV 0 t3) fun t4 =>
   ld false 1 t4 fun t5 =>
   pv (binV .none .eql t5 (.int .u32 0)) fun t6 =>
   gdK t6 false (fun k => k v9) fun t7 =>
   gdK t6 false (fun k => pv (binV .none .gtr t7 (.int .i64 0)) k) fun t8 =>
   gdK t6 false (fun k => k t8) fun t9 =>
   gdK t9 true (fun k => k x3) fun t10 =>
   gdK t9 true (fun k => k v9) fun t11 =>
   gdK t9 true (fun k => pv (iaV none 2 t10 t11) k) fun t12 =>
   gdK t9 true (fun k => pv (faV 0 t12) k) fun t13 =>
   gdK t9 true (fun k => ld false 1 t13 k) fun t14 =>
   gdK t9 true (fun k => k x3) fun t15 =>
   gdK t9 true (fun k => k v9) fun t16 =>
   gdK t9 true (fun k => pv (binV .none .sub t16 (.int .i64 1)) k) fun t17 =>
   gdK t9 true (fun k => pv (iaV none 2 t15 t17) k) fun t18 =>
   gdK t9 true (fun k => pv (faV 0 t18) k) fun t19 =>
   gdK t9 true (fun k => ld false 1 t19 k) fun t20 =>
   gdK t9 true (fun k => pv (binV .none .leq t14 t20) k) fun t21 =>
   gdK t6 false (fun k => pv (pickV t9 t21 (.bool false)) k) fun t22 =>
   pv (pickV t6 (.bool true) t22) fun t23 =>
   gdK t23 false (fun k => k x0) fun t24 =>
   gdK t23 false (fun k => k x3) fun t25 =>
   gdK t23 false (fun k => k v9) fun t26 =>
   gdK t23 false (fun k => pv (iaV none 2 t25 t26) k) fun t27 =>
   gdK t23 false (fun k => pv (faV 1 t27) k) fun t28 =>
   gdK t23 false (fun k => ld false 1 t28 k) fun t29 =>
   gdK t23 false (fun k => callv Tryz.prog (.func (.func 45) #[] #[]) #[t24, t29] k E) fun t30 =>
   gdK t23 false (fun k => pv (unV .not t30) k) fun t31 =>
   pv (pickV t23 (.bool true) t31) fun t32 =>
   cnd t32 (
    K (.bool false)) (
    lp (fun k2 => d84 [1, 0, 1, 0, 0, 1, 0, 0, 1, 1, 0, 0] (thenD k2 (blk 2 (blk 1 (thenD (d84 [1, 0, 1, 0, 0, 1, 1] (thenD k1 (blk 0 (thenD (d84 [1, 1] (q84 K E)) (q84 K E))))) (thenD k1 (blk 0 (thenD (d84 [1, 1] (q84 K E)) (q84 K E))))))))) (m84_1_0_1_0_0_1_0_0_1_1_0_0 x0 x1 x2 x3 x4 x5 x6 x7 v9 v9 x3 t1 t2 (j 15) (j 16) x3 v9 t3 t4 t5 t6 t6 t7 t8 t9 t10 t11 t12 t13 t14 t15 t16 t17 t18 t19 t20 t21 t22 t23 t23 t24 t25 t26 t27 t28 t29 t30 t31 t32 (.int .i64 0) (jf #[U, U, U, U, U, U, U, U, (j 8), U, U, U, U, U, U, U, U, U, U, U, U, U, U, U, U, U, U, U, U, U, U, U, U, U, U, U, U, U, U, U, U, U, U, U, U, U, U, U, U, U, U, (j 51), (j 52), (j 53), (j 54), (j 55), (j 56), (j 57), (j 58), (j 59), (j 60), (j 61), (j 62), (j 63), (j 64), (j 65), (j 66), (j 67), (j 68), (j 69), (j 70), (j 71), (j 72)])))) (
   K (.bool true)) := by kernel_rfl
theorem t84_1_0_1_0_0_1_0_0_1_1_0_0 : d84 [1, 0, 1, 0, 0, 1, 0, 0, 1, 1, 0, 0] (thenD k2 (blk 2 (blk 1 (thenD (d84 [1, 0, 1, 0, 0, 1, 1] (thenD k1 (blk 0 (thenD (d84 [1, 1] (q84 K E)) (q84 K E))))) (thenD k1 (blk 0 (thenD (d84 [1, 1] (q84 K E)) (q84 K E)))))))) (m84_1_0_1_0_0_1_0_0_1_1_0_0 x0 x1 x2 x3 x4 x5 x6 x7 x9 x11 x12 x13 x14 x15 x16 x17 x18 x19 x20 x21 x22 x23 x24 x25 x26 x27 x28 x29 x30 x31 x32 x33 x34 x35 x36 x37 x38 x39 x40 x41 x42 x43 x44 x45 x46 x47 x48 x49 x50 v10 j) =
  pv (iaV none 2 x3 x9) fun t1 =>
  pv (faV 1 t1) fun t2 =>
  ld false 1 t2 fun t3 =>
  pv (lenV t3) fun t4 =>
  pv (binV .none .lss v10 t4) fun t5 =>
  cnd t5 (
   pv (iaV none 2 x3 x9) fun t6 =>
   pv (faV 1 t6) fun t7 =>
   ld false 1 t7 fun t8 =>
   pv (iaV none 2 t8 v10) fun t9 =>
   ld true 2 t9 fun t10 =>
   callv Tryz.prog (.func (.func 54) #[] #[]) #[t10, x1, x2] (fun t11 =>
   pv (unV .not t11) fun t12 =>
   cnd t12 (
    K (.bool false)) (
    pv (binV .none .add v10 (.int .i64 1)) fun t13 =>
    k2 (m84_1_0_1_0_0_1_0_0_1_1_0_0 x0 x1 x2 x3 x4 x5 x6 x7 x9 x11 x12 x13 x14 x15 x16 x17 x18 x19 x20 x21 x22 x23 x24 x25 x26 x27 x28 x29 x30 x31 x32 x33 x34 x35 x36 x37 x38 x39 x40 x41 x42 x43 x44 x45 x46 x47 x48 x49 x50 t13 (jf #[U, U, U, U, U, U, U, U, (j 8), U, U, U, U, U, U, U, U, U, U, U, U, U, U, U, U, U, U, U, U, U, U, U, U, U, U, U, U, U, U, U, U, U, U, U, U, U, U, U, U, U, U, v10, x3, x9, t1, t2, t3, t4, t5, v10, t13, x3, x9, t6, t7, t8, v10, t9, t10, x1, x2, t11, t12])))) E) (
   pv (binV .none .add x9 (.int .i64 1)) fun t14 =>
   k1 (m84_1_0_1_0_0 x0 x1 x2 x3 x4 x5 x6 x7 t14 (jf #[U, U, U, U, U, U, U, U, (j 8), U, v10, x11, x12, x13, x14, x9, t14, x17, x18, x19, x20, x21, x22, x23, x24, x25, x26, x27, x28, x29, x30, x31, x32, x33, x34, x35, x36, x37, x38, x39, x40, x41, x42, x43, x44, x45, x46, x47, x48, x49, x50, v10, x3, x9, t1, t2, t3, t4, t5, (j 59), (j 60), (j 61), (j 62), (j 63), (j 64), (j 65), (j 66), (j 67), (j 68), (j 69), (j 70), (j 71), (j 72)]))) := by kernel_rfl
end
section
variable {K : Kont} {E : PanK} {k1 k2 k3 k4 k5 : Env → Hp → Prop} {σ : Type} {x0 x1 x2 x3 x4 x5 x6 x7 x8 x9 x10 x11 x12 x13 x14 x15 x16 x17 x18 x19 x20 x21 x22 x23 x24 x25 x26 x27 x28 x29 x30 x31 x32 x33 x34 x35 x36 x37 x38 x39 x40 x41 x42 x43 x44 x45 x46 x47 x48 x49 x50 x51 x52 x53 x54 x55 x56 x57 x58 x59 x60 x61 x62 x63 x64 x65 x66 x67 x68 x69 x70 x71 x72 x73 x74 x75 x76 x77 x78 x79 x80 x81 x82 x83 x84 x85 x86 x87 x88 x89 x90 x91 x92 x93 x94 x95 x96 x97 x98 x99 x100 x101 x102 x103 x104 x105 x106 x107 x108 x109 x110 x111 x112 x113 x114 x115 x116 x117 x118 x119 x120 x121 x122 x123 x124 x125 x126 x127 x128 x129 x130 x131 x132 x133 x134 x135 x136 x137 x138 x139 x140 x141 x142 x143 x144 x145 x146 x147 v0 v1 v2 v3 v4 v5 v6 v7 v8 v9 v10 v11 v12 v13 v14 v15 v16 v17 v18 v19 v20 v21 v22 v23 v24 v25 v26 v27 v28 v29 v30 v31 v32 v33 v34 v35 v36 v37 v38 v39 v40 v41 v42 v43 v44 v45 v46 v47 v48 v49 v50 v51 v52 v53 v54 v55 v56 v57 v58 v59 v60 v61 v62 v63 v64 v65 v66 v67 v68 v69 v70 v71 v72 v73 v74 v75 v76 v77 v78 v79 v80 v81 v82 v83 v84 v85 v86 v87 v88 v89 v90 v91 v92 v93 v94 v95 v96 v97 v98 v99 v100 v101 v102 v103 v104 v105 v106 v107 v108 v109 v110 v111 v112 v113 v114 v115 v116 v117 v118 v119 v120 v121 v122 v123 v124 v125 v126 v127 v128 v129 v130 v131 v132 v133 v134 v135 v136 v137 v138 v139 v140 v141 v142 v143 v144 v145 v146 v147 : Value} {h : Hp} {j : Nat → Value}
theorem l22_1_1_1_0_1_0_0 (f4 : σ → Value) (I : σ → Hp → Prop) (μ : σ → Nat) (s0 : σ) (e4 : v4 = f4 s0) (h0 : h.wf → ∃ h', h.wk h' ∧ I s0 h')
 (round : ∀ (k1 : Env → Hp → Prop) (s : σ) (j : Nat → Value) (h : Hp), I s h → h.wf → (∀ s' j' h', μ s' < μ s → (h'.wf → ∃ h'', h'.wk h'' ∧ I s' h'') → k1 (m22_1_1_1_0_1_0_0 x0 x1 x2 x3 x6 x7 x8 x9 x10 x40 (f4 s') j') h') → d22 [1, 1, 1, 0, 1, 0, 0] (thenD k1 (blk 0 (thenD (d22 [1, 1, 1, 1] (q22 K E)) (q22 K E)))) (m22_1_1_1_0_1_0_0 x0 x1 x2 x3 x6 x7 x8 x9 x10 x40 (f4 s) j) h) :
 lp (fun k1 => d22 [1, 1, 1, 0, 1, 0, 0] (thenD k1 (blk 0 (thenD (d22 [1, 1, 1, 1] (q22 K E)) (q22 K E))))) (m22_1_1_1_0_1_0_0 x0 x1 x2 x3 x6 x7 x8 x9 x10 x40 v4 j) h := by
 subst e4
 exact loop_r (fun s j => m22_1_1_1_0_1_0_0 x0 x1 x2 x3 x6 x7 x8 x9 x10 x40 (f4 s) j) I μ round s0 j h0
theorem l28_1_1_0_1_0_0 (f7 f8 : σ → Value) (I : σ → Hp → Prop) (μ : σ → Nat) (s0 : σ) (e7 : v7 = f7 s0) (e8 : v8 = f8 s0) (h0 : h.wf → ∃ h', h.wk h' ∧ I s0 h')
 (round : ∀ (k1 : Env → Hp → Prop) (s : σ) (j : Nat → Value) (h : Hp), I s h → h.wf → (∀ s' j' h', μ s' < μ s → (h'.wf → ∃ h'', h'.wk h'' ∧ I s' h'') → k1 (m28_1_1_0_1_0_0 x0 x1 x2 x3 x4 x5 x6 x78 (f7 s') (f8 s') j') h') → d28 [1, 1, 0, 1, 0, 0] (thenD k1 (blk 0 (thenD (d28 [1, 1, 1] (q28 K E)) (q28 K E)))) (m28_1_1_0_1_0_0 x0 x1 x2 x3 x4 x5 x6 x78 (f7 s) (f8 s) j) h) :
 lp (fun k1 => d28 [1, 1, 0, 1, 0, 0] (thenD k1 (blk 0 (thenD (d28 [1, 1, 1] (q28 K E)) (q28 K E))))) (m28_1_1_0_1_0_0 x0 x1 x2 x3 x4 x5 x6 x78 v7 v8 j) h := by
 subst e7
 subst e8
 exact loop_r (fun s j => m28_1_1_0_1_0_0 x0 x1 x2 x3 x4 x5 x6 x78 (f7 s) (f8 s) j) I μ round s0 j h0
theorem l28_1_1_0_1_0_0_1_0_0_1_0_1_0_0 (f9 f10 : σ → Value) (I : σ → Hp → Prop) (μ : σ → Nat) (s0 : σ) (e9 : v9 = f9 s0) (e10 : v10 = f10 s0) (h0 : h.wf → ∃ h', h.wk h' ∧ I s0 h')
 (round : ∀ (k2 : Env → Hp → Prop) (s : σ) (j : Nat → Value) (h : Hp), I s h → h.wf → (∀ s' j' h', μ s' < μ s → (h'.wf → ∃ h'', h'.wk h'' ∧ I s' h'') → k2 (m28_1_1_0_1_0_0_1_0_0_1_0_1_0_0 x0 x1 x2 x3 x4 x5 x6 x7 x8 x11 x12 x13 x14 x15 x16 x17 x18 x19 x61 x62 x63 x64 x65 x66 x67 x68 x69 x70 x71 x72 x73 x74 x75 x76 x77 x78 (f9 s') (f10 s') j') h') → d28 [1, 1, 0, 1, 0, 0, 1, 0, 0, 1, 0, 1, 0, 0] (thenD k2 (blk 2 (thenD (d28 [1, 1, 0, 1, 0, 0, 1, 0, 0, 1, 1] (blk 1 (thenD (d28 [1, 1, 0, 1, 0, 0, 1, 1] (thenD k1 (blk 0 (thenD (d28 [1, 1, 1] (q28 K E)) (q28 K E))))) (thenD k1 (blk 0 (thenD (d28 [1, 1, 1] (q28 K E)) (q28 K E))))))) (blk 1 (thenD (d28 [1, 1, 0, 1, 0, 0, 1, 1] (thenD k1 (blk 0 (thenD (d28 [1, 1, 1] (q28 K E)) (q28 K E))))) (thenD k1 (blk 0 (thenD (d28 [1, 1, 1] (q28 K E)) (q28 K E))))))))) (m28_1_1_0_1_0_0_1_0_0_1_0_1_0_0 x0 x1 x2 x3 x4 x5 x6 x7 x8 x11 x12 x13 x14 x15 x16 x17 x18 x19 x61 x62 x63 x64 x65 x66 x67 x68 x69 x70 x71 x72 x73 x74 x75 x76 x77 x78 (f9 s) (f10 s) j) h) :
 lp (fun k2 => d28 [1, 1, 0, 1, 0, 0, 1, 0, 0, 1, 0, 1, 0, 0] (thenD k2 (blk 2 (thenD (d28 [1, 1, 0, 1, 0, 0, 1, 0, 0, 1, 1] (blk 1 (thenD (d28 [1, 1, 0, 1, 0, 0, 1, 1] (thenD k1 (blk 0 (thenD (d28 [1, 1, 1] (q28 K E)) (q28 K E))))) (thenD k1 (blk 0 (thenD (d28 [1, 1, 1] (q28 K E)) (q28 K E))))))) (blk 1 (thenD (d28 [1, 1, 0, 1, 0, 0, 1, 1] (thenD k1 (blk 0 (thenD (d28 [1, 1, 1] (q28 K E)) (q28 K E))))) (thenD k1 (blk 0 (thenD (d28 [1, 1, 1] (q28 K E)) (q28 K E)))))))))) (m28_1_1_0_1_0_0_1_0_0_1_0_1_0_0 x0 x1 x2 x3 x4 x5 x6 x7 x8 x11 x12 x13 x14 x15 x16 x17 x18 x19 x61 x62 x63 x64 x65 x66 x67 x68 x69 x70 x71 x72 x73 x74 x75 x76 x77 x78 v9 v10 j) h := by
 subst e9
 subst e10
 exact loop_r (fun s j => m28_1_1_0_1_0_0_1_0_0_1_0_1_0_0 x0 x1 x2 x3 x4 x5 x6 x7 x8 x11 x12 x13 x14 x15 x16 x17 x18 x19 x61 x62 x63 x64 x65 x66 x67 x68 x69 x70 x71 x72 x73 x74 x75 x76 x77 x78 (f9 s) (f10 s) j) I μ round s0 j h0
theorem l42_1_1_0_1_0_0 (f0 f5 : σ → Value) (I : σ → Hp → Prop) (μ : σ → Nat) (s0 : σ) (e0 : v0 = f0 s0) (e5 : v5 = f5 s0) (h0 : h.wf → ∃ h', h.wk h' ∧ I s0 h')
 (round : ∀ (k1 : Env → Hp → Prop) (s : σ) (j : Nat → Value) (h : Hp), I s h → h.wf → (∀ s' j' h', μ s' < μ s → (h'.wf → ∃ h'', h'.wk h'' ∧ I s' h'') → k1 (m42_1_1_0_1_0_0 x1 x2 x3 x4 x7 x8 x9 x10 x11 x56 (f0 s') (f5 s') j') h') → d42 [1, 1, 0, 1, 0, 0] (thenD k1 (blk 0 (thenD (d42 [1, 1, 1] (q42 K E)) (q42 K E)))) (m42_1_1_0_1_0_0 x1 x2 x3 x4 x7 x8 x9 x10 x11 x56 (f0 s) (f5 s) j) h) :
 lp (fun k1 => d42 [1, 1, 0, 1, 0, 0] (thenD k1 (blk 0 (thenD (d42 [1, 1, 1] (q42 K E)) (q42 K E))))) (m42_1_1_0_1_0_0 x1 x2 x3 x4 x7 x8 x9 x10 x11 x56 v0 v5 j) h := by
 subst e0
 subst e5
 exact loop_r (fun s j => m42_1_1_0_1_0_0 x1 x2 x3 x4 x7 x8 x9 x10 x11 x56 (f0 s) (f5 s) j) I μ round s0 j h0
theorem l42_1_1_0_1_0_0_1_0_0_1_0_1_0_0 (f0 f6 : σ → Value) (I : σ → Hp → Prop) (μ : σ → Nat) (s0 : σ) (e0 : v0 = f0 s0) (e6 : v6 = f6 s0) (h0 : h.wf → ∃ h', h.wk h' ∧ I s0 h')
 (round : ∀ (k2 : Env → Hp → Prop) (s : σ) (j : Nat → Value) (h : Hp), I s h → h.wf → (∀ s' j' h', μ s' < μ s → (h'.wf → ∃ h'', h'.wk h'' ∧ I s' h'') → k2 (m42_1_1_0_1_0_0_1_0_0_1_0_1_0_0 x1 x2 x3 x4 x5 x7 x8 x9 x10 x11 x12 x13 x14 x15 x16 x17 x18 x19 x20 x21 x22 x23 x24 x25 x26 x48 x49 x50 x51 x52 x53 x54 x55 x56 (f0 s') (f6 s') j') h') → d42 [1, 1, 0, 1, 0, 0, 1, 0, 0, 1, 0, 1, 0, 0] (thenD k2 (blk 2 (thenD (d42 [1, 1, 0, 1, 0, 0, 1, 0, 0, 1, 1] (blk 1 (thenD (d42 [1, 1, 0, 1, 0, 0, 1, 1] (thenD k1 (blk 0 (thenD (d42 [1, 1, 1] (q42 K E)) (q42 K E))))) (thenD k1 (blk 0 (thenD (d42 [1, 1, 1] (q42 K E)) (q42 K E))))))) (blk 1 (thenD (d42 [1, 1, 0, 1, 0, 0, 1, 1] (thenD k1 (blk 0 (thenD (d42 [1, 1, 1] (q42 K E)) (q42 K E))))) (thenD k1 (blk 0 (thenD (d42 [1, 1, 1] (q42 K E)) (q42 K E))))))))) (m42_1_1_0_1_0_0_1_0_0_1_0_1_0_0 x1 x2 x3 x4 x5 x7 x8 x9 x10 x11 x12 x13 x14 x15 x16 x17 x18 x19 x20 x21 x22 x23 x24 x25 x26 x48 x49 x50 x51 x52 x53 x54 x55 x56 (f0 s) (f6 s) j) h) :
 lp (fun k2 => d42 [1, 1, 0, 1, 0, 0, 1, 0, 0, 1, 0, 1, 0, 0] (thenD k2 (blk 2 (thenD (d42 [1, 1, 0, 1, 0, 0, 1, 0, 0, 1, 1] (blk 1 (thenD (d42 [1, 1, 0, 1, 0, 0, 1, 1] (thenD k1 (blk 0 (thenD (d42 [1, 1, 1] (q42 K E)) (q42 K E))))) (thenD k1 (blk 0 (thenD (d42 [1, 1, 1] (q42 K E)) (q42 K E))))))) (blk 1 (thenD (d42 [1, 1, 0, 1, 0, 0, 1, 1] (thenD k1 (blk 0 (thenD (d42 [1, 1, 1] (q42 K E)) (q42 K E))))) (thenD k1 (blk 0 (thenD (d42 [1, 1, 1] (q42 K E)) (q42 K E)))))))))) (m42_1_1_0_1_0_0_1_0_0_1_0_1_0_0 x1 x2 x3 x4 x5 x7 x8 x9 x10 x11 x12 x13 x14 x15 x16 x17 x18 x19 x20 x21 x22 x23 x24 x25 x26 x48 x49 x50 x51 x52 x53 x54 x55 x56 v0 v6 j) h := by
 subst e0
 subst e6
 exact loop_r (fun s j => m42_1_1_0_1_0_0_1_0_0_1_0_1_0_0 x1 x2 x3 x4 x5 x7 x8 x9 x10 x11 x12 x13 x14 x15 x16 x17 x18 x19 x20 x21 x22 x23 x24 x25 x26 x48 x49 x50 x51 x52 x53 x54 x55 x56 (f0 s) (f6 s) j) I μ round s0 j h0
theorem l44_1_1_1_0_1_0_0 (f7 : σ → Value) (I : σ → Hp → Prop) (μ : σ → Nat) (s0 : σ) (e7 : v7 = f7 s0) (h0 : h.wf → ∃ h', h.wk h' ∧ I s0 h')
 (round : ∀ (k1 : Env → Hp → Prop) (s : σ) (j : Nat → Value) (h : Hp), I s h → h.wf → (∀ s' j' h', μ s' < μ s → (h'.wf → ∃ h'', h'.wk h'' ∧ I s' h'') → k1 (m44_1_1_1_0_1_0_0 x0 x1 x2 x3 x4 x5 x8 x9 x10 x11 x12 x13 x33 x34 x35 x36 x37 x38 x39 x40 x41 x42 x43 x44 x45 x46 x47 x48 (f7 s') j') h') → d44 [1, 1, 1, 0, 1, 0, 0] (thenD k1 (blk 0 (thenD (d44 [1, 1, 1, 1] (q44 K E)) (q44 K E)))) (m44_1_1_1_0_1_0_0 x0 x1 x2 x3 x4 x5 x8 x9 x10 x11 x12 x13 x33 x34 x35 x36 x37 x38 x39 x40 x41 x42 x43 x44 x45 x46 x47 x48 (f7 s) j) h) :
 lp (fun k1 => d44 [1, 1, 1, 0, 1, 0, 0] (thenD k1 (blk 0 (thenD (d44 [1, 1, 1, 1] (q44 K E)) (q44 K E))))) (m44_1_1_1_0_1_0_0 x0 x1 x2 x3 x4 x5 x8 x9 x10 x11 x12 x13 x33 x34 x35 x36 x37 x38 x39 x40 x41 x42 x43 x44 x45 x46 x47 x48 v7 j) h := by
 subst e7
 exact loop_r (fun s j => m44_1_1_1_0_1_0_0 x0 x1 x2 x3 x4 x5 x8 x9 x10 x11 x12 x13 x33 x34 x35 x36 x37 x38 x39 x40 x41 x42 x43 x44 x45 x46 x47 x48 (f7 s) j) I μ round s0 j h0
theorem l45_1_0_1_0_0 (f5 : σ → Value) (I : σ → Hp → Prop) (μ : σ → Nat) (s0 : σ) (e5 : v5 = f5 s0) (h0 : h.wf → ∃ h', h.wk h' ∧ I s0 h')
 (round : ∀ (k1 : Env → Hp → Prop) (s : σ) (j : Nat → Value) (h : Hp), I s h → h.wf → (∀ s' j' h', μ s' < μ s → (h'.wf → ∃ h'', h'.wk h'' ∧ I s' h'') → k1 (m45_1_0_1_0_0 x0 x1 x2 x3 x23 x24 x25 (f5 s') j') h') → d45 [1, 0, 1, 0, 0] (thenD k1 (blk 0 (thenD (d45 [1, 1] (q45 K E)) (q45 K E)))) (m45_1_0_1_0_0 x0 x1 x2 x3 x23 x24 x25 (f5 s) j) h) :
 lp (fun k1 => d45 [1, 0, 1, 0, 0] (thenD k1 (blk 0 (thenD (d45 [1, 1] (q45 K E)) (q45 K E))))) (m45_1_0_1_0_0 x0 x1 x2 x3 x23 x24 x25 v5 j) h := by
 subst e5
 exact loop_r (fun s j => m45_1_0_1_0_0 x0 x1 x2 x3 x23 x24 x25 (f5 s) j) I μ round s0 j h0
theorem l46_1_1_1_0_1_0_0 (f9 f10 : σ → Value) (I : σ → Hp → Prop) (μ : σ → Nat) (s0 : σ) (e9 : v9 = f9 s0) (e10 : v10 = f10 s0) (h0 : h.wf → ∃ h', h.wk h' ∧ I s0 h')
 (round : ∀ (k1 : Env → Hp → Prop) (s : σ) (j : Nat → Value) (h : Hp), I s h → h.wf → (∀ s' j' h', μ s' < μ s → (h'.wf → ∃ h'', h'.wk h'' ∧ I s' h'') → k1 (m46_1_1_1_0_1_0_0 x0 x1 x2 x3 x4 x5 x6 x7 x8 x13 x14 x15 x16 x17 x18 x19 x20 x103 x104 x105 x106 x107 x108 x109 x110 x111 x112 x113 x114 x115 x116 x117 x118 x119 x120 x121 x122 x123 x124 x125 x126 x127 x128 x129 x130 x131 x132 x133 x134 x135 x136 x137 x138 x139 x140 x141 x142 x143 x144 x145 x146 x147 (f9 s') (f10 s') j') h') → d46 [1, 1, 1, 0, 1, 0, 0] (thenD k1 (blk 0 (thenD (d46 [1, 1, 1, 1] (q46 K E)) (q46 K E)))) (m46_1_1_1_0_1_0_0 x0 x1 x2 x3 x4 x5 x6 x7 x8 x13 x14 x15 x16 x17 x18 x19 x20 x103 x104 x105 x106 x107 x108 x109 x110 x111 x112 x113 x114 x115 x116 x117 x118 x119 x120 x121 x122 x123 x124 x125 x126 x127 x128 x129 x130 x131 x132 x133 x134 x135 x136 x137 x138 x139 x140 x141 x142 x143 x144 x145 x146 x147 (f9 s) (f10 s) j) h) :
 lp (fun k1 => d46 [1, 1, 1, 0, 1, 0, 0] (thenD k1 (blk 0 (thenD (d46 [1, 1, 1, 1] (q46 K E)) (q46 K E))))) (m46_1_1_1_0_1_0_0 x0 x1 x2 x3 x4 x5 x6 x7 x8 x13 x14 x15 x16 x17 x18 x19 x20 x103 x104 x105 x106 x107 x108 x109 x110 x111 x112 x113 x114 x115 x116 x117 x118 x119 x120 x121 x122 x123 x124 x125 x126 x127 x128 x129 x130 x131 x132 x133 x134 x135 x136 x137 x138 x139 x140 x141 x142 x143 x144 x145 x146 x147 v9 v10 j) h := by
 subst e9
 subst e10
 exact loop_r (fun s j => m46_1_1_1_0_1_0_0 x0 x1 x2 x3 x4 x5 x6 x7 x8 x13 x14 x15 x16 x17 x18 x19 x20 x103 x104 x105 x106 x107 x108 x109 x110 x111 x112 x113 x114 x115 x116 x117 x118 x119 x120 x121 x122 x123 x124 x125 x126 x127 x128 x129 x130 x131 x132 x133 x134 x135 x136 x137 x138 x139 x140 x141 x142 x143 x144 x145 x146 x147 (f9 s) (f10 s) j) I μ round s0 j h0
theorem l46_1_1_1_0_1_0_0_1_0_0_1_0_1_0_0 (f12 : σ → Value) (I : σ → Hp → Prop) (μ : σ → Nat) (s0 : σ) (e12 : v12 = f12 s0) (h0 : h.wf → ∃ h', h.wk h' ∧ I s0 h')
 (round : ∀ (k2 : Env → Hp → Prop) (s : σ) (j : Nat → Value) (h : Hp), I s h → h.wf → (∀ s' j' h', μ s' < μ s → (h'.wf → ∃ h'', h'.wk h'' ∧ I s' h'') → k2 (m46_1_1_1_0_1_0_0_1_0_0_1_0_1_0_0 x0 x1 x2 x3 x4 x5 x6 x7 x8 x9 x10 x11 x13 x14 x15 x16 x17 x18 x19 x20 x21 x22 x23 x24 x25 x26 x27 x28 x29 x30 x31 x32 x33 x34 x35 x36 x37 x38 x83 x84 x85 x86 x87 x88 x89 x90 x91 x92 x93 x94 x95 x96 x97 x98 x99 x100 x101 x102 x103 x104 x105 x106 x107 x108 x109 x110 x111 x112 x113 x114 x115 x116 x117 x118 x119 x120 x121 x122 x123 x124 x125 x126 x127 x128 x129 x130 x131 x132 x133 x134 x135 x136 x137 x138 x139 x140 x141 x142 x143 x144 x145 x146 x147 (f12 s') j') h') → d46 [1, 1, 1, 0, 1, 0, 0, 1, 0, 0, 1, 0, 1, 0, 0] (thenD k2 (blk 2 (thenD (d46 [1, 1, 1, 0, 1, 0, 0, 1, 0, 0, 1, 1] (blk 1 (thenD (d46 [1, 1, 1, 0, 1, 0, 0, 1, 1] (thenD k1 (blk 0 (thenD (d46 [1, 1, 1, 1] (q46 K E)) (q46 K E))))) (thenD k1 (blk 0 (thenD (d46 [1, 1, 1, 1] (q46 K E)) (q46 K E))))))) (blk 1 (thenD (d46 [1, 1, 1, 0, 1, 0, 0, 1, 1] (thenD k1 (blk 0 (thenD (d46 [1, 1, 1, 1] (q46 K E)) (q46 K E))))) (thenD k1 (blk 0 (thenD (d46 [1, 1, 1, 1] (q46 K E)) (q46 K E))))))))) (m46_1_1_1_0_1_0_0_1_0_0_1_0_1_0_0 x0 x1 x2 x3 x4 x5 x6 x7 x8 x9 x10 x11 x13 x14 x15 x16 x17 x18 x19 x20 x21 x22 x23 x24 x25 x26 x27 x28 x29 x30 x31 x32 x33 x34 x35 x36 x37 x38 x83 x84 x85 x86 x87 x88 x89 x90 x91 x92 x93 x94 x95 x96 x97 x98 x99 x100 x101 x102 x103 x104 x105 x106 x107 x108 x109 x110 x111 x112 x113 x114 x115 x116 x117 x118 x119 x120 x121 x122 x123 x124 x125 x126 x127 x128 x129 x130 x131 x132 x133 x134 x135 x136 x137 x138 x139 x140 x141 x142 x143 x144 x145 x146 x147 (f12 s) j) h) :
 lp (fun k2 => d46 [1, 1, 1, 0, 1, 0, 0, 1, 0, 0, 1, 0, 1, 0, 0] (thenD k2 (blk 2 (thenD (d46 [1, 1, 1, 0, 1, 0, 0, 1, 0, 0, 1, 1] (blk 1 (thenD (d46 [1, 1, 1, 0, 1, 0, 0, 1, 1] (thenD k1 (blk 0 (thenD (d46 [1, 1, 1, 1] (q46 K E)) (q46 K E))))) (thenD k1 (blk 0 (thenD (d46 [1, 1, 1, 1] (q46 K E)) (q46 K E))))))) (blk 1 (thenD (d46 [1, 1, 1, 0, 1, 0, 0, 1, 1] (thenD k1 (blk 0 (thenD (d46 [1, 1, 1, 1] (q46 K E)) (q46 K E))))) (thenD k1 (blk 0 (thenD (d46 [1, 1, 1, 1] (q46 K E)) (q46 K E)))))))))) (m46_1_1_1_0_1_0_0_1_0_0_1_0_1_0_0 x0 x1 x2 x3 x4 x5 x6 x7 x8 x9 x10 x11 x13 x14 x15 x16 x17 x18 x19 x20 x21 x22 x23 x24 x25 x26 x27 x28 x29 x30 x31 x32 x33 x34 x35 x36 x37 x38 x83 x84 x85 x86 x87 x88 x89 x90 x91 x92 x93 x94 x95 x96 x97 x98 x99 x100 x101 x102 x103 x104 x105 x106 x107 x108 x109 x110 x111 x112 x113 x114 x115 x116 x117 x118 x119 x120 x121 x122 x123 x124 x125 x126 x127 x128 x129 x130 x131 x132 x133 x134 x135 x136 x137 x138 x139 x140 x141 x142 x143 x144 x145 x146 x147 v12 j) h := by
 subst e12
 exact loop_r (fun s j => m46_1_1_1_0_1_0_0_1_0_0_1_0_1_0_0 x0 x1 x2 x3 x4 x5 x6 x7 x8 x9 x10 x11 x13 x14 x15 x16 x17 x18 x19 x20 x21 x22 x23 x24 x25 x26 x27 x28 x29 x30 x31 x32 x33 x34 x35 x36 x37 x38 x83 x84 x85 x86 x87 x88 x89 x90 x91 x92 x93 x94 x95 x96 x97 x98 x99 x100 x101 x102 x103 x104 x105 x106 x107 x108 x109 x110 x111 x112 x113 x114 x115 x116 x117 x118 x119 x120 x121 x122 x123 x124 x125 x126 x127 x128 x129 x130 x131 x132 x133 x134 x135 x136 x137 x138 x139 x140 x141 x142 x143 x144 x145 x146 x147 (f12 s) j) I μ round s0 j h0
theorem l46_1_1_1_1_0_1_0_0 (f9 f13 : σ → Value) (I : σ → Hp → Prop) (μ : σ → Nat) (s0 : σ) (e9 : v9 = f9 s0) (e13 : v13 = f13 s0) (h0 : h.wf → ∃ h', h.wk h' ∧ I s0 h')
 (round : ∀ (k1 : Env → Hp → Prop) (s : σ) (j : Nat → Value) (h : Hp), I s h → h.wf → (∀ s' j' h', μ s' < μ s → (h'.wf → ∃ h'', h'.wk h'' ∧ I s' h'') → k1 (m46_1_1_1_1_0_1_0_0 x0 x1 x2 x3 x4 x5 x6 x7 x8 x10 x11 x12 x14 x15 x16 x17 x18 x19 x20 x21 x22 x23 x24 x25 x26 x27 x28 x29 x30 x31 x32 x33 x34 x35 x36 x37 x38 x39 x40 x41 x42 x43 x44 x45 x46 x47 x48 x49 x50 x51 x52 x53 x54 x55 x56 x57 x58 x59 x60 x61 x62 x63 x64 x65 x66 x67 x68 x69 x70 x71 x72 x73 x74 x75 x76 x77 x78 x79 x80 x81 x82 x83 x84 x85 x86 x87 x88 x89 x90 x91 x92 x93 x94 x95 x96 x97 x98 x99 x100 x101 x102 x128 x129 x130 x131 x132 x133 x134 x135 x136 x137 x138 x139 x140 x141 x142 x143 x144 x145 x146 x147 (f9 s') (f13 s') j') h') → d46 [1, 1, 1, 1, 0, 1, 0, 0] (thenD k1 (blk 4 (thenD (d46 [1, 1, 1, 1, 1] (q46 K E)) (q46 K E)))) (m46_1_1_1_1_0_1_0_0 x0 x1 x2 x3 x4 x5 x6 x7 x8 x10 x11 x12 x14 x15 x16 x17 x18 x19 x20 x21 x22 x23 x24 x25 x26 x27 x28 x29 x30 x31 x32 x33 x34 x35 x36 x37 x38 x39 x40 x41 x42 x43 x44 x45 x46 x47 x48 x49 x50 x51 x52 x53 x54 x55 x56 x57 x58 x59 x60 x61 x62 x63 x64 x65 x66 x67 x68 x69 x70 x71 x72 x73 x74 x75 x76 x77 x78 x79 x80 x81 x82 x83 x84 x85 x86 x87 x88 x89 x90 x91 x92 x93 x94 x95 x96 x97 x98 x99 x100 x101 x102 x128 x129 x130 x131 x132 x133 x134 x135 x136 x137 x138 x139 x140 x141 x142 x143 x144 x145 x146 x147 (f9 s) (f13 s) j) h) :
 lp (fun k1 => d46 [1, 1, 1, 1, 0, 1, 0, 0] (thenD k1 (blk 4 (thenD (d46 [1, 1, 1, 1, 1] (q46 K E)) (q46 K E))))) (m46_1_1_1_1_0_1_0_0 x0 x1 x2 x3 x4 x5 x6 x7 x8 x10 x11 x12 x14 x15 x16 x17 x18 x19 x20 x21 x22 x23 x24 x25 x26 x27 x28 x29 x30 x31 x32 x33 x34 x35 x36 x37 x38 x39 x40 x41 x42 x43 x44 x45 x46 x47 x48 x49 x50 x51 x52 x53 x54 x55 x56 x57 x58 x59 x60 x61 x62 x63 x64 x65 x66 x67 x68 x69 x70 x71 x72 x73 x74 x75 x76 x77 x78 x79 x80 x81 x82 x83 x84 x85 x86 x87 x88 x89 x90 x91 x92 x93 x94 x95 x96 x97 x98 x99 x100 x101 x102 x128 x129 x130 x131 x132 x133 x134 x135 x136 x137 x138 x139 x140 x141 x142 x143 x144 x145 x146 x147 v9 v13 j) h := by
 subst e9
 subst e13
 exact loop_r (fun s j => m46_1_1_1_1_0_1_0_0 x0 x1 x2 x3 x4 x5 x6 x7 x8 x10 x11 x12 x14 x15 x16 x17 x18 x19 x20 x21 x22 x23 x24 x25 x26 x27 x28 x29 x30 x31 x32 x33 x34 x35 x36 x37 x38 x39 x40 x41 x42 x43 x44 x45 x46 x47 x48 x49 x50 x51 x52 x53 x54 x55 x56 x57 x58 x59 x60 x61 x62 x63 x64 x65 x66 x67 x68 x69 x70 x71 x72 x73 x74 x75 x76 x77 x78 x79 x80 x81 x82 x83 x84 x85 x86 x87 x88 x89 x90 x91 x92 x93 x94 x95 x96 x97 x98 x99 x100 x101 x102 x128 x129 x130 x131 x132 x133 x134 x135 x136 x137 x138 x139 x140 x141 x142 x143 x144 x145 x146 x147 (f9 s) (f13 s) j) I μ round s0 j h0
theorem l46_1_1_1_1_1_0_1_0_0 (f14 : σ → Value) (I : σ → Hp → Prop) (μ : σ → Nat) (s0 : σ) (e14 : v14 = f14 s0) (h0 : h.wf → ∃ h', h.wk h' ∧ I s0 h')
 (round : ∀ (k1 : Env → Hp → Prop) (s : σ) (j : Nat → Value) (h : Hp), I s h → h.wf → (∀ s' j' h', μ s' < μ s → (h'.wf → ∃ h'', h'.wk h'' ∧ I s' h'') → k1 (m46_1_1_1_1_1_0_1_0_0 x0 x1 x2 x3 x4 x5 x6 x7 x9 x10 x11 x12 x13 x15 x16 x17 x18 x19 x20 x21 x22 x23 x24 x25 x26 x27 x28 x29 x30 x31 x32 x33 x34 x35 x36 x37 x38 x39 x40 x41 x42 x43 x44 x45 x46 x47 x48 x49 x50 x51 x52 x53 x54 x55 x56 x57 x58 x59 x60 x61 x62 x63 x64 x65 x66 x67 x68 x69 x70 x71 x72 x73 x74 x75 x76 x77 x78 x79 x80 x81 x82 x83 x84 x85 x86 x87 x88 x89 x90 x91 x92 x93 x94 x95 x96 x97 x98 x99 x100 x101 x102 x103 x104 x105 x106 x107 x108 x109 x110 x111 x112 x113 x114 x115 x116 x117 x118 x119 x120 x121 x122 x123 x124 x125 x126 x127 x141 x142 x143 x144 x145 x146 x147 (f14 s') j') h') → d46 [1, 1, 1, 1, 1, 0, 1, 0, 0] (thenD k1 (blk 6 (thenD (d46 [1, 1, 1, 1, 1, 1] (q46 K E)) (q46 K E)))) (m46_1_1_1_1_1_0_1_0_0 x0 x1 x2 x3 x4 x5 x6 x7 x9 x10 x11 x12 x13 x15 x16 x17 x18 x19 x20 x21 x22 x23 x24 x25 x26 x27 x28 x29 x30 x31 x32 x33 x34 x35 x36 x37 x38 x39 x40 x41 x42 x43 x44 x45 x46 x47 x48 x49 x50 x51 x52 x53 x54 x55 x56 x57 x58 x59 x60 x61 x62 x63 x64 x65 x66 x67 x68 x69 x70 x71 x72 x73 x74 x75 x76 x77 x78 x79 x80 x81 x82 x83 x84 x85 x86 x87 x88 x89 x90 x91 x92 x93 x94 x95 x96 x97 x98 x99 x100 x101 x102 x103 x104 x105 x106 x107 x108 x109 x110 x111 x112 x113 x114 x115 x116 x117 x118 x119 x120 x121 x122 x123 x124 x125 x126 x127 x141 x142 x143 x144 x145 x146 x147 (f14 s) j) h) :
 lp (fun k1 => d46 [1, 1, 1, 1, 1, 0, 1, 0, 0] (thenD k1 (blk 6 (thenD (d46 [1, 1, 1, 1, 1, 1] (q46 K E)) (q46 K E))))) (m46_1_1_1_1_1_0_1_0_0 x0 x1 x2 x3 x4 x5 x6 x7 x9 x10 x11 x12 x13 x15 x16 x17 x18 x19 x20 x21 x22 x23 x24 x25 x26 x27 x28 x29 x30 x31 x32 x33 x34 x35 x36 x37 x38 x39 x40 x41 x42 x43 x44 x45 x46 x47 x48 x49 x50 x51 x52 x53 x54 x55 x56 x57 x58 x59 x60 x61 x62 x63 x64 x65 x66 x67 x68 x69 x70 x71 x72 x73 x74 x75 x76 x77 x78 x79 x80 x81 x82 x83 x84 x85 x86 x87 x88 x89 x90 x91 x92 x93 x94 x95 x96 x97 x98 x99 x100 x101 x102 x103 x104 x105 x106 x107 x108 x109 x110 x111 x112 x113 x114 x115 x116 x117 x118 x119 x120 x121 x122 x123 x124 x125 x126 x127 x141 x142 x143 x144 x145 x146 x147 v14 j) h := by
 subst e14
 exact loop_r (fun s j => m46_1_1_1_1_1_0_1_0_0 x0 x1 x2 x3 x4 x5 x6 x7 x9 x10 x11 x12 x13 x15 x16 x17 x18 x19 x20 x21 x22 x23 x24 x25 x26 x27 x28 x29 x30 x31 x32 x33 x34 x35 x36 x37 x38 x39 x40 x41 x42 x43 x44 x45 x46 x47 x48 x49 x50 x51 x52 x53 x54 x55 x56 x57 x58 x59 x60 x61 x62 x63 x64 x65 x66 x67 x68 x69 x70 x71 x72 x73 x74 x75 x76 x77 x78 x79 x80 x81 x82 x83 x84 x85 x86 x87 x88 x89 x90 x91 x92 x93 x94 x95 x96 x97 x98 x99 x100 x101 x102 x103 x104 x105 x106 x107 x108 x109 x110 x111 x112 x113 x114 x115 x116 x117 x118 x119 x120 x121 x122 x123 x124 x125 x126 x127 x141 x142 x143 x144 x145 x146 x147 (f14 s) j) I μ round s0 j h0
theorem l53_1_1_0_1_0_0 (f0 f5 : σ → Value) (I : σ → Hp → Prop) (μ : σ → Nat) (s0 : σ) (e0 : v0 = f0 s0) (e5 : v5 = f5 s0) (h0 : h.wf → ∃ h', h.wk h' ∧ I s0 h')
 (round : ∀ (k1 : Env → Hp → Prop) (s : σ) (j : Nat → Value) (h : Hp), I s h → h.wf → (∀ s' j' h', μ s' < μ s → (h'.wf → ∃ h'', h'.wk h'' ∧ I s' h'') → k1 (m53_1_1_0_1_0_0 x1 x2 x3 x4 x6 x7 x8 x9 x10 x32 (f0 s') (f5 s') j') h') → d53 [1, 1, 0, 1, 0, 0] (thenD k1 (blk 0 (thenD (d53 [1, 1, 1] (q53 K E)) (q53 K E)))) (m53_1_1_0_1_0_0 x1 x2 x3 x4 x6 x7 x8 x9 x10 x32 (f0 s) (f5 s) j) h) :
 lp (fun k1 => d53 [1, 1, 0, 1, 0, 0] (thenD k1 (blk 0 (thenD (d53 [1, 1, 1] (q53 K E)) (q53 K E))))) (m53_1_1_0_1_0_0 x1 x2 x3 x4 x6 x7 x8 x9 x10 x32 v0 v5 j) h := by
 subst e0
 subst e5
 exact loop_r (fun s j => m53_1_1_0_1_0_0 x1 x2 x3 x4 x6 x7 x8 x9 x10 x32 (f0 s) (f5 s) j) I μ round s0 j h0
theorem l55_1_1_0_1_0_0 (f3 f4 : σ → Value) (I : σ → Hp → Prop) (μ : σ → Nat) (s0 : σ) (e3 : v3 = f3 s0) (e4 : v4 = f4 s0) (h0 : h.wf → ∃ h', h.wk h' ∧ I s0 h')
 (round : ∀ (k1 : Env → Hp → Prop) (s : σ) (j : Nat → Value) (h : Hp), I s h → h.wf → (∀ s' j' h', μ s' < μ s → (h'.wf → ∃ h'', h'.wk h'' ∧ I s' h'') → k1 (m55_1_1_0_1_0_0 x0 x1 x2 x29 (f3 s') (f4 s') j') h') → d55 [1, 1, 0, 1, 0, 0] (thenD k1 (blk 0 (thenD (d55 [1, 1, 1] (q55 K E)) (q55 K E)))) (m55_1_1_0_1_0_0 x0 x1 x2 x29 (f3 s) (f4 s) j) h) :
 lp (fun k1 => d55 [1, 1, 0, 1, 0, 0] (thenD k1 (blk 0 (thenD (d55 [1, 1, 1] (q55 K E)) (q55 K E))))) (m55_1_1_0_1_0_0 x0 x1 x2 x29 v3 v4 j) h := by
 subst e3
 subst e4
 exact loop_r (fun s j => m55_1_1_0_1_0_0 x0 x1 x2 x29 (f3 s) (f4 s) j) I μ round s0 j h0
theorem l80_1_0_1_0_0 (f0 f7 : σ → Value) (I : σ → Hp → Prop) (μ : σ → Nat) (s0 : σ) (e0 : v0 = f0 s0) (e7 : v7 = f7 s0) (h0 : h.wf → ∃ h', h.wk h' ∧ I s0 h')
 (round : ∀ (k1 : Env → Hp → Prop) (s : σ) (j : Nat → Value) (h : Hp), I s h → h.wf → (∀ s' j' h', μ s' < μ s → (h'.wf → ∃ h'', h'.wk h'' ∧ I s' h'') → k1 (m80_1_0_1_0_0 x1 x2 x3 x4 x5 x6 x8 x9 x23 (f0 s') (f7 s') j') h') → d80 [1, 0, 1, 0, 0] (thenD k1 (blk 0 (thenD (d80 [1, 1] (q80 K E)) (q80 K E)))) (m80_1_0_1_0_0 x1 x2 x3 x4 x5 x6 x8 x9 x23 (f0 s) (f7 s) j) h) :
 lp (fun k1 => d80 [1, 0, 1, 0, 0] (thenD k1 (blk 0 (thenD (d80 [1, 1] (q80 K E)) (q80 K E))))) (m80_1_0_1_0_0 x1 x2 x3 x4 x5 x6 x8 x9 x23 v0 v7 j) h := by
 subst e0
 subst e7
 exact loop_r (fun s j => m80_1_0_1_0_0 x1 x2 x3 x4 x5 x6 x8 x9 x23 (f0 s) (f7 s) j) I μ round s0 j h0
theorem l82_1_1_1_0_0_0 (f7 f8 : σ → Value) (I : σ → Hp → Prop) (μ : σ → Nat) (s0 : σ) (e7 : v7 = f7 s0) (e8 : v8 = f8 s0) (h0 : h.wf → ∃ h', h.wk h' ∧ I s0 h')
 (round : ∀ (k1 : Env → Hp → Prop) (s : σ) (j : Nat → Value) (h : Hp), I s h → h.wf → (∀ s' j' h', μ s' < μ s → (h'.wf → ∃ h'', h'.wk h'' ∧ I s' h'') → k1 (m82_1_1_1_0_0_0 x0 x1 x2 x3 x4 x5 x6 x9 x32 x33 x34 x35 x36 x37 x38 x39 x40 x41 x42 x43 x44 x45 x46 x47 x48 x49 x50 x51 x52 x53 x54 x55 x56 x57 x58 x59 x60 x61 x62 x63 x64 x65 x66 x67 x68 x69 x70 x71 (f7 s') (f8 s') j') h') → d82 [1, 1, 1, 0, 0, 0] (thenD k1 (blk 0 (thenD (d82 [1, 1, 1, 1] (q82 K E)) (q82 K E)))) (m82_1_1_1_0_0_0 x0 x1 x2 x3 x4 x5 x6 x9 x32 x33 x34 x35 x36 x37 x38 x39 x40 x41 x42 x43 x44 x45 x46 x47 x48 x49 x50 x51 x52 x53 x54 x55 x56 x57 x58 x59 x60 x61 x62 x63 x64 x65 x66 x67 x68 x69 x70 x71 (f7 s) (f8 s) j) h) :
 lp (fun k1 => d82 [1, 1, 1, 0, 0, 0] (thenD k1 (blk 0 (thenD (d82 [1, 1, 1, 1] (q82 K E)) (q82 K E))))) (m82_1_1_1_0_0_0 x0 x1 x2 x3 x4 x5 x6 x9 x32 x33 x34 x35 x36 x37 x38 x39 x40 x41 x42 x43 x44 x45 x46 x47 x48 x49 x50 x51 x52 x53 x54 x55 x56 x57 x58 x59 x60 x61 x62 x63 x64 x65 x66 x67 x68 x69 x70 x71 v7 v8 j) h := by
 subst e7
 subst e8
 exact loop_r (fun s j => m82_1_1_1_0_0_0 x0 x1 x2 x3 x4 x5 x6 x9 x32 x33 x34 x35 x36 x37 x38 x39 x40 x41 x42 x43 x44 x45 x46 x47 x48 x49 x50 x51 x52 x53 x54 x55 x56 x57 x58 x59 x60 x61 x62 x63 x64 x65 x66 x67 x68 x69 x70 x71 (f7 s) (f8 s) j) I μ round s0 j h0
theorem l83_1_0_1_0_0 (f5 : σ → Value) (I : σ → Hp → Prop) (μ : σ → Nat) (s0 : σ) (e5 : v5 = f5 s0) (h0 : h.wf → ∃ h', h.wk h' ∧ I s0 h')
 (round : ∀ (k1 : Env → Hp → Prop) (s : σ) (j : Nat → Value) (h : Hp), I s h → h.wf → (∀ s' j' h', μ s' < μ s → (h'.wf → ∃ h'', h'.wk h'' ∧ I s' h'') → k1 (m83_1_0_1_0_0 x0 x1 x2 x3 x35 x36 x37 x38 x39 (f5 s') j') h') → d83 [1, 0, 1, 0, 0] (thenD k1 (blk 0 (thenD (d83 [1, 1] (q83 K E)) (q83 K E)))) (m83_1_0_1_0_0 x0 x1 x2 x3 x35 x36 x37 x38 x39 (f5 s) j) h) :
 lp (fun k1 => d83 [1, 0, 1, 0, 0] (thenD k1 (blk 0 (thenD (d83 [1, 1] (q83 K E)) (q83 K E))))) (m83_1_0_1_0_0 x0 x1 x2 x3 x35 x36 x37 x38 x39 v5 j) h := by
 subst e5
 exact loop_r (fun s j => m83_1_0_1_0_0 x0 x1 x2 x3 x35 x36 x37 x38 x39 (f5 s) j) I μ round s0 j h0
theorem l84_1_0_1_0_0 (f9 : σ → Value) (I : σ → Hp → Prop) (μ : σ → Nat) (s0 : σ) (e9 : v9 = f9 s0) (h0 : h.wf → ∃ h', h.wk h' ∧ I s0 h')
 (round : ∀ (k1 : Env → Hp → Prop) (s : σ) (j : Nat → Value) (h : Hp), I s h → h.wf → (∀ s' j' h', μ s' < μ s → (h'.wf → ∃ h'', h'.wk h'' ∧ I s' h'') → k1 (m84_1_0_1_0_0 x0 x1 x2 x3 x4 x5 x6 x7 (f9 s') j') h') → d84 [1, 0, 1, 0, 0] (thenD k1 (blk 0 (thenD (d84 [1, 1] (q84 K E)) (q84 K E)))) (m84_1_0_1_0_0 x0 x1 x2 x3 x4 x5 x6 x7 (f9 s) j) h) :
 lp (fun k1 => d84 [1, 0, 1, 0, 0] (thenD k1 (blk 0 (thenD (d84 [1, 1] (q84 K E)) (q84 K E))))) (m84_1_0_1_0_0 x0 x1 x2 x3 x4 x5 x6 x7 v9 j) h := by
 subst e9
 exact loop_r (fun s j => m84_1_0_1_0_0 x0 x1 x2 x3 x4 x5 x6 x7 (f9 s) j) I μ round s0 j h0
theorem l84_1_0_1_0_0_1_0_0_1_1_0_0 (f10 : σ → Value) (I : σ → Hp → Prop) (μ : σ → Nat) (s0 : σ) (e10 : v10 = f10 s0) (h0 : h.wf → ∃ h', h.wk h' ∧ I s0 h')
 (round : ∀ (k2 : Env → Hp → Prop) (s : σ) (j : Nat → Value) (h : Hp), I s h → h.wf → (∀ s' j' h', μ s' < μ s → (h'.wf → ∃ h'', h'.wk h'' ∧ I s' h'') → k2 (m84_1_0_1_0_0_1_0_0_1_1_0_0 x0 x1 x2 x3 x4 x5 x6 x7 x9 x11 x12 x13 x14 x15 x16 x17 x18 x19 x20 x21 x22 x23 x24 x25 x26 x27 x28 x29 x30 x31 x32 x33 x34 x35 x36 x37 x38 x39 x40 x41 x42 x43 x44 x45 x46 x47 x48 x49 x50 (f10 s') j') h') → d84 [1, 0, 1, 0, 0, 1, 0, 0, 1, 1, 0, 0] (thenD k2 (blk 2 (blk 1 (thenD (d84 [1, 0, 1, 0, 0, 1, 1] (thenD k1 (blk 0 (thenD (d84 [1, 1] (q84 K E)) (q84 K E))))) (thenD k1 (blk 0 (thenD (d84 [1, 1] (q84 K E)) (q84 K E)))))))) (m84_1_0_1_0_0_1_0_0_1_1_0_0 x0 x1 x2 x3 x4 x5 x6 x7 x9 x11 x12 x13 x14 x15 x16 x17 x18 x19 x20 x21 x22 x23 x24 x25 x26 x27 x28 x29 x30 x31 x32 x33 x34 x35 x36 x37 x38 x39 x40 x41 x42 x43 x44 x45 x46 x47 x48 x49 x50 (f10 s) j) h) :
 lp (fun k2 => d84 [1, 0, 1, 0, 0, 1, 0, 0, 1, 1, 0, 0] (thenD k2 (blk 2 (blk 1 (thenD (d84 [1, 0, 1, 0, 0, 1, 1] (thenD k1 (blk 0 (thenD (d84 [1, 1] (q84 K E)) (q84 K E))))) (thenD k1 (blk 0 (thenD (d84 [1, 1] (q84 K E)) (q84 K E))))))))) (m84_1_0_1_0_0_1_0_0_1_1_0_0 x0 x1 x2 x3 x4 x5 x6 x7 x9 x11 x12 x13 x14 x15 x16 x17 x18 x19 x20 x21 x22 x23 x24 x25 x26 x27 x28 x29 x30 x31 x32 x33 x34 x35 x36 x37 x38 x39 x40 x41 x42 x43 x44 x45 x46 x47 x48 x49 x50 v10 j) h := by
 subst e10
 exact loop_r (fun s j => m84_1_0_1_0_0_1_0_0_1_1_0_0 x0 x1 x2 x3 x4 x5 x6 x7 x9 x11 x12 x13 x14 x15 x16 x17 x18 x19 x20 x21 x22 x23 x24 x25 x26 x27 x28 x29 x30 x31 x32 x33 x34 x35 x36 x37 x38 x39 x40 x41 x42 x43 x44 x45 x46 x47 x48 x49 x50 (f10 s) j) I μ round s0 j h0
end
end Go.Proofs.YtgjdjdjhoipfmaaGreatDoor.T
open Go Go.RowKit Go.Proofs.YtgjdjdjhoipfmaaGreatDoor.K Go.Proofs.YtgjdjdjhoipfmaaGreatDoor.T
set_option linter.unusedVariables false
set_option linter.unusedSimpArgs false
namespace Go.Proofs.YtgjdjdjhoipfmaaGreatDoor.A
variable {F F' : Nat → Option (List Value)} {M M' : Nat → Option Chunk} {N N' : Nat} {K : Kont} {E : PanK}
theorem bsU_r {v : Value} {l : List Int} {h : Hp} (hv : sRead h 1 v l.length (bts l)) (k : K (.string ⟨(l.map (fun n => UInt8.ofNat (Int.toNat n))).toArray⟩) h) : bs v K h := ⟨_, ⟨_, l, hv, rfl⟩, k⟩
theorem eqs_r {e : EqK} {s : ByteArray} {h : Hp} (k : K (.bool true) h) : pv (binV e .eql (.string s) (.string s)) K h := ⟨.bool true, by simp [binV, strV], k⟩
theorem btsA (l m : List Int) : bts (l ++ m) = bts l ++ bts m := by simp [bts]
def putB (x : Int) (k : Nat) : Int := IntKind.u8.wrap (x.fdiv (2 ^ (min (8 * k) 64)))
def putI (x : Int) (size i : Nat) : List Int := (List.range i).map fun j => putB x (size - 1 - j)
def putL (x : Int) (size : Nat) : List Int := putI x size size
theorem putI_len (x : Int) (size i : Nat) : (putI x size i).length = i := by simp [putI]
theorem putL_len (x : Int) (size : Nat) : (putL x size).length = size := putI_len _ _ _
theorem putI_succ (x : Int) (size i : Nat) : putI x size (i + 1) = putI x size i ++ [putB x (size - 1 - i)] := by simp [putI, List.range_succ]
def appU (F : Nat → Option (List Value)) (M : Nat → Option Chunk) (N B n : Nat) (v : Value) (cs : List Value) (out : List Int) (K : Kont) : Prop :=
  ∀ v' M' N', own M' B 5 1 v' (n + out.length) (cs ++ bts out) → fr M M' N v v' → N ≤ N' → clean M' N' → (Hp.mk F M' N').wf → K v' ⟨F, M', N'⟩
theorem shr_r {x : Int} {k : Nat} {h : Hp} (kk : K (.int .u64 (x.fdiv (2 ^ (min k 64)))) h) : pv (binV .none .shr (.int .u64 x) (.int .u64 (k : Nat))) K h :=
  ⟨_, by
    have e : binV .none .shr (.int .u64 x) (.int .u64 (k : Nat)) = shiftV .shr .u64 x (k : Nat) := rfl
    rw [e]; unfold shiftV; rw [if_neg (by omega)]; simp only [Int.toNat_natCast]; rfl, kk⟩
set_option maxRecDepth 10000 in
theorem put_c {B n size : Nat} {v : Value} {cs : List Value} {x : Int} (h : own M B 5 1 v n cs) (hB : B ≤ N) (hs : size ≤ 8) (hn : n ≤ 1000000000000) (k : appU F M N B n v cs (putL x size) K) :
    callv Tryz.prog (.func (.func 80) #[] #[]) #[v, .int .u64 x, .int .i64 (size : Nat)] K E ⟨F, M, N⟩ := by
  refine callv_of_text mixed Tryz.func80 (by kernel_rfl) (t80 _ E _ _ _) (fun hw => ?_)
  have hm : clean M N := hw.m
  refine sub_r (by omega) (by omega) ?_
  refine l80_1_0_1_0_0 (σ := Nat × Value) (fun s => s.2) (fun s => .int .i64 ((size : Int) - 1 - (s.1 : Nat)))
    (fun s h' => ∃ M' N', h' = ⟨F, M', N'⟩ ∧ N ≤ N' ∧ clean M' N' ∧ s.1 ≤ size ∧ own M' B 5 1 s.2 (n + s.1) (cs ++ bts (putI x size s.1)) ∧ fr M M' N v s.2) (fun s => size - s.1) (0, v) rfl (by simp)
    (fun hw2 => ⟨_, wk_refl hw2, M, N, rfl, Nat.le_refl _, hm, Nat.zero_le _, by simpa [putI, bts] using h, fr.refl⟩) (fun kk s j h1 hI hw2 next => ?_)
  rw [t80_1_0_1_0_0]
  obtain ⟨M1, N1, rfl, hN1, hm1, hi, ho, hfr⟩ := hI
  refine geq_r (fun hlt => ?_) (fun hge => ?_)
  · have i1 : s.1 < size := by omega
    have e7 : (size : Int) - 1 - (s.1 : Nat) = ((size - 1 - s.1 : Nat) : Int) := by omega
    rw [e7]
    try simp only [sS]
    refine cv_u64 (by omega) (umul (a := 8) (by omega) (shr_r ?_))
    refine pv_r (v := .int .u8 (putB x (size - 1 - s.1))) rfl ?_
    refine push_r (new := [.int .u8 (putB x (size - 1 - s.1))]) ho hm1 (by omega) (by kernel_rfl) rfl (List.all_eq_true.1 rfl) (by omega) (by unfold maxLen; omega) (fun p v' M5 N5 g1 g2 g3 g4 => ?_)
    refine sub_r (by omega) (by omega) ?_
    have e8 : ((size - 1 - s.1 : Nat) : Int) - 1 = (size : Int) - 1 - ((s.1 + 1 : Nat) : Int) := by omega
    rw [e8]
    refine next (s.1 + 1, v') _ _ (by simp only; omega) (fun hw5 => ⟨_, wk_refl hw5, M5, N5, rfl, by omega, g4, i1, ?_, hfr.trans g2 hN1⟩)
    simp only
    rw [putI_succ, btsA, ← List.append_assoc, ← Nat.add_assoc]
    exact g1
  · try simp only [sS]
    have es : s.1 = size := by omega
    rw [es] at ho
    refine fun hc => ⟨_, wk_refl hc, fun hw' => k s.2 M1 N1 ?_ hfr hN1 hm1 hw'⟩
    rw [putL_len]; exact ho
def u64i (x : Int) : Int := IntKind.u64.wrap x
theorem u64i_r {x : Int} {k : IntKind} {h : Hp} (kk : K (.int .u64 (u64i x)) h) : pv (cvV .u64 (.int k x)) K h := ⟨_, rfl, kk⟩
def encK (l : List Int) : List Int := l.flatMap fun x => putL (u64i x) 4
def encF (f : Fc) : List Int := putL (u64i (f.1.length : Nat)) 1 ++ (encK f.1 ++ putL (u64i f.2) 8)
def encFs (l : List Fc) : List Int := putL (u64i (l.length : Nat)) 4 ++ l.flatMap encF
def encE (e : En) : List Int := putL (u64i e.1) 4 ++ encFs e.2
def encEs (l : List En) : List Int := putL (u64i (l.length : Nat)) 4 ++ l.flatMap encE
theorem encK_len (l : List Int) : (encK l).length = l.length * 4 := by
  induction l with
  | nil => rfl
  | cons x l ih =>
    unfold encK at ih ⊢
    rw [List.flatMap_cons, List.length_append, ih, putL_len, List.length_cons]; omega
theorem flatMap_take {α : Type} (f : α → List Int) (l : List α) {i : Nat} (hi : i < l.length) : (l.take (i + 1)).flatMap f = (l.take i).flatMap f ++ f l[i] := by
  rw [List.take_add_one, List.getElem?_eq_getElem hi, Option.toList_some, List.flatMap_append]; simp
theorem flatMap_le {α : Type} (f : α → List Int) (l : List α) (i : Nat) : ((l.take i).flatMap f).length ≤ (l.flatMap f).length := by
  conv => rhs; rw [← List.take_append_drop i l]
  rw [List.flatMap_append, List.length_append]; omega
theorem own_app3 {B n a : Nat} {v : Value} {cs : List Value} {x y : List Int} (h : own M B 5 1 v (n + x.length + a) (cs ++ bts x ++ bts y)) (ha : a = y.length) : own M B 5 1 v (n + (x ++ y).length) (cs ++ bts (x ++ y)) := by
  rw [btsA, ← List.append_assoc, List.length_append, ← Nat.add_assoc, ← ha]; exact h
set_option maxRecDepth 10000 in
theorem encFs_c {B n : Nat} {v fv : Value} {cs : List Value} {l : List Fc} (h : own M B 5 1 v n cs) (hB : B ≤ N) (hf : fctsD F fv l) (hl : l.length ≤ 1000000) (hn : n + (encFs l).length ≤ 1000000000000) (k : appU F M N B n v cs (encFs l) K) :
    callv Tryz.prog (.func (.func 42) #[] #[]) #[v, fv] K E ⟨F, M, N⟩ := by
  refine callv_of_text mixed Tryz.func42 (by kernel_rfl) (t42 _ E _ _) (fun hw => ?_)
  have hm : clean M N := hw.m
  obtain ⟨rows, hf1, hf2⟩ := hf
  unfold encFs at hn
  rw [List.length_append, putL_len] at hn
  refine lenF_r hf1 (u64i_r ?_)
  refine put_c (size := 4) h hB (by omega) (by omega) (fun v1 M1 N1 ho1 hfr1 hN1 hm1 hw1 => ?_)
  rw [putL_len] at ho1
  refine l42_1_1_0_1_0_0 (σ := Nat × Value) (fun s => s.2) (fun s => .int .i64 (s.1 : Nat))
    (fun s h' => ∃ M' N', h' = ⟨F, M', N'⟩ ∧ N ≤ N' ∧ clean M' N' ∧ s.1 ≤ l.length ∧ own M' B 5 1 s.2 (n + (putL (u64i (l.length : Nat)) 4 ++ (l.take s.1).flatMap encF).length) (cs ++ bts (putL (u64i (l.length : Nat)) 4 ++ (l.take s.1).flatMap encF)) ∧ fr M M' N v s.2) (fun s => l.length - s.1) (0, v1) rfl rfl
    (fun hw2 => ⟨_, wk_refl hw2, M1, N1, rfl, hN1, hm1, Nat.zero_le _, by simpa [putL_len] using ho1, hfr1⟩) (fun kk s j h1 hI hw2 next => ?_)
  rw [t42_1_1_0_1_0_0]
  obtain ⟨M2, N2, rfl, hN2, hm2, hi, ho, hfr⟩ := hI
  refine lenF_r hf1 ?_
  refine lss_r (fun hlt => ?_) (fun hge => ?_)
  · have i1 : s.1 < l.length := by omega
    have et := flatMap_take encF l i1
    have hle := flatMap_le encF l (s.1 + 1)
    rw [et, List.length_append] at hle
    have hfl : (encF l[s.1]).length = 1 + l[s.1].1.length * 4 + 8 := by unfold encF; rw [List.length_append, List.length_append, putL_len, putL_len, encK_len]; omega
    obtain ⟨pre, hpre⟩ : ∃ p, p = putL (u64i (l.length : Nat)) 4 ++ (l.take s.1).flatMap encF := ⟨_, rfl⟩
    have hpl : pre.length + (encF l[s.1]).length ≤ 4 + (l.flatMap encF).length := by rw [hpre, List.length_append, putL_len]; omega
    rw [← hpre] at ho
    try simp only [sS]
    refine fld_r hf1 hf2 (by decide) i1 (off := 0) (by decide) fun p q r x hR _ hx => ?_
    obtain ⟨kv, rfl, hkv, hkl⟩ := hR
    have hx' : x = kv := by simpa using hx.symm
    subst hx'
    refine lenF_r hkv (u64i_r ?_)
    refine put_c (size := 1) ho (by omega) (by omega) (by omega) (fun v3 M3 N3 ho3 hfr3 hN3 hm3 hw3 => ?_)
    rw [putL_len] at ho3
    refine l42_1_1_0_1_0_0_1_0_0_1_0_1_0_0 (σ := Nat × Value) (fun t => t.2) (fun t => .int .i64 (t.1 : Nat))
      (fun t h' => ∃ M' N', h' = ⟨F, M', N'⟩ ∧ N ≤ N' ∧ clean M' N' ∧ t.1 ≤ l[s.1].1.length ∧ own M' B 5 1 t.2 (n + (pre ++ (putL (u64i (l[s.1].1.length : Nat)) 1 ++ encK (l[s.1].1.take t.1))).length) (cs ++ bts (pre ++ (putL (u64i (l[s.1].1.length : Nat)) 1 ++ encK (l[s.1].1.take t.1)))) ∧ fr M M' N v t.2) (fun t => l[s.1].1.length - t.1) (0, v3) rfl rfl
      (fun hw4 => ⟨_, wk_refl hw4, M3, N3, rfl, by omega, hm3, Nat.zero_le _, ?_, hfr.trans hfr3 hN2⟩) (fun kk2 t j2 h2 hI2 hw4 next2 => ?_)
    · have e0 : encK (l[s.1].1.take 0) = [] := by simp [encK]
      simp only
      rw [e0, List.append_nil]
      exact own_app3 ho3 (by rw [putL_len])
    rw [t42_1_1_0_1_0_0_1_0_0_1_0_1_0_0]
    obtain ⟨M4, N4, rfl, hN4, hm4, hi4, ho4, hfr4⟩ := hI2
    have htl : (encK (l[s.1].1.take t.1)).length ≤ l[s.1].1.length * 4 := by rw [encK_len, List.length_take]; exact Nat.mul_le_mul_right _ (by omega)
    have hqb : (pre ++ (putL (u64i (l[s.1].1.length : Nat)) 1 ++ encK (l[s.1].1.take t.1))).length ≤ 4 + (l.flatMap encF).length := by
      rw [List.length_append, List.length_append, putL_len]; omega
    try simp only [sS]
    refine fld_r hf1 hf2 (by decide) i1 (off := 0) (by decide) fun p q r x hR _ hx => ?_
    obtain ⟨kv, rfl, hkv, hkl⟩ := hR
    have hx' : x = kv := by simpa using hx.symm
    subst hx'
    refine lenF_r hkv ?_
    refine lss_r (fun hlt2 => ?_) (fun hge2 => ?_)
    · have k1 : t.1 < l[s.1].1.length := by omega
      try simp only [sS]
      refine fld_r hf1 hf2 (by decide) i1 (off := 0) (by decide) fun p q r y hR _ hy => ?_
      obtain ⟨kv, rfl, hkv, hkl⟩ := hR
      have hy' : y = kv := by simpa using hy.symm
      subst hy'
      refine ixn_r hkv k1 fun p => u64i_r ?_
      refine put_c (size := 4) ho4 (by omega) (by omega) (by omega) (fun v5 M5 N5 ho5 hfr5 hN5 hm5 hw5 => ?_)
      rw [putL_len] at ho5
      refine inc_r (by omega) ?_
      have ek : encK (l[s.1].1.take (t.1 + 1)) = encK (l[s.1].1.take t.1) ++ putL (u64i l[s.1].1[t.1]) 4 := flatMap_take _ _ k1
      refine next2 (t.1 + 1, v5) _ _ (by simp only; omega) (fun hw6 => ⟨_, wk_refl hw6, M5, N5, rfl, by omega, hm5, k1, ?_, hfr4.trans hfr5 hN4⟩)
      simp only
      rw [ek, ← List.append_assoc, ← List.append_assoc, List.append_assoc pre]
      exact own_app3 ho5 (by rw [putL_len])
    · try simp only [sS]
      rw [List.take_of_length_le (by omega)] at ho4
      refine fld_r hf1 hf2 (by decide) i1 (off := 1) (by decide) fun p q r y hR _ hy => ?_
      obtain ⟨kv, rfl, hkv, hkl⟩ := hR
      have hy' : y = .int .i64 l[s.1].2 := by simpa using hy.symm
      subst hy'
      refine u64i_r ?_
      refine put_c (size := 8) ho4 (by omega) (by omega) (by rw [List.length_append, List.length_append, putL_len, encK_len]; omega) (fun v5 M5 N5 ho5 hfr5 hN5 hm5 hw5 => ?_)
      rw [putL_len] at ho5
      refine inc_r (by omega) ?_
      refine next (s.1 + 1, v5) _ _ (by simp only; omega) (fun hw6 => ⟨_, wk_refl hw6, M5, N5, rfl, by omega, hm5, i1, ?_, hfr4.trans hfr5 hN4⟩)
      simp only
      rw [et, ← List.append_assoc, ← hpre]
      have := own_app3 ho5 (by rw [putL_len])
      rw [List.append_assoc pre, List.append_assoc] at this
      exact this
  · try simp only [sS]
    rw [List.take_of_length_le (by omega)] at ho
    exact fun hc => ⟨_, wk_refl hc, fun hw' => k s.2 M2 N2 ho hfr hN2 hm2 hw'⟩
set_option maxRecDepth 10000 in
theorem encEs_c {B n : Nat} {v ev : Value} {cs : List Value} {l : List En} (h : own M B 5 1 v n cs) (hB : B ≤ N) (he : entsD F ev l) (hl : l.length ≤ 1000000) (hfl : ∀ e ∈ l, e.2.length ≤ 1000000) (hn : n + (encEs l).length ≤ 1000000000000) (k : appU F M N B n v cs (encEs l) K) :
    callv Tryz.prog (.func (.func 53) #[] #[]) #[v, ev] K E ⟨F, M, N⟩ := by
  refine callv_of_text mixed Tryz.func53 (by kernel_rfl) (t53 _ E _ _) (fun hw => ?_)
  have hm : clean M N := hw.m
  obtain ⟨rows, hf1, hf2⟩ := he
  unfold encEs at hn
  rw [List.length_append, putL_len] at hn
  refine lenF_r hf1 (u64i_r ?_)
  refine put_c (size := 4) h hB (by omega) (by omega) (fun v1 M1 N1 ho1 hfr1 hN1 hm1 hw1 => ?_)
  rw [putL_len] at ho1
  refine l53_1_1_0_1_0_0 (σ := Nat × Value) (fun s => s.2) (fun s => .int .i64 (s.1 : Nat))
    (fun s h' => ∃ M' N', h' = ⟨F, M', N'⟩ ∧ N ≤ N' ∧ clean M' N' ∧ s.1 ≤ l.length ∧ own M' B 5 1 s.2 (n + (putL (u64i (l.length : Nat)) 4 ++ (l.take s.1).flatMap encE).length) (cs ++ bts (putL (u64i (l.length : Nat)) 4 ++ (l.take s.1).flatMap encE)) ∧ fr M M' N v s.2) (fun s => l.length - s.1) (0, v1) rfl rfl
    (fun hw2 => ⟨_, wk_refl hw2, M1, N1, rfl, hN1, hm1, Nat.zero_le _, by simpa [putL_len] using ho1, hfr1⟩) (fun kk s j h1 hI hw2 next => ?_)
  rw [t53_1_1_0_1_0_0]
  obtain ⟨M2, N2, rfl, hN2, hm2, hi, ho, hfr⟩ := hI
  refine lenF_r hf1 ?_
  refine lss_r (fun hlt => ?_) (fun hge => ?_)
  · have i1 : s.1 < l.length := by omega
    have et := flatMap_take encE l i1
    have hle := flatMap_le encE l (s.1 + 1)
    rw [et, List.length_append] at hle
    have hel : (encE l[s.1]).length = 4 + (encFs l[s.1].2).length := by unfold encE; rw [List.length_append, putL_len]
    obtain ⟨pre, hpre⟩ : ∃ p, p = putL (u64i (l.length : Nat)) 4 ++ (l.take s.1).flatMap encE := ⟨_, rfl⟩
    have hpl : pre.length + (encE l[s.1]).length ≤ 4 + (l.flatMap encE).length := by rw [hpre, List.length_append, putL_len]; omega
    rw [← hpre] at ho
    try simp only [sS]
    refine fld_r hf1 hf2 (by decide) i1 (off := 0) (by decide) fun p q r x hR _ hx => ?_
    obtain ⟨fv, rfl, hfv, hfvl⟩ := hR
    have hx' : x = .int .u32 l[s.1].1 := by simpa using hx.symm
    subst hx'
    refine u64i_r ?_
    refine put_c (size := 4) ho (by omega) (by omega) (by omega) (fun v3 M3 N3 ho3 hfr3 hN3 hm3 hw3 => ?_)
    rw [putL_len] at ho3
    refine fld_r hf1 hf2 (by decide) i1 (off := 1) (by decide) fun p q r x hR _ hx => ?_
    obtain ⟨fv, rfl, hfv, hfvl⟩ := hR
    have hx' : x = fv := by simpa using hx.symm
    subst hx'
    have ho3' := own_app3 ho3 (by rw [putL_len])
    refine encFs_c ho3' (by omega) hfv (hfl _ (List.getElem_mem i1)) (by rw [List.length_append, putL_len]; omega) (fun v5 M5 N5 ho5 hfr5 hN5 hm5 hw5 => ?_)
    refine inc_r (by omega) ?_
    refine next (s.1 + 1, v5) _ _ (by simp only; omega) (fun hw6 => ⟨_, wk_refl hw6, M5, N5, rfl, by omega, hm5, i1, ?_, (hfr.trans hfr3 hN2).trans hfr5 (by omega)⟩)
    simp only
    rw [et, ← List.append_assoc, ← hpre]
    have := own_app3 ho5 rfl
    rw [List.append_assoc pre] at this
    exact this
  · try simp only [sS]
    rw [List.take_of_length_le (by omega)] at ho
    exact fun hc => ⟨_, wk_refl hc, fun hw' => k s.2 M2 N2 ho hfr hN2 hm2 hw'⟩
theorem samee_c {u v : Value} {l : List En} (hu : entsD F u l) (hv : entsD F v l) (hl : l.length ≤ 1000000) (hfl : ∀ e ∈ l, e.2.length ≤ 1000000) (hn : (encEs l).length ≤ 100000000000) (k : ∀ N', N ≤ N' → (Hp.mk F M N').wf → K (.bool true) ⟨F, M, N'⟩) :
    callv Tryz.prog (.func (.func 27) #[] #[]) #[u, v] K E ⟨F, M, N⟩ := by
  refine callv_of_text mixed Tryz.func27 (by kernel_rfl) (t27 _ E _ _) (fun hw => ?_)
  have hm : clean M N := hw.m
  refine encEs_c (B := N) own.nil (Nat.le_refl _) hu hl hfl (by omega) (fun v1 M1 N1 ho1 hfr1 hN1 hm1 hw1 => ?_)
  rw [Nat.zero_add, List.nil_append] at ho1
  refine bsU_r ho1.rd.read ?_
  refine encEs_c (B := N) own.nil (by omega) hv hl hfl (by omega) (fun v2 M2 N2 ho2 hfr2 hN2 hm2 hw2 => ?_)
  rw [Nat.zero_add, List.nil_append] at ho2
  have ho1' : own M2 N 5 1 v1 (encEs l).length (bts (encEs l)) := ho1.keep (fun q hq => (hfr2 q (by simp [Value.ownBlock]) (ho1.lt hm1 q hq)).1) (Nat.le_refl _)
  refine ⟨⟨_, encEs l, ho1'.rd.read, rfl⟩, ?_⟩
  refine bsU_r ho2.rd.read (eqs_r ?_)
  exact fun hc => ⟨_, wk_drop hc (fun q c hq => by rw [(hfr2 q (by simp [Value.ownBlock]) (by have := hm.lt hq; omega)).1, (hfr1 q (by simp [Value.ownBlock]) (hm.lt hq)).1]; exact hq), fun hw' => k _ (by omega) hw'⟩
end Go.Proofs.YtgjdjdjhoipfmaaGreatDoor.A
open Go Go.RowKit Go.Proofs.YtgjdjdjhoipfmaaGreatDoor.K Go.Proofs.YtgjdjdjhoipfmaaGreatDoor.T
set_option linter.unusedVariables false
set_option linter.unusedSimpArgs false
namespace Go.Proofs.YtgjdjdjhoipfmaaGreatDoor.A
variable {F F' : Nat → Option (List Value)} {M M' : Nat → Option Chunk} {N N' : Nat} {K : Kont} {E : PanK}
theorem inF_no {l : List Dm} {m : List Int} {i : Nat} (h1 : i < l.length) (h : inP l m i = false) : inF l m = false := by
  unfold inF; rw [all_range_no h1 h, Bool.and_false]
theorem rin_c {v u : Value} {l : List Dm} {m : List Int} (hv : dimsD F v l) (hu : sF F 1 u m.length (ic m)) (hl : l.length ≤ 140737488351232) (k : ∀ N', N ≤ N' → (Hp.mk F M N').wf → K (.bool (inF l m)) ⟨F, M, N'⟩) :
    callv Tryz.prog (.func (.func 83) #[] #[]) #[v, u] K E ⟨F, M, N⟩ := by
  refine callv_of_text mixed Tryz.func83 (by kernel_rfl) (t83 _ E _ _) (fun hw => ?_)
  have hlv : lenV v = some (.int .i64 (l.length : Nat)) := by obtain ⟨a, c, e⟩ := hv.form; rw [e]; rfl
  have hlu : lenV u = some (.int .i64 (m.length : Nat)) := by obtain ⟨a, c, e, _⟩ := hu.form; rw [e]; rfl
  refine l83_1_0_1_0_0 (σ := Nat) (fun i => .int .i64 (i : Nat)) (fun i h => h = ⟨F, M, N⟩ ∧ i ≤ l.length ∧ i ≤ m.length ∧ (List.range i).all (inP l m) = true) (fun i => l.length - i) 0 rfl
    (fun hw1 => ⟨_, wk_refl hw1, rfl, Nat.zero_le _, Nat.zero_le _, rfl⟩) (fun k1 i j h1 hI hw1 next => ?_)
  rw [t83_1_0_1_0_0]
  obtain ⟨rfl, hi, him, he⟩ := hI
  refine pv_r hlv ?_
  have stop : i = l.length ∨ i = m.length → ∀ h', h' = (⟨F, M, N⟩ : Hp) → h'.wf → ∃ h'', h'.wk h'' ∧ (h''.wf → K (.bool (decide ((l.length : Int) = (m.length : Int)))) h'') := fun ho h' e' hc => by
    subst e'
    refine ⟨_, wk_refl hc, fun hw' => ?_⟩
    have := k N (Nat.le_refl _) hw'
    by_cases hq : l.length = m.length
    · rw [show inF l m = true by unfold inF; rw [decide_eq_true hq.symm, show l.length = i by omega, he]; rfl] at this
      rw [decide_eq_true (by omega)]; exact this
    · rw [show inF l m = false by unfold inF; rw [decide_eq_false (fun e => hq e.symm)]; rfl] at this
      rw [decide_eq_false (by omega)]; exact this
  have eql : ∀ {X : Kont} {h : Hp}, X (.bool (decide ((l.length : Int) = (m.length : Int)))) h → pv (binV .none .eql (.int .i64 (l.length : Nat)) (.int .i64 (m.length : Nat))) X h := fun {X h} kx =>
    eql_r (fun e => by rw [decide_eq_true e] at kx; exact kx) (fun e => by rw [decide_eq_false e] at kx; exact kx)
  refine lss_r (fun hlt => ?_) (fun hge => ?_)
  · have i1 : i < l.length := by omega
    try simp only [sS]
    refine pv_r hlu ?_
    refine lss_r (fun hlt2 => ?_) (fun hge2 => ?_)
    · have i2 : i < m.length := by omega
      have hp : inP l m i = decide (0 ≤ m[i] ∧ m[i] < l[i].1) := by unfold inP; rw [getD_at i1, getD_at i2]
      try simp only [sS]
      refine ixn_r hu i2 fun p => ?_
      refine lss_r (fun h3 => ?_) (fun h3 => ?_)
      · try simp only [sS]
        refine fun hc => ⟨_, wk_refl hc, fun hw' => ?_⟩
        have := k N (Nat.le_refl _) hw'
        rw [inF_no i1 (by rw [hp, decide_eq_false (by omega)])] at this
        exact this
      · try simp only [sS]
        refine ixn_r hu i2 fun p => ?_
        refine dims_at hv i1 fun p q => ?_
        refine geq_r (fun h4 => ?_) (fun h4 => ?_)
        · try simp only [sS]
          refine fun hc => ⟨_, wk_refl hc, fun hw' => ?_⟩
          have := k N (Nat.le_refl _) hw'
          rw [inF_no i1 (by rw [hp, decide_eq_false (by omega)])] at this
          exact this
        · try simp only [sS]
          refine inc_r (by omega) ?_
          exact next (i + 1) _ _ (by omega) (fun hw3 => ⟨_, wk_refl hw3, rfl, i1, i2, all_range_succ he (by rw [hp, decide_eq_true (by omega)])⟩)
    · try simp only [sS]
      refine pv_r hlv (pv_r hlu (eql ?_))
      exact stop (.inr (by omega)) _ rfl
  · try simp only [sS]
    refine pv_r hlv (pv_r hlu (eql ?_))
    exact stop (.inl (by omega)) _ rfl
structure isRef (F : Nat → Option (List Value)) (M : Nat → Option Chunk) (g : Nat) (dv lv : Value) (l : List Dm) (h : List En) : Prop where
  gg : M g = some (.cells 102 [dv, lv] 2)
  dd : dimsD F dv l
  ll : entsD F lv h
theorem isRef.keep {g : Nat} {dv lv : Value} {l : List Dm} {h : List En} (hC : isRef F M g dv lv l h) (hF : subF F F') (hM : M' g = M g) : isRef F' M' g dv lv l h := ⟨hM.trans hC.gg, hC.dd.mono hF, hC.ll.mono hF⟩
theorem fitsF_no {l : List Dm} {fs : List Fc} {i : Nat} (h1 : i < fs.length) (h : inF l fs[i].1 = false) : fitsF l fs = false := by
  unfold fitsF
  rw [show (fs.all fun f => inF l f.1) = false from List.all_eq_false.2 ⟨fs[i], List.getElem_mem h1, by rw [h]; decide⟩, Bool.and_false]
theorem rfits_c {g : Nat} {v dv lv : Value} {l : List Dm} {fs : List Fc} (hg : M g = some (.cells 102 [dv, lv] 2)) (hd : dimsD F dv l) (hl : l.length ≤ 140737488351232) (hf : fctsD F v fs) (hfl : fs.length ≤ 140737488351232)
    (k : ∀ N', N ≤ N' → (Hp.mk F M N').wf → K (.bool (fitsF l fs)) ⟨F, M, N'⟩) :
    callv Tryz.prog (.func (.func 45) #[] #[]) #[.pointer (some ⟨g, 0, none⟩), v] K E ⟨F, M, N⟩ := by
  refine callv_of_text mixed Tryz.func45 (by kernel_rfl) (t45 _ E _ _) (fun hw => ?_)
  obtain ⟨rows, hv1, hv2⟩ := hf
  refine l45_1_0_1_0_0 (σ := Nat) (fun i => .int .i64 (i : Nat)) (fun i h => ∃ N', h = ⟨F, M, N'⟩ ∧ N ≤ N' ∧ i ≤ fs.length ∧ ∀ f ∈ fs.take i, inF l f.1 = true) (fun i => fs.length - i) 0 rfl
    (fun hw1 => ⟨_, wk_refl hw1, N, rfl, Nat.le_refl _, Nat.zero_le _, by simp⟩) (fun k1 i j h1 hI hw1 next => ?_)
  rw [t45_1_0_1_0_0]
  obtain ⟨N1, rfl, hN1, hi, he⟩ := hI
  refine lenF_r hv1 ?_
  refine lss_r (fun hlt => ?_) (fun hge => ?_)
  · have i1 : i < fs.length := by omega
    try simp only [sS]
    refine ldM (v := dv) ?_ hg
    refine fld_r hv1 hv2 (by decide) i1 (off := 0) (by decide) fun p q r x hR _ hx => ?_
    obtain ⟨kv, rfl, hkv, hkl⟩ := hR
    have hx' : x = kv := by simpa using hx.symm
    subst hx'
    refine rin_c hd hkv hl (fun N2 hN2 hw2 => ?_)
    cases hp : inF l fs[i].1
    · try simp only [sS]
      refine fun hc => ⟨_, wk_refl hc, fun hw' => ?_⟩
      have := k N2 (by omega) hw'
      rw [fitsF_no i1 hp] at this; exact this
    · try simp only [sS]
      refine inc_r (by omega) ?_
      refine next (i + 1) _ _ (by omega) (fun hw3 => ⟨_, wk_refl hw3, N2, rfl, by omega, i1, fun f hf => ?_⟩)
      rw [List.take_add_one, List.getElem?_eq_getElem i1, Option.toList_some] at hf
      rcases List.mem_append.1 hf with hf | hf
      · exact he f hf
      · rw [List.mem_singleton.1 hf]; exact hp
  · try simp only [sS]
    rw [List.take_of_length_le (by omega)] at he
    refine lenF_r hv1 ?_
    refine leq_r (fun h2 => ?_) (fun h2 => ?_)
    · refine fun hc => ⟨_, wk_refl hc, fun hw' => ?_⟩
      have := k N1 hN1 hw'
      rw [of_fitsF (by omega) he] at this; exact this
    · refine fun hc => ⟨_, wk_refl hc, fun hw' => ?_⟩
      have := k N1 hN1 hw'
      rw [show fitsF l fs = false by unfold fitsF; rw [decide_eq_false (by omega)]; rfl] at this; exact this
set_option maxRecDepth 10000 in
theorem rcopy_g {v : Value} {l : List Fc} (hv : fctsD F v l) (hl : l.length ≤ 1000000000) (hk : ∀ f ∈ l, f.1.length ≤ 10000000000)
    (k : clean M N → ∀ v' F' M' N' rows, subF F F' → N ≤ N' → own M' N 48 2 v' l.length rows.flatten → rowsF (fctD F') 2 rows l → (∀ q, q < N → M' q = M q) → clean M' N' → (Hp.mk F' M' N').wf → ∃ h', (Hp.mk F' M' N').wk h' ∧ (h'.wf → K v' h')) :
    callv Tryz.prog (.func (.func 55) #[] #[]) #[v] K E ⟨F, M, N⟩ := by
  refine callv_of_text mixed Tryz.func55 (by kernel_rfl) (t55 _ E _) (fun hw => ?_)
  have hm : clean M N := hw.m
  obtain ⟨rows, hv1, hv2⟩ := hv
  refine l55_1_1_0_1_0_0 (σ := Nat × Value) (fun s => s.2) (fun s => .int .i64 (s.1 : Nat))
    (fun s h => ∃ F' M' N' rows, h = ⟨F', M', N'⟩ ∧ subF F F' ∧ N ≤ N' ∧ (∀ q, q < N → M' q = M q) ∧ clean M' N' ∧ s.1 ≤ l.length ∧ own M' N 48 2 s.2 s.1 rows.flatten ∧ rowsF (fctD F') 2 rows (l.take s.1)) (fun s => l.length - s.1) (0, .slice none 0 0) rfl rfl
    (fun hw1 => ⟨_, wk_refl hw1, F, M, N, [], rfl, subF.refl _, Nat.le_refl _, fun _ _ => rfl, hm, Nat.zero_le _, own.nil, rowsF.nil _ _⟩) (fun k1 s j h1 hI hw1 next => ?_)
  rw [t55_1_1_0_1_0_0]
  obtain ⟨F1, M1, N1, rows1, rfl, hF1, hN1, hM1, hm1, hi, ho, hr⟩ := hI
  refine lenF_r hv1 ?_
  refine lss_r (fun hlt => ?_) (fun hge => ?_)
  · have i1 : s.1 < l.length := by omega
    have hkl' := hk _ (List.getElem_mem i1)
    try simp only [sS]
    refine fld_r (hv1.mono hF1) (hv2.mono fun _ _ h => h.mono hF1) (by decide) i1 (off := 0) (by decide) fun p q r x hR _ hx => ?_
    obtain ⟨kv, rfl, hkv, hkl⟩ := hR
    have hx' : x = kv := by simpa using hx.symm
    subst hx'
    refine (own.nil (B := N1)).app (n := 0) (m := l[s.1].1.length) (cs := []) hm1 (Nat.le_refl _) hkv.sR (ints_one _) (by omega) (by unfold maxLen; omega) (fun kv2 M2 N2 ok1 hfr hN2 hm2 => ?_)
    rw [Nat.zero_add, List.nil_append] at ok1
    refine fld_r (hv1.mono hF1) (hv2.mono fun _ _ h => h.mono hF1) (by decide) i1 (off := 1) (by decide) fun p q r y hR _ hy => ?_
    obtain ⟨kv3, rfl, hkv3, hkl3⟩ := hR
    have hy' : y = .int .i64 l[s.1].2 := by simpa using hy.symm
    subst hy'
    obtain ⟨ka, kc, hkf, _⟩ := ok1.form
    have ho2 : own M2 N 48 2 s.2 s.1 rows1.flatten := ho.keep (fun q hq => (hfr q (by simp [Value.ownBlock]) (ho.lt hm1 q hq)).1) (Nat.le_refl _)
    have hM2 : ∀ q, q < N → M2 q = M q := fun q hq => ((hfr q (by simp [Value.ownBlock]) (by omega)).1).trans (hM1 q hq)
    refine pv_r (v := .agg #[kv2, .int .i64 l[s.1].2]) (by rw [hkf]; kernel_rfl) ?_
    refine push_r (new := [kv2, .int .i64 l[s.1].2]) ho2 hm2 (by omega) (by rw [hkf]; kernel_rfl) rfl (by rw [hkf]; exact List.all_eq_true.1 rfl) (by omega) (by unfold maxLen; omega) (fun p v' M4 N4 h4 h5 h6 h7 => ?_)
    refine inc_r (by omega) ?_
    have hne : ∀ q, kv2.ownBlock = some q → s.2.ownBlock ≠ some q := fun q hq e => by have := (ok1.ge q hq).1; have := ho.lt hm1 q e; omega
    obtain ⟨ok4, hne4⟩ := ok1.far h5 hm2 hne
    refine next (s.1 + 1, v') _ _ (by simp only; omega) (fun hw5 => ⟨_, wk_P (p := fun q => kv2.ownBlock = some q) hw5, _, _, N4, rows1 ++ [[kv2, .int .i64 l[s.1].2]], rfl, hF1.trans (subF_frzP hw5), by omega, fun q hq => ?_, keepM_clean h7, i1, ?_, ?_⟩)
    · have q1 : ¬ kv2.ownBlock = some q := fun e => by have := (ok1.ge q e).1; omega
      have q2 : s.2.ownBlock ≠ some q := fun e => by have := (ho.ge q e).1; omega
      exact (keepM_in q1).trans (((h5 q q2 (by omega)).1).trans (hM2 q hq))
    · refine own.keep (M := M4) ?_ (fun q hq => keepM_in (fun e => hne4 q e hq)) (Nat.le_refl _)
      simpa using h4
    · simp only
      rw [List.take_add_one, List.getElem?_eq_getElem i1, Option.toList_some]
      have h1f : fctD (frzP F1 M4 (fun q => kv2.ownBlock = some q)) [kv2, .int .i64 l[s.1].2] l[s.1] := ⟨kv2, rfl, ok4.frzP (fun q h => h), hkl⟩
      exact rowsF_snoc1 (hr.mono fun _ _ h => h.mono (subF_frzP hw5)) h1f.one h1f
  · try simp only [sS]
    rw [show s.1 = l.length by omega] at ho
    rw [List.take_of_length_le (by omega)] at hr
    exact fun hc => k hm s.2 F1 M1 N1 rows1 hF1 hN1 ho hr hM1 hm1 hc
theorem rcopy_c {v : Value} {l : List Fc} (hv : fctsD F v l) (hl : l.length ≤ 1000000000) (hk : ∀ f ∈ l, f.1.length ≤ 10000000000)
    (k : ∀ v' F' N', (Hp.mk F' M N').wf → subF F F' → N ≤ N' → fctsD F' v' l → K v' ⟨F', M, N'⟩) :
    callv Tryz.prog (.func (.func 55) #[] #[]) #[v] K E ⟨F, M, N⟩ :=
  rcopy_g hv hl hk (fun hm v' F' M' N' rows hF hN ho hr hM _ hc => ⟨_, frz_wf hm hM hc, fun hw' => k _ _ _ hw' (hF.trans (subF_frzAll hc)) hN (fcts_frzA hc ho hr)⟩)
theorem rcopy_o {v : Value} {l : List Fc} (hv : fctsD F v l) (hl : l.length ≤ 1000000000) (hk : ∀ f ∈ l, f.1.length ≤ 10000000000)
    (k : ∀ v' F' M' N' rows, subF F F' → N ≤ N' → own M' N 48 2 v' l.length rows.flatten → rowsF (fctD F') 2 rows l → (∀ q, q < N → M' q = M q) → clean M' N' → (Hp.mk F' M' N').wf → K v' ⟨F', M', N'⟩) :
    callv Tryz.prog (.func (.func 55) #[] #[]) #[v] K E ⟨F, M, N⟩ :=
  rcopy_g hv hl hk (fun _ v' F' M' N' rows hF hN ho hr hM hm' hc => ⟨_, wk_refl hc, fun hw' => k v' F' M' N' rows hF hN ho hr hM hm' hw'⟩)
end Go.Proofs.YtgjdjdjhoipfmaaGreatDoor.A
open Go Go.RowKit Go.Proofs.YtgjdjdjhoipfmaaGreatDoor.K Go.Proofs.YtgjdjdjhoipfmaaGreatDoor.T
set_option linter.unusedVariables false
set_option linter.unusedSimpArgs false
namespace Go.Proofs.YtgjdjdjhoipfmaaGreatDoor.A
variable {F F' : Nat → Option (List Value)} {M M' : Nat → Option Chunk} {N N' : Nat} {K : Kont} {E : PanK}
set_option maxRecDepth 10000 in
theorem rwith_tail {N0 b2 i u : Nat} {x7 x0 fv ov : Value} {rows1 orows rows : List (List Value)} {h : List En} {old fs : List Fc} {t : Int} (hN0 : N0 ≤ N) (hm : clean M N) (hb : M b2 = some (.cells 52 [.int .u32 t, ov] 2)) (hbN : N0 ≤ b2)
    (ho : own M N0 52 2 x7 i rows1.flatten) (ho1 : ∀ c ∈ rows1.flatten, c.oneCell' = true) (hof : own M N0 48 2 ov old.length orows.flatten) (hor : rowsF (fctD F) 2 orows old) (hv1 : sF F 2 x0 h.length rows.flatten) (hv2 : rowsF (entD F) 2 rows h) (hu : u ≤ h.length) (hi : i ≤ 100000000000) (hl : h.length ≤ 100000000000)
    (hf : fctsD F fv fs) (hfl : fs.length ≤ 1000000) (hk : ∀ f ∈ fs, f.1.length ≤ 10000000000) (hol : old.length ≤ 1000000) (d1 : x7.ownBlock ≠ some b2) (d2 : ov.ownBlock ≠ some b2) (d3 : ∀ q, x7.ownBlock = some q → ov.ownBlock ≠ some q)
    (k : ∀ v' F' M' N' fv3 frows, subF F F' → N ≤ N' → own M' N0 52 2 v' (i + 1 + (h.drop u).length) (rows1.flatten ++ [.int .u32 t, fv3] ++ (rows.drop u).flatten) → own M' N0 48 2 fv3 (old ++ fs).length frows.flatten → rowsF (fctD F') 2 frows (old ++ fs) → (∀ q, q < N0 → M' q = M q) → clean M' N' → K v' ⟨F', M', N'⟩) :
    (pv (faV 1 (.pointer (some ⟨b2, 0, none⟩))) fun t1 => ld false 1 t1 fun t2 => callv Tryz.prog (.func (.func 55) #[] #[]) #[fv] (fun t3 h4 => (ldV h4 false 1 t1 t2) ∧ (appX 48 2 32 t2 t3 fun t5 => pv (faV 1 (.pointer (some ⟨b2, 0, none⟩))) fun t6 => st 1 t6 t5 fun _ => ld true 2 (.pointer (some ⟨b2, 0, none⟩)) fun t7 => nws 52 1 (bsC #[(.int .u32 0), (.slice none 0 0)] 2 1 #[(0, t7)]) fun t8 => appX 52 2 32 x7 t8 fun t9 => pv (slV 2 x0 (some (.int .i64 (u : Nat))) none none) fun t10 => appX 52 2 32 t9 t10 fun t11 => K t11) h4) E) ⟨F, M, N⟩ := by
  try simp only [sS]
  refine ldM (v := ov) ?_ hb
  refine rcopy_c hf (by omega) hk (fun v3 F3 N3 hw3 hF3 hN3 hf3 => ?_)
  refine ⟨ldV_c (row_M hb) rfl, ?_⟩
  have hm3 : clean M N3 := hw3.m
  obtain ⟨frows, hf3a, hf3b⟩ := hf3
  refine hof.app hm3 (by omega) hf3a.sR hf3b.f1 (by omega) (by unfold maxLen; omega) (fun v5 M5 N5 g1 g2 g3 g4 => ?_)
  have hbN3 : b2 < N3 := hm3.lt hb
  have hb5 := (g2 b2 d2 hbN3).1.trans hb
  have d2' := (g2 b2 d2 hbN3).2
  obtain ⟨ho5, d3'⟩ := ho.far g2 hm3 (fun q hq => d3 q hq)
  obtain ⟨a5, c5, e5, _⟩ := g1.form
  have hfr5 : rowsF (fctD F3) 2 (orows ++ frows) (old ++ fs) := rows_app (hor.mono fun _ _ h => h.mono hF3) hf3b
  have g1' : own M5 N0 48 2 v5 (old ++ fs).length (orows ++ frows).flatten := by rw [List.length_append, List.flatten_append]; exact g1
  try simp only [sS]
  refine stM (cs' := [.int .u32 t, v5]) ?_ hb5 (by rw [e5]; rfl) (by rw [e5]; rfl) (by rw [e5]; exact List.all_eq_true.1 rfl)
  refine ldMa (vs := [.int .u32 t, v5]) ?_
  have ho6 : own (upd M5 b2 (some (.cells 52 [.int .u32 t, v5] 2))) N0 52 2 x7 i rows1.flatten := ho5.keep (fun q hq => upd_ne _ _ (fun e => d1 (by rw [← e]; exact hq))) (Nat.le_refl _)
  have hof6 : own (upd M5 b2 (some (.cells 52 [.int .u32 t, v5] 2))) N0 48 2 v5 (old ++ fs).length (orows ++ frows).flatten := g1'.keep (fun q hq => upd_ne _ _ (fun e => d2' (by rw [← e]; exact hq))) (Nat.le_refl _)
  have hm6 : clean (upd M5 b2 (some (.cells 52 [.int .u32 t, v5] 2))) N5 := g4.set (by omega) _
  have hM6 : ∀ q, q < N0 → upd M5 b2 (some (.cells 52 [.int .u32 t, v5] 2)) q = M q := fun q hq => (upd_ne _ _ (by omega)).trans ((g2 q (fun e => by have := (hof.ge q e).1; omega) (by omega)).1)
  generalize upd M5 b2 _ = M6 at *
  refine push_r (new := [.int .u32 t, v5]) ho6 hm6 (by omega) (by rw [e5]; kernel_rfl) rfl (by rw [e5]; exact List.all_eq_true.1 rfl) (by omega) (by unfold maxLen; omega) (fun p v7 M7 N7 k1 k2 k3 k4 => ?_)
  have d4 : ∀ q, v5.ownBlock = some q → x7.ownBlock ≠ some q := fun q hq e => d3' q e hq
  obtain ⟨hof7, d5⟩ := hof6.far k2 hm6 d4
  refine suf_r (hv1.mono hF3) (hv2.mono fun _ _ h => h.mono hF3) hu (fun v8 hv8 => ?_)
  refine k1.app (m := (h.drop u).length) k4 (by omega) hv8.sR (rows_drop hv2 u).f1 (by rw [List.length_drop]; omega) (by rw [List.length_drop]; unfold maxLen; omega) (fun v9 M9 N9 j1 j2 j3 j4 => ?_)
  obtain ⟨hof9, _⟩ := hof7.far j2 k4 d5
  refine k v9 F3 M9 N9 v5 (orows ++ frows) hF3 (by omega) j1 hof9 hfr5 (fun q hq => ?_) j4
  have q7 : x7.ownBlock ≠ some q := fun e => by have := (ho6.ge q e).1; omega
  obtain ⟨z1, z2⟩ := k2 q q7 (by omega)
  rw [(j2 q z2 (by omega)).1, z1, hM6 q hq]
set_option maxRecDepth 10000 in
set_option maxHeartbeats 2000000 in
theorem rwith_c {lv fv : Value} {h : List En} {t : Int} {fs : List Fc} (hv : entsD F lv h) (hs : risen h) (hl : h.length ≤ 10000000000) (hm' : ∀ e ∈ h, e.2.length ≤ 1000000) (hmk : ∀ e ∈ h, ∀ f ∈ e.2, f.1.length ≤ 10000000000) (hf : fctsD F fv fs) (hfl : fs.length ≤ 1000000) (hk : ∀ f ∈ fs, f.1.length ≤ 10000000000)
    (k : ∀ v' F' N', (Hp.mk F' M N').wf → subF F F' → N ≤ N' → entsD F' v' (withR h t fs) → K v' ⟨F', M, N'⟩) :
    callv Tryz.prog (.func (.func 82) #[] #[]) #[lv, .int .u32 t, fv] K E ⟨F, M, N⟩ := by
  refine callv_of_text mixed Tryz.func82 (by kernel_rfl) (t82 _ E _ _ _) (fun hw => ?_)
  have hm : clean M N := hw.m
  obtain ⟨rows, hv1, hv2⟩ := hv
  have hpl := place_le h t
  have hul := upTo_le h t
  refine l82_1_1_1_0_0_0 (σ := Nat × Value) (fun s => s.2) (fun s => .int .i64 (s.1 : Nat))
    (fun s h' => ∃ M' N' rows', h' = ⟨F, M', N'⟩ ∧ N ≤ N' ∧ (∀ q, q < N → M' q = M q) ∧ clean M' N' ∧ s.1 ≤ place h t ∧ own M' N 52 2 s.2 s.1 rows'.flatten ∧ rowsF (entD F) 2 rows' (h.take s.1)) (fun s => h.length - s.1) (0, .slice none 0 0) rfl rfl
    (fun hw1 => ⟨_, wk_refl hw1, M, N, [], rfl, Nat.le_refl _, fun _ _ => rfl, hm, Nat.zero_le _, own.nil, rowsF.nil _ _⟩) (fun k1 s j h1 hI hw1 next => ?_)
  rw [t82_1_1_1_0_0_0]
  obtain ⟨M1, N1, rows1, rfl, hN1, hM1, hm1, hi, ho, hr⟩ := hI
  refine lenF_r hv1 ?_
  by_cases hst : s.1 < h.length ∧ ∀ hx : s.1 < h.length, h[s.1].1 < t
  · obtain ⟨i1, hx⟩ := hst
    have hx' := hx i1
    have hip : s.1 < place h t := by
      rcases Nat.lt_or_ge s.1 (place h t) with h2 | h2
      · exact h2
      · have := place_ge hs i1 h2; omega
    refine lss_t (by omega) ?_
    try simp only [sS]
    refine fld_r hv1 hv2 (by decide) i1 (off := 0) (by decide) fun p q r x hR _ hx => ?_
    obtain ⟨ev, rfl, hev, hevl⟩ := hR
    have hxe : x = .int .u32 h[s.1].1 := by simpa using hx.symm
    subst hxe
    refine lss_t (by omega) ?_
    try simp only [sS]
    refine row_r hv1 hv2 (by decide) i1 (fun p r _ hR hrl hr1 => ?_)
    have hR' := hR
    obtain ⟨ev, hre, hev, hevl⟩ := hR
    subst hre
    obtain ⟨ea, ec, eev⟩ := hev.form
    refine push_r (new := [.int .u32 h[s.1].1, ev]) ho hm1 (by omega) (by rw [eev]; kernel_rfl) rfl hr1 (by omega) (by unfold maxLen; omega) (fun p v' M4 N4 h4 h5 h6 h7 => ?_)
    refine inc_r (by omega) ?_
    refine next (s.1 + 1, v') _ _ (by simp only; omega) (fun hw5 => ⟨_, wk_refl hw5, M4, N4, rows1 ++ [[.int .u32 h[s.1].1, ev]], rfl, by omega, fun q hq => ?_, h7, hip, ?_, ?_⟩)
    · exact ((h5 q (fun e => by have := (ho.ge q e).1; omega) (by omega)).1).trans (hM1 q hq)
    · simpa using h4
    · simp only
      rw [List.take_add_one, List.getElem?_eq_getElem i1, Option.toList_some]
      exact rowsF_snoc1 hr hR'.one hR'
  have hsp : s.1 = place h t := by
    rcases Nat.lt_or_ge s.1 (place h t) with h2 | h2
    · have i1 : s.1 < h.length := by omega
      exact absurd ⟨i1, fun hx => place_lt hx h2⟩ hst
    · omega
  have ht0 : (hx : s.1 < h.length) → there h t = decide (h[s.1].1 = t) := fun hx => by rw [there_in (by rw [← hsp]; exact hx)]; simp only [hsp]
  have hup : upTo h t = s.1 + (if there h t = true then 1 else 0) := by rw [hsp]; rfl
  have hwe := withH_eq h t fs
  unfold withH at hwe
  rw [← hsp] at hwe
  have fin : ∀ v' F' M' N' fv3 frows, subF F F' → N1 ≤ N' → own M' N 52 2 v' (s.1 + 1 + (h.drop (upTo h t)).length) (rows1.flatten ++ [.int .u32 t, fv3] ++ (rows.drop (upTo h t)).flatten) → own M' N 48 2 fv3 (oldAt h t ++ fs).length frows.flatten → rowsF (fctD F') 2 frows (oldAt h t ++ fs) → (∀ q, q < N → M' q = M q) → clean M' N' → (Hp.mk F' M' N').wf → ∃ h', (Hp.mk F' M' N').wk h' ∧ (h'.wf → K v' h') := fun v' F' M' N' fv3 frows hF hN j1 j2 j3 j4 j5 hc => by
    refine ⟨_, frz_wf hm j4 hc, fun hw' => k v' _ _ hw' (hF.trans (subF_frzAll hc)) (by omega) ?_⟩
    have hFz := hF.trans (subF_frzAll (N := N) hc)
    have hel : (oldAt h t ++ fs).length ≤ 140737488351232 := by
      rw [List.length_append]
      have : (oldAt h t).length ≤ 1000000 := by
        unfold oldAt
        split
        · rename_i hth; rw [getD_at (there_lt hth)]; exact hm' _ (List.getElem_mem _)
        · simp
      omega
    have he : entD (frzAll F' M' N) [.int .u32 t, fv3] (t, oldAt h t ++ fs) := ⟨fv3, rfl, fcts_frzA hc j2 j3, hel⟩
    have hrow : rowsF (entD (frzAll F' M' N)) 2 (rows1 ++ [[.int .u32 t, fv3]] ++ rows.drop (upTo h t)) (withR h t fs) := by
      rw [← hwe]
      have := rows_app (rows_app (hr.mono fun _ _ h => h.mono hFz) (rowsF_snoc1 (rowsF.nil _ 2) he.one he)) (rows_drop (hv2.mono fun _ _ h => h.mono hFz) (upTo h t))
      simpa using this
    have hlen : (withR h t fs).length = s.1 + 1 + (h.drop (upTo h t)).length := by
      rw [← hwe, List.length_append, List.length_cons, List.length_take]; omega
    have hown : own M' N 52 2 v' (withR h t fs).length (rows1 ++ [[Value.int .u32 t, fv3]] ++ rows.drop (upTo h t)).flatten := by
      rw [hlen]
      have : (rows1 ++ [[Value.int .u32 t, fv3]] ++ rows.drop (upTo h t)).flatten = rows1.flatten ++ [.int .u32 t, fv3] ++ (rows.drop (upTo h t)).flatten := by simp
      rw [this]; exact j1
    exact ⟨_, hown.rd.frz hc (fun b hb => .inl (hown.ge b hb).1), hrow⟩
  have hr1 := hr.f1
  have hb0 := upd_same M1
  have box : ∀ b2, N1 ≤ b2 → ∀ M2, M2 = upd M1 b2 (some (.cells 52 [.int .u32 t, .slice none 0 0] 2)) → own M2 N 52 2 s.2 s.1 rows1.flatten ∧ M2 b2 = some (.cells 52 [.int .u32 t, .slice none 0 0] 2) ∧ clean M2 (b2 + 1) ∧ s.2.ownBlock ≠ some b2 ∧ ∀ q, q < N → M2 q = M q := fun b2 hb2 M2 e => by
    subst e
    exact ⟨ho.box hm1 hb2 _, upd_same _ _ _, hm1.new hb2 _, fun e => by have := ho.lt hm1 _ e; omega, fun q hq => (upd_ne _ _ (by omega)).trans (hM1 q hq)⟩
  refine lss_r (fun hlt => ?_) (fun hge => ?_)
  have i1 : s.1 < h.length := by omega
  have hxn : ¬ h[s.1].1 < t := fun hx => hst ⟨i1, fun _ => hx⟩
  try simp only [sS]
  refine fld_r hv1 hv2 (by decide) i1 (off := 0) (by decide) fun p q r x hR _ hx => ?_
  obtain ⟨ev, rfl, hev, hevl⟩ := hR
  have hxe : x = .int .u32 h[s.1].1 := by simpa using hx.symm
  subst hxe
  refine lss_f (by omega) ?_
  rotate_left
  all_goals
    try simp only [sS]
    refine pv_r (v := .agg #[.int .u32 t, .slice none 0 0]) (by kernel_rfl) ?_
    refine nw_r (fun b2 hb2 => ?_)
    refine stM (cs' := [.int .u32 t, .slice none 0 0]) ?_
    rw [upd_upd]
    obtain ⟨M2, hM2⟩ : ∃ M2, M2 = upd M1 b2 (some (.cells 52 [.int .u32 t, .slice none 0 0] 2)) := ⟨_, rfl⟩
    obtain ⟨q1, q2, q3, q4, q5⟩ := box b2 hb2 M2 hM2
    refine lenF_r hv1 ?_
  · have hth : there h t = false := there_out (by omega)
    rw [hth, if_neg (by decide), Nat.add_zero] at hup
    refine lss_f (by omega) ?_
    try simp only [sS]
    rw [t82_1_1_1_1_1_1]
    have e2 : upd M1 b2 (some (Chunk.cells 52 [Value.int .u32 t, Value.slice none 0 0] [Value.int .u32 0, Value.slice none 0 0].length)) = M2 := hM2.symm
    rw [e2]
    rw [hup] at fin
    have e3 : oldAt h t = [] := by unfold oldAt; rw [hth]; rfl
    rw [e3] at fin
    exact rwith_tail (old := []) (orows := []) (by omega) q3 q2 (by omega) q1 hr1 own.nil (rowsF.nil _ _) hv1 hv2 (by omega) (by omega) (by omega) hf hfl hk (by simp) q4 (by simp [Value.ownBlock]) (by simp [Value.ownBlock]) (fun v' F' M' N' fv3 frows a1 a2 a3 a4 a5 a6 a7 => fin v' F' M' N' fv3 frows a1 (by omega) a3 a4 a5 (fun q hq => (a6 q hq).trans (q5 q hq)) a7)
  · refine lss_t (by omega) ?_
    try simp only [sS]
    have e2 : upd M1 b2 (some (Chunk.cells 52 [Value.int .u32 t, Value.slice none 0 0] [Value.int .u32 0, Value.slice none 0 0].length)) = M2 := hM2.symm
    rw [e2]
    refine fld_r hv1 hv2 (by decide) i1 (off := 0) (by decide) fun p q r x hR _ hx => ?_
    obtain ⟨ev, rfl, hev, hevl⟩ := hR
    have hxe : x = .int .u32 h[s.1].1 := by simpa using hx.symm
    subst hxe
    refine eql_r (fun het => ?_) (fun het => ?_)
    · have hth : there h t = true := by rw [ht0 i1]; exact decide_eq_true het
      rw [hth, if_pos rfl] at hup
      try simp only [sS]
      refine fld_r hv1 hv2 (by decide) i1 (off := 1) (by decide) fun p q r x hR _ hx => ?_
      obtain ⟨ev, rfl, hev, hevl⟩ := hR
      have hxe : x = ev := by simpa using hx.symm
      subst hxe
      have hom := hm' _ (List.getElem_mem i1)
      refine rcopy_o hev (by omega) (hmk _ (List.getElem_mem i1)) (fun ov F4 M4 N4 orows hF4 hN4 c1 c2 c3 c4 c5 => ?_)
      have hb4 := (c3 b2 (by omega)).trans q2
      obtain ⟨oa, oc, oe, _⟩ := c1.form
      try simp only [sS]
      refine stM (cs' := [.int .u32 t, ov]) ?_ hb4 (by rw [oe]; rfl) (by rw [oe]; rfl) (by rw [oe]; exact List.all_eq_true.1 rfl)
      refine inc_r (by omega) ?_
      rw [t82_1_1_1_1_1_1]
      rw [hup] at fin
      have e3 : oldAt h t = h[s.1].2 := by unfold oldAt; rw [hth, if_pos rfl, ← hsp, getD_at i1]
      rw [e3] at fin
      have x4 : own (upd M4 b2 (some (.cells 52 [.int .u32 t, ov] 2))) N 52 2 s.2 s.1 rows1.flatten := q1.keep (fun q hq => (upd_ne _ _ (fun e => q4 (by rw [← e]; exact hq))).trans (c3 q (q1.lt q3 q hq))) (Nat.le_refl _)
      have x5 : own (upd M4 b2 (some (.cells 52 [.int .u32 t, ov] 2))) N 48 2 ov h[s.1].2.length orows.flatten := c1.keep (fun q hq => upd_ne _ _ (fun e => by have := (c1.ge q hq).1; omega)) (by omega)
      refine rwith_tail (old := h[s.1].2) (orows := orows) (by omega) (c4.set (by omega) _) (upd_same _ _ _) (by omega) x4 hr1 x5 c2 (hv1.mono hF4) (hv2.mono fun _ _ h => h.mono hF4) (by omega) (by omega) (by omega) (hf.mono hF4) hfl hk hom q4 (fun e => by have := (c1.ge _ e).1; omega) (fun q hq e => by have := (c1.ge q e).1; have := q1.lt q3 q hq; omega) (fun v' F' M' N' fv3 frows a1 a2 a3 a4 a5 a6 a7 => fin v' F' M' N' fv3 frows (hF4.trans a1) (by omega) a3 a4 a5 (fun q hq => (a6 q hq).trans ((upd_ne _ _ (by omega)).trans ((c3 q (by omega)).trans (q5 q hq)))) a7)
    · have hth : there h t = false := by rw [ht0 i1]; exact decide_eq_false het
      rw [hth, if_neg (by decide), Nat.add_zero] at hup
      try simp only [sS]
      rw [t82_1_1_1_1_1_1]
      rw [hup] at fin
      have e3 : oldAt h t = [] := by unfold oldAt; rw [hth]; rfl
      rw [e3] at fin
      exact rwith_tail (old := []) (orows := []) (by omega) q3 q2 (by omega) q1 hr1 own.nil (rowsF.nil _ _) hv1 hv2 (by omega) (by omega) (by omega) hf hfl hk (by simp) q4 (by simp [Value.ownBlock]) (by simp [Value.ownBlock]) (fun v' F' M' N' fv3 frows a1 a2 a3 a4 a5 a6 a7 => fin v' F' M' N' fv3 frows a1 (by omega) a3 a4 a5 (fun q hq => (a6 q hq).trans (q5 q hq)) a7)
end Go.Proofs.YtgjdjdjhoipfmaaGreatDoor.A
open Go Go.RowKit Go.Proofs.YtgjdjdjhoipfmaaGreatDoor.K Go.Proofs.YtgjdjdjhoipfmaaGreatDoor.T
set_option linter.unusedVariables false
set_option linter.unusedSimpArgs false
namespace Go.Proofs.YtgjdjdjhoipfmaaGreatDoor.A
variable {F F' : Nat → Option (List Value)} {M M' : Nat → Option Chunk} {N N' : Nat} {K : Kont} {E : PanK}
theorem there_mem {h : List En} {t : Int} (hs : risen h) : there h t = true ↔ ∃ e ∈ h, e.1 = t := by
  constructor
  · intro ht
    have hi := there_lt ht
    rw [there_in hi] at ht
    exact ⟨_, List.getElem_mem hi, of_decide_eq_true ht⟩
  · rintro ⟨e, he, het⟩
    obtain ⟨i, hi, rfl⟩ := List.mem_iff_getElem.1 he
    have e1 : i = place h t := by
      rcases Nat.lt_trichotomy i (place h t) with h1 | h1 | h1
      · have := place_lt hi h1; omega
      · exact h1
      · have hp : place h t < h.length := by omega
        have h2 := place_ge (t := t) hs hp (Nat.le_refl _)
        have h3 := List.pairwise_iff_getElem.1 hs (place h t) i hp hi h1
        omega
    subst e1
    rw [there_in hi]; exact decide_eq_true het
set_option maxRecDepth 10000 in
theorem rnew_c {v : Value} {l : List Dm} (hv : dimsD F v l) (hl : l.length ≤ 140737488351232)
    (k1 : okDims l = false → ∀ N', N ≤ N' → (Hp.mk F M N').wf → K (.pointer none) ⟨F, M, N'⟩)
    (k2 : okDims l = true → ∀ g dv F' M' N', subF F F' → isRef F' M' g dv (.slice none 0 0) l [] → N ≤ g → (∀ q, q < N → M' q = M q) → N ≤ N' → clean M' N' → (Hp.mk F' M' N').wf → K (.pointer (some ⟨g, 0, none⟩)) ⟨F', M', N'⟩) :
    callv Tryz.prog (.func (.func 22) #[] #[]) #[v] K E ⟨F, M, N⟩ := by
  refine callv_of_text mixed Tryz.func22 (by kernel_rfl) (t22 _ E _) (fun hw => ?_)
  have hm : clean M N := hw.m
  have hlv : lenV v = some (.int .i64 (l.length : Nat)) := by obtain ⟨a, c, e⟩ := hv.form; rw [e]; rfl
  refine rdsound_c hv hl (fun N1 hN1 hw1 => ?_)
  cases hok : okDims l
  · try simp only [sS]
    exact fun hc => ⟨_, wk_refl hc, fun hw' => k1 hok _ hN1 hw'⟩
  have hl4 := okDims_len hok
  try simp only [sS]
  refine pv_r (v := .agg #[.slice none 0 0, .slice none 0 0]) (by kernel_rfl) ?_
  refine nw_r (cs := [.slice none 0 0, .slice none 0 0]) (fun g hg => ?_)
  obtain ⟨drs, hv1, hv2⟩ := hv
  refine l22_1_1_1_0_1_0_0 (σ := Nat) (fun i => .int .i64 (i : Nat))
    (fun i h => ∃ F' M' N' dv rows, h = ⟨F', M', N'⟩ ∧ subF F F' ∧ g < N' ∧ (∀ q, q < N → M' q = M q) ∧ clean M' N' ∧ i ≤ l.length ∧ M' g = some (.cells 102 [dv, .slice none 0 0] 2) ∧ own M' (g + 1) 74 2 dv i rows.flatten ∧ rowsF (dimD F') 2 rows (l.take i)) (fun i => l.length - i) 0 rfl
    (fun hw2 => ⟨_, wk_refl hw2, F, _, g + 1, .slice none 0 0, [], rfl, subF.refl _, Nat.lt_succ_self _, fun q hq => upd_ne _ _ (by omega), (hm.up hN1).new hg _, Nat.zero_le _, upd_same _ _ _, own.nil, rowsF.nil _ _⟩) (fun kk i j h1 hI hw2 next => ?_)
  rw [t22_1_1_1_0_1_0_0]
  obtain ⟨F1, M1, N2, dv, rows, rfl, hF1, hgN, hM1, hm1, hi, hbox, ho, hr⟩ := hI
  refine pv_r hlv ?_
  refine lss_r (fun hlt => ?_) (fun hge => ?_)
  · have i1 : i < l.length := by omega
    have hdl := okDim_div (okDims_all hok _ (List.getElem_mem i1))
    try simp only [sS]
    refine fld_r (hv1.mono hF1) (hv2.mono fun _ _ h => h.mono hF1) (by decide) i1 (off := 1) (by decide) fun p q r x hR _ hx => ?_
    obtain ⟨kv, rfl, hkv, hkl⟩ := hR
    have hx' : x = kv := by simpa using hx.symm
    subst hx'
    refine (own.nil (B := N2)).app (n := 0) (m := l[i].2.length) (cs := []) hm1 (Nat.le_refl _) hkv.sR (ints_one _) (by omega) (by unfold maxLen; omega) (fun kv2 M2 N3 ok1 hfr hN3 hm2 => ?_)
    rw [Nat.zero_add, List.nil_append] at ok1
    have hg2 := (hfr g (by simp [Value.ownBlock]) hgN).1.trans hbox
    refine ldM (v := dv) ?_ hg2
    refine fld_r (hv1.mono hF1) (hv2.mono fun _ _ h => h.mono hF1) (by decide) i1 (off := 0) (by decide) fun p q r y hR _ hy => ?_
    obtain ⟨kv3, rfl, hkv3, hkl3⟩ := hR
    have hy' : y = .int .i64 l[i].1 := by simpa using hy.symm
    subst hy'
    obtain ⟨ka, kc, hkf, _⟩ := ok1.form
    have ho2 : own M2 (g + 1) 74 2 dv i rows.flatten := ho.keep (fun q hq => (hfr q (by simp [Value.ownBlock]) (ho.lt hm1 q hq)).1) (Nat.le_refl _)
    have hM2 : ∀ q, q < N → M2 q = M q := fun q hq => ((hfr q (by simp [Value.ownBlock]) (by omega)).1).trans (hM1 q hq)
    have hne : ∀ q, kv2.ownBlock = some q → dv.ownBlock ≠ some q := fun q hq e => by have := (ok1.ge q hq).1; have := ho.lt hm1 q e; omega
    refine pv_r (v := .agg #[.int .i64 l[i].1, kv2]) (by rw [hkf]; kernel_rfl) ?_
    refine nws_r (cs := [.int .i64 l[i].1, kv2]) (by rw [hkf]; kernel_rfl) (fun b4 hb4 => ?_)
    obtain ⟨M4, hM4e⟩ : ∃ M4, M4 = upd M2 b4 (some (.cells 74 [.int .i64 l[i].1, kv2] [Value.int .i64 l[i].1, kv2].length)) := ⟨_, rfl⟩
    rw [← hM4e]
    have hb4e : M4 b4 = some (.cells 74 [.int .i64 l[i].1, kv2] 2) := by rw [hM4e]; exact upd_same _ _ _
    have hg4 : M4 g = some (.cells 102 [dv, .slice none 0 0] 2) := by rw [hM4e]; exact (upd_ne _ _ (by omega)).trans hg2
    have ho4 : own M4 (g + 1) 74 2 dv i rows.flatten := by rw [hM4e]; exact ho2.box hm2 hb4 _
    have ok4 : own M4 N2 3 1 kv2 l[i].2.length (ic l[i].2) := by rw [hM4e]; exact ok1.box hm2 hb4 _
    have hm4 : clean M4 (b4 + 1) := by rw [hM4e]; exact hm2.new hb4 _
    have hM4 : ∀ q, q < N → M4 q = M q := fun q hq => by rw [hM4e]; exact (upd_ne _ _ (by omega)).trans (hM2 q hq)
    clear hM4e
    refine ⟨ldV_c (row_M hg4) rfl, ?_⟩
    refine ho4.app (m := 1) (news := [.int .i64 l[i].1, kv2]) hm4 (by omega) ⟨rfl, .inr ⟨b4, 0, 1, _, rfl, Nat.le_refl _, .inr ⟨_, _, hb4e⟩, rfl⟩⟩ (by rw [hkf]; exact List.all_eq_true.1 rfl) (by omega) (by unfold maxLen; omega) (fun dv' M5 N5 g1 g2 g3 g4 => ?_)
    have hgd : dv.ownBlock ≠ some g := fun e => by have := (ho4.ge g e).1; omega
    obtain ⟨y1, y2⟩ := g2 g hgd (by omega)
    obtain ⟨ok5, hne5⟩ := ok4.far g2 hm4 hne
    obtain ⟨a5, c5, e5, _⟩ := g1.form
    have hkg : ∀ q, kv2.ownBlock = some q → q ≠ g := fun q hq e => by have := (ok1.ge q hq).1; omega
    try simp only [sS]
    refine stM (cs' := [dv', .slice none 0 0]) ?_ (y1.trans hg4) (by rw [e5]; rfl) (by rw [e5]; rfl) (by rw [e5]; exact List.all_eq_true.1 rfl)
    refine inc_r (by omega) ?_
    have ok6 : own (upd M5 g (some (.cells 102 [dv', .slice none 0 0] 2))) N2 3 1 kv2 l[i].2.length (ic l[i].2) := ok5.keep (fun q hq => upd_ne _ _ (hkg q hq)) (Nat.le_refl _)
    refine next (i + 1) _ _ (by omega) (fun hw6 => ⟨_, wk_P (p := fun q => kv2.ownBlock = some q) hw6, _, _, N5, dv', rows ++ [[.int .i64 l[i].1, kv2]], rfl, hF1.trans (subF_frzP hw6), by omega, fun q hq => ?_, keepM_clean (g4.set (by omega) _), i1, ?_, ?_, ?_⟩)
    · have q1 : ¬ kv2.ownBlock = some q := fun e => by have := (ok1.ge q e).1; omega
      exact (keepM_in q1).trans ((upd_ne _ _ (by omega)).trans (((g2 q (fun e => by have := (ho4.ge q e).1; omega) (by omega)).1).trans (hM4 q hq)))
    · exact (keepM_in (fun e => hkg g e rfl)).trans (upd_same _ _ _)
    · refine own.keep (M := M5) ?_ (fun q hq => (keepM_in (fun e => hne5 q e hq)).trans (upd_ne _ _ (fun e => y2 (e ▸ hq)))) (Nat.le_refl _)
      simpa using g1
    · rw [List.take_add_one, List.getElem?_eq_getElem i1, Option.toList_some]
      have h1f : dimD (frzP F1 (upd M5 g (some (.cells 102 [dv', .slice none 0 0] 2))) (fun q => kv2.ownBlock = some q)) [.int .i64 l[i].1, kv2] l[i] := ⟨kv2, rfl, ok6.frzP (fun q h => h), hkl⟩
      exact rowsF_snoc1 (hr.mono fun _ _ h => h.mono (subF_frzP hw6)) h1f.one h1f
  · try simp only [sS]
    rw [show i = l.length by omega] at ho
    rw [List.take_of_length_le (by omega)] at hr
    have hne : ¬ dv.ownBlock = some g := fun e => by have := (ho.ge g e).1; omega
    refine fun hc => ⟨_, wk_P (p := fun q => dv.ownBlock = some q) hc, fun hw' => k2 hok g dv _ _ N2 (hF1.trans (subF_frzP hc)) ⟨(keepM_in hne).trans hbox, ⟨rows, ho.frzP (fun q h => h), hr.mono fun _ _ h => h.mono (subF_frzP hc)⟩, entsD.nil⟩ (by omega) (fun q hq => (keepM_in (fun e => by have := (ho.ge q e).1; omega)).trans (hM1 q hq)) (by omega) (keepM_clean hm1) hw'⟩
set_option maxRecDepth 10000 in
theorem radd_c {g : Nat} {dv lv fv : Value} {l : List Dm} {h : List En} {t : Int} {fs : List Fc} (hC : isRef F M g dv lv l h) (o : okH l 5000 200 h) (hdl : l.length ≤ 1000) (hf : fctsD F fv fs) (hfl : fs.length ≤ 140737488351232)
    (k : ∀ lv' F' M' N', subF F F' → isRef F' M' g dv lv' l (addH l h t fs) → (∀ q, q ≠ g → M' q = M q) → N ≤ N' → (Hp.mk F' M' N').wf → K (.int .i64 ((addE l h t fs : Nat) : Int)) ⟨F', M', N'⟩) :
    callv Tryz.prog (.func (.func 44) #[] #[]) #[.pointer (some ⟨g, 0, none⟩), .int .u32 t, fv] K E ⟨F, M, N⟩ := by
  refine callv_of_text mixed Tryz.func44 (by kernel_rfl) (t44 _ E _ _ _) (fun hw => ?_)
  have hm : clean M N := hw.m
  have hol := o.le
  have hlv : lenV lv = some (.int .i64 (h.length : Nat)) := by obtain ⟨a, c, e⟩ := hC.ll.form; rw [e]; rfl
  have fin : ∀ n : Nat, n ≠ 0 → n = addE l h t fs → ∀ N', N ≤ N' → ∀ h', h' = (⟨F, M, N'⟩ : Hp) → h'.wf → ∃ h'', h'.wk h'' ∧ (h''.wf → K (.int .i64 ((n : Nat) : Int)) h'') := fun n n0 e N' hN h' e' hc => by
    subst e'
    refine ⟨_, wk_refl hc, fun hw' => ?_⟩
    rw [e]
    refine k lv F M N' (subF.refl _) ?_ (fun _ _ => rfl) hN hw'
    unfold addH; rw [if_neg (by omega)]; exact hC
  refine rfits_c hC.gg hC.dd (by omega) hf hfl (fun N1 hN1 hw1 => ?_)
  cases h1 : fitsF l fs
  · try simp only [sS]
    exact fin 1 (by decide) (by unfold addE; rw [if_pos h1]) N1 hN1 _ rfl
  obtain ⟨f1, f2⟩ := fitsF_of h1
  try simp only [sS]
  refine eql_r (fun h2 => ?_) (fun h2 => ?_)
  · try simp only [sS]
    exact fin 130 (by decide) (by unfold addE; rw [if_neg (by rw [h1]; decide), if_pos (.inl h2)]) N1 hN1 _ rfl
  try simp only [sS]
  have hll := hC.ll
  obtain ⟨erows, hl1, hl2⟩ := hll
  refine l44_1_1_1_0_1_0_0 (σ := Nat) (fun i => .int .i64 (i : Nat)) (fun i h' => h' = ⟨F, M, N1⟩ ∧ i ≤ h.length ∧ ∀ e ∈ h.take i, e.1 ≠ t) (fun i => h.length - i) 0 rfl
    (fun hw2 => ⟨_, wk_refl hw2, rfl, Nat.zero_le _, by simp⟩) (fun kk i j h1' hI hw2 next => ?_)
  rw [t44_1_1_1_0_1_0_0]
  obtain ⟨rfl, hi, he⟩ := hI
  try simp only [sS]
  refine ldM (v := lv) ?_ hC.gg
  refine pv_r hlv ?_
  refine lss_r (fun hlt => ?_) (fun hge => ?_)
  · have i1 : i < h.length := by omega
    try simp only [sS]
    refine ldM (v := lv) ?_ hC.gg
    refine fld_r hl1 hl2 (by decide) i1 (off := 0) (by decide) fun p q r x hR _ hx => ?_
    obtain ⟨ev, rfl, hev, hevl⟩ := hR
    have hxe : x = .int .u32 h[i].1 := by simpa using hx.symm
    subst hxe
    refine eql_r (fun h3 => ?_) (fun h3 => ?_)
    · try simp only [sS]
      exact fin 130 (by decide) (by unfold addE; rw [if_neg (by rw [h1]; decide), if_pos (.inr ((there_mem o.rs).2 ⟨_, List.getElem_mem i1, h3⟩))]) N1 hN1 _ rfl
    · try simp only [sS]
      refine inc_r (by omega) ?_
      refine next (i + 1) _ _ (by omega) (fun hw3 => ⟨_, wk_refl hw3, rfl, i1, fun e hx => ?_⟩)
      rw [List.take_add_one, List.getElem?_eq_getElem i1, Option.toList_some] at hx
      rcases List.mem_append.1 hx with hx | hx
      · exact he e hx
      · rw [List.mem_singleton.1 hx]; exact h3
  · try simp only [sS]
    rw [List.take_of_length_le (by omega)] at he
    have hth : there h t = false := by
      cases hq : there h t
      · rfl
      · obtain ⟨e, hx, hy⟩ := (there_mem o.rs).1 hq
        exact absurd hy (he e hx)
    try simp only [sS]
    refine ldM (v := lv) ?_ hC.gg
    refine pv_r hlv ?_
    refine geq_r (fun h4 => ?_) (fun h4 => ?_)
    · try simp only [sS]
      exact fin 3 (by decide) (by unfold addE; rw [if_neg (by rw [h1]; decide), if_neg (by rintro (q | q); exact h2 q; rw [hth] at q; cases q), if_pos (by omega)]) N1 hN1 _ rfl
    · have e0 : addE l h t fs = 0 := addE_zero h1 h2 hth (by omega)
      try simp only [sS]
      refine ldM (v := lv) ?_ hC.gg
      refine rwith_c hC.ll o.rs (by omega) (fun e hx => by have := o.fl e hx; omega) (fun e hx => o.keys hdl hx) hf (by omega) (fun f hx => by have := inF_len (f2 f hx); omega) (fun v' F3 N3 hw3 hF3 hN3 hv3 => ?_)
      obtain ⟨a, c, e⟩ := hv3.form
      try simp only [sS]
      refine stM (cs' := [dv, v']) ?_ hC.gg (by rw [e]; rfl) (by rw [e]; rfl) (by rw [e]; exact List.all_eq_true.1 rfl)
      refine fun hc => ⟨_, wk_refl hc, fun hw' => ?_⟩
      rw [e0] at k
      refine k v' F3 _ N3 hF3 ?_ (fun q hq => upd_ne _ _ hq) (by omega) hw'
      rw [addH_eq e0]
      exact ⟨upd_same _ _ _, hC.dd.mono hF3, hv3⟩
end Go.Proofs.YtgjdjdjhoipfmaaGreatDoor.A
open Go Go.RowKit Go.Proofs.YtgjdjdjhoipfmaaGreatDoor.K Go.Proofs.YtgjdjdjhoipfmaaGreatDoor.T
set_option linter.unusedVariables false
set_option linter.unusedSimpArgs false
namespace Go.Proofs.YtgjdjdjhoipfmaaGreatDoor.A
variable {F F' : Nat → Option (List Value)} {M M' : Nat → Option Chunk} {N N' : Nat} {K : Kont} {E : PanK}
theorem rinR_c {a b : Int} {cs : List Value} {f : Fc} (hf : fctD F cs f) (k : ∀ N', N ≤ N' → (Hp.mk F M N').wf → K (.bool (inR a b f)) ⟨F, M, N'⟩) :
    callv Tryz.prog (.func (.func 54) #[] #[]) #[.agg cs.toArray, .int .i64 a, .int .i64 b] K E ⟨F, M, N⟩ := by
  obtain ⟨kv, rfl, hkv, hkl⟩ := hf
  refine callv_of_text mixed Tryz.func54 (by kernel_rfl) (t54 _ E _ _ _) (fun hw => ?_)
  have hm : clean M N := hw.m
  have fin : ∀ b1, N ≤ b1 → ∀ r : Bool, r = inR a b f → ∀ h', h' = (⟨F, upd M b1 (some (.cells 48 [kv, .int .i64 f.2] 2)), b1 + 1⟩ : Hp) → h'.wf → ∃ h'', h'.wk h'' ∧ (h''.wf → K (.bool r) h'') := fun b1 hb1 r e h' e' hc => by
    subst e'
    refine ⟨⟨F, M, b1 + 1⟩, wk_drop hc (subM_drop (subM_refl _) (hm _ hb1)), fun hw' => ?_⟩
    rw [e]; exact k _ (by omega) hw'
  refine nw_r (cs := [kv, .int .i64 f.2]) (fun b1 hb1 => ?_)
  have hb := upd_same M b1 (some (.cells 48 [kv, .int .i64 f.2] 2))
  try simp only [sS]
  refine ldM (v := kv) ?_ hb
  refine lenF_r hkv ?_
  refine gtr_r (fun h0 => ?_) (fun h0 => ?_)
  · have hl : 0 < f.1.length := by omega
    try simp only [sS]
    refine ldM (v := kv) ?_ hb
    refine ixn_r (i := 0) hkv hl fun p => ?_
    have e0 : f.1.getD 0 0 = f.1[0] := getD_at hl 0
    refine geq_r (fun h1 => ?_) (fun h1 => ?_)
    · try simp only [sS]
      refine ldM (v := kv) ?_ hb
      refine ixn_r (i := 0) hkv hl fun p => ?_
      refine lss_r (fun h2 => ?_) (fun h2 => ?_)
      · try simp only [sS]
        exact fin b1 hb1 true (by unfold inR; rw [decide_eq_true ⟨hl, by omega, by omega⟩]) _ rfl
      · try simp only [sS]
        exact fin b1 hb1 false (by unfold inR; rw [decide_eq_false (by omega)]) _ rfl
    · try simp only [sS]
      exact fin b1 hb1 false (by unfold inR; rw [decide_eq_false (by omega)]) _ rfl
  · try simp only [sS]
    exact fin b1 hb1 false (by unfold inR; rw [decide_eq_false (by omega)]) _ rfl
theorem fldV_r {α : Type} {R : List Value → α → Prop} {sz : Nat} {v : Value} {l : List α} {rows : List (List Value)} {K : Value → Value → Kont} (hv : sF F sz v l.length rows.flatten) (hr : rowsF R sz rows l) (hz : 0 < sz) {i : Nat} (hi : i < l.length) {off : Nat} (ho : off < sz)
    (k : ∀ p q r x, R r l[i] → r.length = sz → r[off]? = some x → (∀ F' M' N', subF F F' → ldV ⟨F', M', N'⟩ false 1 q x) → K p q x ⟨F, M, N⟩) : pv (iaV none sz v (.int .i64 (i : Nat))) (fun p => pv (faV off p) fun q => ld false 1 q (K p q)) ⟨F, M, N⟩ := by
  obtain ⟨b, o, c, cs, r, rfl, hF, _, hR, hl, h1, hle, ht, hj⟩ := row_at hv hr hz hi
  have hx : r[off]? = some (r[off]'(by omega)) := List.getElem?_eq_getElem _
  exact iaN_r hi (pv_r rfl (ld_r (ldV_c (row_F hF) ((hj off ho).trans hx)) (k _ _ r _ hR hl hx (fun F' M' N' hs => ldV_c (row_F (hs _ _ hF)) ((hj off ho).trans hx)))))
theorem filter_take {α : Type} (p : α → Bool) (l : List α) {i : Nat} (hi : i < l.length) : (l.take (i + 1)).filter p = (l.take i).filter p ++ (if p l[i] = true then [l[i]] else []) := by
  rw [List.take_add_one, List.getElem?_eq_getElem hi, Option.toList_some, List.filter_append]
  by_cases h : p l[i] = true <;> simp [h]
theorem filter_le {α : Type} (p : α → Bool) (l : List α) (i : Nat) : ((l.take i).filter p).length ≤ i := by
  have := List.length_filter_le p (l.take i)
  rw [List.length_take] at this; omega
theorem entD.at {cs : List Value} {e : En} (h : entD F cs e) : ∃ v, cs = [.int .u32 e.1, v] ∧ fctsD F v e.2 := let ⟨v, h1, h2, _⟩ := h; ⟨v, h1, h2⟩
set_option maxRecDepth 10000 in
set_option maxHeartbeats 2000000 in
theorem rents_c {g : Nat} {dv lv : Value} {l : List Dm} {h : List En} {a b : Int} (hC : isRef F M g dv lv l h) (o : okH l 5000 200 h) (hdl : l.length ≤ 1000)
    (k : ∀ v' F' N', (Hp.mk F' M N').wf → subF F F' → N ≤ N' → entsD F' v' (entF a b h) → K v' ⟨F', M, N'⟩) :
    callv Tryz.prog (.func (.func 28) #[] #[]) #[.pointer (some ⟨g, 0, none⟩), .int .i64 a, .int .i64 b] K E ⟨F, M, N⟩ := by
  refine callv_of_text mixed Tryz.func28 (by kernel_rfl) (t28 _ E _ _ _) (fun hw => ?_)
  have hm : clean M N := hw.m
  have hgN := hm.lt hC.gg
  have hol := o.le
  have hlv : lenV lv = some (.int .i64 (h.length : Nat)) := by obtain ⟨x, c, e⟩ := hC.ll.form; rw [e]; rfl
  have hll := hC.ll
  obtain ⟨erows, hl1, hl2⟩ := hll
  refine l28_1_1_0_1_0_0 (σ := Nat × Value) (fun s => s.2) (fun s => .int .i64 (s.1 : Nat))
    (fun s h' => ∃ F' M' N' rows', h' = ⟨F', M', N'⟩ ∧ subF F F' ∧ N ≤ N' ∧ (∀ q, q < N → M' q = M q) ∧ clean M' N' ∧ s.1 ≤ h.length ∧ own M' N 52 2 s.2 (entF a b (h.take s.1)).length rows'.flatten ∧ rowsF (entD F') 2 rows' (entF a b (h.take s.1))) (fun s => h.length - s.1) (0, .slice none 0 0) rfl rfl
    (fun hw2 => ⟨_, wk_refl hw2, F, M, N, [], rfl, subF.refl _, Nat.le_refl _, fun _ _ => rfl, hm, Nat.zero_le _, own.nil, rowsF.nil _ _⟩) (fun kk s j h1 hI hw2 next => ?_)
  rw [t28_1_1_0_1_0_0]
  obtain ⟨F1, M1, N1, rows1, rfl, hF1, hN1, hM1, hm1, hi, ho, hr⟩ := hI
  have hg1 := (hM1 g hgN).trans hC.gg
  try simp only [sS]
  refine ldM (v := lv) ?_ hg1
  refine pv_r hlv ?_
  refine lss_r (fun hlt => ?_) (fun hge => ?_)
  · have i1 : s.1 < h.length := by omega
    have e1 := take_fm (entE a b) h i1
    have hle : (entF a b (h.take s.1)).length ≤ s.1 := fm_len (entE a b) h s.1
    have hfm := o.fl _ (List.getElem_mem i1)
    try simp only [sS]
    refine l28_1_1_0_1_0_0_1_0_0_1_0_1_0_0 (σ := Nat × Value) (fun q => q.2) (fun q => .int .i64 (q.1 : Nat))
      (fun q h' => ∃ M' N' frows, h' = ⟨F1, M', N'⟩ ∧ N1 ≤ N' ∧ (∀ x, x < N1 → M' x = M1 x) ∧ clean M' N' ∧ q.1 ≤ h[s.1].2.length ∧ own M' N1 48 2 q.2 ((h[s.1].2.take q.1).filter (inR a b)).length frows.flatten ∧ rowsF (fctD F1) 2 frows ((h[s.1].2.take q.1).filter (inR a b))) (fun q => h[s.1].2.length - q.1) (0, .slice none 0 0) rfl rfl
      (fun hw3 => ⟨_, wk_refl hw3, M1, N1, [], rfl, Nat.le_refl _, fun _ _ => rfl, hm1, Nat.zero_le _, own.nil, rowsF.nil _ _⟩) (fun kk2 q j2 h2 hI2 hw3 next2 => ?_)
    rw [t28_1_1_0_1_0_0_1_0_0_1_0_1_0_0]
    obtain ⟨M2, N2, frows, rfl, hN2, hM2, hm2, hq, hof, hfr⟩ := hI2
    have hg2 := (hM2 g (by omega)).trans hg1
    have hle2 := filter_le (inR a b) h[s.1].2 q.1
    try simp only [sS]
    refine ldM (v := lv) ?_ hg2
    refine fld_r (hl1.mono hF1) (hl2.mono fun _ _ h => h.mono hF1) (by decide) i1 (off := 1) (by decide) fun p z r x hR _ hx => ?_
    obtain ⟨fv, rfl, hfv⟩ := hR.at
    have hx' : x = fv := by simpa using hx.symm
    subst hx'
    obtain ⟨orows, hfv1, hfv2⟩ := hfv
    refine lenF_r hfv1 ?_
    refine lss_r (fun hlt2 => ?_) (fun hge2 => ?_)
    · have q1 : q.1 < h[s.1].2.length := by omega
      have ef := filter_take (inR a b) h[s.1].2 q1
      try simp only [sS]
      refine ldM (v := lv) ?_ hg2
      refine fld_r (hl1.mono hF1) (hl2.mono fun _ _ h => h.mono hF1) (by decide) i1 (off := 1) (by decide) fun p z r y hR _ hy => ?_
      obtain ⟨fv, rfl, hfv⟩ := hR.at
      have hy' : y = fv := by simpa using hy.symm
      subst hy'
      obtain ⟨orows, hfv1, hfv2⟩ := hfv
      refine row_r hfv1 hfv2 (by decide) q1 (fun p r _ hR hrl hr1 => ?_)
      refine rinR_c hR (fun N3 hN3 hw4 => ?_)
      cases hp : inR a b h[s.1].2[q.1]
      · try simp only [sS]
        rw [t28_1_1_0_1_0_0_1_0_0_1_0_1_0_0_1_1]
        refine inc_r (by omega) ?_
        rw [hp, if_neg (by decide), List.append_nil] at ef
        refine next2 (q.1 + 1, q.2) _ _ (by simp only; omega) (fun hw5 => ⟨_, wk_refl hw5, M2, N3, frows, rfl, by omega, hM2, hw4.m, q1, ?_, ?_⟩)
        · simp only
          rw [ef]; exact hof
        · simp only
          rw [ef]; exact hfr
      · try simp only [sS]
        rw [hp, if_pos rfl] at ef
        refine ldM (v := lv) ?_ hg2
        refine fld_r (hl1.mono hF1) (hl2.mono fun _ _ h => h.mono hF1) (by decide) i1 (off := 1) (by decide) fun p z r y hR _ hy => ?_
        obtain ⟨fv, rfl, hfv⟩ := hR.at
        have hy' : y = fv := by simpa using hy.symm
        subst hy'
        obtain ⟨orows, hfv1, hfv2⟩ := hfv
        refine row_r hfv1 hfv2 (by decide) q1 (fun p r _ hR hrl hr1 => ?_)
        have hR' := hR
        obtain ⟨kv, hre, hkv, hkl⟩ := hR
        subst hre
        obtain ⟨ka, kc, kf, _⟩ := hkv.form
        refine push_r (new := [kv, .int .i64 h[s.1].2[q.1].2]) hof hw4.m (by omega) (by rw [kf]; kernel_rfl) rfl hr1 (by omega) (by unfold maxLen; omega) (fun p v' M4 N4 g1 g2 g3 g4 => ?_)
        rw [t28_1_1_0_1_0_0_1_0_0_1_0_1_0_0_1_1]
        refine inc_r (by omega) ?_
        refine next2 (q.1 + 1, v') _ _ (by simp only; omega) (fun hw5 => ⟨_, wk_refl hw5, M4, N4, frows ++ [[kv, .int .i64 h[s.1].2[q.1].2]], rfl, by omega, fun x hx => ?_, g4, q1, ?_, ?_⟩)
        · exact ((g2 x (fun e => by have := (hof.ge x e).1; omega) (by omega)).1).trans (hM2 x hx)
        · simp only
          rw [ef, List.length_append, List.length_singleton]
          exact (by simpa using g1 : own M4 N1 48 2 v' _ (frows ++ [[kv, .int .i64 h[s.1].2[q.1].2]]).flatten)
        · simp only
          rw [ef]; exact rowsF_snoc1 hfr hR'.one hR'
    · try simp only [sS]
      rw [List.take_of_length_le (by omega)] at hof hfr
      have hflen : (h[s.1].2.filter (inR a b)).length ≤ 200 := by have := List.length_filter_le (inR a b) h[s.1].2; omega
      have hlq : lenV q.2 = some (.int .i64 ((h[s.1].2.filter (inR a b)).length : Nat)) := by obtain ⟨x, c, e, _⟩ := hof.form; rw [e]; rfl
      refine pv_r hlq ?_
      refine gtr_r (fun h0 => ?_) (fun h0 => ?_)
      · have e2 : entF a b (h.take (s.1 + 1)) = entF a b (h.take s.1) ++ [(h[s.1].1, h[s.1].2.filter (inR a b))] := by
          unfold entF
          rw [e1]
          unfold entE
          rw [if_pos (by omega)]; rfl
        try simp only [sS]
        refine ldM (v := lv) ?_ hg2
        refine fldV_r (hl1.mono hF1) (hl2.mono fun _ _ h => h.mono hF1) (by decide) i1 (off := 0) (by decide) fun p z r y hR _ hy hld => ?_
        obtain ⟨fv, rfl, hfv⟩ := hR.at
        have hy' : y = .int .u32 h[s.1].1 := by simpa using hy.symm
        subst hy'
        refine callv_go (fun hc => ⟨_, wk_P (p := fun x => q.2.ownBlock = some x) hc, ?_⟩)
        have hs3 := subF_frzP (p := fun x => q.2.ownBlock = some x) hc
        have hff : fctsD (frzP F1 M2 (fun x => q.2.ownBlock = some x)) q.2 (h[s.1].2.filter (inR a b)) := ⟨frows, hof.frzP (fun x h => h), hfr.mono fun _ _ h => h.mono hs3⟩
        have hMK : ∀ x, x < N1 → keepM M2 (fun x => ¬ q.2.ownBlock = some x) x = M1 x := fun x hx => (keepM_in (fun e => by have := (hof.ge x e).1; omega)).trans (hM2 x hx)
        have hmK : clean (keepM M2 (fun x => ¬ q.2.ownBlock = some x)) N2 := keepM_clean hm2
        generalize frzP F1 M2 _ = F3 at *
        generalize keepM M2 _ = M3 at *
        clear hc
        have hg3 := (hMK g (by omega)).trans hg1
        refine rcopy_c hff (by omega) (fun f hf => o.keys hdl (List.getElem_mem i1) f (List.mem_filter.1 hf).1) (fun v9 F4 N4 hw4 hF4 hN4 h9 => ?_)
        refine ⟨hld _ _ _ (hs3.trans hF4), ldV_c (row_M hg3) rfl, ?_⟩
        obtain ⟨a9, c9, e9⟩ := h9.form
        have he9 : entD F4 [.int .u32 h[s.1].1, v9] (h[s.1].1, h[s.1].2.filter (inR a b)) := ⟨v9, rfl, h9, by simp only; omega⟩
        have ho3 : own M3 N 52 2 s.2 (entF a b (h.take s.1)).length rows1.flatten := ho.keep (fun x hx => hMK x (ho.lt hm1 x hx)) (Nat.le_refl _)
        refine pv_r (v := .agg #[.int .u32 h[s.1].1, v9]) (by rw [e9]; kernel_rfl) ?_
        refine push_r (new := [.int .u32 h[s.1].1, v9]) ho3 hw4.m (by omega) (by rw [e9]; kernel_rfl) rfl he9.one.2 (by omega) (by unfold maxLen; omega) (fun p v' M5 N5 g1 g2 g3 g4 => ?_)
        rw [t28_1_1_0_1_0_0_1_1]
        refine inc_r (by omega) ?_
        have F14 := hs3.trans hF4
        refine next (s.1 + 1, v') _ _ (by simp only; omega) (fun hw5 => ⟨_, wk_refl hw5, F4, M5, N5, rows1 ++ [[.int .u32 h[s.1].1, v9]], rfl, hF1.trans F14, by omega, fun x hx => ?_, g4, i1, ?_, ?_⟩)
        · rw [(g2 x (fun e => by have := (ho3.ge x e).1; omega) (by omega)).1, hMK x (by omega), hM1 x hx]
        · simp only
          rw [e2, List.length_append, List.length_singleton]
          exact (by simpa using g1 : own M5 N 52 2 v' _ (rows1 ++ [[.int .u32 h[s.1].1, v9]]).flatten)
        · simp only
          rw [e2]
          exact rowsF_snoc1 (hr.mono fun _ _ h => h.mono F14) he9.one he9
      · have e2 : entF a b (h.take (s.1 + 1)) = entF a b (h.take s.1) := by
          unfold entF
          rw [e1]
          unfold entE
          rw [if_neg (by omega)]; simp
        try simp only [sS]
        rw [t28_1_1_0_1_0_0_1_1]
        refine inc_r (by omega) ?_
        refine next (s.1 + 1, s.2) _ _ (by simp only; omega) (fun hw5 => ⟨_, wk_refl hw5, F1, M2, N2, rows1, rfl, hF1, by omega, fun x hx => (hM2 x (by omega)).trans (hM1 x hx), hm2, i1, ?_, ?_⟩)
        · simp only
          rw [e2]; exact ho.keep (fun x hx => hM2 x (ho.lt hm1 x hx)) (Nat.le_refl _)
        · simp only
          rw [e2]; exact hr
  · try simp only [sS]
    rw [List.take_of_length_le (by omega)] at ho hr
    exact fun hc => ⟨_, frz_wf hm hM1 hc, fun hw' => k _ _ _ hw' (hF1.trans (subF_frzAll hc)) hN1 (ents_frzA hc ho hr)⟩
end Go.Proofs.YtgjdjdjhoipfmaaGreatDoor.A
open Go Go.RowKit Go.Proofs.YtgjdjdjhoipfmaaGreatDoor.K Go.Proofs.YtgjdjdjhoipfmaaGreatDoor.T
set_option linter.unusedVariables false
set_option linter.unusedSimpArgs false
namespace Go.Proofs.YtgjdjdjhoipfmaaGreatDoor.A
variable {F F' : Nat → Option (List Value)} {M M' : Nat → Option Chunk} {N N' : Nat} {K : Kont} {E : PanK}
theorem allF_app (a b : List En) : allF (a ++ b) = allF a ++ allF b := by unfold allF; rw [List.map_append, List.flatten_append]
theorem allF_filter (p : En → Bool) : ∀ h : List En, (allF (h.filter p)).length ≤ (allF h).length
  | [] => Nat.le_refl _
  | e :: h => by
    have ih := allF_filter p h
    by_cases hp : p e = true
    · rw [List.filter_cons_of_pos hp, allF_cons, allF_cons, List.length_append, List.length_append]; omega
    · rw [List.filter_cons_of_neg hp, allF_cons, List.length_append]; omega
theorem allF_takeLe (h : List En) (i : Nat) : (allF (h.take i)).length ≤ (allF h).length := by
  conv => rhs; rw [← List.take_append_drop i h]
  rw [allF_app, List.length_append]; omega
theorem tillF_le (h : List En) (t : Int) (i : Nat) : (tillF (h.take i) t).length ≤ (allF h).length := by
  have h1 := allF_filter (fun e => decide (e.1 ≤ t)) (h.take i)
  have h2 := allF_takeLe h i
  unfold tillF; omega
theorem tillF_mem {h : List En} {t : Int} {f : Fc} (hf : f ∈ tillF h t) : ∃ e ∈ h, f ∈ e.2 := by
  unfold tillF allF at hf
  obtain ⟨x, hx, hfx⟩ := List.mem_flatten.1 hf
  obtain ⟨e, he, rfl⟩ := List.mem_map.1 hx
  exact ⟨e, (List.mem_filter.1 he).1, hfx⟩
def lastT (es : List En) (i : Nat) : Int := if h : 0 < i ∧ i ≤ es.length then es[i - 1].1 else 0
theorem lastT_succ {es : List En} {i : Nat} (h : i < es.length) : lastT es (i + 1) = es[i].1 := by
  unfold lastT; rw [dif_pos ⟨by omega, by omega⟩]; rfl
theorem all_no {α : Type} {p : α → Bool} {l : List α} {i : Nat} (hi : i < l.length) (h : p l[i] = false) : l.all p = false := List.all_eq_false.2 ⟨l[i], List.getElem_mem hi, by rw [h]; decide⟩
set_option maxRecDepth 10000 in
set_option maxHeartbeats 2000000 in
theorem rright13_c {g : Nat} {dv lv ev : Value} {l : List Dm} {es : List En} {a b : Int} (hg : M g = some (.cells 102 [dv, lv] 2)) (hd : dimsD F dv l) (hdl : l.length ≤ 1000) (hes : entsD F ev es) (hel : es.length ≤ 140737488351232) (ht0 : ∀ e ∈ es, 0 ≤ e.1)
    (k : ∀ N', (Hp.mk F M N').wf → N ≤ N' → K (.bool (rightF l a b 0 es)) ⟨F, M, N'⟩) :
    callv Tryz.prog (.func (.func 84) #[] #[]) #[.pointer (some ⟨g, 0, none⟩), .int .i64 a, .int .i64 b, ev] K E ⟨F, M, N⟩ := by
  refine callv_of_text mixed Tryz.func84 (by kernel_rfl) (t84 _ E _ _ _ _) (fun hw => ?_)
  obtain ⟨erows, he1, he2⟩ := hes
  refine l84_1_0_1_0_0 (σ := Nat) (fun i => .int .i64 (i : Nat)) (fun i h' => ∃ N', h' = ⟨F, M, N'⟩ ∧ N ≤ N' ∧ i ≤ es.length ∧ rightF l a b 0 es = rightF l a b (lastT es i) (es.drop i)) (fun i => es.length - i) 0 rfl
    (fun hw2 => ⟨_, wk_refl hw2, N, rfl, Nat.le_refl _, Nat.zero_le _, by unfold lastT; rw [dif_neg (by omega)]; rfl⟩) (fun kk i j h1 hI hw2 next => ?_)
  rw [t84_1_0_1_0_0]
  obtain ⟨N1, rfl, hN1, hi, hrt⟩ := hI
  refine lenF_r he1 ?_
  refine lss_r (fun hlt => ?_) (fun hge => ?_)
  · have i1 : i < es.length := by omega
    have hp0 := ht0 _ (List.getElem_mem i1)
    rw [List.drop_eq_getElem_cons i1, rightF_eq] at hrt
    have no : ∀ {N'}, N ≤ N' → rightF l a b 0 es = false → ∀ h', h' = (⟨F, M, N'⟩ : Hp) → h'.wf → ∃ h'', h'.wk h'' ∧ (h''.wf → K (.bool false) h'') := fun hN hf h' e' hc => by
      subst e'
      exact ⟨_, wk_refl hc, fun hw' => by have := k _ hw' hN; rw [hf] at this; exact this⟩
    have hl0 : 0 ≤ lastT es i := by
      unfold lastT
      split
      · exact ht0 _ (List.getElem_mem _)
      · exact Int.le_refl _
    try simp only [sS]
    refine fld_r he1 he2 (by decide) i1 (off := 0) (by decide) fun p z r y hR _ hy => ?_
    obtain ⟨fv, rfl, hfv⟩ := hR.at
    have hy' : y = .int .u32 es[i].1 := by simpa using hy.symm
    subst hy'
    refine eql_r (fun h2 => ?_) (fun h2 => ?_)
    · try simp only [sS]
      rw [decide_eq_false (by omega), Bool.false_and, Bool.false_and] at hrt
      exact no hN1 hrt _ rfl
    have fits : lastT es i < es[i].1 → ∀ (h' : Hp), True := fun _ _ => trivial
    clear fits
    try simp only [sS]
    refine gtr_r (fun h3 => ?_) (fun h3 => ?_)
    have i0 : 0 < i := by omega
    have hle : lastT es i = es[i - 1].1 := by unfold lastT; rw [dif_pos ⟨i0, by omega⟩]
    try simp only [sS]
    refine fld_r he1 he2 (by decide) i1 (off := 0) (by decide) fun p z r y hR _ hy => ?_
    obtain ⟨fv, rfl, hfv⟩ := hR.at
    have hy' : y = .int .u32 es[i].1 := by simpa using hy.symm
    subst hy'
    refine sub_n (a := i) (b := 1) i0 (by omega) ?_
    refine fld_r he1 he2 (by decide) (by omega : i - 1 < es.length) (off := 0) (by decide) fun p z r y hR _ hy => ?_
    obtain ⟨fv, rfl, hfv⟩ := hR.at
    have hy' : y = .int .u32 es[i - 1].1 := by simpa using hy.symm
    subst hy'
    refine leq_r (fun h4 => ?_) (fun h4 => ?_)
    · try simp only [sS]
      rw [decide_eq_false (by omega), Bool.false_and, Bool.false_and] at hrt
      exact no hN1 hrt _ rfl
    have hlt3 : lastT es i < es[i].1 := by omega
    rotate_left
    have hlt3 : lastT es i < es[i].1 := by
      have : lastT es i = 0 := by unfold lastT; rw [dif_neg (by omega)]
      omega
    all_goals
      rw [decide_eq_true hlt3, Bool.true_and] at hrt
      try simp only [sS]
      refine fld_r he1 he2 (by decide) i1 (off := 1) (by decide) fun p z r y hR _ hy => ?_
      obtain ⟨fv, rfl, hfv, hfvl⟩ := hR
      have hy' : y = fv := by simpa using hy.symm
      subst hy'
      refine rfits_c hg hd (by omega) hfv hfvl (fun N3 hN3 hw3 => ?_)
      cases hfit : fitsF l es[i].2
      · rw [hfit, Bool.false_and] at hrt
        try simp only [sS]
        exact no (by omega) hrt _ rfl
      rw [hfit, Bool.true_and] at hrt
      try simp only [sS]
      refine l84_1_0_1_0_0_1_0_0_1_1_0_0 (σ := Nat) (fun q => .int .i64 (q : Nat)) (fun q h' => ∃ N', h' = ⟨F, M, N'⟩ ∧ N3 ≤ N' ∧ q ≤ es[i].2.length ∧ ∀ f ∈ es[i].2.take q, inR a b f = true) (fun q => es[i].2.length - q) 0 rfl
        (fun hw4 => ⟨_, wk_refl hw4, N3, rfl, Nat.le_refl _, Nat.zero_le _, by simp⟩) (fun kk2 q j2 h2' hI2 hw4 next2 => ?_)
      rw [t84_1_0_1_0_0_1_0_0_1_1_0_0]
      obtain ⟨N4, rfl, hN4, hq, hall⟩ := hI2
      try simp only [sS]
      refine fld_r he1 he2 (by decide) i1 (off := 1) (by decide) fun p z r y hR _ hy => ?_
      obtain ⟨fv, rfl, hfv⟩ := hR.at
      have hy' : y = fv := by simpa using hy.symm
      subst hy'
      obtain ⟨orows, hfv1, hfv2⟩ := hfv
      refine lenF_r hfv1 ?_
      refine lss_r (fun hlt4 => ?_) (fun hge4 => ?_)
      · have q1 : q < es[i].2.length := by omega
        try simp only [sS]
        refine fld_r he1 he2 (by decide) i1 (off := 1) (by decide) fun p z r y hR _ hy => ?_
        obtain ⟨fv, rfl, hfv⟩ := hR.at
        have hy' : y = fv := by simpa using hy.symm
        subst hy'
        obtain ⟨orows, hfv1, hfv2⟩ := hfv
        refine row_r hfv1 hfv2 (by decide) q1 (fun p r _ hR hrl hr1 => rinR_c hR (fun N5 hN5 hw5 => ?_))
        cases hp : inR a b es[i].2[q]
        · try simp only [sS]
          rw [all_no q1 hp, Bool.false_and] at hrt
          exact no (by omega) hrt _ rfl
        · try simp only [sS]
          refine inc_r (by omega) ?_
          refine next2 (q + 1) _ _ (by omega) (fun hw6 => ⟨_, wk_refl hw6, N5, rfl, by omega, q1, fun f hf => ?_⟩)
          rw [List.take_add_one, List.getElem?_eq_getElem q1, Option.toList_some] at hf
          rcases List.mem_append.1 hf with hf | hf
          · exact hall f hf
          · rw [List.mem_singleton.1 hf]; exact hp
      · try simp only [sS]
        rw [List.take_of_length_le (by omega)] at hall
        rw [List.all_eq_true.2 hall, Bool.true_and] at hrt
        refine inc_r (by omega) ?_
        exact next (i + 1) _ _ (by omega) (fun hw6 => ⟨_, wk_refl hw6, N4, rfl, by omega, i1, by rw [lastT_succ i1]; exact hrt⟩)
  · try simp only [sS]
    rw [List.drop_eq_nil_of_le (by omega), rightF_nil] at hrt
    exact fun hc => ⟨_, wk_refl hc, fun hw' => by have := k _ hw' hN1; rw [hrt] at this; exact this⟩
end Go.Proofs.YtgjdjdjhoipfmaaGreatDoor.A
open Go Go.RowKit Go.Proofs.YtgjdjdjhoipfmaaGreatDoor.K Go.Proofs.YtgjdjdjhoipfmaaGreatDoor.T
set_option linter.unusedVariables false
set_option linter.unusedSimpArgs false
namespace Go.Proofs.YtgjdjdjhoipfmaaGreatDoor.A
variable {F F' : Nat → Option (List Value)} {M M' : Nat → Option Chunk} {N N' : Nat} {K : Kont} {E : PanK}
theorem layAll_take' (h es : List En) {i : Nat} (hi : i < es.length) : layAll h (es.take (i + 1)) = lay1 (layAll h (es.take i)) es[i] := by
  unfold layAll
  rw [List.take_add_one, List.getElem?_eq_getElem hi, Option.toList_some, List.foldl_append]; rfl
theorem lay1_all {P : En → Prop} {h : List En} {e : En} (h0 : P e) (ha : ∀ d : En, d.1 = e.1 → P d → P (e.1, d.2 ++ e.2)) (hp : ∀ d ∈ h, P d) : ∀ d ∈ lay1 h e, P d := by
  unfold lay1
  split
  · exact withR_all h0 ha hp
  · exact hp
theorem layAll_all {P : En → Prop} (ha : ∀ e d : En, P e → P d → P (e.1, d.2 ++ e.2)) : ∀ {es h : List En}, (∀ d ∈ h, P d) → (∀ e ∈ es, P e) → ∀ d ∈ layAll h es, P d
  | [], h, hp, _ => hp
  | e :: es, h, hp, he => layAll_all ha (es := es) (h := lay1 h e) (lay1_all (he e List.mem_cons_self) (fun d _ hd => ha e d (he e List.mem_cons_self) hd) hp) fun x hx => he x (List.mem_cons_of_mem _ hx)
set_option maxRecDepth 10000 in
set_option maxHeartbeats 4000000 in
theorem rrepl_c {g : Nat} {dv lv ev : Value} {l : List Dm} {h es : List En} {a b : Int} (hC : isRef F M g dv lv l h) (o : okH l 5000 200 h) (hdl : l.length ≤ 1000) (hes : entsD F ev es) (hel : es.length ≤ 140737488351232) (heT : ∀ e ∈ es, e.1 < 4294967296) (ht0 : ∀ e ∈ es, 0 ≤ e.1)
    (k : ∀ lv' F' M' N', subF F F' → isRef F' M' g dv lv' l (replF l a b h es) → (∀ q, q ≠ g → q < N → M' q = M q) → N ≤ N' → (Hp.mk F' M' N').wf → K (.int .i64 ((replE l a b h es : Nat) : Int)) ⟨F', M', N'⟩) :
    callv Tryz.prog (.func (.func 46) #[] #[]) #[.pointer (some ⟨g, 0, none⟩), .int .i64 a, .int .i64 b, ev] K E ⟨F, M, N⟩ := by
  refine callv_of_text mixed Tryz.func46 (by kernel_rfl) (t46 _ E _ _ _ _) (fun hw => ?_)
  have hm : clean M N := hw.m
  have hgN := hm.lt hC.gg
  have hol := o.le
  have hlv : lenV lv = some (.int .i64 (h.length : Nat)) := by obtain ⟨x, c, e⟩ := hC.ll.form; rw [e]; rfl
  have hll := hC.ll
  obtain ⟨erows, hl1, hl2⟩ := hll
  have same : ∀ n : Nat, n ≠ 0 → n = replE l a b h es → ∀ F' M' N', subF F F' → N ≤ N' → (∀ q, q < N → M' q = M q) → ∀ h', h' = (⟨F', M', N'⟩ : Hp) → h'.wf → ∃ h'', h'.wk h'' ∧ (h''.wf → K (.int .i64 ((n : Nat) : Int)) h'') := fun n n0 e F' M' N' hF hN hM h' e' hc => by
    subst e'
    refine ⟨_, wk_refl hc, fun hw' => ?_⟩
    rw [e]
    refine k lv F' M' N' hF ?_ (fun q _ hq => hM q hq) hN hw'
    unfold replF; rw [if_neg (by omega)]; exact hC.keep hF (hM g hgN)
  refine rright13_c hC.gg hC.dd hdl hes (by omega) ht0 (fun N1 hw1 hN1 => ?_)
  cases hrt : rightF l a b 0 es
  · try simp only [sS]
    exact same 1 (by decide) (by unfold replE; rw [if_pos hrt]) F M N1 (subF.refl _) hN1 (fun _ _ => rfl) _ rfl
  have hrE : replE l a b h es = if 5000 < (replH a b h es).length ∨ longH (replH a b h es) = true then 3 else 0 := by unfold replE; rw [if_neg (by rw [hrt]; decide)]
  obtain ⟨er1, er2⟩ := rightF_all hrt
  have hen := rightF_len hrt (by decide : (0 : Int) < 4294967296) heT
  have oR := o.rest a b
  try simp only [sS]
  refine l46_1_1_1_0_1_0_0 (σ := Nat × Value) (fun s => s.2) (fun s => .int .i64 (s.1 : Nat))
    (fun s h' => ∃ F' M' N' rows', h' = ⟨F', M', N'⟩ ∧ subF F F' ∧ N ≤ N' ∧ (∀ q, q < N → M' q = M q) ∧ clean M' N' ∧ s.1 ≤ h.length ∧ own M' N 52 2 s.2 (restH a b (h.take s.1)).length rows'.flatten ∧ rowsF (entD F') 2 rows' (restH a b (h.take s.1))) (fun s => h.length - s.1) (0, .slice none 0 0) rfl rfl
    (fun hw2 => ⟨_, wk_refl hw2, F, M, N1, [], rfl, subF.refl _, hN1, fun _ _ => rfl, hw1.m, Nat.zero_le _, own.nil, rowsF.nil _ _⟩) (fun kk s j h1 hI hw2 next => ?_)
  rw [t46_1_1_1_0_1_0_0]
  obtain ⟨F1, M1, N2, rows1, rfl, hF1, hN2, hM1, hm1, hi, ho, hr⟩ := hI
  have hg1 := (hM1 g hgN).trans hC.gg
  try simp only [sS]
  refine ldM (v := lv) ?_ hg1
  refine pv_r hlv ?_
  refine lss_r (fun hlt => ?_) (fun hge => ?_)
  · have i1 : s.1 < h.length := by omega
    have e1 := take_fm (restE a b) h i1
    have hle : (restH a b (h.take s.1)).length ≤ s.1 := fm_len (restE a b) h s.1
    have hfm := o.fl _ (List.getElem_mem i1)
    try simp only [sS]
    refine ldM (v := lv) ?_ hg1
    refine fld_r (hl1.mono hF1) (hl2.mono fun _ _ h => h.mono hF1) (by decide) i1 (off := 0) (by decide) fun p z r y hR _ hy => ?_
    obtain ⟨fv, rfl, hfv⟩ := hR.at
    have hy' : y = .int .u32 h[s.1].1 := by simpa using hy.symm
    subst hy'
    refine pv_r (v := .agg #[.int .u32 h[s.1].1, .slice none 0 0]) (by kernel_rfl) ?_
    refine nw_r (fun b13 hb13 => ?_)
    refine stM (cs' := [.int .u32 h[s.1].1, .slice none 0 0]) ?_
    rw [upd_upd]
    obtain ⟨M2, hM2e⟩ : ∃ M2, M2 = upd M1 b13 (some (.cells 52 [.int .u32 h[s.1].1, .slice none 0 0] [Value.int .u32 0, Value.slice none 0 0].length)) := ⟨_, rfl⟩
    rw [← hM2e]
    have hbox : M2 b13 = some (.cells 52 [.int .u32 h[s.1].1, .slice none 0 0] 2) := by rw [hM2e]; exact upd_same _ _ _
    have hM2 : ∀ q, q < b13 → M2 q = M1 q := fun q hq => by rw [hM2e]; exact upd_ne _ _ (by omega)
    have hm2 : clean M2 (b13 + 1) := by rw [hM2e]; exact hm1.new hb13 _
    have ho2 : own M2 N 52 2 s.2 (restH a b (h.take s.1)).length rows1.flatten := by rw [hM2e]; exact ho.box hm1 hb13 _
    have hob : ∀ q, s.2.ownBlock = some q → q < b13 := fun q hq => by have := ho.lt hm1 q hq; omega
    clear hM2e
    try simp only [sS]
    refine l46_1_1_1_0_1_0_0_1_0_0_1_0_1_0_0 (σ := Nat) (fun q => .int .i64 (q : Nat))
      (fun q h' => ∃ M' N' ov frows, h' = ⟨F1, M', N'⟩ ∧ b13 < N' ∧ (∀ x, x < b13 → M' x = M2 x) ∧ clean M' N' ∧ q ≤ h[s.1].2.length ∧ M' b13 = some (.cells 52 [.int .u32 h[s.1].1, ov] 2) ∧ own M' (b13 + 1) 48 2 ov ((h[s.1].2.take q).filter (outR a b)).length frows.flatten ∧ rowsF (fctD F1) 2 frows ((h[s.1].2.take q).filter (outR a b))) (fun q => h[s.1].2.length - q) 0 rfl
      (fun hw3 => ⟨_, wk_refl hw3, M2, b13 + 1, .slice none 0 0, [], rfl, Nat.lt_succ_self _, fun _ _ => rfl, hm2, Nat.zero_le _, hbox, own.nil, rowsF.nil _ _⟩) (fun kk2 q j2 h2 hI2 hw3 next2 => ?_)
    rw [t46_1_1_1_0_1_0_0_1_0_0_1_0_1_0_0]
    obtain ⟨M3, N3, ov, frows, rfl, hN3, hM3, hm3, hq, hb3, hof, hfr⟩ := hI2
    have hg3 := (hM3 g (by omega)).trans ((hM2 g (by omega)).trans hg1)
    have hle2 := filter_le (outR a b) h[s.1].2 q
    obtain ⟨oa, oc, oe, _⟩ := hof.form
    try simp only [sS]
    refine ldM (v := lv) ?_ hg3
    refine fld_r (hl1.mono hF1) (hl2.mono fun _ _ h => h.mono hF1) (by decide) i1 (off := 1) (by decide) fun p z r y hR _ hy => ?_
    obtain ⟨fv, rfl, hfv⟩ := hR.at
    have hy' : y = fv := by simpa using hy.symm
    subst hy'
    obtain ⟨orows, hfv1, hfv2⟩ := hfv
    refine lenF_r hfv1 ?_
    refine lss_r (fun hlt2 => ?_) (fun hge2 => ?_)
    · have q1 : q < h[s.1].2.length := by omega
      have ef := filter_take (outR a b) h[s.1].2 q1
      try simp only [sS]
      refine ldM (v := lv) ?_ hg3
      refine fld_r (hl1.mono hF1) (hl2.mono fun _ _ h => h.mono hF1) (by decide) i1 (off := 1) (by decide) fun p z r y hR _ hy => ?_
      obtain ⟨fv, rfl, hfv⟩ := hR.at
      have hy' : y = fv := by simpa using hy.symm
      subst hy'
      obtain ⟨orows, hfv1, hfv2⟩ := hfv
      refine row_r hfv1 hfv2 (by decide) q1 (fun p r _ hR hrl hr1 => ?_)
      refine rinR_c hR (fun N4 hN4 hw4 => ?_)
      cases hp : inR a b h[s.1].2[q]
      · have ho1 : outR a b h[s.1].2[q] = true := by unfold outR; rw [hp]; rfl
        rw [ho1, if_pos rfl] at ef
        try simp only [sS]
        refine ldM (v := ov) ?_ hb3
        refine ldM (v := lv) ?_ hg3
        refine fld_r (hl1.mono hF1) (hl2.mono fun _ _ h => h.mono hF1) (by decide) i1 (off := 1) (by decide) fun p z r y hR _ hy => ?_
        obtain ⟨fv, rfl, hfv⟩ := hR.at
        have hy' : y = fv := by simpa using hy.symm
        subst hy'
        obtain ⟨orows, hfv1, hfv2⟩ := hfv
        refine row_r hfv1 hfv2 (by decide) q1 (fun p r _ hR hrl hr1 => ?_)
        have hR' := hR
        obtain ⟨kv, hre, hkv, hkl⟩ := hR
        subst hre
        obtain ⟨ka, kc, kf, _⟩ := hkv.form
        refine nws_r (cs := [kv, .int .i64 h[s.1].2[q].2]) (by rw [kf]; kernel_rfl) (fun b29 hb29 => ?_)
        obtain ⟨M4, hM4e⟩ : ∃ M4, M4 = upd M3 b29 (some (.cells 48 [kv, .int .i64 h[s.1].2[q].2] [kv, .int .i64 h[s.1].2[q].2].length)) := ⟨_, rfl⟩
        rw [← hM4e]
        have hx4 : M4 b29 = some (.cells 48 [kv, .int .i64 h[s.1].2[q].2] 2) := by rw [hM4e]; exact upd_same _ _ _
        have hb4 : M4 b13 = some (.cells 52 [.int .u32 h[s.1].1, ov] 2) := by rw [hM4e]; exact (upd_ne _ _ (by omega)).trans hb3
        have hof4 : own M4 (b13 + 1) 48 2 ov ((h[s.1].2.take q).filter (outR a b)).length frows.flatten := by rw [hM4e]; exact hof.box hm3 (by omega) _
        have hm4 : clean M4 (b29 + 1) := by rw [hM4e]; exact (hm3.up hN4).new hb29 _
        have hM4 : ∀ x, x < b13 → M4 x = M2 x := fun x hx => by rw [hM4e]; exact (upd_ne _ _ (by omega)).trans (hM3 x hx)
        clear hM4e
        refine ⟨ldV_c (row_M hb4) rfl, ?_⟩
        refine hof4.app (m := 1) (news := [kv, .int .i64 h[s.1].2[q].2]) hm4 (by omega) ⟨rfl, .inr ⟨b29, 0, 1, _, rfl, Nat.le_refl _, .inr ⟨_, _, hx4⟩, rfl⟩⟩ hr1 (by omega) (by unfold maxLen; omega) (fun ov5 M5 N5 g1 g2 g3 g4 => ?_)
        have hob3 : ov.ownBlock ≠ some b13 := fun e => by have := (hof4.ge _ e).1; omega
        obtain ⟨y1, y2⟩ := g2 b13 hob3 (by omega)
        obtain ⟨a5, c5, e5, _⟩ := g1.form
        try simp only [sS]
        refine stM (cs' := [.int .u32 h[s.1].1, ov5]) ?_ (y1.trans hb4) (by rw [e5]; rfl) (by rw [e5]; rfl) (by rw [e5]; exact List.all_eq_true.1 rfl)
        rw [t46_1_1_1_0_1_0_0_1_0_0_1_0_1_0_0_1_1]
        refine inc_r (by omega) ?_
        refine next2 (q + 1) _ _ (by omega) (fun hw5 => ⟨_, wk_refl hw5, _, N5, ov5, frows ++ [[kv, .int .i64 h[s.1].2[q].2]], rfl, by omega, fun x hx => ?_, g4.set (by omega) _, q1, upd_same _ _ _, ?_, ?_⟩)
        · exact (upd_ne _ _ (by omega)).trans (((g2 x (fun e => by have := (hof4.ge x e).1; omega) (by omega)).1).trans (hM4 x hx))
        · rw [ef, List.length_append, List.length_singleton]
          have : own M5 (b13 + 1) 48 2 ov5 (((h[s.1].2.take q).filter (outR a b)).length + 1) (frows ++ [[kv, .int .i64 h[s.1].2[q].2]]).flatten := by simpa using g1
          exact this.keep (fun x hx => upd_ne _ _ (fun e => y2 (e ▸ hx))) (Nat.le_refl _)
        · rw [ef]; exact rowsF_snoc1 hfr hR'.one hR'
      · have ho1 : outR a b h[s.1].2[q] = false := by unfold outR; rw [hp]; rfl
        rw [ho1, if_neg (by decide), List.append_nil] at ef
        try simp only [sS]
        rw [t46_1_1_1_0_1_0_0_1_0_0_1_0_1_0_0_1_1]
        refine inc_r (by omega) ?_
        refine next2 (q + 1) _ _ (by omega) (fun hw5 => ⟨_, wk_refl hw5, M3, N4, ov, frows, rfl, by omega, hM3, hw4.m, q1, hb3, ?_, ?_⟩)
        · rw [ef]; exact hof
        · rw [ef]; exact hfr
    · try simp only [sS]
      rw [List.take_of_length_le (by omega)] at hof hfr
      have hflen : (h[s.1].2.filter (outR a b)).length ≤ 200 := by have := List.length_filter_le (outR a b) h[s.1].2; omega
      have hlo : lenV ov = some (.int .i64 ((h[s.1].2.filter (outR a b)).length : Nat)) := by obtain ⟨x, c, e, _⟩ := hof.form; rw [e]; rfl
      have hMN : ∀ x, x < N → M3 x = M x := fun x hx => by rw [hM3 x (by omega), hM2 x (by omega), hM1 x hx]
      have ho3 : own M3 N 52 2 s.2 (restH a b (h.take s.1)).length rows1.flatten := ho2.keep (fun x hx => hM3 x (hob x hx)) (Nat.le_refl _)
      have skip : ¬ (0 < (h[s.1].2.filter (outR a b)).length ∨ h[s.1].2.length = 0) → restH a b (h.take (s.1 + 1)) = restH a b (h.take s.1) := fun hn => by
        unfold restH
        rw [e1]
        unfold restE
        rw [if_neg hn]; simp
      have take1 : (0 < (h[s.1].2.filter (outR a b)).length ∨ h[s.1].2.length = 0) → restH a b (h.take (s.1 + 1)) = restH a b (h.take s.1) ++ [(h[s.1].1, h[s.1].2.filter (outR a b))] := fun hn => by
        unfold restH
        rw [e1]
        unfold restE
        rw [if_pos hn]; rfl
      try simp only [sS]
      refine ldM (v := ov) ?_ hb3
      refine pv_r hlo ?_
      refine gtr_r (fun h0 => ?_) (fun h0 => ?_)
      rotate_left
      try simp only [sS]
      refine ldM (v := lv) ?_ hg3
      refine fld_r (hl1.mono hF1) (hl2.mono fun _ _ h => h.mono hF1) (by decide) i1 (off := 1) (by decide) fun p z r y hR _ hy => ?_
      obtain ⟨fv, rfl, hfv⟩ := hR.at
      have hy' : y = fv := by simpa using hy.symm
      subst hy'
      obtain ⟨orows, hfv1, hfv2⟩ := hfv
      refine lenF_r hfv1 ?_
      refine eql_r (fun h9 => ?_) (fun h9 => ?_)
      rotate_left
      · try simp only [sS]
        rw [t46_1_1_1_0_1_0_0_1_1]
        refine inc_r (by omega) ?_
        refine next (s.1 + 1, s.2) _ _ (by simp only; omega) (fun hw5 => ⟨_, wk_refl hw5, F1, M3, N3, rows1, rfl, hF1, by omega, hMN, hm3, i1, ?_, ?_⟩)
        · simp only
          rw [skip (by omega)]; exact ho3
        · simp only
          rw [skip (by omega)]; exact hr
      all_goals
        try simp only [sS]
        refine ldMa (vs := [.int .u32 h[s.1].1, ov]) ?_ hb3
        obtain ⟨a5, c5, e5, _⟩ := hof.form
        refine push_r (new := [.int .u32 h[s.1].1, ov]) ho3 hm3 (by omega) (by rw [e5]; kernel_rfl) rfl (by rw [e5]; exact List.all_eq_true.1 rfl) (by omega) (by unfold maxLen; omega) (fun p v' M5 N5 g1 g2 g3 g4 => ?_)
        rw [t46_1_1_1_0_1_0_0_1_1]
        refine inc_r (by omega) ?_
        have hne : ∀ x, ov.ownBlock = some x → s.2.ownBlock ≠ some x := fun x hx e => by have := (hof.ge x hx).1; have := hob x e; omega
        obtain ⟨hof5, hne5⟩ := hof.far g2 hm3 hne
        refine next (s.1 + 1, v') _ _ (by simp only; omega) (fun hw5 => ⟨_, wk_P (p := fun x => ov.ownBlock = some x) hw5, _, _, N5, rows1 ++ [[.int .u32 h[s.1].1, ov]], rfl, hF1.trans (subF_frzP hw5), by omega, fun x hx => ?_, keepM_clean g4, i1, ?_, ?_⟩)
        · have x1 : ¬ ov.ownBlock = some x := fun e => by have := (hof.ge x e).1; omega
          exact (keepM_in x1).trans (((g2 x (fun e => by have := (ho3.ge x e).1; omega) (by omega)).1).trans (hMN x hx))
        · simp only
          rw [take1 (by omega), List.length_append, List.length_singleton]
          have : own M5 N 52 2 v' ((restH a b (h.take s.1)).length + 1) (rows1 ++ [[.int .u32 h[s.1].1, ov]]).flatten := by simpa using g1
          exact this.keep (fun x hx => keepM_in (fun e => hne5 x e hx)) (Nat.le_refl _)
        · simp only
          rw [take1 (by omega)]
          have he5 : entD (frzP F1 M5 (fun x => ov.ownBlock = some x)) [.int .u32 h[s.1].1, ov] (h[s.1].1, h[s.1].2.filter (outR a b)) := ⟨ov, rfl, ⟨frows, hof5.frzP (fun x h => h), hfr.mono fun _ _ h => h.mono (subF_frzP hw5)⟩, by simp only; omega⟩
          exact rowsF_snoc1 (hr.mono fun _ _ h => h.mono (subF_frzP hw5)) he5.one he5
  · try simp only [sS]
    rw [List.take_of_length_le (by omega)] at ho hr
    have hlay : ∀ i, risen (layAll (restH a b h) (es.take i)) ∧ (layAll (restH a b h) (es.take i)).length ≤ 9000000000 ∧ (∀ e ∈ layAll (restH a b h) (es.take i), e.2.length ≤ 1000000) ∧ ∀ e ∈ layAll (restH a b h) (es.take i), ∀ f ∈ e.2, f.1.length ≤ 10000000000 := fun i => by
      have x1 := layAll_len (es.take i) (restH a b h)
      have x2 := oR.le
      rw [List.length_take] at x1
      have x3 : risen (es.take i) := er1.sublist (List.take_sublist _ _)
      refine ⟨layAll_risen oR.rs, by omega, fun e he => ?_, ?_⟩
      · have := layAll_fl oR.rs x3 oR.fl (fun e he => (fitsF_of (er2 e (List.mem_of_mem_take he)).2.1).1) e he
        omega
      · refine layAll_all (P := fun e => ∀ f ∈ e.2, f.1.length ≤ 10000000000) (fun e d he hd f hf => (List.mem_append.1 hf).elim (hd f) (he f)) (fun e he => oR.keys hdl he) (fun e he f hf => ?_)
        have := inF_len ((fitsF_of (er2 e (List.mem_of_mem_take he)).2.1).2 f hf); omega
    refine l46_1_1_1_1_0_1_0_0 (σ := Nat × Value) (fun s => s.2) (fun s => .int .i64 (s.1 : Nat))
      (fun s h' => ∃ F' N', h' = ⟨F', M, N'⟩ ∧ subF F F' ∧ N ≤ N' ∧ s.1 ≤ es.length ∧ entsD F' s.2 (layAll (restH a b h) (es.take s.1))) (fun s => es.length - s.1) (0, s.2) rfl rfl
      (fun hw4 => ⟨_, frz_wf hm hM1 hw4, _, N2, rfl, hF1.trans (subF_frzAll hw4), hN2, Nat.zero_le _, by simpa [layAll] using ents_frzA hw4 ho hr⟩) (fun kk s j h1 hI hw4 next => ?_)
    rw [t46_1_1_1_1_0_1_0_0]
    obtain ⟨F4, N4, rfl, hF4, hN4, hi, hent⟩ := hI
    obtain ⟨y1, y2, y3, y4⟩ := hlay s.1
    obtain ⟨esrows, hes1, hes2⟩ := hes.mono hF4
    refine lenF_r hes1 ?_
    refine lss_r (fun hlt => ?_) (fun hge => ?_)
    · have i1 : s.1 < es.length := by omega
      have et := layAll_take' (restH a b h) es i1
      obtain ⟨z1, z2, z3⟩ := er2 _ (List.getElem_mem i1)
      obtain ⟨f1, f2⟩ := fitsF_of z2
      try simp only [sS]
      refine fld_r hes1 hes2 (by decide) i1 (off := 1) (by decide) fun p z r y hR _ hy => ?_
      obtain ⟨fv, rfl, hfv⟩ := hR.at
      have hy' : y = fv := by simpa using hy.symm
      subst hy'
      have hfv' := hfv
      obtain ⟨frows, hfa, _⟩ := hfv'
      refine lenF_r hfa ?_
      refine gtr_r (fun h0 => ?_) (fun h0 => ?_)
      · try simp only [sS]
        refine fld_r hes1 hes2 (by decide) i1 (off := 0) (by decide) fun p z r y hR _ hy => ?_
        obtain ⟨fv, rfl, _⟩ := hR.at
        have hy' : y = .int .u32 es[s.1].1 := by simpa using hy.symm
        subst hy'
        refine fld_r hes1 hes2 (by decide) i1 (off := 1) (by decide) fun p z r y hR _ hy => ?_
        obtain ⟨fv, rfl, hfv⟩ := hR.at
        have hy' : y = fv := by simpa using hy.symm
        subst hy'
        refine rwith_c hent y1 (by omega) y3 y4 hfv (by omega) (fun f hf => by have := inF_len (f2 f hf); omega) (fun v' F6 N6 hw6 hF6 hN6 h6 => ?_)
        rw [t46_1_1_1_1_0_1_0_0_1_1]
        refine inc_r (by omega) ?_
        refine next (s.1 + 1, v') _ _ (by simp only; omega) (fun hw5 => ⟨_, wk_refl hw5, F6, N6, rfl, hF4.trans hF6, by omega, i1, ?_⟩)
        simp only
        rw [et]; unfold lay1; rw [if_pos (by omega)]; exact h6
      · try simp only [sS]
        rw [t46_1_1_1_1_0_1_0_0_1_1]
        refine inc_r (by omega) ?_
        refine next (s.1 + 1, s.2) _ _ (by simp only; omega) (fun hw5 => ⟨_, wk_refl hw5, F4, N4, rfl, hF4, by omega, i1, ?_⟩)
        simp only
        rw [et]; unfold lay1; rw [if_neg (by omega)]; exact hent
    · try simp only [sS]
      rw [List.take_of_length_le (by omega)] at hent y1 y2 y3 y4
      have hent' := hent
      obtain ⟨nrows, hn1, hn2⟩ := hent'
      refine l46_1_1_1_1_1_0_1_0_0 (σ := Nat) (fun i => .int .i64 (i : Nat)) (fun i h' => h' = ⟨F4, M, N4⟩ ∧ i ≤ (layAll (restH a b h) es).length ∧ ∀ e ∈ (layAll (restH a b h) es).take i, e.2.length ≤ 200) (fun i => (layAll (restH a b h) es).length - i) 0 rfl
        (fun hw5 => ⟨_, wk_refl hw5, rfl, Nat.zero_le _, by simp⟩) (fun kk i j h1' hI hw5 next => ?_)
      rw [t46_1_1_1_1_1_0_1_0_0]
      obtain ⟨rfl, hi5, hsh⟩ := hI
      refine lenF_r hn1 ?_
      refine lss_r (fun hlt5 => ?_) (fun hge5 => ?_)
      · have i5 : i < (layAll (restH a b h) es).length := by omega
        try simp only [sS]
        refine fld_r hn1 hn2 (by decide) i5 (off := 1) (by decide) fun p z r y hR _ hy => ?_
        obtain ⟨fv, rfl, hfv⟩ := hR.at
        have hy' : y = fv := by simpa using hy.symm
        subst hy'
        obtain ⟨frows, hfa, _⟩ := hfv
        refine lenF_r hfa ?_
        refine gtr_r (fun h0 => ?_) (fun h0 => ?_)
        · try simp only [sS]
          exact same 3 (by decide) (by rw [hrE]; unfold replH; rw [if_pos (.inr (List.any_eq_true.2 ⟨_, List.getElem_mem i5, decide_eq_true (by omega)⟩))]) F4 M N4 hF4 hN4 (fun _ _ => rfl) _ rfl
        · try simp only [sS]
          refine inc_r (by omega) ?_
          refine next (i + 1) _ _ (by omega) (fun hw6 => ⟨_, wk_refl hw6, rfl, i5, fun e he => ?_⟩)
          rw [List.take_add_one, List.getElem?_eq_getElem i5, Option.toList_some] at he
          rcases List.mem_append.1 he with he | he
          · exact hsh e he
          · rw [List.mem_singleton.1 he]; omega
      · try simp only [sS]
        rw [List.take_of_length_le (by omega)] at hsh
        refine lenF_r hn1 ?_
        refine gtr_r (fun h0 => ?_) (fun h0 => ?_)
        · try simp only [sS]
          exact same 3 (by decide) (by rw [hrE]; unfold replH; rw [if_pos (.inl (by omega))]) F4 M N4 hF4 hN4 (fun _ _ => rfl) _ rfl
        · have hlg : longH (layAll (restH a b h) es) = false := by
            unfold longH
            rw [List.any_eq_false]
            intro e he
            have := hsh e he
            simp; omega
          have e0 : replE l a b h es = 0 := by
            rw [hrE]; unfold replH; rw [if_neg (by rintro (q | q); omega; rw [hlg] at q; cases q)]
          obtain ⟨na, nc, ne⟩ := hent.form
          try simp only [sS]
          refine stM (cs' := [dv, s.2]) ?_ hC.gg (by rw [ne]; rfl) (by rw [ne]; rfl) (by rw [ne]; exact List.all_eq_true.1 rfl)
          refine fun hc => ⟨_, wk_refl hc, fun hw' => ?_⟩
          rw [e0] at k
          refine k s.2 F4 _ N4 hF4 ?_ (fun q hq _ => upd_ne _ _ hq) hN4 hw'
          unfold replF; rw [if_pos e0]
          exact ⟨upd_same _ _ _, hC.dd.mono hF4, hent⟩
end Go.Proofs.YtgjdjdjhoipfmaaGreatDoor.A
open Go Go.RowKit Go.Proofs.YtgjdjdjhoipfmaaGreatDoor.K Go.Proofs.YtgjdjdjhoipfmaaGreatDoor.T
set_option linter.unusedVariables false
set_option linter.unusedSimpArgs false
namespace Go.Proofs.YtgjdjdjhoipfmaaGreatDoor.A
variable {F F' : Nat → Option (List Value)} {M M' : Nat → Option Chunk} {N N' : Nat} {K : Kont} {E : PanK}
theorem fctss_two {b : Nat} {u v : Value} {s t : List Fc} (hF : F b = some [u, v]) (hu : fctsD F u s) (hv : fctsD F v t) (hs : s.length ≤ 1000000) (ht : t.length ≤ 1000000) : fctssD F (.slice (some ⟨b, 0, none⟩) 2 2) [s, t] := by
  obtain ⟨a1, c1, e1⟩ := hu.form
  obtain ⟨a2, c2, e2⟩ := hv.form
  have o1 : [u].length = 1 ∧ ∀ c ∈ [u], c.oneCell' = true := ⟨rfl, fun c hc => by rw [List.mem_singleton.1 hc, e1]; rfl⟩
  have o2 : [v].length = 1 ∧ ∀ c ∈ [v], c.oneCell' = true := ⟨rfl, fun c hc => by rw [List.mem_singleton.1 hc, e2]; rfl⟩
  exact ⟨[[u], [v]], sF_lit hF rfl (by decide), rowsF_snoc1 (rowsF_snoc1 (rowsF.nil _ 1) o1 ⟨u, rfl, hu, by omega⟩) o2 ⟨v, rfl, hv, by omega⟩⟩
set_option maxRecDepth 10000 in
theorem hwithF_c {B : Nat} {v fv : Value} {rows : List (List Value)} {h : List En} {t : Int} {fs : List Fc} (hv : own M B 52 2 v h.length rows.flatten) (hB : B ≤ N) (hr : rowsF (entD F) 2 rows h) (hs : risen h) (hl : h.length ≤ 10000000000) (hm' : ∀ e ∈ h, e.2.length ≤ 1000000) (hf : fctsD F fv fs) (hfl : fs.length ≤ 1000000) (hk : ∀ f ∈ fs, f.1.length ≤ 10000000000)
    (k : ∀ v' F' M' N' rows', subF F F' → own M' B 52 2 v' (withR h t fs).length rows'.flatten → rowsF (entD F') 2 rows' (withR h t fs) → (∀ q, v.ownBlock ≠ some q → q < N → M' q = M q ∧ v'.ownBlock ≠ some q) → N ≤ N' → clean M' N' → (Hp.mk F' M' N').wf → K v' ⟨F', M', N'⟩) :
    callv Tryz.prog (.func (.func 35) #[] #[]) #[v, .int .u32 t, fv] K E ⟨F, M, N⟩ := by
  cases ht : there h t
  · refine hwith_c hv hB hr hs hl ht hf hfl hk ?_
    rw [← withH_new ht, withH_eq]
    exact k
  have hi := there_lt ht
  rw [← withH_eq, withH_old ht hi] at k
  refine callv_of_text mixed Tryz.func35 (by kernel_rfl) (t35 _ E _ _ _) (fun hw => ?_)
  have hm : clean M N := hw.m
  refine find_c hv hr hs (by omega) (fun N1 hN1 hw1 => ?_)
  rw [ht]
  try simp only [sS]
  refine ofld_r (off := 1) hv hr (by decide) hi fun b c r x hvf hcell hri hR hrl hx => ?_
  obtain ⟨ov, rfl, hov, hovl⟩ := hR
  have hx' : x = ov := by simpa using hx.symm
  subst hx'
  have het : h[place h t].1 = t := by rw [there_in hi] at ht; exact of_decide_eq_true ht
  have hom := hm' _ (List.getElem_mem hi)
  refine cclone_c hf (by omega) hk (fun v2 F2 N2 hw2 hF2 hN2 hf2 => ?_)
  obtain ⟨cs, tot, hMb, hcs⟩ := hcell
  refine ⟨⟨cs, .inr ⟨_, _, hMb⟩, by rw [Nat.zero_add]; exact hcs⟩, ?_⟩
  have hov2 := hov.mono hF2
  obtain ⟨a1, c1, e1⟩ := hov2.form
  obtain ⟨a2, c2, e2⟩ := hf2.form
  have hm2 : clean M N2 := hw2.m
  refine nws_r (cs := [x, v2]) (by rw [e1, e2]; kernel_rfl) (fun b9 hb9 => ?_)
  refine callv_go (fun hc => ⟨_, wk_P (p := fun q => q = b9) hc, ?_⟩)
  have hs3 := subF_frzP (p := fun q => q = b9) hc
  have f9 := frzP_at (F := F2) (p := fun q => q = b9) rfl (upd_same M b9 (some (.cells 40 [x, v2] [x, v2].length)))
  have hMK : ∀ q, q < N2 → keepM (upd M b9 (some (.cells 40 [x, v2] [x, v2].length))) (fun q => ¬ q = b9) q = M q := fun q hq => (keepM_in (by omega)).trans (upd_ne _ _ (by omega))
  have hmK : clean (keepM (upd M b9 (some (.cells 40 [x, v2] [x, v2].length))) (fun q => ¬ q = b9)) (b9 + 1) := keepM_clean (hm2.new hb9 _)
  generalize frzP F2 _ _ = F3 at *
  generalize keepM _ _ = M3 at *
  clear hc
  refine concatF_c (ts := [h[place h t].2, fs]) (fctss_two f9 (hov2.mono hs3) (hf2.mono hs3) hom hfl) (by simp; omega) (by simp) (fun v10 F4 N4 hw4 hF4 hN4 h10 => ?_)
  have ef : [h[place h t].2, fs].flatten = h[place h t].2 ++ fs := by simp
  rw [ef] at h10
  obtain ⟨a10, c10, e10⟩ := h10.form
  have hv4 : own M3 B 52 2 v h.length rows.flatten := hv.keep (fun q hq => hMK q (by have := hv.lt hm q hq; omega)) (Nat.le_refl _)
  have F04 := (hF2.trans hs3).trans hF4
  refine oput_r (y := (t, h[place h t].2 ++ fs)) hv4 (hr.mono fun _ _ h => h.mono F04) (by decide) hi (by rw [e10]; rfl) (by rw [e10]; rfl) (fun r' hr' => ?_) (fun p q M5 rows' g1 g2 g3 g4 => ?_)
  · rw [hri] at hr'
    cases hr'
    refine ⟨v10, by simp [het], h10, by simp only [List.length_append]; omega⟩
  exact fun hc => ⟨_, wk_refl hc, fun hw' => k v F4 M5 N4 rows' F04 g1 g2 (fun q hq hqN => ⟨(g3 q hq).trans (hMK q (by omega)), hq⟩) (by omega) (g4 _ hw4.m) hw'⟩
theorem longH_t {h : List En} {i : Nat} (hi : i < h.length) (h0 : 200 < h[i].2.length) : longH h = true := List.any_eq_true.2 ⟨_, List.getElem_mem hi, decide_eq_true h0⟩
theorem long1_c {cs : List Value} {e : En} (he : entD F cs e) (k : ∀ N', N ≤ N' → (Hp.mk F M N').wf → K (.bool (decide (200 < e.2.length))) ⟨F, M, N'⟩) :
    callv Tryz.prog (.func (.func 51) #[] #[]) #[.agg cs.toArray] K E ⟨F, M, N⟩ := by
  refine callv_of_text mixed Tryz.func51 (by kernel_rfl) (t51 _ E _) (fun hw => ?_)
  have hm : clean M N := hw.m
  obtain ⟨v, rfl, hv, hvl⟩ := he
  refine nw_r (cs := [.int .u32 e.1, v]) (fun b hb => ?_)
  try simp only [sS]
  refine ldM (v := v) ?_
  obtain ⟨frows, h1, h2⟩ := hv
  refine lenF_r h1 ?_
  refine gtr_r (fun h0 => ?_) (fun h0 => ?_)
  · rw [decide_eq_true (by omega)] at k
    exact fun hc => ⟨⟨F, M, b + 1⟩, wk_drop hc (subM_drop (subM_refl _) (hm _ hb)), fun hw' => k _ (by omega) hw'⟩
  · rw [decide_eq_false (by omega)] at k
    exact fun hc => ⟨⟨F, M, b + 1⟩, wk_drop hc (subM_drop (subM_refl _) (hm _ hb)), fun hw' => k _ (by omega) hw'⟩
theorem long_c {B : Nat} {v : Value} {rows : List (List Value)} {h : List En} (hv : own M B 52 2 v h.length rows.flatten) (hr : rowsF (entD F) 2 rows h) (hl : h.length ≤ 10000000000) (k : ∀ N', N ≤ N' → (Hp.mk F M N').wf → K (.bool (longH h)) ⟨F, M, N'⟩) :
    callv Tryz.prog (.func (.func 52) #[] #[]) #[v, .func (.func 51) #[] #[]] K E ⟨F, M, N⟩ := by
  refine callv_of_text mixed Tryz.func52 (by kernel_rfl) (t52 _ E _ _) (fun hw => ?_)
  refine callv_of_text mixed Tryz.func91 (by kernel_rfl) (t91 _ E _ _) (fun hw => ?_)
  have hlv : lenV v = some (.int .i64 (h.length : Nat)) := by obtain ⟨a, c, e, _⟩ := hv.form; rw [e]; rfl
  refine pv_r hlv ?_
  refine l91_1_0_1_0_0 (σ := Nat) (fun i => .int .i64 (i : Nat)) (fun i h' => ∃ N', h' = ⟨F, M, N'⟩ ∧ N ≤ N' ∧ i ≤ h.length ∧ longH h = longH (h.drop i)) (fun i => h.length - i) 0 rfl
    (fun hw1 => ⟨_, wk_refl hw1, N, rfl, Nat.le_refl _, Nat.zero_le _, rfl⟩) (fun kk i j h1 hI hw1 next => ?_)
  rw [t91_1_0_1_0_0]
  obtain ⟨N1, rfl, hN1, hi, he⟩ := hI
  refine lss_r (fun hlt => ?_) (fun hge => ?_)
  · have i1 : i < h.length := by omega
    try simp only [sS]
    refine orow_r hv hr (by decide) i1 fun q r _ hR _ _ => long1_c hR (fun N2 hN2 hw2 => ?_)
    by_cases h0 : 200 < h[i].2.length
    · rw [decide_eq_true h0]
      refine cnd_t ?_
      refine fun hc => ⟨_, wk_refl hc, fun hw' => geq_t (by omega) fun hc => ⟨_, wk_refl hc, fun hw' => ?_⟩⟩
      have := k N2 (by omega) hw'
      rw [longH_t i1 h0] at this
      exact this
    · rw [decide_eq_false h0]
      refine cnd_f ?_
      refine inc_r (by omega) ?_
      refine next (i + 1) _ _ (by omega) (fun hw3 => ⟨_, wk_refl hw3, N2, rfl, by omega, i1, ?_⟩)
      rw [he, List.drop_eq_getElem_cons i1]
      unfold longH
      rw [List.any_cons, decide_eq_false h0, Bool.false_or]
  · try simp only [sS]
    refine fun hc => ⟨_, wk_refl hc, fun hw' => geq_f (by omega) fun hc => ⟨_, wk_refl hc, fun hw' => ?_⟩⟩
    have := k N1 hN1 hw'
    rw [he, List.drop_eq_nil_of_le (by omega)] at this
    exact this
end Go.Proofs.YtgjdjdjhoipfmaaGreatDoor.A
open Go Go.RowKit Go.Proofs.YtgjdjdjhoipfmaaGreatDoor.K Go.Proofs.YtgjdjdjhoipfmaaGreatDoor.T
set_option linter.unusedVariables false
set_option linter.unusedSimpArgs false
namespace Go.Proofs.YtgjdjdjhoipfmaaGreatDoor.A
variable {F F' : Nat → Option (List Value)} {M M' : Nat → Option Chunk} {N N' : Nat} {K : Kont} {E : PanK}
theorem layAll_take (h es : List En) {i : Nat} (hi : i < es.length) : layAll h (es.take (i + 1)) = lay1 (layAll h (es.take i)) es[i] := by
  unfold layAll
  rw [List.take_add_one, List.getElem?_eq_getElem hi, Option.toList_some, List.foldl_append]; rfl
set_option maxRecDepth 10000 in
set_option maxHeartbeats 4000000 in
theorem creplace_c {B g : Nat} {hv dv ev : Value} {rows : List (List Value)} {l : List Dm} {h es : List En} {a b : Int} (hC : isCube F M B g hv dv rows l h) (hB : B ≤ N) (o : okH l 5000 200 h) (hdl : l.length ≤ 1000) (hes : entsD F ev es) (hel : es.length ≤ 140737488351232) (heT : ∀ e ∈ es, e.1 < 4294967296)
    (k : ∀ hv' F' M' N' rows', subF F F' → isCube F' M' B g hv' dv rows' l (replF l a b h es) → (∀ q, hv.ownBlock ≠ some q → q ≠ g → q < N → M' q = M q ∧ hv'.ownBlock ≠ some q) → N ≤ N' → clean M' N' → (Hp.mk F' M' N').wf → K (.int .u16 ((replE l a b h es : Nat) : Int)) ⟨F', M', N'⟩) :
    callv Tryz.prog (.func (.func 26) #[] #[]) #[.pointer (some ⟨g, 0, none⟩), .int .i64 a, .int .i64 b, ev] K E ⟨F, M, N⟩ := by
  refine callv_of_text mixed Tryz.func26 (by kernel_rfl) (t26 _ E _ _ _ _) (fun hw => ?_)
  have hm : clean M N := hw.m
  have hgN := hm.lt hC.gg
  have hol := o.le
  have hgB := hC.gB
  have hlv : lenV hv = some (.int .i64 (h.length : Nat)) := by obtain ⟨x, c, e, _⟩ := hC.oo.form; rw [e]; rfl
  have same : replE l a b h es ≠ 0 → ∀ F' M' N', (Hp.mk F' M' N').wf → subF F F' → N ≤ N' → (∀ q, q < N → M' q = M q) → K (.int .u16 ((replE l a b h es : Nat) : Int)) ⟨F', M', N'⟩ := fun hne F' M' N' hw' hF hN hM => by
    refine k hv F' M' N' rows hF ?_ (fun q hq _ hqN => ⟨hM q hqN, hq⟩) hN hw'.m hw'
    unfold replF; rw [if_neg hne]
    exact hC.keep hF (fun q hq => hM q (hC.lt hm q hq).2)
  refine within_cube_c (fun w F1 N1 hw1 hF1 hN1 hW => ?_)
  refine cright_c (hC.keep (M' := M) hF1 (fun _ _ => rfl)) hdl (hes.mono hF1) (by omega) hW (fun F2 N2 hw2 hF2 hN2 => ?_)
  have F02 := hF1.trans hF2
  cases hrt : rightF l a b 0 es
  · have e1 : replE l a b h es = 1 := by unfold replE; rw [if_pos hrt]
    try simp only [sS]
    refine fun hc => ⟨_, wk_refl hc, fun hw' => ?_⟩
    have := same (by omega) _ _ _ hw' F02 (by omega) (fun _ _ => rfl)
    rw [e1] at this; exact this
  have hrE : replE l a b h es = if 5000 < (replH a b h es).length ∨ longH (replH a b h es) = true then 3 else 0 := by unfold replE; rw [if_neg (by rw [hrt]; decide)]
  obtain ⟨er1, er2⟩ := rightF_all hrt
  have hen := rightF_len hrt (by decide : (0 : Int) < 4294967296) heT
  try simp only [sS]
  refine ldM (v := hv) ?_ hC.gg
  refine pv_r hlv ?_
  refine l26_1_1_1_1_0_1_0_0 (σ := Nat × Value) (fun s => s.2) (fun s => .int .i64 (s.1 : Nat))
    (fun s h' => ∃ F' M' N' rows', h' = ⟨F', M', N'⟩ ∧ subF F2 F' ∧ N ≤ N' ∧ (∀ q, q < N → M' q = M q) ∧ clean M' N' ∧ s.1 ≤ h.length ∧ own M' N 52 2 s.2 (restH a b (h.take s.1)).length rows'.flatten ∧ rowsF (entD F') 2 rows' (restH a b (h.take s.1))) (fun s => h.length - s.1) (0, .slice none 0 0) rfl rfl
    (fun hw3 => ⟨_, wk_refl hw3, F2, M, N2, [], rfl, subF.refl _, by omega, fun _ _ => rfl, hw2.m, Nat.zero_le _, own.nil, rowsF.nil _ _⟩) (fun kk s j h1 hI hw3 next => ?_)
  · rw [t26_1_1_1_1_0_1_0_0]
    obtain ⟨F3, M3, N3, rows3, rfl, hF3, hN3, hM3, hm3, hi, ho, hr⟩ := hI
    refine lss_r (fun hlt => ?_) (fun hge => ?_)
    · have i1 : s.1 < h.length := by omega
      have e1 := take_fm (restE a b) h i1
      have hle : (restH a b (h.take s.1)).length ≤ s.1 := fm_len (restE a b) h s.1
      try simp only [sS]
      have hoo1 : own M3 B 52 2 hv h.length rows.flatten := hC.oo.keep (fun q hq => hM3 q (hC.oo.lt hm q hq)) (Nat.le_refl _)
      refine orow_r hoo1 hC.rr (by decide) i1 fun p r _ hR _ hr1 => ?_
      obtain ⟨fv, rfl, hfv, hfl⟩ := hR
      have hfm := o.fl _ (List.getElem_mem i1)
      refine nw_r (fun b4 hb4 => ?_)
      refine stM (cs' := [.int .u32 h[s.1].1, fv]) ?_ (upd_same _ _ _) rfl rfl hr1
      rw [upd_upd]
      have hbox := upd_same M3 b4 (some (.cells 52 [.int .u32 h[s.1].1, fv] [Value.int .u32 0, Value.slice none 0 0].length))
      have ho2 := ho.box hm3 hb4 (some (.cells 52 [.int .u32 h[s.1].1, fv] [Value.int .u32 0, Value.slice none 0 0].length))
      have hm4 := hm3.new hb4 (some (.cells 52 [.int .u32 h[s.1].1, fv] [Value.int .u32 0, Value.slice none 0 0].length))
      have hM4 : ∀ q, q < N → upd M3 b4 (some (.cells 52 [.int .u32 h[s.1].1, fv] [Value.int .u32 0, Value.slice none 0 0].length)) q = M q := fun q hq => (upd_ne _ _ (by omega)).trans (hM3 q hq)
      generalize upd M3 b4 _ = M4 at *
      try simp only [sS]
      refine ldM (v := fv) ?_ hbox
      have hfv3 := hfv.mono (F02.trans hF3)
      have hfv3' := hfv3
      obtain ⟨frows0, hfv3a, _⟩ := hfv3'
      refine chosen_c hfv3 (hW.mono (hF2.trans hF3)) (by omega) (o.keys hdl (List.getElem_mem i1)) (fun v4 F4 N4 hw4 hF4 hN4 hf4 => ?_)
      rw [ofK_false] at hf4
      obtain ⟨frows, hf4a, hf4b⟩ := hf4
      have hF4' := hF3.trans hF4
      have hflen : (h[s.1].2.filter (outR a b)).length ≤ 200 := by have := List.length_filter_le (outR a b) h[s.1].2; omega
      obtain ⟨a5, c5, e5, _⟩ := hf4a.form
      have he4 : entD F4 [.int .u32 h[s.1].1, v4] (h[s.1].1, h[s.1].2.filter (outR a b)) := ⟨v4, rfl, ⟨frows, hf4a, hf4b⟩, by simp only; omega⟩
      refine lenF_r hf4a ?_
      have skip : ¬ (0 < (h[s.1].2.filter (outR a b)).length ∨ h[s.1].2.length = 0) → restH a b (h.take (s.1 + 1)) = restH a b (h.take s.1) := fun hn => by
        unfold restH
        rw [e1]
        unfold restE
        rw [if_neg hn]; simp
      have take1 : (0 < (h[s.1].2.filter (outR a b)).length ∨ h[s.1].2.length = 0) → restH a b (h.take (s.1 + 1)) = restH a b (h.take s.1) ++ [(h[s.1].1, h[s.1].2.filter (outR a b))] := fun hn => by
        unfold restH
        rw [e1]
        unfold restE
        rw [if_pos hn]; rfl
      refine gtr_r (fun h0 => ?_) (fun h0 => ?_)
      rotate_left
      try simp only [sS]
      refine ldM (v := fv) ?_ hbox
      try simp only [sS]
      refine lenF_r hfv3a ?_
      try simp only [sS]
      refine eql_r (fun h9 => ?_) (fun h9 => ?_)
      rotate_left
      · try simp only [sS]
        rw [t26_1_1_1_1_0_1_0_0_1_1_1]
        refine inc_r (by omega) ?_
        refine next (s.1 + 1, s.2) _ _ (by simp only; omega) (fun hw5 => ⟨_, wk_refl hw5, F4, M4, N4, rows3, rfl, hF4', by omega, hM4, hw4.m, i1, ?_, ?_⟩)
        · simp only
          rw [skip (by omega)]; exact ho2
        · simp only
          rw [skip (by omega)]; exact hr.mono fun _ _ h => h.mono hF4
      all_goals
        try simp only [sS]
        refine ldM (v := .int .u32 h[s.1].1) ?_ hbox
        refine pv_r (v := .agg #[.int .u32 h[s.1].1, v4]) (by rw [e5]; kernel_rfl) ?_
        refine push_r (new := [.int .u32 h[s.1].1, v4]) ho2 hw4.m (by omega) (by rw [e5]; kernel_rfl) rfl he4.one.2 (by omega) (by unfold maxLen; omega) (fun p v' M5 N5 g1 g2 g3 g4 => ?_)
        rw [t26_1_1_1_1_0_1_0_0_1_1_1]
        refine inc_r (by omega) ?_
        refine next (s.1 + 1, v') _ _ (by simp only; omega) (fun hw5 => ⟨_, wk_refl hw5, F4, M5, N5, rows3 ++ [[.int .u32 h[s.1].1, v4]], rfl, hF4', by omega, fun q hq => ?_, g4, i1, ?_, ?_⟩)
        · exact ((g2 q (fun e => by have := (ho2.ge q e).1; omega) (by omega)).1).trans (hM4 q hq)
        · simp only
          rw [take1 (by omega), List.length_append, List.length_singleton]
          exact (by simpa using g1 : own M5 N 52 2 v' _ (rows3 ++ [[.int .u32 h[s.1].1, v4]]).flatten)
        · simp only
          rw [take1 (by omega)]
          exact rowsF_snoc1 (hr.mono fun _ _ h => h.mono hF4) he4.one he4
    · try simp only [sS]
      rw [List.take_of_length_le (by omega)] at ho hr
      have oR := o.rest a b
      have F03 := F02.trans hF3
      obtain ⟨erows, hes1, hes2⟩ := hes.mono F03
      have hlay : ∀ i, risen (layAll (restH a b h) (es.take i)) ∧ (layAll (restH a b h) (es.take i)).length ≤ 9000000000 ∧ ∀ e ∈ layAll (restH a b h) (es.take i), e.2.length ≤ 1000000 := fun i => by
        have x1 := layAll_len (es.take i) (restH a b h)
        have x2 := oR.le
        rw [List.length_take] at x1
        have x3 : risen (es.take i) := er1.sublist (List.take_sublist _ _)
        refine ⟨layAll_risen oR.rs, by omega, fun e he => ?_⟩
        have := layAll_fl oR.rs x3 oR.fl (fun e he => (fitsF_of (er2 e (List.mem_of_mem_take he)).2.1).1) e he
        omega
      refine lenF_r hes1 ?_
      refine l26_1_1_1_1_1_0_1_0_0 (σ := Nat × Value) (fun s => s.2) (fun s => .int .i64 (s.1 : Nat))
        (fun s h' => ∃ F' M' N' rows', h' = ⟨F', M', N'⟩ ∧ subF F3 F' ∧ N ≤ N' ∧ (∀ q, q < N → M' q = M q) ∧ clean M' N' ∧ s.1 ≤ es.length ∧ own M' N 52 2 s.2 (layAll (restH a b h) (es.take s.1)).length rows'.flatten ∧ rowsF (entD F') 2 rows' (layAll (restH a b h) (es.take s.1))) (fun s => es.length - s.1) (0, s.2) rfl rfl
        (fun hw4 => ⟨_, wk_refl hw4, F3, M3, N3, rows3, rfl, subF.refl _, hN3, hM3, hm3, Nat.zero_le _, ho, hr⟩) (fun kk s j h1 hI hw4 next => ?_)
      rw [t26_1_1_1_1_1_0_1_0_0]
      obtain ⟨F4, M4, N4, rows4, rfl, hF4, hN4, hM4, hm4, hi, ho, hr⟩ := hI
      obtain ⟨y1, y2, y3⟩ := hlay s.1
      refine lss_r (fun hlt => ?_) (fun hge => ?_)
      · have i1 : s.1 < es.length := by omega
        have et := layAll_take (restH a b h) es i1
        obtain ⟨z1, z2, z3⟩ := er2 _ (List.getElem_mem i1)
        obtain ⟨f1, f2⟩ := fitsF_of z2
        try simp only [sS]
        refine row_r (hes1.mono hF4) (hes2.mono fun _ _ h => h.mono hF4) (by decide) i1 (fun p r _ hR hrl hr1 => ?_)
        obtain ⟨fv, hre, hfv, hfl⟩ := hR
        subst hre
        refine nw_r (fun b4 hb4 => ?_)
        refine stM (cs' := [.int .u32 es[s.1].1, fv]) ?_ (upd_same _ _ _) rfl rfl hr1
        rw [upd_upd]
        have hbox := upd_same M4 b4 (some (.cells 52 [.int .u32 es[s.1].1, fv] [Value.int .u32 0, Value.slice none 0 0].length))
        have ho2 := ho.box hm4 hb4 (some (.cells 52 [.int .u32 es[s.1].1, fv] [Value.int .u32 0, Value.slice none 0 0].length))
        have hm5 := hm4.new hb4 (some (.cells 52 [.int .u32 es[s.1].1, fv] [Value.int .u32 0, Value.slice none 0 0].length))
        have hM5 : ∀ q, q < N → upd M4 b4 (some (.cells 52 [.int .u32 es[s.1].1, fv] [Value.int .u32 0, Value.slice none 0 0].length)) q = M q := fun q hq => (upd_ne _ _ (by omega)).trans (hM4 q hq)
        generalize upd M4 b4 _ = M5 at *
        try simp only [sS]
        refine ldM (v := fv) ?_ hbox
        have hfv' := hfv
        obtain ⟨frows, hfa, _⟩ := hfv'
        refine lenF_r hfa ?_
        refine gtr_r (fun h0 => ?_) (fun h0 => ?_)
        · try simp only [sS]
          refine ldM (v := .int .u32 es[s.1].1) ?_ hbox
          try simp only [sS]
          refine ldM (v := fv) ?_ hbox
          refine hwithF_c ho2 (by omega) hr y1 (by omega) y3 hfv (by omega) (fun f hf => by have := inF_len (f2 f hf); omega) (fun v' F6 M6 N6 rows6 hF6 g1 g2 g3 g4 g5 g6 => ?_)
          rw [t26_1_1_1_1_1_0_1_0_0_1_1_1]
          refine inc_r (by omega) ?_
          have e3 : layAll (restH a b h) (es.take (s.1 + 1)) = withR (layAll (restH a b h) (es.take s.1)) es[s.1].1 es[s.1].2 := by
            rw [et]; unfold lay1; rw [if_pos (by omega)]
          refine next (s.1 + 1, v') _ _ (by simp only; omega) (fun hw5 => ⟨_, wk_refl hw5, F6, M6, N6, rows6, rfl, hF4.trans hF6, by omega, fun q hq => ?_, g5, i1, ?_, ?_⟩)
          · exact ((g3 q (fun e => by have := (ho2.ge q e).1; omega) (by omega)).1).trans (hM5 q hq)
          · simp only
            rw [e3]; exact g1
          · simp only
            rw [e3]; exact g2
        · try simp only [sS]
          rw [t26_1_1_1_1_1_0_1_0_0_1_1_1]
          refine inc_r (by omega) ?_
          have e3 : layAll (restH a b h) (es.take (s.1 + 1)) = layAll (restH a b h) (es.take s.1) := by
            rw [et]; unfold lay1; rw [if_neg (by omega)]
          refine next (s.1 + 1, s.2) _ _ (by simp only; omega) (fun hw5 => ⟨_, wk_refl hw5, F4, M5, _, rows4, rfl, hF4, by omega, hM5, hm5, i1, ?_, ?_⟩)
          · simp only
            rw [e3]; exact ho2
          · simp only
            rw [e3]; exact hr
      · try simp only [sS]
        rw [List.take_of_length_le (by omega)] at ho hr y1 y2 y3
        have F04 := F03.trans hF4
        have hlo : lenV s.2 = some (.int .i64 ((layAll (restH a b h) es).length : Nat)) := by obtain ⟨x, c, e, _⟩ := ho.form; rw [e]; rfl
        have bad : replE l a b h es = 3 → ∀ N', N4 ≤ N' → ∀ h', h' = (⟨F4, M4, N'⟩ : Hp) → h'.wf → ∃ h'', h'.wk h'' ∧ (h''.wf → K (.int .u16 3) h'') := fun e3 N' hN' h' e' hc => by
          subst e'
          refine ⟨_, wk_refl hc, fun hw' => ?_⟩
          have := same (by omega) _ _ _ hw' F04 (by omega) hM4
          rw [e3] at this; exact this
        refine pv_r hlo ?_
        refine gtr_r (fun h0 => ?_) (fun h0 => ?_)
        · try simp only [sS]
          exact bad (by rw [hrE]; unfold replH; rw [if_pos (.inl (by omega))]) N4 (Nat.le_refl _) _ rfl
        · try simp only [sS]
          refine long_c ho hr (by omega) (fun N5 hN5 hw5 => ?_)
          cases hlg : longH (layAll (restH a b h) es)
          · have e0 : replE l a b h es = 0 := by
              rw [hrE]; unfold replH; rw [if_neg (by rintro (q | q); omega; rw [hlg] at q; cases q)]
            obtain ⟨xa, xc, xe, _⟩ := ho.form
            try simp only [sS]
            refine stM (cs' := [s.2, dv]) ?_ ((hM4 g hgN).trans hC.gg) (by rw [xe]; rfl) (by rw [xe]; rfl) (by rw [xe]; exact List.all_eq_true.1 rfl)
            have hsg : s.2.ownBlock ≠ some g := fun e => by have := (ho.ge g e).1; omega
            refine fun hc => ⟨_, wk_refl hc, fun hw' => ?_⟩
            rw [e0] at k
            refine k s.2 F4 _ N5 rows4 F04 ?_ (fun q hq hqg hqN => ⟨(upd_ne _ _ hqg).trans (hM4 q hqN), fun e => by have := (ho.ge q e).1; omega⟩) (by omega) (clean.set hw5.m (by omega) _) hw'
            unfold replF; rw [if_pos e0]
            exact ⟨upd_same _ _ _, hgB, ho.keep (fun q hq => upd_ne _ _ (fun e => hsg (e ▸ hq))) hB, hr, hsg, hC.dd.mono F04, y1⟩
          · try simp only [sS]
            exact bad (by rw [hrE]; unfold replH; rw [if_pos (.inr hlg)]) N5 hN5 _ rfl
end Go.Proofs.YtgjdjdjhoipfmaaGreatDoor.A
open Go Go.RowKit Go.Proofs.YtgjdjdjhoipfmaaGreatDoor.K
set_option linter.unusedVariables false
set_option maxRecDepth 100000
namespace Go.Proofs.YtgjdjdjhoipfmaaGreatDoor.T
section
variable (K : Kont) (E : PanK) (k1 k2 k3 k4 k5 : Env → Hp → Prop) (x0 x1 x2 x3 x4 x5 x6 x7 x8 x9 x10 x11 x12 x13 x14 x15 x16 x17 x18 x19 x20 x21 x22 x23 x24 x25 x26 x27 x28 x29 x30 x31 x32 x33 x34 x35 x36 x37 x38 x39 x40 x41 x42 x43 x44 x45 x46 x47 x48 x49 x50 x51 x52 x53 x54 x55 x56 x57 x58 x59 x60 x61 x62 x63 x64 x65 x66 x67 x68 x69 x70 x71 x72 x73 x74 x75 x76 x77 x78 x79 x80 x81 x82 x83 x84 x85 x86 x87 x88 x89 x90 x91 x92 x93 x94 x95 x96 x97 x98 x99 x100 x101 x102 x103 x104 x105 x106 x107 x108 x109 x110 x111 x112 v0 v1 v2 v3 v4 v5 v6 v7 v8 v9 v10 v11 v12 v13 v14 v15 v16 v17 v18 v19 v20 v21 v22 v23 v24 v25 v26 v27 v28 v29 v30 v31 v32 v33 v34 v35 v36 v37 v38 v39 v40 v41 v42 v43 v44 v45 v46 v47 v48 v49 v50 v51 v52 v53 v54 v55 v56 v57 v58 v59 v60 v61 v62 v63 v64 v65 v66 v67 v68 v69 v70 v71 v72 v73 v74 v75 v76 v77 v78 v79 v80 v81 v82 v83 v84 v85 v86 v87 v88 v89 v90 v91 v92 v93 v94 v95 v96 v97 v98 v99 v100 v101 v102 v103 v104 v105 v106 v107 v108 v109 v110 v111 v112 : Value) (j : Nat → Value)
abbrev q21 : QD := bodyQ Tryz.prog Tryz.f21.results.toList K E
abbrev d21 (p : List Nat) : QD → Env → Hp → Prop := den Tryz.prog (sel (bodyOf Tryz.f21) p)
def m21_1_1_0_1_0_0 (j : Nat → Value) : Env := #[x0, x1, x2, v3, v4, (j 5), (j 6), (j 7), (j 8), (j 9), (j 10), (j 11), (j 12), (j 13), (j 14), (j 15), (j 16), (j 17), (j 18), (j 19), (j 20), (j 21), (j 22), (j 23), (j 24), (j 25), (j 26), (j 27), (j 28), (j 29), (j 30), (j 31), (j 32), (j 33), (j 34), (j 35), (j 36), (j 37), (j 38), (j 39), (j 40), (j 41), (j 42), (j 43), (j 44), (j 45), (j 46), (j 47), (j 48), (j 49), (j 50), x51]
def m21_1_1_0_1_0_0_1_0_0_1_1_0_0 (j : Nat → Value) : Env := #[x0, x1, x2, v3, x4, v5, x6, x7, x8, x9, x10, x11, x12, x13, x14, x15, x16, x17, x18, x19, x20, x21, x22, x23, x24, x25, x26, x27, (j 28), (j 29), (j 30), (j 31), (j 32), (j 33), (j 34), (j 35), (j 36), (j 37), (j 38), (j 39), (j 40), (j 41), (j 42), (j 43), (j 44), (j 45), (j 46), (j 47), (j 48), (j 49), (j 50), x51]
theorem t21 : d21 [] (q21 K E) #[x0, U, U, U, U, U, U, U, U, U, U, U, U, U, U, U, U, U, U, U, U, U, U, U, U, U, U, U, U, U, U, U, U, U, U, U, U, U, U, U, U, U, U, U, U, U, U, U, U, U, U, U] =
  lp (fun k1 => d21 [1, 1, 0, 1, 0, 0] (thenD k1 (blk 0 (thenD (d21 [1, 1, 1] (q21 K E)) (q21 K E))))) (m21_1_1_0_1_0_0 x0 U (.int .i64 0) U (.int .i64 0) (.int .i64 0) (jf #[])) := by kernel_rfl
theorem t21_1_1_0_1_0_0 : d21 [1, 1, 0, 1, 0, 0] (thenD k1 (blk 0 (thenD (d21 [1, 1, 1] (q21 K E)) (q21 K E)))) (m21_1_1_0_1_0_0 x0 x1 x2 x51 v3 v4 j) =
  pv (lenV x0) fun t1 =>
  pv (binV .none .lss v4 t1) fun t2 =>
  cnd t2 (
   pv (iaV none 8 x0 v4) fun t3 =>
   pv (faV 2 t3) fun t4 =>
   ld false 1 t4 fun t5 =>
   pv (lenV t5) fun t6 =>
   pv (binV .none .add (.int .i64 1) t6) fun t7 =>
   pv (iaV none 8 x0 v4) fun t8 =>
   pv (faV 4 t8) fun t9 =>
   ld false 1 t9 fun t10 =>
   pv (lenV t10) fun t11 =>
   pv (binV .none .add t7 t11) fun t12 =>
   pv (binV .none .add v3 t12) fun t13 =>
   lp (fun k2 => d21 [1, 1, 0, 1, 0, 0, 1, 0, 0, 1, 1, 0, 0] (thenD k2 (blk 2 (blk 1 (thenD (d21 [1, 1, 0, 1, 0, 0, 1, 1] (thenD k1 (blk 0 (thenD (d21 [1, 1, 1] (q21 K E)) (q21 K E))))) (thenD k1 (blk 0 (thenD (d21 [1, 1, 1] (q21 K E)) (q21 K E))))))))) (m21_1_1_0_1_0_0_1_0_0_1_1_0_0 x0 x1 x2 v4 v4 x0 t1 t2 (j 10) (j 11) v3 x0 v4 t3 t4 t5 t6 t7 x0 v4 t8 t9 t10 t11 t12 t13 x51 t13 (.int .i64 0) (jf #[U, U, U, U, U, U, U, U, U, U, U, U, U, U, U, U, U, U, U, U, U, U, U, U, U, U, U, U, (j 28), (j 29), (j 30), (j 31), (j 32), (j 33), (j 34), (j 35), (j 36), (j 37), (j 38), (j 39), (j 40), (j 41), (j 42), (j 43), (j 44), (j 45), (j 46), (j 47), (j 48), (j 49), (j 50)]))) (
   K v3) := by kernel_rfl
theorem t21_1_1_0_1_0_0_1_0_0_1_1_0_0 : d21 [1, 1, 0, 1, 0, 0, 1, 0, 0, 1, 1, 0, 0] (thenD k2 (blk 2 (blk 1 (thenD (d21 [1, 1, 0, 1, 0, 0, 1, 1] (thenD k1 (blk 0 (thenD (d21 [1, 1, 1] (q21 K E)) (q21 K E))))) (thenD k1 (blk 0 (thenD (d21 [1, 1, 1] (q21 K E)) (q21 K E)))))))) (m21_1_1_0_1_0_0_1_0_0_1_1_0_0 x0 x1 x2 x4 x6 x7 x8 x9 x10 x11 x12 x13 x14 x15 x16 x17 x18 x19 x20 x21 x22 x23 x24 x25 x26 x27 x51 v3 v5 j) =
  pv (iaV none 8 x0 x4) fun t1 =>
  pv (faV 7 t1) fun t2 =>
  ld false 1 t2 fun t3 =>
  pv (lenV t3) fun t4 =>
  pv (binV .none .lss v5 t4) fun t5 =>
  cnd t5 (
   pv (iaV none 8 x0 x4) fun t6 =>
   pv (faV 7 t6) fun t7 =>
   ld false 1 t7 fun t8 =>
   pv (iaV none 2 t8 v5) fun t9 =>
   pv (faV 1 t9) fun t10 =>
   ld false 1 t10 fun t11 =>
   pv (lenV t11) fun t12 =>
   pv (binV .none .add (.int .i64 1) t12) fun t13 =>
   pv (binV .none .add v3 t13) fun t14 =>
   pv (binV .none .add v5 (.int .i64 1)) fun t15 =>
   k2 (m21_1_1_0_1_0_0_1_0_0_1_1_0_0 x0 x1 x2 x4 x6 x7 x8 x9 x10 x11 x12 x13 x14 x15 x16 x17 x18 x19 x20 x21 x22 x23 x24 x25 x26 x27 x51 t14 t15 (jf #[U, U, U, U, U, U, U, U, U, U, U, U, U, U, U, U, U, U, U, U, U, U, U, U, U, U, U, U, v5, x0, x4, t1, t2, t3, t4, t5, v5, t15, v3, x0, x4, t6, t7, t8, v5, t9, t10, t11, t12, t13, t14]))) (
   pv (binV .none .add x4 (.int .i64 1)) fun t16 =>
   k1 (m21_1_1_0_1_0_0 x0 x1 x2 x51 v3 t16 (jf #[U, U, U, U, U, v5, x6, x7, x8, x9, x4, t16, x12, x13, x14, x15, x16, x17, x18, x19, x20, x21, x22, x23, x24, x25, x26, x27, v5, x0, x4, t1, t2, t3, t4, t5, (j 36), (j 37), (j 38), (j 39), (j 40), (j 41), (j 42), (j 43), (j 44), (j 45), (j 46), (j 47), (j 48), (j 49), (j 50)]))) := by kernel_rfl
abbrev q23 : QD := bodyQ Tryz.prog Tryz.f23.results.toList K E
abbrev d23 (p : List Nat) : QD → Env → Hp → Prop := den Tryz.prog (sel (bodyOf Tryz.f23) p)
theorem t23 : d23 [] (q23 K E) #[x0, x1, x2, x3, U, U, U, U, U, U, U, U, U, U, U, U, U, U, U, U, U, U, U, U, U, U, U, U, U, U, U, U, U, U, U, U, U, U, U, U, U, U, U, U, U, U, U, U, U, U, U, U, U, U, U, U, U, U, U, U, U, U, U, U, U, U, U, U, U, U, U, U, U, U, U, U, U, U, U, U, U, U, U, U, U, U, U, U, U, U, U, U, U, U, U, U, U, U, U, U, U, U, U, U, U, U, U, U, U, U, U, U, U] =
  nw 62 (Value.cells x3).toList fun t1 =>
  pv (faV 2 t1) fun t2 =>
  ld false 1 t2 fun t3 =>
  pv (faV 3 t1) fun t4 =>
  ld false 1 t4 fun t5 =>
  callv Tryz.prog (.func (.func 16) #[] #[]) #[x2, t3, t5] (fun t6 =>
  pv (faV 0 t1) fun t7 =>
  ld false 1 t7 fun t8 =>
  pv (binV .none .rem t8 (.int .u8 6)) fun t9 =>
  pv (binV .none .eql t9 (.int .u8 4)) fun t10 =>
  cnd t10 (
   pv (faV 1 t1) fun t11 =>
   ld false 1 t11 fun t12 =>
   pv (faV 4 t1) fun t13 =>
   ld false 1 t13 fun t14 =>
   pv (faV 1 t1) fun t15 =>
   ld false 1 t15 fun t16 =>
   pv (faV 4 t1) fun t17 =>
   ld false 1 t17 fun t18 =>
   callv Tryz.prog (.func (.func 15) #[] #[]) #[x0, t12, t14] (fun t19 h20 => (ldV h20 false 1 t17 t18) ∧ (ldV h20 false 1 t15 t16) ∧ (
    pv (cvV .i64 t19) fun t21 =>
    callv Tryz.prog (.func (.func 44) #[] #[]) #[x1, t16, t18] (fun t22 =>
    pv (binV .none .eql t21 t22) fun t23 =>
    gdK t23 true (fun k => k x0) fun t24 =>
    gdK t23 true (fun k => pv (faV 4 t1) k) fun t25 =>
    gdK t23 true (fun k => ld false 1 t25 k) fun t26 =>
    gdK t23 true (fun k => k x1) fun t27 =>
    gdK t23 true (fun k => pv (faV 4 t1) k) fun t28 =>
    gdK t23 true (fun k => ld false 1 t28 k) fun t29 =>
    gdK t23 true (fun k => callv Tryz.prog (.func (.func 34) #[] #[]) #[t24, t26] k E) (fun t30 h31 => (isB t23 true = true → ldV h31 false 1 t28 t29) ∧ (
     gdK t23 true (fun k => callv Tryz.prog (.func (.func 45) #[] #[]) #[t27, t29] k E) fun t32 =>
     gdK t23 true (fun k => pv (binV .bool .eql t30 t32) k) fun t33 =>
     pv (pickV t23 t33 (.bool false)) fun t34 =>
     d23 [1, 1, 1, 1] (q23 K E) #[x0, x1, x2, x3, U, U, U, t1, (.int .i64 0), t6, t34, U, x2, t2, t3, t4, t5, t6, t7, t8, t9, U, U, U, U, U, U, U, U, U, U, U, U, U, U, t10, t10, x0, t11, t12, t13, t14, t19, t21, x1, t15, t16, t17, t18, t22, t23, t23, t24, t25, t26, t30, t27, t28, t29, t32, t33, t34, U, U, U, U, U, U, U, U, U, U, U, U, U, U, U, U, U, U, U, U, U, U, U, U, U, U, U, U, U, U, U, U, U, U, U, U, U, U, U, U, U, U, U, U, U, U, U, U, U, U, U]) h31)) E) h20) E) (
   pv (binV .none .eql t9 (.int .u8 5)) fun t35 =>
   cnd t35 (
    pv (faV 5 t1) fun t36 =>
    ld false 1 t36 fun t37 =>
    pv (cvV .i64 t37) fun t38 =>
    pv (faV 6 t1) fun t39 =>
    ld false 1 t39 fun t40 =>
    pv (cvV .i64 t40) fun t41 =>
    pv (faV 7 t1) fun t42 =>
    ld false 1 t42 fun t43 =>
    pv (faV 5 t1) fun t44 =>
    ld false 1 t44 fun t45 =>
    pv (cvV .i64 t45) fun t46 =>
    pv (faV 6 t1) fun t47 =>
    ld false 1 t47 fun t48 =>
    pv (cvV .i64 t48) fun t49 =>
    pv (faV 7 t1) fun t50 =>
    ld false 1 t50 fun t51 =>
    callv Tryz.prog (.func (.func 26) #[] #[]) #[x0, t38, t41, t43] (fun t52 h53 => (ldV h53 false 1 t50 t51) ∧ (ldV h53 false 1 t47 t48) ∧ (ldV h53 false 1 t44 t45) ∧ (
     pv (cvV .i64 t52) fun t54 =>
     callv Tryz.prog (.func (.func 46) #[] #[]) #[x1, t46, t49, t51] (fun t55 =>
     pv (binV .none .eql t54 t55) fun t56 =>
     ld true 8 t1 fun t57 =>
     callv Tryz.prog (.func (.func 47) #[] #[]) #[x2, t57] (fun t58 =>
     gdK t56 true (fun k => k x0) fun t59 =>
     gdK t56 true (fun k => pv (faV 5 t1) k) fun t60 =>
     gdK t56 true (fun k => ld false 1 t60 k) fun t61 =>
     gdK t56 true (fun k => pv (cvV .i64 t61) k) fun t62 =>
     gdK t56 true (fun k => pv (faV 6 t1) k) fun t63 =>
     gdK t56 true (fun k => ld false 1 t63 k) fun t64 =>
     gdK t56 true (fun k => pv (cvV .i64 t64) k) fun t65 =>
     gdK t56 true (fun k => k t58) fun t66 =>
     gdK t56 true (fun k => k x1) fun t67 =>
     gdK t56 true (fun k => pv (faV 5 t1) k) fun t68 =>
     gdK t56 true (fun k => ld false 1 t68 k) fun t69 =>
     gdK t56 true (fun k => pv (cvV .i64 t69) k) fun t70 =>
     gdK t56 true (fun k => pv (faV 6 t1) k) fun t71 =>
     gdK t56 true (fun k => ld false 1 t71 k) fun t72 =>
     gdK t56 true (fun k => pv (cvV .i64 t72) k) fun t73 =>
     gdK t56 true (fun k => k t58) fun t74 =>
     gdK t56 true (fun k => callv Tryz.prog (.func (.func 26) #[] #[]) #[t59, t62, t65, t66] k E) (fun t75 h76 => (isB t56 true = true → ldV h76 false 1 t71 t72) ∧ (isB t56 true = true → ldV h76 false 1 t68 t69) ∧ (
      gdK t56 true (fun k => pv (cvV .i64 t75) k) fun t77 =>
      gdK t56 true (fun k => callv Tryz.prog (.func (.func 46) #[] #[]) #[t67, t70, t73, t74] k E) fun t78 =>
      gdK t56 true (fun k => pv (binV .none .eql t77 t78) k) fun t79 =>
      pv (pickV t56 t79 (.bool false)) fun t80 =>
      d23 [1, 1, 1, 1] (q23 K E) #[x0, x1, x2, x3, U, U, U, t1, (.int .i64 0), t6, t80, t58, x2, t2, t3, t4, t5, t6, t7, t8, t9, U, U, U, U, U, U, U, U, U, U, U, U, U, U, t10, t10, U, U, U, U, U, U, U, U, U, U, U, U, U, U, U, U, U, U, U, U, U, U, U, U, U, t35, t35, x0, t36, t37, t38, t39, t40, t41, t42, t43, t52, t54, x1, t44, t45, t46, t47, t48, t49, t50, t51, t55, t56, x2, t57, t58, t56, t56, t59, t60, t61, t62, t63, t64, t65, t66, t75, t77, t67, t68, t69, t70, t71, t72, t73, t74, t78, t79, t80, U]) h76)) E) E) h53) E) (
    pv (faV 1 t1) fun t81 =>
    ld false 1 t81 fun t82 =>
    pv (binV .none .rem t82 (.int .u32 40)) fun t83 =>
    pv (faV 1 t1) fun t84 =>
    ld false 1 t84 fun t85 =>
    pv (binV .none .rem t85 (.int .u32 40)) fun t86 =>
    callv Tryz.prog (.func (.func 15) #[] #[]) #[x0, t83, t6] (fun t87 h88 => (ldV h88 false 1 t84 t85) ∧ (
     pv (cvV .i64 t87) fun t89 =>
     callv Tryz.prog (.func (.func 44) #[] #[]) #[x1, t86, t6] (fun t90 =>
     pv (binV .none .eql t89 t90) fun t91 =>
     d23 [1, 1, 1, 1] (q23 K E) #[x0, x1, x2, x3, U, U, U, t1, (.int .i64 0), t6, t91, U, x2, t2, t3, t4, t5, t6, t7, t8, t9, x0, t81, t82, t83, t6, t87, t89, x1, t84, t85, t86, t6, t90, t91, t10, t10, U, U, U, U, U, U, U, U, U, U, U, U, U, U, U, U, U, U, U, U, U, U, U, U, U, t35, t35, U, U, U, U, U, U, U, U, U, U, U, U, U, U, U, U, U, U, U, U, U, U, U, U, U, U, U, U, U, U, U, U, U, U, U, U, U, U, U, U, U, U, U, U, U, U, U, U, U]) E) h88) E))) E := by kernel_rfl
theorem t23_1_1_1_1 : d23 [1, 1, 1, 1] (q23 K E) #[x0, x1, x2, x3, x4, x5, x6, x7, x8, x9, x10, x11, x12, x13, x14, x15, x16, x17, x18, x19, x20, x21, x22, x23, x24, x25, x26, x27, x28, x29, x30, x31, x32, x33, x34, x35, x36, x37, x38, x39, x40, x41, x42, x43, x44, x45, x46, x47, x48, x49, x50, x51, x52, x53, x54, x55, x56, x57, x58, x59, x60, x61, x62, x63, x64, x65, x66, x67, x68, x69, x70, x71, x72, x73, x74, x75, x76, x77, x78, x79, x80, x81, x82, x83, x84, x85, x86, x87, x88, x89, x90, x91, x92, x93, x94, x95, x96, x97, x98, x99, x100, x101, x102, x103, x104, x105, x106, x107, x108, x109, x110, x111, x112] =
  cnd x10 (
   K (.int .i64 1)) (
   K (.int .i64 0)) := by kernel_rfl
abbrev q25 : QD := bodyQ Tryz.prog Tryz.f25.results.toList K E
abbrev d25 (p : List Nat) : QD → Env → Hp → Prop := den Tryz.prog (sel (bodyOf Tryz.f25) p)
abbrev q47 : QD := bodyQ Tryz.prog Tryz.f47.results.toList K E
abbrev d47 (p : List Nat) : QD → Env → Hp → Prop := den Tryz.prog (sel (bodyOf Tryz.f47) p)
def m47_1_1_0_1_0_0 (j : Nat → Value) : Env := #[x0, x1, x2, x3, x4, v5, v6, (j 7), (j 8), (j 9), (j 10), (j 11), (j 12), (j 13), (j 14), (j 15), (j 16), (j 17), (j 18), (j 19), (j 20), (j 21), (j 22), (j 23), (j 24), (j 25), (j 26), (j 27), (j 28), (j 29), (j 30), (j 31), (j 32), (j 33), (j 34), (j 35), (j 36), (j 37), (j 38), (j 39), (j 40), (j 41), (j 42), (j 43), (j 44), (j 45), (j 46), (j 47), (j 48), (j 49), (j 50), (j 51), (j 52), (j 53), (j 54), (j 55), (j 56), (j 57), (j 58), (j 59), (j 60), (j 61), (j 62), (j 63), (j 64), (j 65), (j 66), (j 67), (j 68), (j 69), (j 70), (j 71), (j 72), (j 73), (j 74), (j 75), (j 76), (j 77), (j 78), (j 79), (j 80), (j 81), (j 82), (j 83), (j 84), (j 85), (j 86), (j 87), x88]
def m47_1_1_0_1_0_0_1_0_0_1_1_0_1_0_0 (j : Nat → Value) : Env := #[x0, x1, x2, x3, x4, x5, x6, x7, v8, v9, x10, x11, x12, x13, x14, x15, x16, x17, x18, x19, x20, x21, x22, x23, x24, x25, x26, (j 27), (j 28), (j 29), (j 30), (j 31), (j 32), (j 33), (j 34), (j 35), (j 36), (j 37), (j 38), (j 39), (j 40), (j 41), (j 42), (j 43), (j 44), (j 45), (j 46), (j 47), (j 48), (j 49), (j 50), (j 51), (j 52), (j 53), (j 54), (j 55), (j 56), (j 57), (j 58), (j 59), (j 60), (j 61), (j 62), (j 63), (j 64), (j 65), (j 66), (j 67), (j 68), (j 69), (j 70), x71, x72, x73, x74, x75, x76, x77, x78, x79, x80, x81, x82, x83, x84, x85, x86, x87, x88]
theorem t47 : d47 [] (q47 K E) #[x0, x1, U, U, U, U, U, U, U, U, U, U, U, U, U, U, U, U, U, U, U, U, U, U, U, U, U, U, U, U, U, U, U, U, U, U, U, U, U, U, U, U, U, U, U, U, U, U, U, U, U, U, U, U, U, U, U, U, U, U, U, U, U, U, U, U, U, U, U, U, U, U, U, U, U, U, U, U, U, U, U, U, U, U, U, U, U, U, U] =
  nw 62 (Value.cells x1).toList fun t1 =>
  lp (fun k1 => d47 [1, 1, 0, 1, 0, 0] (thenD k1 (blk 0 (thenD (d47 [1, 1, 1] (q47 K E)) (q47 K E))))) (m47_1_1_0_1_0_0 x0 x1 U t1 (.slice none 0 0) U (.slice none 0 0) (.int .i64 0) (jf #[])) := by kernel_rfl
theorem t47_1_1_0_1_0_0 : d47 [1, 1, 0, 1, 0, 0] (thenD k1 (blk 0 (thenD (d47 [1, 1, 1] (q47 K E)) (q47 K E)))) (m47_1_1_0_1_0_0 x0 x1 x2 x3 x4 x88 v5 v6 j) =
  pv (faV 7 x3) fun t1 =>
  ld false 1 t1 fun t2 =>
  pv (lenV t2) fun t3 =>
  pv (binV .none .lss v6 t3) fun t4 =>
  gdK t4 true (fun k => k v6) fun t5 =>
  gdK t4 true (fun k => pv (binV .none .lss t5 (.int .i64 20)) k) fun t6 =>
  pv (pickV t4 t6 (.bool false)) fun t7 =>
  cnd t7 (
   pv (faV 2 x3) fun t8 =>
   ld false 1 t8 fun t9 =>
   pv (faV 3 x3) fun t10 =>
   ld false 1 t10 fun t11 =>
   callv Tryz.prog (.func (.func 16) #[] #[]) #[x0, t9, t11] (fun t12 =>
   lp (fun k2 => d47 [1, 1, 0, 1, 0, 0, 1, 0, 0, 1, 1, 0, 1, 0, 0] (thenD k2 (blk 2 (thenD (d47 [1, 1, 0, 1, 0, 0, 1, 0, 0, 1, 1, 1] (blk 1 (thenD (d47 [1, 1, 0, 1, 0, 0, 1, 1] (thenD k1 (blk 0 (thenD (d47 [1, 1, 1] (q47 K E)) (q47 K E))))) (thenD k1 (blk 0 (thenD (d47 [1, 1, 1] (q47 K E)) (q47 K E))))))) (blk 1 (thenD (d47 [1, 1, 0, 1, 0, 0, 1, 1] (thenD k1 (blk 0 (thenD (d47 [1, 1, 1] (q47 K E)) (q47 K E))))) (thenD k1 (blk 0 (thenD (d47 [1, 1, 1] (q47 K E)) (q47 K E)))))))))) (m47_1_1_0_1_0_0_1_0_0_1_1_0_1_0_0 x0 x1 x2 x3 x4 v5 v6 t12 v6 t1 t2 t3 t4 t4 t5 t6 t7 (j 19) (j 20) x0 t8 t9 t10 t11 t12 (j 71) (j 72) (j 73) (j 74) (j 75) (j 76) (j 77) (j 78) (j 79) (j 80) (j 81) (j 82) (j 83) (j 84) (j 85) (j 86) (j 87) x88 (.slice none 0 0) (.int .i64 0) (jf #[U, U, U, U, U, U, U, U, U, U, U, U, U, U, U, U, U, U, U, U, U, U, U, U, U, U, U, (j 27), (j 28), (j 29), (j 30), (j 31), (j 32), (j 33), (j 34), (j 35), (j 36), (j 37), (j 38), (j 39), (j 40), (j 41), (j 42), (j 43), (j 44), (j 45), (j 46), (j 47), (j 48), (j 49), (j 50), (j 51), (j 52), (j 53), (j 54), (j 55), (j 56), (j 57), (j 58), (j 59), (j 60), (j 61), (j 62), (j 63), (j 64), (j 65), (j 66), (j 67), (j 68), (j 69), (j 70)]))) E) (
   K v5) := by kernel_rfl
theorem t47_1_1_0_1_0_0_1_0_0_1_1_0_1_0_0 : d47 [1, 1, 0, 1, 0, 0, 1, 0, 0, 1, 1, 0, 1, 0, 0] (thenD k2 (blk 2 (thenD (d47 [1, 1, 0, 1, 0, 0, 1, 0, 0, 1, 1, 1] (blk 1 (thenD (d47 [1, 1, 0, 1, 0, 0, 1, 1] (thenD k1 (blk 0 (thenD (d47 [1, 1, 1] (q47 K E)) (q47 K E))))) (thenD k1 (blk 0 (thenD (d47 [1, 1, 1] (q47 K E)) (q47 K E))))))) (blk 1 (thenD (d47 [1, 1, 0, 1, 0, 0, 1, 1] (thenD k1 (blk 0 (thenD (d47 [1, 1, 1] (q47 K E)) (q47 K E))))) (thenD k1 (blk 0 (thenD (d47 [1, 1, 1] (q47 K E)) (q47 K E))))))))) (m47_1_1_0_1_0_0_1_0_0_1_1_0_1_0_0 x0 x1 x2 x3 x4 x5 x6 x7 x10 x11 x12 x13 x14 x15 x16 x17 x18 x19 x20 x21 x22 x23 x24 x25 x26 x71 x72 x73 x74 x75 x76 x77 x78 x79 x80 x81 x82 x83 x84 x85 x86 x87 x88 v8 v9 j) =
  pv (lenV x7) fun t1 =>
  pv (binV .none .lss v9 t1) fun t2 =>
  cnd t2 (
   pv (iaV none 2 x7 v9) fun t3 =>
   pv (faV 0 t3) fun t4 =>
   ld false 1 t4 fun t5 =>
   pv (iaV none 1 t5 (.int .i64 0)) fun t6 =>
   ld false 1 t6 fun t7 =>
   pv (faV 5 x3) fun t8 =>
   ld false 1 t8 fun t9 =>
   pv (cvV .i64 t9) fun t10 =>
   pv (binV .none .geq t7 t10) fun t11 =>
   gdK t11 true (fun k => k x7) fun t12 =>
   gdK t11 true (fun k => k v9) fun t13 =>
   gdK t11 true (fun k => pv (iaV none 2 t12 t13) k) fun t14 =>
   gdK t11 true (fun k => pv (faV 0 t14) k) fun t15 =>
   gdK t11 true (fun k => ld false 1 t15 k) fun t16 =>
   gdK t11 true (fun k => pv (iaV none 1 t16 (.int .i64 0)) k) fun t17 =>
   gdK t11 true (fun k => ld false 1 t17 k) fun t18 =>
   gdK t11 true (fun k => pv (faV 6 x3) k) fun t19 =>
   gdK t11 true (fun k => ld false 1 t19 k) fun t20 =>
   gdK t11 true (fun k => pv (cvV .i64 t20) k) fun t21 =>
   gdK t11 true (fun k => pv (binV .none .lss t18 t21) k) fun t22 =>
   pv (pickV t11 t22 (.bool false)) fun t23 =>
   gdK t23 true (fun k => k v9) fun t24 =>
   gdK t23 true (fun k => k x6) fun t25 =>
   gdK t23 true (fun k => pv (binV .none .add t25 (.int .i64 1)) k) fun t26 =>
   gdK t23 true (fun k => pv (binV .none .rem t24 t26) k) fun t27 =>
   gdK t23 true (fun k => pv (binV .none .eql t27 (.int .i64 0)) k) fun t28 =>
   pv (pickV t23 t28 (.bool false)) fun t29 =>
   cnd t29 (
    pv (iaV none 2 x7 v9) fun t30 =>
    ld true 2 t30 fun t31 =>
    nws 48 1 (bsC #[(.slice none 0 0), (.int .i64 0)] 2 1 #[(0, t31)]) fun t32 =>
    appX 48 2 32 v8 t32 fun t33 =>
    d47 [1, 1, 0, 1, 0, 0, 1, 0, 0, 1, 1, 0, 1, 0, 0, 1, 1] (thenD k2 (blk 2 (thenD (d47 [1, 1, 0, 1, 0, 0, 1, 0, 0, 1, 1, 1] (blk 1 (thenD (d47 [1, 1, 0, 1, 0, 0, 1, 1] (thenD k1 (blk 0 (thenD (d47 [1, 1, 1] (q47 K E)) (q47 K E))))) (thenD k1 (blk 0 (thenD (d47 [1, 1, 1] (q47 K E)) (q47 K E))))))) (blk 1 (thenD (d47 [1, 1, 0, 1, 0, 0, 1, 1] (thenD k1 (blk 0 (thenD (d47 [1, 1, 1] (q47 K E)) (q47 K E))))) (thenD k1 (blk 0 (thenD (d47 [1, 1, 1] (q47 K E)) (q47 K E))))))))) #[x0, x1, x2, x3, x4, x5, x6, x7, t33, v9, x10, x11, x12, x13, x14, x15, x16, x17, x18, x19, x20, x21, x22, x23, x24, x25, x26, v9, x7, t1, t2, (j 31), (j 32), x7, v9, t3, t4, t5, t6, t7, t8, t9, t10, t11, t11, t12, t13, t14, t15, t16, t17, t18, t19, t20, t21, t22, t23, t23, t24, t25, t26, t27, t28, t29, v8, x7, v9, t30, t31, t32, t33, x71, x72, x73, x74, x75, x76, x77, x78, x79, x80, x81, x82, x83, x84, x85, x86, x87, x88]) (
    d47 [1, 1, 0, 1, 0, 0, 1, 0, 0, 1, 1, 0, 1, 0, 0, 1, 1] (thenD k2 (blk 2 (thenD (d47 [1, 1, 0, 1, 0, 0, 1, 0, 0, 1, 1, 1] (blk 1 (thenD (d47 [1, 1, 0, 1, 0, 0, 1, 1] (thenD k1 (blk 0 (thenD (d47 [1, 1, 1] (q47 K E)) (q47 K E))))) (thenD k1 (blk 0 (thenD (d47 [1, 1, 1] (q47 K E)) (q47 K E))))))) (blk 1 (thenD (d47 [1, 1, 0, 1, 0, 0, 1, 1] (thenD k1 (blk 0 (thenD (d47 [1, 1, 1] (q47 K E)) (q47 K E))))) (thenD k1 (blk 0 (thenD (d47 [1, 1, 1] (q47 K E)) (q47 K E))))))))) #[x0, x1, x2, x3, x4, x5, x6, x7, v8, v9, x10, x11, x12, x13, x14, x15, x16, x17, x18, x19, x20, x21, x22, x23, x24, x25, x26, v9, x7, t1, t2, (j 31), (j 32), x7, v9, t3, t4, t5, t6, t7, t8, t9, t10, t11, t11, t12, t13, t14, t15, t16, t17, t18, t19, t20, t21, t22, t23, t23, t24, t25, t26, t27, t28, t29, (j 64), (j 65), (j 66), (j 67), (j 68), (j 69), (j 70), x71, x72, x73, x74, x75, x76, x77, x78, x79, x80, x81, x82, x83, x84, x85, x86, x87, x88])) (
   pv (cvV .u32 x6) fun t34 =>
   pv (binV .none .mul t34 (.int .u32 3)) fun t35 =>
   pv (binV .none .add t35 (.int .u32 1)) fun t36 =>
   pv (faV 7 x3) fun t37 =>
   ld false 1 t37 fun t38 =>
   pv (iaV none 2 t38 x6) fun t39 =>
   pv (faV 0 t39) fun t40 =>
   ld false 1 t40 fun t41 =>
   pv (binV .none .rem t41 (.int .u32 3)) fun t42 =>
   pv (binV .none .add t36 t42) fun t43 =>
   pv (bdC #[(.int .u32 0), (.slice none 0 0)] [(0, 1), (1, 1)] #[(0, t43), (1, v8)]) fun t44 =>
   nws 52 1 (bsC #[(.int .u32 0), (.slice none 0 0)] 2 1 #[(0, t44)]) fun t45 =>
   appX 52 2 32 x5 t45 fun t46 =>
   pv (binV .none .add x6 (.int .i64 1)) fun t47 =>
   k1 (m47_1_1_0_1_0_0 x0 x1 x2 x3 x4 x88 t46 t47 (jf #[U, U, U, U, U, U, U, x7, v8, v9, x10, x11, x12, x13, x14, x15, x16, x17, x18, x6, t47, x21, x22, x23, x24, x25, x26, v9, x7, t1, t2, (j 31), (j 32), (j 33), (j 34), (j 35), (j 36), (j 37), (j 38), (j 39), (j 40), (j 41), (j 42), (j 43), (j 44), (j 45), (j 46), (j 47), (j 48), (j 49), (j 50), (j 51), (j 52), (j 53), (j 54), (j 55), (j 56), (j 57), (j 58), (j 59), (j 60), (j 61), (j 62), (j 63), (j 64), (j 65), (j 66), (j 67), (j 68), (j 69), (j 70), x5, x6, t34, t35, t36, t37, t38, x6, t39, t40, t41, t42, t43, v8, t44, t45, t46]))) := by kernel_rfl
theorem t47_1_1_0_1_0_0_1_0_0_1_1_0_1_0_0_1_1 : d47 [1, 1, 0, 1, 0, 0, 1, 0, 0, 1, 1, 0, 1, 0, 0, 1, 1] (thenD k2 (blk 2 (thenD (d47 [1, 1, 0, 1, 0, 0, 1, 0, 0, 1, 1, 1] (blk 1 (thenD (d47 [1, 1, 0, 1, 0, 0, 1, 1] (thenD k1 (blk 0 (thenD (d47 [1, 1, 1] (q47 K E)) (q47 K E))))) (thenD k1 (blk 0 (thenD (d47 [1, 1, 1] (q47 K E)) (q47 K E))))))) (blk 1 (thenD (d47 [1, 1, 0, 1, 0, 0, 1, 1] (thenD k1 (blk 0 (thenD (d47 [1, 1, 1] (q47 K E)) (q47 K E))))) (thenD k1 (blk 0 (thenD (d47 [1, 1, 1] (q47 K E)) (q47 K E))))))))) #[x0, x1, x2, x3, x4, x5, x6, x7, x8, x9, x10, x11, x12, x13, x14, x15, x16, x17, x18, x19, x20, x21, x22, x23, x24, x25, x26, x27, x28, x29, x30, x31, x32, x33, x34, x35, x36, x37, x38, x39, x40, x41, x42, x43, x44, x45, x46, x47, x48, x49, x50, x51, x52, x53, x54, x55, x56, x57, x58, x59, x60, x61, x62, x63, x64, x65, x66, x67, x68, x69, x70, x71, x72, x73, x74, x75, x76, x77, x78, x79, x80, x81, x82, x83, x84, x85, x86, x87, x88] =
  pv (binV .none .add x9 (.int .i64 1)) fun t1 =>
  k2 (m47_1_1_0_1_0_0_1_0_0_1_1_0_1_0_0 x0 x1 x2 x3 x4 x5 x6 x7 x10 x11 x12 x13 x14 x15 x16 x17 x18 x19 x20 x21 x22 x23 x24 x25 x26 x71 x72 x73 x74 x75 x76 x77 x78 x79 x80 x81 x82 x83 x84 x85 x86 x87 x88 x8 t1 (jf #[U, U, U, U, U, U, U, U, U, U, U, U, U, U, U, U, U, U, U, U, U, U, U, U, U, U, U, x27, x28, x29, x30, x9, t1, x33, x34, x35, x36, x37, x38, x39, x40, x41, x42, x43, x44, x45, x46, x47, x48, x49, x50, x51, x52, x53, x54, x55, x56, x57, x58, x59, x60, x61, x62, x63, x64, x65, x66, x67, x68, x69, x70])) := by kernel_rfl
end
section
variable {K : Kont} {E : PanK} {k1 k2 k3 k4 k5 : Env → Hp → Prop} {σ : Type} {x0 x1 x2 x3 x4 x5 x6 x7 x8 x9 x10 x11 x12 x13 x14 x15 x16 x17 x18 x19 x20 x21 x22 x23 x24 x25 x26 x27 x28 x29 x30 x31 x32 x33 x34 x35 x36 x37 x38 x39 x40 x41 x42 x43 x44 x45 x46 x47 x48 x49 x50 x51 x52 x53 x54 x55 x56 x57 x58 x59 x60 x61 x62 x63 x64 x65 x66 x67 x68 x69 x70 x71 x72 x73 x74 x75 x76 x77 x78 x79 x80 x81 x82 x83 x84 x85 x86 x87 x88 x89 x90 x91 x92 x93 x94 x95 x96 x97 x98 x99 x100 x101 x102 x103 x104 x105 x106 x107 x108 x109 x110 x111 x112 v0 v1 v2 v3 v4 v5 v6 v7 v8 v9 v10 v11 v12 v13 v14 v15 v16 v17 v18 v19 v20 v21 v22 v23 v24 v25 v26 v27 v28 v29 v30 v31 v32 v33 v34 v35 v36 v37 v38 v39 v40 v41 v42 v43 v44 v45 v46 v47 v48 v49 v50 v51 v52 v53 v54 v55 v56 v57 v58 v59 v60 v61 v62 v63 v64 v65 v66 v67 v68 v69 v70 v71 v72 v73 v74 v75 v76 v77 v78 v79 v80 v81 v82 v83 v84 v85 v86 v87 v88 v89 v90 v91 v92 v93 v94 v95 v96 v97 v98 v99 v100 v101 v102 v103 v104 v105 v106 v107 v108 v109 v110 v111 v112 : Value} {h : Hp} {j : Nat → Value}
theorem l21_1_1_0_1_0_0 (f3 f4 : σ → Value) (I : σ → Hp → Prop) (μ : σ → Nat) (s0 : σ) (e3 : v3 = f3 s0) (e4 : v4 = f4 s0) (h0 : h.wf → ∃ h', h.wk h' ∧ I s0 h')
 (round : ∀ (k1 : Env → Hp → Prop) (s : σ) (j : Nat → Value) (h : Hp), I s h → h.wf → (∀ s' j' h', μ s' < μ s → (h'.wf → ∃ h'', h'.wk h'' ∧ I s' h'') → k1 (m21_1_1_0_1_0_0 x0 x1 x2 x51 (f3 s') (f4 s') j') h') → d21 [1, 1, 0, 1, 0, 0] (thenD k1 (blk 0 (thenD (d21 [1, 1, 1] (q21 K E)) (q21 K E)))) (m21_1_1_0_1_0_0 x0 x1 x2 x51 (f3 s) (f4 s) j) h) :
 lp (fun k1 => d21 [1, 1, 0, 1, 0, 0] (thenD k1 (blk 0 (thenD (d21 [1, 1, 1] (q21 K E)) (q21 K E))))) (m21_1_1_0_1_0_0 x0 x1 x2 x51 v3 v4 j) h := by
 subst e3
 subst e4
 exact loop_r (fun s j => m21_1_1_0_1_0_0 x0 x1 x2 x51 (f3 s) (f4 s) j) I μ round s0 j h0
theorem l21_1_1_0_1_0_0_1_0_0_1_1_0_0 (f3 f5 : σ → Value) (I : σ → Hp → Prop) (μ : σ → Nat) (s0 : σ) (e3 : v3 = f3 s0) (e5 : v5 = f5 s0) (h0 : h.wf → ∃ h', h.wk h' ∧ I s0 h')
 (round : ∀ (k2 : Env → Hp → Prop) (s : σ) (j : Nat → Value) (h : Hp), I s h → h.wf → (∀ s' j' h', μ s' < μ s → (h'.wf → ∃ h'', h'.wk h'' ∧ I s' h'') → k2 (m21_1_1_0_1_0_0_1_0_0_1_1_0_0 x0 x1 x2 x4 x6 x7 x8 x9 x10 x11 x12 x13 x14 x15 x16 x17 x18 x19 x20 x21 x22 x23 x24 x25 x26 x27 x51 (f3 s') (f5 s') j') h') → d21 [1, 1, 0, 1, 0, 0, 1, 0, 0, 1, 1, 0, 0] (thenD k2 (blk 2 (blk 1 (thenD (d21 [1, 1, 0, 1, 0, 0, 1, 1] (thenD k1 (blk 0 (thenD (d21 [1, 1, 1] (q21 K E)) (q21 K E))))) (thenD k1 (blk 0 (thenD (d21 [1, 1, 1] (q21 K E)) (q21 K E)))))))) (m21_1_1_0_1_0_0_1_0_0_1_1_0_0 x0 x1 x2 x4 x6 x7 x8 x9 x10 x11 x12 x13 x14 x15 x16 x17 x18 x19 x20 x21 x22 x23 x24 x25 x26 x27 x51 (f3 s) (f5 s) j) h) :
 lp (fun k2 => d21 [1, 1, 0, 1, 0, 0, 1, 0, 0, 1, 1, 0, 0] (thenD k2 (blk 2 (blk 1 (thenD (d21 [1, 1, 0, 1, 0, 0, 1, 1] (thenD k1 (blk 0 (thenD (d21 [1, 1, 1] (q21 K E)) (q21 K E))))) (thenD k1 (blk 0 (thenD (d21 [1, 1, 1] (q21 K E)) (q21 K E))))))))) (m21_1_1_0_1_0_0_1_0_0_1_1_0_0 x0 x1 x2 x4 x6 x7 x8 x9 x10 x11 x12 x13 x14 x15 x16 x17 x18 x19 x20 x21 x22 x23 x24 x25 x26 x27 x51 v3 v5 j) h := by
 subst e3
 subst e5
 exact loop_r (fun s j => m21_1_1_0_1_0_0_1_0_0_1_1_0_0 x0 x1 x2 x4 x6 x7 x8 x9 x10 x11 x12 x13 x14 x15 x16 x17 x18 x19 x20 x21 x22 x23 x24 x25 x26 x27 x51 (f3 s) (f5 s) j) I μ round s0 j h0
theorem l47_1_1_0_1_0_0 (f5 f6 : σ → Value) (I : σ → Hp → Prop) (μ : σ → Nat) (s0 : σ) (e5 : v5 = f5 s0) (e6 : v6 = f6 s0) (h0 : h.wf → ∃ h', h.wk h' ∧ I s0 h')
 (round : ∀ (k1 : Env → Hp → Prop) (s : σ) (j : Nat → Value) (h : Hp), I s h → h.wf → (∀ s' j' h', μ s' < μ s → (h'.wf → ∃ h'', h'.wk h'' ∧ I s' h'') → k1 (m47_1_1_0_1_0_0 x0 x1 x2 x3 x4 x88 (f5 s') (f6 s') j') h') → d47 [1, 1, 0, 1, 0, 0] (thenD k1 (blk 0 (thenD (d47 [1, 1, 1] (q47 K E)) (q47 K E)))) (m47_1_1_0_1_0_0 x0 x1 x2 x3 x4 x88 (f5 s) (f6 s) j) h) :
 lp (fun k1 => d47 [1, 1, 0, 1, 0, 0] (thenD k1 (blk 0 (thenD (d47 [1, 1, 1] (q47 K E)) (q47 K E))))) (m47_1_1_0_1_0_0 x0 x1 x2 x3 x4 x88 v5 v6 j) h := by
 subst e5
 subst e6
 exact loop_r (fun s j => m47_1_1_0_1_0_0 x0 x1 x2 x3 x4 x88 (f5 s) (f6 s) j) I μ round s0 j h0
theorem l47_1_1_0_1_0_0_1_0_0_1_1_0_1_0_0 (f8 f9 : σ → Value) (I : σ → Hp → Prop) (μ : σ → Nat) (s0 : σ) (e8 : v8 = f8 s0) (e9 : v9 = f9 s0) (h0 : h.wf → ∃ h', h.wk h' ∧ I s0 h')
 (round : ∀ (k2 : Env → Hp → Prop) (s : σ) (j : Nat → Value) (h : Hp), I s h → h.wf → (∀ s' j' h', μ s' < μ s → (h'.wf → ∃ h'', h'.wk h'' ∧ I s' h'') → k2 (m47_1_1_0_1_0_0_1_0_0_1_1_0_1_0_0 x0 x1 x2 x3 x4 x5 x6 x7 x10 x11 x12 x13 x14 x15 x16 x17 x18 x19 x20 x21 x22 x23 x24 x25 x26 x71 x72 x73 x74 x75 x76 x77 x78 x79 x80 x81 x82 x83 x84 x85 x86 x87 x88 (f8 s') (f9 s') j') h') → d47 [1, 1, 0, 1, 0, 0, 1, 0, 0, 1, 1, 0, 1, 0, 0] (thenD k2 (blk 2 (thenD (d47 [1, 1, 0, 1, 0, 0, 1, 0, 0, 1, 1, 1] (blk 1 (thenD (d47 [1, 1, 0, 1, 0, 0, 1, 1] (thenD k1 (blk 0 (thenD (d47 [1, 1, 1] (q47 K E)) (q47 K E))))) (thenD k1 (blk 0 (thenD (d47 [1, 1, 1] (q47 K E)) (q47 K E))))))) (blk 1 (thenD (d47 [1, 1, 0, 1, 0, 0, 1, 1] (thenD k1 (blk 0 (thenD (d47 [1, 1, 1] (q47 K E)) (q47 K E))))) (thenD k1 (blk 0 (thenD (d47 [1, 1, 1] (q47 K E)) (q47 K E))))))))) (m47_1_1_0_1_0_0_1_0_0_1_1_0_1_0_0 x0 x1 x2 x3 x4 x5 x6 x7 x10 x11 x12 x13 x14 x15 x16 x17 x18 x19 x20 x21 x22 x23 x24 x25 x26 x71 x72 x73 x74 x75 x76 x77 x78 x79 x80 x81 x82 x83 x84 x85 x86 x87 x88 (f8 s) (f9 s) j) h) :
 lp (fun k2 => d47 [1, 1, 0, 1, 0, 0, 1, 0, 0, 1, 1, 0, 1, 0, 0] (thenD k2 (blk 2 (thenD (d47 [1, 1, 0, 1, 0, 0, 1, 0, 0, 1, 1, 1] (blk 1 (thenD (d47 [1, 1, 0, 1, 0, 0, 1, 1] (thenD k1 (blk 0 (thenD (d47 [1, 1, 1] (q47 K E)) (q47 K E))))) (thenD k1 (blk 0 (thenD (d47 [1, 1, 1] (q47 K E)) (q47 K E))))))) (blk 1 (thenD (d47 [1, 1, 0, 1, 0, 0, 1, 1] (thenD k1 (blk 0 (thenD (d47 [1, 1, 1] (q47 K E)) (q47 K E))))) (thenD k1 (blk 0 (thenD (d47 [1, 1, 1] (q47 K E)) (q47 K E)))))))))) (m47_1_1_0_1_0_0_1_0_0_1_1_0_1_0_0 x0 x1 x2 x3 x4 x5 x6 x7 x10 x11 x12 x13 x14 x15 x16 x17 x18 x19 x20 x21 x22 x23 x24 x25 x26 x71 x72 x73 x74 x75 x76 x77 x78 x79 x80 x81 x82 x83 x84 x85 x86 x87 x88 v8 v9 j) h := by
 subst e8
 subst e9
 exact loop_r (fun s j => m47_1_1_0_1_0_0_1_0_0_1_1_0_1_0_0 x0 x1 x2 x3 x4 x5 x6 x7 x10 x11 x12 x13 x14 x15 x16 x17 x18 x19 x20 x21 x22 x23 x24 x25 x26 x71 x72 x73 x74 x75 x76 x77 x78 x79 x80 x81 x82 x83 x84 x85 x86 x87 x88 (f8 s) (f9 s) j) I μ round s0 j h0
end
end Go.Proofs.YtgjdjdjhoipfmaaGreatDoor.T
open Go Go.RowKit Go.Proofs.YtgjdjdjhoipfmaaGreatDoor.K Go.Proofs.YtgjdjdjhoipfmaaGreatDoor.T
set_option linter.unusedVariables false
set_option linter.unusedSimpArgs false
namespace Go.Proofs.YtgjdjdjhoipfmaaGreatDoor.A
variable {F F' : Nat → Option (List Value)} {M M' : Nat → Option Chunk} {N N' : Nat} {K : Kont} {E : PanK}
structure OpC where
  kind : Int
  at' : Int
  keys : List (List Int)
  v : List Int
  facts : List Fc
  fr : Int
  to : Int
  L : List En
structure OpC.ok (o : OpC) : Prop where
  kd : 0 ≤ o.kind ∧ o.kind < 256
  ta : 0 ≤ o.at' ∧ o.at' < 4294967296
  kl : o.keys.length ≤ 140737488351232
  kc : ∀ k ∈ o.keys, ∀ x ∈ k, 0 ≤ x ∧ x < 65536
  vl : o.v.length ≤ 140737488351232
  vc : ∀ x ∈ o.v, i64 x
  fl : o.facts.length ≤ 140737488351232
  fc : ∀ f ∈ o.facts, i64 f.2
  fo : 0 ≤ o.fr ∧ o.fr < 65536
  tt : 0 ≤ o.to ∧ o.to < 65536
  ll : o.L.length ≤ 140737488351232
  lt : ∀ e ∈ o.L, 0 ≤ e.1 ∧ e.1 < 4294967296
  lc : ∀ e ∈ o.L, ∀ f ∈ e.2, i64 f.2
def opcD (F : Nat → Option (List Value)) (cs : List Value) (o : OpC) : Prop := ∃ k v f L, cs = [.int .u8 o.kind, .int .u32 o.at', k, v, f, .int .u16 o.fr, .int .u16 o.to, L] ∧ kksD .u16 F k o.keys ∧ sF F 1 v o.v.length (ic o.v) ∧ fctsD F f o.facts ∧ entsD F L o.L ∧ o.ok
theorem opcD.mono {cs : List Value} {o : OpC} (h : opcD F cs o) (hF : subF F F') : opcD F' cs o := let ⟨k, v, f, L, e, h1, h2, h3, h4, h5⟩ := h; ⟨k, v, f, L, e, h1.mono hF, h2.mono hF, h3.mono hF, h4.mono hF, h5⟩
theorem kksD.form {k : IntKind} {v : Value} {ks : List (List Int)} (h : kksD k F v ks) : ∃ a c, v = .slice a ks.length c := let ⟨rows, h1, _⟩ := h; let ⟨a, c, h2, _⟩ := h1.form; ⟨a, c, h2⟩
theorem opcD.one {cs : List Value} {o : OpC} (h : opcD F cs o) : cs.length = 8 ∧ ∀ c ∈ cs, c.oneCell' = true := by
  obtain ⟨k, v, f, L, rfl, h1, h2, h3, h4, _⟩ := h
  obtain ⟨a1, c1, rfl⟩ := h1.form
  obtain ⟨a2, c2, rfl, _⟩ := h2.form
  obtain ⟨a3, c3, rfl⟩ := h3.form
  obtain ⟨a4, c4, rfl⟩ := h4.form
  exact ⟨rfl, List.all_eq_true.1 rfl⟩
def opsD (F : Nat → Option (List Value)) (v : Value) (l : List OpC) : Prop := ∃ rows, sF F 8 v l.length rows.flatten ∧ rowsF (opcD F) 8 rows l
theorem opsD.mono {v : Value} {l : List OpC} (h : opsD F v l) (hF : subF F F') : opsD F' v l := let ⟨rows, h1, h2⟩ := h; ⟨rows, h1.mono hF, h2.mono fun _ _ hr => hr.mono hF⟩
theorem add_any {e : EqK} {a b : Int} {h : Hp} (k : ∀ r : Int, K (.int .i64 r) h) : pv (binV e .add (.int .i64 a) (.int .i64 b)) K h := ⟨_, by rw [inV]; rfl, k _⟩
theorem heavy13_c {v : Value} {l : List OpC} (hv : opsD F v l) (hl : l.length ≤ 140737488351232) (k : ∀ r : Int, (Hp.mk F M N).wf → K (.int .i64 r) ⟨F, M, N⟩) :
    callv Tryz.prog (.func (.func 21) #[] #[]) #[v] K E ⟨F, M, N⟩ := by
  refine callv_of_text mixed Tryz.func21 (by kernel_rfl) (t21 _ E _) (fun hw => ?_)
  obtain ⟨rows, hv1, hv2⟩ := hv
  refine l21_1_1_0_1_0_0 (σ := Nat × Int) (fun s => .int .i64 s.2) (fun s => .int .i64 (s.1 : Nat)) (fun s h' => h' = ⟨F, M, N⟩ ∧ s.1 ≤ l.length) (fun s => l.length - s.1) (0, 0) rfl rfl
    (fun hw1 => ⟨_, wk_refl hw1, rfl, Nat.zero_le _⟩) (fun kk s j h1 hI hw1 next => ?_)
  rw [t21_1_1_0_1_0_0]
  obtain ⟨rfl, hi⟩ := hI
  refine lenF_r hv1 ?_
  refine lss_r (fun hlt => ?_) (fun hge => ?_)
  · have i1 : s.1 < l.length := by omega
    try simp only [sS]
    refine fld_r hv1 hv2 (by decide) i1 (off := 2) (by decide) fun p z r y hR _ hy => ?_
    obtain ⟨ck, cv, cf, cL, rfl, hk, _, hf, hL, ok⟩ := hR
    have hy' : y = ck := by simpa using hy.symm
    subst hy'
    obtain ⟨a1, c1, e1⟩ := hk.form
    refine pv_r (v := .int .i64 (l[s.1].keys.length : Nat)) (by rw [e1]; rfl) (add_any fun r1 => ?_)
    refine fld_r hv1 hv2 (by decide) i1 (off := 4) (by decide) fun p z r y hR _ hy => ?_
    obtain ⟨ck, cv, cf, cL, rfl, hk, _, hf, hL, ok⟩ := hR
    have hy' : y = cf := by simpa using hy.symm
    subst hy'
    obtain ⟨a1, c1, e1⟩ := hf.form
    refine pv_r (v := .int .i64 (l[s.1].facts.length : Nat)) (by rw [e1]; rfl) (add_any fun r2 => add_any fun r3 => ?_)
    refine l21_1_1_0_1_0_0_1_0_0_1_1_0_0 (σ := Nat × Int) (fun q => .int .i64 q.2) (fun q => .int .i64 (q.1 : Nat)) (fun q h' => h' = ⟨F, M, N⟩ ∧ q.1 ≤ l[s.1].L.length) (fun q => l[s.1].L.length - q.1) (0, r3) rfl rfl
      (fun hw2 => ⟨_, wk_refl hw2, rfl, Nat.zero_le _⟩) (fun kk2 q j2 h2 hI2 hw2 next2 => ?_)
    rw [t21_1_1_0_1_0_0_1_0_0_1_1_0_0]
    obtain ⟨rfl, hq⟩ := hI2
    refine fld_r hv1 hv2 (by decide) i1 (off := 7) (by decide) fun p z r y hR _ hy => ?_
    obtain ⟨ck, cv, cf, cL, rfl, hk, _, hf, hL, ok⟩ := hR
    have hy' : y = cL := by simpa using hy.symm
    subst hy'
    obtain ⟨a1, c1, e1⟩ := hL.form
    have hll := ok.ll
    refine pv_r (v := .int .i64 (l[s.1].L.length : Nat)) (by rw [e1]; rfl) ?_
    refine lss_r (fun hlt2 => ?_) (fun hge2 => ?_)
    · have q1 : q.1 < l[s.1].L.length := by omega
      try simp only [sS]
      refine fld_r hv1 hv2 (by decide) i1 (off := 7) (by decide) fun p z r y2 hR _ hy => ?_
      obtain ⟨ck, cv, cf, cL, rfl, hk, _, hf, hL, ok⟩ := hR
      have hy' : y2 = cL := by simpa using hy.symm
      subst hy'
      obtain ⟨lrows, hL1, hL2⟩ := hL
      refine fld_r hL1 hL2 (by decide) q1 (off := 1) (by decide) fun p z r y3 hR _ hy => ?_
      obtain ⟨fv, rfl, hfv⟩ := hR.at
      have hy' : y3 = fv := by simpa using hy.symm
      subst hy'
      obtain ⟨frows, hfa, _⟩ := hfv
      refine lenF_r hfa (add_any fun r5 => add_any fun r6 => ?_)
      refine inc_r (by omega) ?_
      exact next2 (q.1 + 1, r6) _ _ (by simp only; omega) (fun hw3 => ⟨_, wk_refl hw3, rfl, q1⟩)
    · try simp only [sS]
      refine inc_r (by omega) ?_
      exact next (s.1 + 1, q.2) _ _ (by simp only; omega) (fun hw3 => ⟨_, wk_refl hw3, rfl, i1⟩)
  · try simp only [sS]
    exact fun hc => ⟨_, wk_refl hc, fun hw' => k s.2 hw'⟩
def pick (l : List Fc) (fr to : Int) (i n : Nat) : List Fc := ((l.take n).mapIdx fun k f => (k, f)).filterMap fun p => if fr ≤ p.2.1.getD 0 0 ∧ p.2.1.getD 0 0 < to ∧ p.1 % (i + 1) = 0 then some p.2 else none
def entOf (l : List Dm) (o : OpC) : List En := (o.L.take 20).mapIdx fun i e => ((i : Int) * 3 + 1 + e.1 % 3, pick (factsOf l o.keys o.v) o.fr o.to i (factsOf l o.keys o.v).length)
theorem pick_succ {l : List Fc} {fr to : Int} {i n : Nat} (hn : n < l.length) : pick l fr to i (n + 1) = pick l fr to i n ++ (if fr ≤ l[n].1.getD 0 0 ∧ l[n].1.getD 0 0 < to ∧ n % (i + 1) = 0 then [l[n]] else []) := by
  unfold pick
  rw [mapIdx_take _ _ hn, List.filterMap_append]
  by_cases hc : fr ≤ l[n].1.getD 0 0 ∧ l[n].1.getD 0 0 < to ∧ n % (i + 1) = 0
  · rw [if_pos hc]; simp only [List.filterMap_cons, List.filterMap_nil, if_pos hc]
  · rw [if_neg hc]; simp only [List.filterMap_cons, List.filterMap_nil, if_neg hc]
theorem pick_mem {l : List Fc} {fr to : Int} {i : Nat} : ∀ {n : Nat} {f : Fc}, f ∈ pick l fr to i n → f ∈ l ∧ fr ≤ f.1.getD 0 0 ∧ f.1.getD 0 0 < to := by
  intro n f hf
  unfold pick at hf
  obtain ⟨p, hp, he⟩ := List.mem_filterMap.1 hf
  split at he
  · rename_i hc
    cases he
    obtain ⟨j, hj, rfl⟩ := List.mem_iff_getElem.1 hp
    rw [List.getElem_mapIdx] at hc ⊢
    exact ⟨List.mem_of_mem_take (List.getElem_mem _), hc.1, hc.2.1⟩
  · cases he
theorem pick_len (l : List Fc) (fr to : Int) (i n : Nat) : (pick l fr to i n).length ≤ l.length := by
  unfold pick
  have := List.length_filterMap_le (fun p : Nat × Fc => if fr ≤ p.2.1.getD 0 0 ∧ p.2.1.getD 0 0 < to ∧ p.1 % (i + 1) = 0 then some p.2 else none) ((l.take n).mapIdx fun k f => (k, f))
  rw [List.length_mapIdx, List.length_take] at this
  omega
theorem entOf_len (l : List Dm) (o : OpC) : (entOf l o).length = min 20 o.L.length := by simp [entOf]
end Go.Proofs.YtgjdjdjhoipfmaaGreatDoor.A
