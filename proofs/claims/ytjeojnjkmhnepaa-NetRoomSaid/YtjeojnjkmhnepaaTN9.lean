import Derived.Test.YtjeojnjkmhnepaaProg
import Derived.Test.YtjeojnjkmhnepaaK16
open Go Go.RowKit Go.Proofs.Ytjeojnjkmhnepaa.K
set_option linter.unusedVariables false
set_option maxRecDepth 100000
namespace Go.Proofs.Ytjeojnjkmhnepaa.T
theorem t9 (K : Kont) (E : PanK) (x0 x1 : Value)  : den Try.prog (sel (bodyOf Try.f9) []) (bodyQ Try.prog Try.f9.results.toList K E) #[x0, x1, undef, undef, undef, undef, undef, undef, undef, undef, undef, undef, undef, undef, undef, undef, undef, undef, undef, undef, undef, undef, undef, undef, undef, undef, undef, undef, undef, undef, undef, undef, undef, undef, undef, undef, undef, undef, undef, undef, undef, undef, undef, undef, undef, undef, undef, undef, undef, undef, undef, undef, undef, undef, undef, undef, undef, undef, undef, undef, undef, undef, undef, undef, undef, undef, undef, undef, undef, undef, undef, undef, undef, undef, undef, undef, undef, undef, undef, undef, undef, undef, undef, undef, undef, undef, undef, undef, undef, undef, undef, undef, undef, undef, undef, undef, undef, undef, undef, undef, undef, undef] =
  callv Try.prog (.func (.func 30) #[] #[]) #[] (fun t1 =>
  pv (binV .ptr .eql t1 (.pointer none)) fun t2 =>
  gdK t2 false (fun k => k x1) fun t3 =>
  gdK t2 false (fun k => pv (lenV t3) k) fun t4 =>
  gdK t2 false (fun k => pv (binV .none .gtr t4 (.int .i64 300)) k) fun t5 =>
  pv (pickV t2 (.bool true) t5) fun t6 =>
  cnd t6 (
    pv (binV .ptr .neq t1 (.pointer none)) fun t7 =>
    gdK t7 true (fun k => callv Try.prog (.func (.func 31) #[] #[]) #[] k E) fun t8 =>
    pv (pickV t7 t8 (.bool false)) fun t9 =>
    K t9) (
    pv (binV .none .rem x0 (.int .u8 60)) fun t10 =>
    pv (cvV .i64 t10) fun t11 =>
    lp (fun k1 => den Try.prog (sel (bodyOf Try.f9) [1, 1, 1, 1, 0, 1, 0, 0]) (thenD k1 (blk 0 (thenD (den Try.prog (sel (bodyOf Try.f9) [1, 1, 1, 1, 1]) (bodyQ Try.prog Try.f9.results.toList K E)) (bodyQ Try.prog Try.f9.results.toList K E))))) #[x0, x1, undef, undef, (.bool false), t1, t11, (.int .i64 0), undef, undef, undef, undef, undef, t1, t1, t2, t2, t3, t4, t5, t6, undef, undef, undef, undef, undef, x0, t10, t11, undef, undef, undef, undef, undef, undef, undef, undef, undef, undef, undef, undef, undef, undef, undef, undef, undef, undef, undef, undef, undef, undef, undef, undef, undef, undef, undef, undef, undef, undef, undef, undef, undef, undef, undef, undef, undef, undef, undef, undef, undef, undef, undef, undef, undef, undef, undef, undef, undef, undef, undef, undef, undef, undef, undef, undef, undef, undef, undef, undef, undef, undef, undef, undef, undef, undef, undef, undef, undef, undef, undef, undef, undef])) E := by kernel_rfl
def m9_1_1_1_1_0_1_0_0 (x0 x1 x2 x3 x5 x6 x8 x9 x10 x11 x12 x13 x14 x15 x16 x17 x18 x19 x20 x21 x22 x23 x24 x25 x26 x27 x28 x39 x40 x41 x42 x43 x44 x45 x46 x47 x48 x49 x50 x51 x52 x53 x54 x55 x56 x57 x58 x59 x60 x61 x62 x63 x64 x65 x66 x67 x68 x69 x70 x71 x72 x73 x74 x75 x76 x77 x78 x79 x80 x81 x82 x83 x84 x85 x86 x87 x88 x89 x90 x91 x92 x93 x94 x95 x96 x97 x98 x99 x100 x101 : Value) (v7 : Value) (j : Nat → Value) : Env := #[x0, x1, x2, x3, (j 4), x5, x6, v7, x8, x9, x10, x11, x12, x13, x14, x15, x16, x17, x18, x19, x20, x21, x22, x23, x24, x25, x26, x27, x28, (j 29), (j 30), (j 31), (j 32), (j 33), (j 34), (j 35), (j 36), (j 37), (j 38), x39, x40, x41, x42, x43, x44, x45, x46, x47, x48, x49, x50, x51, x52, x53, x54, x55, x56, x57, x58, x59, x60, x61, x62, x63, x64, x65, x66, x67, x68, x69, x70, x71, x72, x73, x74, x75, x76, x77, x78, x79, x80, x81, x82, x83, x84, x85, x86, x87, x88, x89, x90, x91, x92, x93, x94, x95, x96, x97, x98, x99, x100, x101]
theorem t9_1_1_1_1_0_1_0_0 (K : Kont) (E : PanK) (k1 : Env → Hp → Prop) (x0 x1 x2 x3 x5 x6 x8 x9 x10 x11 x12 x13 x14 x15 x16 x17 x18 x19 x20 x21 x22 x23 x24 x25 x26 x27 x28 x39 x40 x41 x42 x43 x44 x45 x46 x47 x48 x49 x50 x51 x52 x53 x54 x55 x56 x57 x58 x59 x60 x61 x62 x63 x64 x65 x66 x67 x68 x69 x70 x71 x72 x73 x74 x75 x76 x77 x78 x79 x80 x81 x82 x83 x84 x85 x86 x87 x88 x89 x90 x91 x92 x93 x94 x95 x96 x97 x98 x99 x100 x101 v7 : Value) (j : Nat → Value) : den Try.prog (sel (bodyOf Try.f9) [1, 1, 1, 1, 0, 1, 0, 0]) (thenD k1 (blk 0 (thenD (den Try.prog (sel (bodyOf Try.f9) [1, 1, 1, 1, 1]) (bodyQ Try.prog Try.f9.results.toList K E)) (bodyQ Try.prog Try.f9.results.toList K E)))) (m9_1_1_1_1_0_1_0_0 x0 x1 x2 x3 x5 x6 x8 x9 x10 x11 x12 x13 x14 x15 x16 x17 x18 x19 x20 x21 x22 x23 x24 x25 x26 x27 x28 x39 x40 x41 x42 x43 x44 x45 x46 x47 x48 x49 x50 x51 x52 x53 x54 x55 x56 x57 x58 x59 x60 x61 x62 x63 x64 x65 x66 x67 x68 x69 x70 x71 x72 x73 x74 x75 x76 x77 x78 x79 x80 x81 x82 x83 x84 x85 x86 x87 x88 x89 x90 x91 x92 x93 x94 x95 x96 x97 x98 x99 x100 x101 v7 j) =
  pv (binV .none .lss v7 x6) fun t1 =>
  cnd t1 (
    pv (bdC #[(.int .i64 0), (.int .i64 0), (.slice none 0 0)] [(0, 1), (1, 1), (2, 1)] #[(0, v7)]) fun t2 =>
    callv Try.prog (.func (.func 32) #[] #[]) #[x5, t2] (fun t3 =>
    pv (unV .not t3) fun t4 =>
    cnd t4 (
      K (.bool false)) (
      pv (binV .none .add v7 (.int .i64 1)) fun t5 =>
      k1 (m9_1_1_1_1_0_1_0_0 x0 x1 x2 x3 x5 x6 x8 x9 x10 x11 x12 x13 x14 x15 x16 x17 x18 x19 x20 x21 x22 x23 x24 x25 x26 x27 x28 x39 x40 x41 x42 x43 x44 x45 x46 x47 x48 x49 x50 x51 x52 x53 x54 x55 x56 x57 x58 x59 x60 x61 x62 x63 x64 x65 x66 x67 x68 x69 x70 x71 x72 x73 x74 x75 x76 x77 x78 x79 x80 x81 x82 x83 x84 x85 x86 x87 x88 x89 x90 x91 x92 x93 x94 x95 x96 x97 x98 x99 x100 x101 t5 (jf #[x0, x1, x2, x3, (j 4), x5, x6, t5, x8, x9, x10, x11, x12, x13, x14, x15, x16, x17, x18, x19, x20, x21, x22, x23, x24, x25, x26, x27, x28, v7, x6, t1, v7, t5, x5, v7, t2, t3, t4, x39, x40, x41, x42, x43, x44, x45, x46, x47, x48, x49, x50, x51, x52, x53, x54, x55, x56, x57, x58, x59, x60, x61, x62, x63, x64, x65, x66, x67, x68, x69, x70, x71, x72, x73, x74, x75, x76, x77, x78, x79, x80, x81, x82, x83, x84, x85, x86, x87, x88, x89, x90, x91, x92, x93, x94, x95, x96, x97, x98, x99, x100, x101])))) E) (
    den Try.prog (sel (bodyOf Try.f9) [1, 1, 1, 1, 1]) (bodyQ Try.prog Try.f9.results.toList K E) #[x0, x1, x2, x3, (j 4), x5, x6, v7, x8, x9, x10, x11, x12, x13, x14, x15, x16, x17, x18, x19, x20, x21, x22, x23, x24, x25, x26, x27, x28, v7, x6, t1, (j 32), (j 33), (j 34), (j 35), (j 36), (j 37), (j 38), x39, x40, x41, x42, x43, x44, x45, x46, x47, x48, x49, x50, x51, x52, x53, x54, x55, x56, x57, x58, x59, x60, x61, x62, x63, x64, x65, x66, x67, x68, x69, x70, x71, x72, x73, x74, x75, x76, x77, x78, x79, x80, x81, x82, x83, x84, x85, x86, x87, x88, x89, x90, x91, x92, x93, x94, x95, x96, x97, x98, x99, x100, x101]) := by kernel_rfl
theorem t9_1_1_1_1_1 (K : Kont) (E : PanK) (x0 x1 x2 x3 x4 x5 x6 x7 x8 x9 x10 x11 x12 x13 x14 x15 x16 x17 x18 x19 x20 x21 x22 x23 x24 x25 x26 x27 x28 x29 x30 x31 x32 x33 x34 x35 x36 x37 x38 x39 x40 x41 x42 x43 x44 x45 x46 x47 x48 x49 x50 x51 x52 x53 x54 x55 x56 x57 x58 x59 x60 x61 x62 x63 x64 x65 x66 x67 x68 x69 x70 x71 x72 x73 x74 x75 x76 x77 x78 x79 x80 x81 x82 x83 x84 x85 x86 x87 x88 x89 x90 x91 x92 x93 x94 x95 x96 x97 x98 x99 x100 x101 : Value)  : den Try.prog (sel (bodyOf Try.f9) [1, 1, 1, 1, 1]) (bodyQ Try.prog Try.f9.results.toList K E) #[x0, x1, x2, x3, x4, x5, x6, x7, x8, x9, x10, x11, x12, x13, x14, x15, x16, x17, x18, x19, x20, x21, x22, x23, x24, x25, x26, x27, x28, x29, x30, x31, x32, x33, x34, x35, x36, x37, x38, x39, x40, x41, x42, x43, x44, x45, x46, x47, x48, x49, x50, x51, x52, x53, x54, x55, x56, x57, x58, x59, x60, x61, x62, x63, x64, x65, x66, x67, x68, x69, x70, x71, x72, x73, x74, x75, x76, x77, x78, x79, x80, x81, x82, x83, x84, x85, x86, x87, x88, x89, x90, x91, x92, x93, x94, x95, x96, x97, x98, x99, x100, x101] =
  mks 3 [(.int .i64 0)] 1 8 (.int .i64 60) (.int .i64 60) fun t1 =>
  lp (fun k1 => den Try.prog (sel (bodyOf Try.f9) [1, 1, 1, 1, 1, 1, 0, 1, 0, 0]) (thenD k1 (blk 2 (thenD (den Try.prog (sel (bodyOf Try.f9) [1, 1, 1, 1, 1, 1, 1]) (bodyQ Try.prog Try.f9.results.toList K E)) (bodyQ Try.prog Try.f9.results.toList K E))))) #[x0, x1, x2, x3, x4, x5, x6, x7, t1, (.int .i64 0), x10, x11, x12, x13, x14, x15, x16, x17, x18, x19, x20, x21, x22, x23, x24, x25, x26, x27, x28, x29, x30, x31, x32, x33, x34, x35, x36, x37, x38, t1, x40, x41, x42, x43, x44, x45, x46, x47, x48, x49, x50, x51, x52, x53, x54, x55, x56, x57, x58, x59, x60, x61, x62, x63, x64, x65, x66, x67, x68, x69, x70, x71, x72, x73, x74, x75, x76, x77, x78, x79, x80, x81, x82, x83, x84, x85, x86, x87, x88, x89, x90, x91, x92, x93, x94, x95, x96, x97, x98, x99, x100, x101] := by kernel_rfl
def m9_1_1_1_1_1_1_0_1_0_0 (x0 x1 x2 x3 x5 x6 x7 x8 x13 x14 x15 x16 x17 x18 x19 x20 x21 x22 x23 x24 x25 x26 x27 x28 x29 x30 x31 x32 x33 x34 x35 x36 x37 x38 x39 x90 x91 x92 x93 x94 x95 x96 x97 x98 x99 x100 x101 : Value) (v9 : Value) (j : Nat → Value) : Env := #[x0, x1, x2, x3, (j 4), x5, x6, x7, x8, v9, (j 10), (j 11), (j 12), x13, x14, x15, x16, x17, x18, x19, x20, x21, x22, x23, x24, x25, x26, x27, x28, x29, x30, x31, x32, x33, x34, x35, x36, x37, x38, x39, (j 40), (j 41), (j 42), (j 43), (j 44), (j 45), (j 46), (j 47), (j 48), (j 49), (j 50), (j 51), (j 52), (j 53), (j 54), (j 55), (j 56), (j 57), (j 58), (j 59), (j 60), (j 61), (j 62), (j 63), (j 64), (j 65), (j 66), (j 67), (j 68), (j 69), (j 70), (j 71), (j 72), (j 73), (j 74), (j 75), (j 76), (j 77), (j 78), (j 79), (j 80), (j 81), (j 82), (j 83), (j 84), (j 85), (j 86), (j 87), (j 88), (j 89), x90, x91, x92, x93, x94, x95, x96, x97, x98, x99, x100, x101]
theorem t9_1_1_1_1_1_1_0_1_0_0 (K : Kont) (E : PanK) (k1 : Env → Hp → Prop) (x0 x1 x2 x3 x5 x6 x7 x8 x13 x14 x15 x16 x17 x18 x19 x20 x21 x22 x23 x24 x25 x26 x27 x28 x29 x30 x31 x32 x33 x34 x35 x36 x37 x38 x39 x90 x91 x92 x93 x94 x95 x96 x97 x98 x99 x100 x101 v9 : Value) (j : Nat → Value) : den Try.prog (sel (bodyOf Try.f9) [1, 1, 1, 1, 1, 1, 0, 1, 0, 0]) (thenD k1 (blk 2 (thenD (den Try.prog (sel (bodyOf Try.f9) [1, 1, 1, 1, 1, 1, 1]) (bodyQ Try.prog Try.f9.results.toList K E)) (bodyQ Try.prog Try.f9.results.toList K E)))) (m9_1_1_1_1_1_1_0_1_0_0 x0 x1 x2 x3 x5 x6 x7 x8 x13 x14 x15 x16 x17 x18 x19 x20 x21 x22 x23 x24 x25 x26 x27 x28 x29 x30 x31 x32 x33 x34 x35 x36 x37 x38 x39 x90 x91 x92 x93 x94 x95 x96 x97 x98 x99 x100 x101 v9 j) =
  pv (lenV x1) fun t1 =>
  pv (binV .none .lss v9 t1) fun t2 =>
  cnd t2 (
    callv Try.prog (.func (.func 33) #[] #[]) #[x5] (fun t3 =>
    pv (lenV t3) fun t4 =>
    pv (iaV none 1 x1 v9) fun t5 =>
    ld false 1 t5 fun t6 =>
    pv (cvV .i64 t6) fun t7 =>
    callv Try.prog (.func (.func 34) #[] #[]) #[x5, t7] (fun t8 =>
    pv (exV 0 t8) fun t9 =>
    pv (exV 1 t8) fun t10 =>
    nw 61 [(.int .i64 0), (.int .i64 0), (.slice none 0 0)] fun t11 =>
    st 3 t11 t9 fun _ =>
    pv (iaV none 1 x1 v9) fun t12 =>
    ld false 1 t12 fun t13 =>
    pv (cvV .i64 t13) fun t14 =>
    pv (binV .none .lss t14 t4) fun t15 =>
    pv (binV .bool .neq t10 t15) fun t16 =>
    cnd t16 (
      K (.bool false)) (
      cnd t10 (
        pv (faV 0 t11) fun t17 =>
        ld false 1 t17 fun t18 =>
        pv (binV .none .lss t18 (.int .i64 0)) fun t19 =>
        gdK t19 false (fun k => pv (faV 0 t11) k) fun t20 =>
        gdK t19 false (fun k => ld false 1 t20 k) fun t21 =>
        gdK t19 false (fun k => k x6) fun t22 =>
        gdK t19 false (fun k => pv (binV .none .geq t21 t22) k) fun t23 =>
        pv (pickV t19 (.bool true) t23) fun t24 =>
        gdK t24 false (fun k => k x8) fun t25 =>
        gdK t24 false (fun k => pv (faV 0 t11) k) fun t26 =>
        gdK t24 false (fun k => ld false 1 t26 k) fun t27 =>
        gdK t24 false (fun k => pv (iaV none 1 t25 t27) k) fun t28 =>
        gdK t24 false (fun k => ld false 1 t28 k) fun t29 =>
        gdK t24 false (fun k => pv (binV .none .gtr t29 (.int .i64 0)) k) fun t30 =>
        pv (pickV t24 (.bool true) t30) fun t31 =>
        cnd t31 (
          K (.bool false)) (
          pv (faV 0 t11) fun t32 =>
          ld false 1 t32 fun t33 =>
          pv (iaV none 1 x8 t33) fun t34 =>
          st 1 t34 (.int .i64 1) fun _ =>
          den Try.prog (sel (bodyOf Try.f9) [1, 1, 1, 1, 1, 1, 0, 1, 0, 0, 1, 1]) (thenD k1 (blk 2 (thenD (den Try.prog (sel (bodyOf Try.f9) [1, 1, 1, 1, 1, 1, 1]) (bodyQ Try.prog Try.f9.results.toList K E)) (bodyQ Try.prog Try.f9.results.toList K E)))) #[x0, x1, x2, x3, (j 4), x5, x6, x7, x8, v9, t4, t11, t10, x13, x14, x15, x16, x17, x18, x19, x20, x21, x22, x23, x24, x25, x26, x27, x28, x29, x30, x31, x32, x33, x34, x35, x36, x37, x38, x39, v9, x1, t1, t2, (j 44), (j 45), x5, t3, t4, t8, x5, x1, v9, t5, t6, t7, t8, t9, t10, t10, x1, v9, t12, t13, t14, t4, t15, t16, t10, t17, t18, t19, t19, t20, t21, t22, t23, t24, t24, t25, t26, t27, t28, t29, t30, t31, x8, t32, t33, t34, x90, x91, x92, x93, x94, x95, x96, x97, x98, x99, x100, x101])) (
        den Try.prog (sel (bodyOf Try.f9) [1, 1, 1, 1, 1, 1, 0, 1, 0, 0, 1, 1]) (thenD k1 (blk 2 (thenD (den Try.prog (sel (bodyOf Try.f9) [1, 1, 1, 1, 1, 1, 1]) (bodyQ Try.prog Try.f9.results.toList K E)) (bodyQ Try.prog Try.f9.results.toList K E)))) #[x0, x1, x2, x3, (j 4), x5, x6, x7, x8, v9, t4, t11, t10, x13, x14, x15, x16, x17, x18, x19, x20, x21, x22, x23, x24, x25, x26, x27, x28, x29, x30, x31, x32, x33, x34, x35, x36, x37, x38, x39, v9, x1, t1, t2, (j 44), (j 45), x5, t3, t4, t8, x5, x1, v9, t5, t6, t7, t8, t9, t10, t10, x1, v9, t12, t13, t14, t4, t15, t16, t10, (j 69), (j 70), (j 71), (j 72), (j 73), (j 74), (j 75), (j 76), (j 77), (j 78), (j 79), (j 80), (j 81), (j 82), (j 83), (j 84), (j 85), (j 86), (j 87), (j 88), (j 89), x90, x91, x92, x93, x94, x95, x96, x97, x98, x99, x100, x101]))) E) E) (
    den Try.prog (sel (bodyOf Try.f9) [1, 1, 1, 1, 1, 1, 1]) (bodyQ Try.prog Try.f9.results.toList K E) #[x0, x1, x2, x3, (j 4), x5, x6, x7, x8, v9, (j 10), (j 11), (j 12), x13, x14, x15, x16, x17, x18, x19, x20, x21, x22, x23, x24, x25, x26, x27, x28, x29, x30, x31, x32, x33, x34, x35, x36, x37, x38, x39, v9, x1, t1, t2, (j 44), (j 45), (j 46), (j 47), (j 48), (j 49), (j 50), (j 51), (j 52), (j 53), (j 54), (j 55), (j 56), (j 57), (j 58), (j 59), (j 60), (j 61), (j 62), (j 63), (j 64), (j 65), (j 66), (j 67), (j 68), (j 69), (j 70), (j 71), (j 72), (j 73), (j 74), (j 75), (j 76), (j 77), (j 78), (j 79), (j 80), (j 81), (j 82), (j 83), (j 84), (j 85), (j 86), (j 87), (j 88), (j 89), x90, x91, x92, x93, x94, x95, x96, x97, x98, x99, x100, x101]) := by kernel_rfl
theorem t9_1_1_1_1_1_1_1 (K : Kont) (E : PanK) (x0 x1 x2 x3 x4 x5 x6 x7 x8 x9 x10 x11 x12 x13 x14 x15 x16 x17 x18 x19 x20 x21 x22 x23 x24 x25 x26 x27 x28 x29 x30 x31 x32 x33 x34 x35 x36 x37 x38 x39 x40 x41 x42 x43 x44 x45 x46 x47 x48 x49 x50 x51 x52 x53 x54 x55 x56 x57 x58 x59 x60 x61 x62 x63 x64 x65 x66 x67 x68 x69 x70 x71 x72 x73 x74 x75 x76 x77 x78 x79 x80 x81 x82 x83 x84 x85 x86 x87 x88 x89 x90 x91 x92 x93 x94 x95 x96 x97 x98 x99 x100 x101 : Value)  : den Try.prog (sel (bodyOf Try.f9) [1, 1, 1, 1, 1, 1, 1]) (bodyQ Try.prog Try.f9.results.toList K E) #[x0, x1, x2, x3, x4, x5, x6, x7, x8, x9, x10, x11, x12, x13, x14, x15, x16, x17, x18, x19, x20, x21, x22, x23, x24, x25, x26, x27, x28, x29, x30, x31, x32, x33, x34, x35, x36, x37, x38, x39, x40, x41, x42, x43, x44, x45, x46, x47, x48, x49, x50, x51, x52, x53, x54, x55, x56, x57, x58, x59, x60, x61, x62, x63, x64, x65, x66, x67, x68, x69, x70, x71, x72, x73, x74, x75, x76, x77, x78, x79, x80, x81, x82, x83, x84, x85, x86, x87, x88, x89, x90, x91, x92, x93, x94, x95, x96, x97, x98, x99, x100, x101] =
  callv Try.prog (.func (.func 31) #[] #[]) #[] (fun t1 =>
  gdK t1 true (fun k => k x5) fun t2 =>
  gdK t1 true (fun k => callv Try.prog (.func (.func 35) #[] #[]) #[t2, (.int .i64 (-1))] k E) fun t3 =>
  gdK t1 true (fun k => pv (unV .not t3) k) fun t4 =>
  pv (pickV t1 t4 (.bool false)) fun t5 =>
  gdK t5 true (fun k => k x5) fun t6 =>
  gdK t5 true (fun k => k x6) fun t7 =>
  gdK t5 true (fun k => callv Try.prog (.func (.func 36) #[] #[]) #[t6, t7] k E) fun t8 =>
  gdK t5 true (fun k => pv (unV .not t8) k) fun t9 =>
  pv (pickV t5 t9 (.bool false)) fun t10 =>
  K t10) E := by kernel_rfl
theorem t9_1_1_1_1_1_1_0_1_0_0_1_1 (K : Kont) (E : PanK) (k1 : Env → Hp → Prop) (x0 x1 x2 x3 x4 x5 x6 x7 x8 x9 x10 x11 x12 x13 x14 x15 x16 x17 x18 x19 x20 x21 x22 x23 x24 x25 x26 x27 x28 x29 x30 x31 x32 x33 x34 x35 x36 x37 x38 x39 x40 x41 x42 x43 x44 x45 x46 x47 x48 x49 x50 x51 x52 x53 x54 x55 x56 x57 x58 x59 x60 x61 x62 x63 x64 x65 x66 x67 x68 x69 x70 x71 x72 x73 x74 x75 x76 x77 x78 x79 x80 x81 x82 x83 x84 x85 x86 x87 x88 x89 x90 x91 x92 x93 x94 x95 x96 x97 x98 x99 x100 x101 : Value)  : den Try.prog (sel (bodyOf Try.f9) [1, 1, 1, 1, 1, 1, 0, 1, 0, 0, 1, 1]) (thenD k1 (blk 2 (thenD (den Try.prog (sel (bodyOf Try.f9) [1, 1, 1, 1, 1, 1, 1]) (bodyQ Try.prog Try.f9.results.toList K E)) (bodyQ Try.prog Try.f9.results.toList K E)))) #[x0, x1, x2, x3, x4, x5, x6, x7, x8, x9, x10, x11, x12, x13, x14, x15, x16, x17, x18, x19, x20, x21, x22, x23, x24, x25, x26, x27, x28, x29, x30, x31, x32, x33, x34, x35, x36, x37, x38, x39, x40, x41, x42, x43, x44, x45, x46, x47, x48, x49, x50, x51, x52, x53, x54, x55, x56, x57, x58, x59, x60, x61, x62, x63, x64, x65, x66, x67, x68, x69, x70, x71, x72, x73, x74, x75, x76, x77, x78, x79, x80, x81, x82, x83, x84, x85, x86, x87, x88, x89, x90, x91, x92, x93, x94, x95, x96, x97, x98, x99, x100, x101] =
  pv (binV .none .add x9 (.int .i64 1)) fun t1 =>
  k1 (m9_1_1_1_1_1_1_0_1_0_0 x0 x1 x2 x3 x5 x6 x7 x8 x13 x14 x15 x16 x17 x18 x19 x20 x21 x22 x23 x24 x25 x26 x27 x28 x29 x30 x31 x32 x33 x34 x35 x36 x37 x38 x39 x90 x91 x92 x93 x94 x95 x96 x97 x98 x99 x100 x101 t1 (jf #[x0, x1, x2, x3, x4, x5, x6, x7, x8, t1, x10, x11, x12, x13, x14, x15, x16, x17, x18, x19, x20, x21, x22, x23, x24, x25, x26, x27, x28, x29, x30, x31, x32, x33, x34, x35, x36, x37, x38, x39, x40, x41, x42, x43, x9, t1, x46, x47, x48, x49, x50, x51, x52, x53, x54, x55, x56, x57, x58, x59, x60, x61, x62, x63, x64, x65, x66, x67, x68, x69, x70, x71, x72, x73, x74, x75, x76, x77, x78, x79, x80, x81, x82, x83, x84, x85, x86, x87, x88, x89, x90, x91, x92, x93, x94, x95, x96, x97, x98, x99, x100, x101])) := by kernel_rfl
theorem l9_1_1_1_1_0_1_0_0 {K : Kont} {E : PanK} {σ : Type} {x0 x1 x2 x3 x5 x6 x8 x9 x10 x11 x12 x13 x14 x15 x16 x17 x18 x19 x20 x21 x22 x23 x24 x25 x26 x27 x28 x39 x40 x41 x42 x43 x44 x45 x46 x47 x48 x49 x50 x51 x52 x53 x54 x55 x56 x57 x58 x59 x60 x61 x62 x63 x64 x65 x66 x67 x68 x69 x70 x71 x72 x73 x74 x75 x76 x77 x78 x79 x80 x81 x82 x83 x84 x85 x86 x87 x88 x89 x90 x91 x92 x93 x94 x95 x96 x97 x98 x99 x100 x101 v7 y4 y29 y30 y31 y32 y33 y34 y35 y36 y37 y38 : Value} {h : Hp} (f7 : σ → Value) (I : σ → Hp → Prop) (μ : σ → Nat) (s0 : σ) (e7 : v7 = f7 s0) (h0 : h.wf → ∃ h', h.wk h' ∧ I s0 h')
  (round : ∀ (k1 : Env → Hp → Prop) (s : σ) (j : Nat → Value) (h : Hp), I s h → h.wf → (∀ s' j' h', μ s' < μ s → (h'.wf → ∃ h'', h'.wk h'' ∧ I s' h'') → k1 (m9_1_1_1_1_0_1_0_0 x0 x1 x2 x3 x5 x6 x8 x9 x10 x11 x12 x13 x14 x15 x16 x17 x18 x19 x20 x21 x22 x23 x24 x25 x26 x27 x28 x39 x40 x41 x42 x43 x44 x45 x46 x47 x48 x49 x50 x51 x52 x53 x54 x55 x56 x57 x58 x59 x60 x61 x62 x63 x64 x65 x66 x67 x68 x69 x70 x71 x72 x73 x74 x75 x76 x77 x78 x79 x80 x81 x82 x83 x84 x85 x86 x87 x88 x89 x90 x91 x92 x93 x94 x95 x96 x97 x98 x99 x100 x101 (f7 s') j') h') → (
  pv (binV .none .lss (f7 s) x6) fun t1 =>
  cnd t1 (
    pv (bdC #[(.int .i64 0), (.int .i64 0), (.slice none 0 0)] [(0, 1), (1, 1), (2, 1)] #[(0, (f7 s))]) fun t2 =>
    callv Try.prog (.func (.func 32) #[] #[]) #[x5, t2] (fun t3 =>
    pv (unV .not t3) fun t4 =>
    cnd t4 (
      K (.bool false)) (
      pv (binV .none .add (f7 s) (.int .i64 1)) fun t5 =>
      k1 (m9_1_1_1_1_0_1_0_0 x0 x1 x2 x3 x5 x6 x8 x9 x10 x11 x12 x13 x14 x15 x16 x17 x18 x19 x20 x21 x22 x23 x24 x25 x26 x27 x28 x39 x40 x41 x42 x43 x44 x45 x46 x47 x48 x49 x50 x51 x52 x53 x54 x55 x56 x57 x58 x59 x60 x61 x62 x63 x64 x65 x66 x67 x68 x69 x70 x71 x72 x73 x74 x75 x76 x77 x78 x79 x80 x81 x82 x83 x84 x85 x86 x87 x88 x89 x90 x91 x92 x93 x94 x95 x96 x97 x98 x99 x100 x101 t5 (jf #[x0, x1, x2, x3, (j 4), x5, x6, t5, x8, x9, x10, x11, x12, x13, x14, x15, x16, x17, x18, x19, x20, x21, x22, x23, x24, x25, x26, x27, x28, (f7 s), x6, t1, (f7 s), t5, x5, (f7 s), t2, t3, t4, x39, x40, x41, x42, x43, x44, x45, x46, x47, x48, x49, x50, x51, x52, x53, x54, x55, x56, x57, x58, x59, x60, x61, x62, x63, x64, x65, x66, x67, x68, x69, x70, x71, x72, x73, x74, x75, x76, x77, x78, x79, x80, x81, x82, x83, x84, x85, x86, x87, x88, x89, x90, x91, x92, x93, x94, x95, x96, x97, x98, x99, x100, x101])))) E) (
    den Try.prog (sel (bodyOf Try.f9) [1, 1, 1, 1, 1]) (bodyQ Try.prog Try.f9.results.toList K E) #[x0, x1, x2, x3, (j 4), x5, x6, (f7 s), x8, x9, x10, x11, x12, x13, x14, x15, x16, x17, x18, x19, x20, x21, x22, x23, x24, x25, x26, x27, x28, (f7 s), x6, t1, (j 32), (j 33), (j 34), (j 35), (j 36), (j 37), (j 38), x39, x40, x41, x42, x43, x44, x45, x46, x47, x48, x49, x50, x51, x52, x53, x54, x55, x56, x57, x58, x59, x60, x61, x62, x63, x64, x65, x66, x67, x68, x69, x70, x71, x72, x73, x74, x75, x76, x77, x78, x79, x80, x81, x82, x83, x84, x85, x86, x87, x88, x89, x90, x91, x92, x93, x94, x95, x96, x97, x98, x99, x100, x101])) h) :
  lp (fun k1 => den Try.prog (sel (bodyOf Try.f9) [1, 1, 1, 1, 0, 1, 0, 0]) (thenD k1 (blk 0 (thenD (den Try.prog (sel (bodyOf Try.f9) [1, 1, 1, 1, 1]) (bodyQ Try.prog Try.f9.results.toList K E)) (bodyQ Try.prog Try.f9.results.toList K E))))) #[x0, x1, x2, x3, y4, x5, x6, v7, x8, x9, x10, x11, x12, x13, x14, x15, x16, x17, x18, x19, x20, x21, x22, x23, x24, x25, x26, x27, x28, y29, y30, y31, y32, y33, y34, y35, y36, y37, y38, x39, x40, x41, x42, x43, x44, x45, x46, x47, x48, x49, x50, x51, x52, x53, x54, x55, x56, x57, x58, x59, x60, x61, x62, x63, x64, x65, x66, x67, x68, x69, x70, x71, x72, x73, x74, x75, x76, x77, x78, x79, x80, x81, x82, x83, x84, x85, x86, x87, x88, x89, x90, x91, x92, x93, x94, x95, x96, x97, x98, x99, x100, x101] h := by
  subst e7
  have e : (#[x0, x1, x2, x3, y4, x5, x6, (f7 s0), x8, x9, x10, x11, x12, x13, x14, x15, x16, x17, x18, x19, x20, x21, x22, x23, x24, x25, x26, x27, x28, y29, y30, y31, y32, y33, y34, y35, y36, y37, y38, x39, x40, x41, x42, x43, x44, x45, x46, x47, x48, x49, x50, x51, x52, x53, x54, x55, x56, x57, x58, x59, x60, x61, x62, x63, x64, x65, x66, x67, x68, x69, x70, x71, x72, x73, x74, x75, x76, x77, x78, x79, x80, x81, x82, x83, x84, x85, x86, x87, x88, x89, x90, x91, x92, x93, x94, x95, x96, x97, x98, x99, x100, x101] : Env) = m9_1_1_1_1_0_1_0_0 x0 x1 x2 x3 x5 x6 x8 x9 x10 x11 x12 x13 x14 x15 x16 x17 x18 x19 x20 x21 x22 x23 x24 x25 x26 x27 x28 x39 x40 x41 x42 x43 x44 x45 x46 x47 x48 x49 x50 x51 x52 x53 x54 x55 x56 x57 x58 x59 x60 x61 x62 x63 x64 x65 x66 x67 x68 x69 x70 x71 x72 x73 x74 x75 x76 x77 x78 x79 x80 x81 x82 x83 x84 x85 x86 x87 x88 x89 x90 x91 x92 x93 x94 x95 x96 x97 x98 x99 x100 x101 (f7 s0) (jf #[x0, x1, x2, x3, y4, x5, x6, (f7 s0), x8, x9, x10, x11, x12, x13, x14, x15, x16, x17, x18, x19, x20, x21, x22, x23, x24, x25, x26, x27, x28, y29, y30, y31, y32, y33, y34, y35, y36, y37, y38, x39, x40, x41, x42, x43, x44, x45, x46, x47, x48, x49, x50, x51, x52, x53, x54, x55, x56, x57, x58, x59, x60, x61, x62, x63, x64, x65, x66, x67, x68, x69, x70, x71, x72, x73, x74, x75, x76, x77, x78, x79, x80, x81, x82, x83, x84, x85, x86, x87, x88, x89, x90, x91, x92, x93, x94, x95, x96, x97, x98, x99, x100, x101]) := by kernel_rfl
  rw [e]
  exact loop_r (fun s j => m9_1_1_1_1_0_1_0_0 x0 x1 x2 x3 x5 x6 x8 x9 x10 x11 x12 x13 x14 x15 x16 x17 x18 x19 x20 x21 x22 x23 x24 x25 x26 x27 x28 x39 x40 x41 x42 x43 x44 x45 x46 x47 x48 x49 x50 x51 x52 x53 x54 x55 x56 x57 x58 x59 x60 x61 x62 x63 x64 x65 x66 x67 x68 x69 x70 x71 x72 x73 x74 x75 x76 x77 x78 x79 x80 x81 x82 x83 x84 x85 x86 x87 x88 x89 x90 x91 x92 x93 x94 x95 x96 x97 x98 x99 x100 x101 (f7 s) j) I μ (fun k s j h hI hw next => by rw [t9_1_1_1_1_0_1_0_0]; exact round k s j h hI hw next) s0 (jf #[x0, x1, x2, x3, y4, x5, x6, (f7 s0), x8, x9, x10, x11, x12, x13, x14, x15, x16, x17, x18, x19, x20, x21, x22, x23, x24, x25, x26, x27, x28, y29, y30, y31, y32, y33, y34, y35, y36, y37, y38, x39, x40, x41, x42, x43, x44, x45, x46, x47, x48, x49, x50, x51, x52, x53, x54, x55, x56, x57, x58, x59, x60, x61, x62, x63, x64, x65, x66, x67, x68, x69, x70, x71, x72, x73, x74, x75, x76, x77, x78, x79, x80, x81, x82, x83, x84, x85, x86, x87, x88, x89, x90, x91, x92, x93, x94, x95, x96, x97, x98, x99, x100, x101]) h0
theorem l9_1_1_1_1_1_1_0_1_0_0 {K : Kont} {E : PanK} {σ : Type} {x0 x1 x2 x3 x5 x6 x7 x8 x13 x14 x15 x16 x17 x18 x19 x20 x21 x22 x23 x24 x25 x26 x27 x28 x29 x30 x31 x32 x33 x34 x35 x36 x37 x38 x39 x90 x91 x92 x93 x94 x95 x96 x97 x98 x99 x100 x101 v9 y4 y10 y11 y12 y40 y41 y42 y43 y44 y45 y46 y47 y48 y49 y50 y51 y52 y53 y54 y55 y56 y57 y58 y59 y60 y61 y62 y63 y64 y65 y66 y67 y68 y69 y70 y71 y72 y73 y74 y75 y76 y77 y78 y79 y80 y81 y82 y83 y84 y85 y86 y87 y88 y89 : Value} {h : Hp} (f9 : σ → Value) (I : σ → Hp → Prop) (μ : σ → Nat) (s0 : σ) (e9 : v9 = f9 s0) (h0 : h.wf → ∃ h', h.wk h' ∧ I s0 h')
  (round : ∀ (k1 : Env → Hp → Prop) (s : σ) (j : Nat → Value) (h : Hp), I s h → h.wf → (∀ s' j' h', μ s' < μ s → (h'.wf → ∃ h'', h'.wk h'' ∧ I s' h'') → k1 (m9_1_1_1_1_1_1_0_1_0_0 x0 x1 x2 x3 x5 x6 x7 x8 x13 x14 x15 x16 x17 x18 x19 x20 x21 x22 x23 x24 x25 x26 x27 x28 x29 x30 x31 x32 x33 x34 x35 x36 x37 x38 x39 x90 x91 x92 x93 x94 x95 x96 x97 x98 x99 x100 x101 (f9 s') j') h') → (
  pv (lenV x1) fun t1 =>
  pv (binV .none .lss (f9 s) t1) fun t2 =>
  cnd t2 (
    callv Try.prog (.func (.func 33) #[] #[]) #[x5] (fun t3 =>
    pv (lenV t3) fun t4 =>
    pv (iaV none 1 x1 (f9 s)) fun t5 =>
    ld false 1 t5 fun t6 =>
    pv (cvV .i64 t6) fun t7 =>
    callv Try.prog (.func (.func 34) #[] #[]) #[x5, t7] (fun t8 =>
    pv (exV 0 t8) fun t9 =>
    pv (exV 1 t8) fun t10 =>
    nw 61 [(.int .i64 0), (.int .i64 0), (.slice none 0 0)] fun t11 =>
    st 3 t11 t9 fun _ =>
    pv (iaV none 1 x1 (f9 s)) fun t12 =>
    ld false 1 t12 fun t13 =>
    pv (cvV .i64 t13) fun t14 =>
    pv (binV .none .lss t14 t4) fun t15 =>
    pv (binV .bool .neq t10 t15) fun t16 =>
    cnd t16 (
      K (.bool false)) (
      cnd t10 (
        pv (faV 0 t11) fun t17 =>
        ld false 1 t17 fun t18 =>
        pv (binV .none .lss t18 (.int .i64 0)) fun t19 =>
        gdK t19 false (fun k => pv (faV 0 t11) k) fun t20 =>
        gdK t19 false (fun k => ld false 1 t20 k) fun t21 =>
        gdK t19 false (fun k => k x6) fun t22 =>
        gdK t19 false (fun k => pv (binV .none .geq t21 t22) k) fun t23 =>
        pv (pickV t19 (.bool true) t23) fun t24 =>
        gdK t24 false (fun k => k x8) fun t25 =>
        gdK t24 false (fun k => pv (faV 0 t11) k) fun t26 =>
        gdK t24 false (fun k => ld false 1 t26 k) fun t27 =>
        gdK t24 false (fun k => pv (iaV none 1 t25 t27) k) fun t28 =>
        gdK t24 false (fun k => ld false 1 t28 k) fun t29 =>
        gdK t24 false (fun k => pv (binV .none .gtr t29 (.int .i64 0)) k) fun t30 =>
        pv (pickV t24 (.bool true) t30) fun t31 =>
        cnd t31 (
          K (.bool false)) (
          pv (faV 0 t11) fun t32 =>
          ld false 1 t32 fun t33 =>
          pv (iaV none 1 x8 t33) fun t34 =>
          st 1 t34 (.int .i64 1) fun _ =>
          den Try.prog (sel (bodyOf Try.f9) [1, 1, 1, 1, 1, 1, 0, 1, 0, 0, 1, 1]) (thenD k1 (blk 2 (thenD (den Try.prog (sel (bodyOf Try.f9) [1, 1, 1, 1, 1, 1, 1]) (bodyQ Try.prog Try.f9.results.toList K E)) (bodyQ Try.prog Try.f9.results.toList K E)))) #[x0, x1, x2, x3, (j 4), x5, x6, x7, x8, (f9 s), t4, t11, t10, x13, x14, x15, x16, x17, x18, x19, x20, x21, x22, x23, x24, x25, x26, x27, x28, x29, x30, x31, x32, x33, x34, x35, x36, x37, x38, x39, (f9 s), x1, t1, t2, (j 44), (j 45), x5, t3, t4, t8, x5, x1, (f9 s), t5, t6, t7, t8, t9, t10, t10, x1, (f9 s), t12, t13, t14, t4, t15, t16, t10, t17, t18, t19, t19, t20, t21, t22, t23, t24, t24, t25, t26, t27, t28, t29, t30, t31, x8, t32, t33, t34, x90, x91, x92, x93, x94, x95, x96, x97, x98, x99, x100, x101])) (
        den Try.prog (sel (bodyOf Try.f9) [1, 1, 1, 1, 1, 1, 0, 1, 0, 0, 1, 1]) (thenD k1 (blk 2 (thenD (den Try.prog (sel (bodyOf Try.f9) [1, 1, 1, 1, 1, 1, 1]) (bodyQ Try.prog Try.f9.results.toList K E)) (bodyQ Try.prog Try.f9.results.toList K E)))) #[x0, x1, x2, x3, (j 4), x5, x6, x7, x8, (f9 s), t4, t11, t10, x13, x14, x15, x16, x17, x18, x19, x20, x21, x22, x23, x24, x25, x26, x27, x28, x29, x30, x31, x32, x33, x34, x35, x36, x37, x38, x39, (f9 s), x1, t1, t2, (j 44), (j 45), x5, t3, t4, t8, x5, x1, (f9 s), t5, t6, t7, t8, t9, t10, t10, x1, (f9 s), t12, t13, t14, t4, t15, t16, t10, (j 69), (j 70), (j 71), (j 72), (j 73), (j 74), (j 75), (j 76), (j 77), (j 78), (j 79), (j 80), (j 81), (j 82), (j 83), (j 84), (j 85), (j 86), (j 87), (j 88), (j 89), x90, x91, x92, x93, x94, x95, x96, x97, x98, x99, x100, x101]))) E) E) (
    den Try.prog (sel (bodyOf Try.f9) [1, 1, 1, 1, 1, 1, 1]) (bodyQ Try.prog Try.f9.results.toList K E) #[x0, x1, x2, x3, (j 4), x5, x6, x7, x8, (f9 s), (j 10), (j 11), (j 12), x13, x14, x15, x16, x17, x18, x19, x20, x21, x22, x23, x24, x25, x26, x27, x28, x29, x30, x31, x32, x33, x34, x35, x36, x37, x38, x39, (f9 s), x1, t1, t2, (j 44), (j 45), (j 46), (j 47), (j 48), (j 49), (j 50), (j 51), (j 52), (j 53), (j 54), (j 55), (j 56), (j 57), (j 58), (j 59), (j 60), (j 61), (j 62), (j 63), (j 64), (j 65), (j 66), (j 67), (j 68), (j 69), (j 70), (j 71), (j 72), (j 73), (j 74), (j 75), (j 76), (j 77), (j 78), (j 79), (j 80), (j 81), (j 82), (j 83), (j 84), (j 85), (j 86), (j 87), (j 88), (j 89), x90, x91, x92, x93, x94, x95, x96, x97, x98, x99, x100, x101])) h) :
  lp (fun k1 => den Try.prog (sel (bodyOf Try.f9) [1, 1, 1, 1, 1, 1, 0, 1, 0, 0]) (thenD k1 (blk 2 (thenD (den Try.prog (sel (bodyOf Try.f9) [1, 1, 1, 1, 1, 1, 1]) (bodyQ Try.prog Try.f9.results.toList K E)) (bodyQ Try.prog Try.f9.results.toList K E))))) #[x0, x1, x2, x3, y4, x5, x6, x7, x8, v9, y10, y11, y12, x13, x14, x15, x16, x17, x18, x19, x20, x21, x22, x23, x24, x25, x26, x27, x28, x29, x30, x31, x32, x33, x34, x35, x36, x37, x38, x39, y40, y41, y42, y43, y44, y45, y46, y47, y48, y49, y50, y51, y52, y53, y54, y55, y56, y57, y58, y59, y60, y61, y62, y63, y64, y65, y66, y67, y68, y69, y70, y71, y72, y73, y74, y75, y76, y77, y78, y79, y80, y81, y82, y83, y84, y85, y86, y87, y88, y89, x90, x91, x92, x93, x94, x95, x96, x97, x98, x99, x100, x101] h := by
  subst e9
  have e : (#[x0, x1, x2, x3, y4, x5, x6, x7, x8, (f9 s0), y10, y11, y12, x13, x14, x15, x16, x17, x18, x19, x20, x21, x22, x23, x24, x25, x26, x27, x28, x29, x30, x31, x32, x33, x34, x35, x36, x37, x38, x39, y40, y41, y42, y43, y44, y45, y46, y47, y48, y49, y50, y51, y52, y53, y54, y55, y56, y57, y58, y59, y60, y61, y62, y63, y64, y65, y66, y67, y68, y69, y70, y71, y72, y73, y74, y75, y76, y77, y78, y79, y80, y81, y82, y83, y84, y85, y86, y87, y88, y89, x90, x91, x92, x93, x94, x95, x96, x97, x98, x99, x100, x101] : Env) = m9_1_1_1_1_1_1_0_1_0_0 x0 x1 x2 x3 x5 x6 x7 x8 x13 x14 x15 x16 x17 x18 x19 x20 x21 x22 x23 x24 x25 x26 x27 x28 x29 x30 x31 x32 x33 x34 x35 x36 x37 x38 x39 x90 x91 x92 x93 x94 x95 x96 x97 x98 x99 x100 x101 (f9 s0) (jf #[x0, x1, x2, x3, y4, x5, x6, x7, x8, (f9 s0), y10, y11, y12, x13, x14, x15, x16, x17, x18, x19, x20, x21, x22, x23, x24, x25, x26, x27, x28, x29, x30, x31, x32, x33, x34, x35, x36, x37, x38, x39, y40, y41, y42, y43, y44, y45, y46, y47, y48, y49, y50, y51, y52, y53, y54, y55, y56, y57, y58, y59, y60, y61, y62, y63, y64, y65, y66, y67, y68, y69, y70, y71, y72, y73, y74, y75, y76, y77, y78, y79, y80, y81, y82, y83, y84, y85, y86, y87, y88, y89, x90, x91, x92, x93, x94, x95, x96, x97, x98, x99, x100, x101]) := by kernel_rfl
  rw [e]
  exact loop_r (fun s j => m9_1_1_1_1_1_1_0_1_0_0 x0 x1 x2 x3 x5 x6 x7 x8 x13 x14 x15 x16 x17 x18 x19 x20 x21 x22 x23 x24 x25 x26 x27 x28 x29 x30 x31 x32 x33 x34 x35 x36 x37 x38 x39 x90 x91 x92 x93 x94 x95 x96 x97 x98 x99 x100 x101 (f9 s) j) I μ (fun k s j h hI hw next => by rw [t9_1_1_1_1_1_1_0_1_0_0]; exact round k s j h hI hw next) s0 (jf #[x0, x1, x2, x3, y4, x5, x6, x7, x8, (f9 s0), y10, y11, y12, x13, x14, x15, x16, x17, x18, x19, x20, x21, x22, x23, x24, x25, x26, x27, x28, x29, x30, x31, x32, x33, x34, x35, x36, x37, x38, x39, y40, y41, y42, y43, y44, y45, y46, y47, y48, y49, y50, y51, y52, y53, y54, y55, y56, y57, y58, y59, y60, y61, y62, y63, y64, y65, y66, y67, y68, y69, y70, y71, y72, y73, y74, y75, y76, y77, y78, y79, y80, y81, y82, y83, y84, y85, y86, y87, y88, y89, x90, x91, x92, x93, x94, x95, x96, x97, x98, x99, x100, x101]) h0

end Go.Proofs.Ytjeojnjkmhnepaa.T
