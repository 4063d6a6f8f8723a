import Derived.Test.YthpacapdaembpaaDoorProg
import Derived.Test.YthpacapdaembpaaDoorK16
open Go Go.RowKit Go.Proofs.YthpacapdaembpaaDoor.K
set_option linter.unusedVariables false
set_option maxRecDepth 100000
namespace Go.Proofs.YthpacapdaembpaaDoor.T
theorem t23 (K : Kont) (E : PanK) (x0 x1 : Value)  : den Tryd.prog (sel (bodyOf Tryd.f23) []) (bodyQ Tryd.prog Tryd.f23.results.toList K E) #[x0, x1, undef, undef, undef, undef, undef, undef, undef, undef, undef, undef, undef, undef, undef, undef, undef, undef, undef, undef, undef, undef, undef, undef, undef, undef, undef, undef, undef, undef, undef, undef, undef, undef, undef, undef, undef, undef, undef, undef, undef, undef, undef, undef, undef, undef, undef, undef, undef, undef, undef, undef, undef, undef, undef, undef, undef, undef, undef, undef, undef, undef, undef, undef, undef, undef, undef, undef, undef, undef, undef, undef, undef, undef, undef, undef, undef] =
  lp (fun k1 => den Tryd.prog (sel (bodyOf Tryd.f23) [1, 0, 1, 0, 0]) (thenD k1 (blk 0 (thenD (den Tryd.prog (sel (bodyOf Tryd.f23) [1, 1]) (bodyQ Tryd.prog Tryd.f23.results.toList K E)) (bodyQ Tryd.prog Tryd.f23.results.toList K E))))) #[x0, x1, undef, undef, (.bool false), (.int .i64 0), undef, undef, undef, undef, undef, undef, undef, undef, undef, undef, undef, undef, undef, undef, undef, undef, undef, undef, undef, undef, undef, undef, undef, undef, undef, undef, undef, undef, undef, undef, undef, undef, undef, undef, undef, undef, undef, undef, undef, undef, undef, undef, undef, undef, undef, undef, undef, undef, undef, undef, undef, undef, undef, undef, undef, undef, undef, undef, undef, undef, undef, undef, undef, undef, undef, undef, undef, undef, undef, undef, undef] := by kernel_rfl
def m23_1_0_1_0_0 (x0 x1 x2 x3 : Value) (v5 : Value) (j : Nat → Value) : Env := #[x0, x1, x2, x3, (j 4), v5, (j 6), (j 7), (j 8), (j 9), (j 10), (j 11), (j 12), (j 13), (j 14), (j 15), (j 16), (j 17), (j 18), (j 19), (j 20), (j 21), (j 22), (j 23), (j 24), (j 25), (j 26), (j 27), (j 28), (j 29), (j 30), (j 31), (j 32), (j 33), (j 34), (j 35), (j 36), (j 37), (j 38), (j 39), (j 40), (j 41), (j 42), (j 43), (j 44), (j 45), (j 46), (j 47), (j 48), (j 49), (j 50), (j 51), (j 52), (j 53), (j 54), (j 55), (j 56), (j 57), (j 58), (j 59), (j 60), (j 61), (j 62), (j 63), (j 64), (j 65), (j 66), (j 67), (j 68), (j 69), (j 70), (j 71), (j 72), (j 73), (j 74), (j 75), (j 76)]
theorem t23_1_0_1_0_0 (K : Kont) (E : PanK) (k1 : Env → Hp → Prop) (x0 x1 x2 x3 v5 : Value) (j : Nat → Value) : den Tryd.prog (sel (bodyOf Tryd.f23) [1, 0, 1, 0, 0]) (thenD k1 (blk 0 (thenD (den Tryd.prog (sel (bodyOf Tryd.f23) [1, 1]) (bodyQ Tryd.prog Tryd.f23.results.toList K E)) (bodyQ Tryd.prog Tryd.f23.results.toList K E)))) (m23_1_0_1_0_0 x0 x1 x2 x3 v5 j) =
  pv (lenV x0) fun t1 =>
  pv (binV .none .lss v5 t1) fun t2 =>
  cnd t2 (
    lp (fun k2 => den Tryd.prog (sel (bodyOf Tryd.f23) [1, 0, 1, 0, 0, 1, 0, 0, 0, 1, 0, 0]) (thenD k2 (blk 2 (thenD (den Tryd.prog (sel (bodyOf Tryd.f23) [1, 0, 1, 0, 0, 1, 0, 0, 1]) (blk 1 (thenD (den Tryd.prog (sel (bodyOf Tryd.f23) [1, 0, 1, 0, 0, 1, 1]) (thenD k1 (blk 0 (thenD (den Tryd.prog (sel (bodyOf Tryd.f23) [1, 1]) (bodyQ Tryd.prog Tryd.f23.results.toList K E)) (bodyQ Tryd.prog Tryd.f23.results.toList K E))))) (thenD k1 (blk 0 (thenD (den Tryd.prog (sel (bodyOf Tryd.f23) [1, 1]) (bodyQ Tryd.prog Tryd.f23.results.toList K E)) (bodyQ Tryd.prog Tryd.f23.results.toList K E))))))) (blk 1 (thenD (den Tryd.prog (sel (bodyOf Tryd.f23) [1, 0, 1, 0, 0, 1, 1]) (thenD k1 (blk 0 (thenD (den Tryd.prog (sel (bodyOf Tryd.f23) [1, 1]) (bodyQ Tryd.prog Tryd.f23.results.toList K E)) (bodyQ Tryd.prog Tryd.f23.results.toList K E))))) (thenD k1 (blk 0 (thenD (den Tryd.prog (sel (bodyOf Tryd.f23) [1, 1]) (bodyQ Tryd.prog Tryd.f23.results.toList K E)) (bodyQ Tryd.prog Tryd.f23.results.toList K E)))))))))) #[x0, x1, x2, x3, (j 4), v5, (.int .i64 0), v5, x0, t1, t2, (j 11), (j 12), (j 13), (j 14), (j 15), (j 16), (j 17), (j 18), (j 19), (j 20), (j 21), (j 22), (j 23), (j 24), (j 25), (j 26), (j 27), (j 28), (j 29), (j 30), (j 31), (j 32), (j 33), (j 34), (j 35), (j 36), (j 37), (j 38), (j 39), (j 40), (j 41), (j 42), (j 43), (j 44), (j 45), (j 46), (j 47), (j 48), (j 49), (j 50), (j 51), (j 52), (j 53), (j 54), (j 55), (j 56), (j 57), (j 58), (j 59), (j 60), (j 61), (j 62), (j 63), (j 64), (j 65), (j 66), (j 67), (j 68), (j 69), (j 70), (j 71), (j 72), (j 73), (j 74), (j 75), (j 76)]) (
    den Tryd.prog (sel (bodyOf Tryd.f23) [1, 1]) (bodyQ Tryd.prog Tryd.f23.results.toList K E) #[x0, x1, x2, x3, (j 4), v5, (j 6), v5, x0, t1, t2, (j 11), (j 12), (j 13), (j 14), (j 15), (j 16), (j 17), (j 18), (j 19), (j 20), (j 21), (j 22), (j 23), (j 24), (j 25), (j 26), (j 27), (j 28), (j 29), (j 30), (j 31), (j 32), (j 33), (j 34), (j 35), (j 36), (j 37), (j 38), (j 39), (j 40), (j 41), (j 42), (j 43), (j 44), (j 45), (j 46), (j 47), (j 48), (j 49), (j 50), (j 51), (j 52), (j 53), (j 54), (j 55), (j 56), (j 57), (j 58), (j 59), (j 60), (j 61), (j 62), (j 63), (j 64), (j 65), (j 66), (j 67), (j 68), (j 69), (j 70), (j 71), (j 72), (j 73), (j 74), (j 75), (j 76)]) := by kernel_rfl
theorem t23_1_1 (K : Kont) (E : PanK) (x0 x1 x2 x3 x4 x5 x6 x7 x8 x9 x10 x11 x12 x13 x14 x15 x16 x17 x18 x19 x20 x21 x22 x23 x24 x25 x26 x27 x28 x29 x30 x31 x32 x33 x34 x35 x36 x37 x38 x39 x40 x41 x42 x43 x44 x45 x46 x47 x48 x49 x50 x51 x52 x53 x54 x55 x56 x57 x58 x59 x60 x61 x62 x63 x64 x65 x66 x67 x68 x69 x70 x71 x72 x73 x74 x75 x76 : Value)  : den Tryd.prog (sel (bodyOf Tryd.f23) [1, 1]) (bodyQ Tryd.prog Tryd.f23.results.toList K E) #[x0, x1, x2, x3, x4, x5, x6, x7, x8, x9, x10, x11, x12, x13, x14, x15, x16, x17, x18, x19, x20, x21, x22, x23, x24, x25, x26, x27, x28, x29, x30, x31, x32, x33, x34, x35, x36, x37, x38, x39, x40, x41, x42, x43, x44, x45, x46, x47, x48, x49, x50, x51, x52, x53, x54, x55, x56, x57, x58, x59, x60, x61, x62, x63, x64, x65, x66, x67, x68, x69, x70, x71, x72, x73, x74, x75, x76] =
  K (.bool true) := by kernel_rfl
def m23_1_0_1_0_0_1_0_0_0_1_0_0 (x0 x1 x2 x3 x5 x7 x8 x9 x10 x11 x12 x32 x33 x34 x35 x36 x37 x38 x39 x40 x41 x42 x43 x44 x45 x46 x47 x48 x49 x50 x51 x52 x53 x54 x55 x56 x57 x58 x59 x60 x61 x62 x63 x64 x65 x66 x67 x68 x69 x70 x71 x72 x73 x74 x75 x76 : Value) (v6 : Value) (j : Nat → Value) : Env := #[x0, x1, x2, x3, (j 4), x5, v6, x7, x8, x9, x10, x11, x12, (j 13), (j 14), (j 15), (j 16), (j 17), (j 18), (j 19), (j 20), (j 21), (j 22), (j 23), (j 24), (j 25), (j 26), (j 27), (j 28), (j 29), (j 30), (j 31), x32, x33, x34, x35, x36, x37, x38, x39, x40, x41, x42, x43, x44, x45, x46, x47, x48, x49, x50, x51, x52, x53, x54, x55, x56, x57, x58, x59, x60, x61, x62, x63, x64, x65, x66, x67, x68, x69, x70, x71, x72, x73, x74, x75, x76]
theorem t23_1_0_1_0_0_1_0_0_0_1_0_0 (K : Kont) (E : PanK) (k1 k2 : Env → Hp → Prop) (x0 x1 x2 x3 x5 x7 x8 x9 x10 x11 x12 x32 x33 x34 x35 x36 x37 x38 x39 x40 x41 x42 x43 x44 x45 x46 x47 x48 x49 x50 x51 x52 x53 x54 x55 x56 x57 x58 x59 x60 x61 x62 x63 x64 x65 x66 x67 x68 x69 x70 x71 x72 x73 x74 x75 x76 v6 : Value) (j : Nat → Value) : den Tryd.prog (sel (bodyOf Tryd.f23) [1, 0, 1, 0, 0, 1, 0, 0, 0, 1, 0, 0]) (thenD k2 (blk 2 (thenD (den Tryd.prog (sel (bodyOf Tryd.f23) [1, 0, 1, 0, 0, 1, 0, 0, 1]) (blk 1 (thenD (den Tryd.prog (sel (bodyOf Tryd.f23) [1, 0, 1, 0, 0, 1, 1]) (thenD k1 (blk 0 (thenD (den Tryd.prog (sel (bodyOf Tryd.f23) [1, 1]) (bodyQ Tryd.prog Tryd.f23.results.toList K E)) (bodyQ Tryd.prog Tryd.f23.results.toList K E))))) (thenD k1 (blk 0 (thenD (den Tryd.prog (sel (bodyOf Tryd.f23) [1, 1]) (bodyQ Tryd.prog Tryd.f23.results.toList K E)) (bodyQ Tryd.prog Tryd.f23.results.toList K E))))))) (blk 1 (thenD (den Tryd.prog (sel (bodyOf Tryd.f23) [1, 0, 1, 0, 0, 1, 1]) (thenD k1 (blk 0 (thenD (den Tryd.prog (sel (bodyOf Tryd.f23) [1, 1]) (bodyQ Tryd.prog Tryd.f23.results.toList K E)) (bodyQ Tryd.prog Tryd.f23.results.toList K E))))) (thenD k1 (blk 0 (thenD (den Tryd.prog (sel (bodyOf Tryd.f23) [1, 1]) (bodyQ Tryd.prog Tryd.f23.results.toList K E)) (bodyQ Tryd.prog Tryd.f23.results.toList K E))))))))) (m23_1_0_1_0_0_1_0_0_0_1_0_0 x0 x1 x2 x3 x5 x7 x8 x9 x10 x11 x12 x32 x33 x34 x35 x36 x37 x38 x39 x40 x41 x42 x43 x44 x45 x46 x47 x48 x49 x50 x51 x52 x53 x54 x55 x56 x57 x58 x59 x60 x61 x62 x63 x64 x65 x66 x67 x68 x69 x70 x71 x72 x73 x74 x75 x76 v6 j) =
  pv (iaV none 5 x0 x5) fun t1 =>
  pv (faV 0 t1) fun t2 =>
  ld false 1 t2 fun t3 =>
  pv (lenV t3) fun t4 =>
  pv (binV .none .lss v6 t4) fun t5 =>
  cnd t5 (
    pv (iaV none 5 x0 x5) fun t6 =>
    pv (faV 0 t6) fun t7 =>
    ld false 1 t7 fun t8 =>
    pv (iaV none 1 t8 v6) fun t9 =>
    ld false 1 t9 fun t10 =>
    pv (binV .none .lss t10 (.int .i64 0)) fun t11 =>
    cnd t11 (
      K (.bool false)) (
      pv (binV .none .add v6 (.int .i64 1)) fun t12 =>
      k2 (m23_1_0_1_0_0_1_0_0_0_1_0_0 x0 x1 x2 x3 x5 x7 x8 x9 x10 x11 x12 x32 x33 x34 x35 x36 x37 x38 x39 x40 x41 x42 x43 x44 x45 x46 x47 x48 x49 x50 x51 x52 x53 x54 x55 x56 x57 x58 x59 x60 x61 x62 x63 x64 x65 x66 x67 x68 x69 x70 x71 x72 x73 x74 x75 x76 t12 (jf #[x0, x1, x2, x3, (j 4), x5, t12, x7, x8, x9, x10, x11, x12, v6, x0, x5, t1, t2, t3, t4, t5, v6, t12, x0, x5, t6, t7, t8, v6, t9, t10, t11, x32, x33, x34, x35, x36, x37, x38, x39, x40, x41, x42, x43, x44, x45, x46, x47, x48, x49, x50, x51, x52, x53, x54, x55, x56, x57, x58, x59, x60, x61, x62, x63, x64, x65, x66, x67, x68, x69, x70, x71, x72, x73, x74, x75, x76])))) (
    den Tryd.prog (sel (bodyOf Tryd.f23) [1, 0, 1, 0, 0, 1, 0, 0, 1]) (blk 1 (thenD (den Tryd.prog (sel (bodyOf Tryd.f23) [1, 0, 1, 0, 0, 1, 1]) (thenD k1 (blk 0 (thenD (den Tryd.prog (sel (bodyOf Tryd.f23) [1, 1]) (bodyQ Tryd.prog Tryd.f23.results.toList K E)) (bodyQ Tryd.prog Tryd.f23.results.toList K E))))) (thenD k1 (blk 0 (thenD (den Tryd.prog (sel (bodyOf Tryd.f23) [1, 1]) (bodyQ Tryd.prog Tryd.f23.results.toList K E)) (bodyQ Tryd.prog Tryd.f23.results.toList K E)))))) #[x0, x1, x2, x3, (j 4), x5, v6, x7, x8, x9, x10, x11, x12, v6, x0, x5, t1, t2, t3, t4, t5, (j 21), (j 22), (j 23), (j 24), (j 25), (j 26), (j 27), (j 28), (j 29), (j 30), (j 31), x32, x33, x34, x35, x36, x37, x38, x39, x40, x41, x42, x43, x44, x45, x46, x47, x48, x49, x50, x51, x52, x53, x54, x55, x56, x57, x58, x59, x60, x61, x62, x63, x64, x65, x66, x67, x68, x69, x70, x71, x72, x73, x74, x75, x76]) := by kernel_rfl
theorem t23_1_0_1_0_0_1_0_0_1 (K : Kont) (E : PanK) (k1 : Env → Hp → Prop) (x0 x1 x2 x3 x4 x5 x6 x7 x8 x9 x10 x11 x12 x13 x14 x15 x16 x17 x18 x19 x20 x21 x22 x23 x24 x25 x26 x27 x28 x29 x30 x31 x32 x33 x34 x35 x36 x37 x38 x39 x40 x41 x42 x43 x44 x45 x46 x47 x48 x49 x50 x51 x52 x53 x54 x55 x56 x57 x58 x59 x60 x61 x62 x63 x64 x65 x66 x67 x68 x69 x70 x71 x72 x73 x74 x75 x76 : Value)  : den Tryd.prog (sel (bodyOf Tryd.f23) [1, 0, 1, 0, 0, 1, 0, 0, 1]) (blk 1 (thenD (den Tryd.prog (sel (bodyOf Tryd.f23) [1, 0, 1, 0, 0, 1, 1]) (thenD k1 (blk 0 (thenD (den Tryd.prog (sel (bodyOf Tryd.f23) [1, 1]) (bodyQ Tryd.prog Tryd.f23.results.toList K E)) (bodyQ Tryd.prog Tryd.f23.results.toList K E))))) (thenD k1 (blk 0 (thenD (den Tryd.prog (sel (bodyOf Tryd.f23) [1, 1]) (bodyQ Tryd.prog Tryd.f23.results.toList K E)) (bodyQ Tryd.prog Tryd.f23.results.toList K E)))))) #[x0, x1, x2, x3, x4, x5, x6, x7, x8, x9, x10, x11, x12, x13, x14, x15, x16, x17, x18, x19, x20, x21, x22, x23, x24, x25, x26, x27, x28, x29, x30, x31, x32, x33, x34, x35, x36, x37, x38, x39, x40, x41, x42, x43, x44, x45, x46, x47, x48, x49, x50, x51, x52, x53, x54, x55, x56, x57, x58, x59, x60, x61, x62, x63, x64, x65, x66, x67, x68, x69, x70, x71, x72, x73, x74, x75, x76] =
  pv (iaV none 5 x0 x5) fun t1 =>
  pv (faV 0 t1) fun t2 =>
  ld false 1 t2 fun t3 =>
  pv (lenV t3) fun t4 =>
  pv (binV .none .neq t4 x1) fun t5 =>
  gdK t5 false (fun k => k x0) fun t6 =>
  gdK t5 false (fun k => k x5) fun t7 =>
  gdK t5 false (fun k => pv (iaV none 5 t6 t7) k) fun t8 =>
  gdK t5 false (fun k => pv (faV 1 t8) k) fun t9 =>
  gdK t5 false (fun k => ld true 4 t9 k) fun t10 =>
  gdK t5 false (fun k => callv Tryd.prog (.func (.func 29) #[] #[]) #[t10] k E) fun t11 =>
  gdK t5 false (fun k => pv (unV .not t11) k) fun t12 =>
  pv (pickV t5 (.bool true) t12) fun t13 =>
  gdK t13 false (fun k => k x0) fun t14 =>
  gdK t13 false (fun k => k x5) fun t15 =>
  gdK t13 false (fun k => pv (iaV none 5 t14 t15) k) fun t16 =>
  gdK t13 false (fun k => pv (faV 1 t16) k) fun t17 =>
  gdK t13 false (fun k => pv (faV 0 t17) k) fun t18 =>
  gdK t13 false (fun k => ld false 1 t18 k) fun t19 =>
  gdK t13 false (fun k => pv (binV .none .eql t19 (.int .i64 0)) k) fun t20 =>
  pv (pickV t13 (.bool true) t20) fun t21 =>
  gdK t21 false (fun k => k x5) fun t22 =>
  gdK t21 false (fun k => pv (binV .none .gtr t22 (.int .i64 0)) k) fun t23 =>
  gdK t21 false (fun k => k t23) fun t24 =>
  gdK t24 true (fun k => k x0) fun t25 =>
  gdK t24 true (fun k => k x5) fun t26 =>
  gdK t24 true (fun k => pv (binV .none .sub t26 (.int .i64 1)) k) fun t27 =>
  gdK t24 true (fun k => pv (iaV none 5 t25 t27) k) fun t28 =>
  gdK t24 true (fun k => pv (faV 0 t28) k) fun t29 =>
  gdK t24 true (fun k => ld false 1 t29 k) fun t30 =>
  gdK t24 true (fun k => k x0) fun t31 =>
  gdK t24 true (fun k => k x5) fun t32 =>
  gdK t24 true (fun k => pv (iaV none 5 t31 t32) k) fun t33 =>
  gdK t24 true (fun k => pv (faV 0 t33) k) fun t34 =>
  gdK t24 true (fun k => ld false 1 t34 k) fun t35 =>
  gdK t24 true (fun k => callv Tryd.prog (.func (.func 30) #[] #[]) #[t30, t35] k E) fun t36 =>
  gdK t24 true (fun k => pv (binV .none .geq t36 (.int .i64 0)) k) fun t37 =>
  gdK t21 false (fun k => pv (pickV t24 t37 (.bool false)) k) fun t38 =>
  pv (pickV t21 (.bool true) t38) fun t39 =>
  cnd t39 (
    K (.bool false)) (
    den Tryd.prog (sel (bodyOf Tryd.f23) [1, 0, 1, 0, 0, 1, 1]) (thenD k1 (blk 0 (thenD (den Tryd.prog (sel (bodyOf Tryd.f23) [1, 1]) (bodyQ Tryd.prog Tryd.f23.results.toList K E)) (bodyQ Tryd.prog Tryd.f23.results.toList K E)))) #[x0, x1, x2, x3, x4, x5, x6, x7, x8, x9, x10, x11, x12, x13, x14, x15, x16, x17, x18, x19, x20, x21, x22, x23, x24, x25, x26, x27, x28, x29, x30, x31, x0, x5, t1, t2, t3, t4, x1, t5, t5, t6, t7, t8, t9, t10, t11, t12, t13, t13, t14, t15, t16, t17, t18, t19, t20, t21, t21, t22, t23, t24, t25, t26, t27, t28, t29, t30, t31, t32, t33, t34, t35, t36, t37, t38, t39]) := by kernel_rfl
theorem t23_1_0_1_0_0_1_1 (K : Kont) (E : PanK) (k1 : Env → Hp → Prop) (x0 x1 x2 x3 x4 x5 x6 x7 x8 x9 x10 x11 x12 x13 x14 x15 x16 x17 x18 x19 x20 x21 x22 x23 x24 x25 x26 x27 x28 x29 x30 x31 x32 x33 x34 x35 x36 x37 x38 x39 x40 x41 x42 x43 x44 x45 x46 x47 x48 x49 x50 x51 x52 x53 x54 x55 x56 x57 x58 x59 x60 x61 x62 x63 x64 x65 x66 x67 x68 x69 x70 x71 x72 x73 x74 x75 x76 : Value)  : den Tryd.prog (sel (bodyOf Tryd.f23) [1, 0, 1, 0, 0, 1, 1]) (thenD k1 (blk 0 (thenD (den Tryd.prog (sel (bodyOf Tryd.f23) [1, 1]) (bodyQ Tryd.prog Tryd.f23.results.toList K E)) (bodyQ Tryd.prog Tryd.f23.results.toList K E)))) #[x0, x1, x2, x3, x4, x5, x6, x7, x8, x9, x10, x11, x12, x13, x14, x15, x16, x17, x18, x19, x20, x21, x22, x23, x24, x25, x26, x27, x28, x29, x30, x31, x32, x33, x34, x35, x36, x37, x38, x39, x40, x41, x42, x43, x44, x45, x46, x47, x48, x49, x50, x51, x52, x53, x54, x55, x56, x57, x58, x59, x60, x61, x62, x63, x64, x65, x66, x67, x68, x69, x70, x71, x72, x73, x74, x75, x76] =
  pv (binV .none .add x5 (.int .i64 1)) fun t1 =>
  k1 (m23_1_0_1_0_0 x0 x1 x2 x3 t1 (jf #[x0, x1, x2, x3, x4, t1, x6, x7, x8, x9, x10, x5, t1, x13, x14, x15, x16, x17, x18, x19, x20, x21, x22, x23, x24, x25, x26, x27, x28, x29, x30, x31, x32, x33, x34, x35, x36, x37, x38, x39, x40, x41, x42, x43, x44, x45, x46, x47, x48, x49, x50, x51, x52, x53, x54, x55, x56, x57, x58, x59, x60, x61, x62, x63, x64, x65, x66, x67, x68, x69, x70, x71, x72, x73, x74, x75, x76])) := by kernel_rfl
theorem l23_1_0_1_0_0 {K : Kont} {E : PanK} {σ : Type} {x0 x1 x2 x3 v5 y4 y6 y7 y8 y9 y10 y11 y12 y13 y14 y15 y16 y17 y18 y19 y20 y21 y22 y23 y24 y25 y26 y27 y28 y29 y30 y31 y32 y33 y34 y35 y36 y37 y38 y39 y40 y41 y42 y43 y44 y45 y46 y47 y48 y49 y50 y51 y52 y53 y54 y55 y56 y57 y58 y59 y60 y61 y62 y63 y64 y65 y66 y67 y68 y69 y70 y71 y72 y73 y74 y75 y76 : Value} {h : Hp} (f5 : σ → Value) (I : σ → Hp → Prop) (μ : σ → Nat) (s0 : σ) (e5 : v5 = f5 s0) (h0 : h.wf → ∃ h', h.wk h' ∧ I s0 h')
  (round : ∀ (k1 : Env → Hp → Prop) (s : σ) (j : Nat → Value) (h : Hp), I s h → h.wf → (∀ s' j' h', μ s' < μ s → (h'.wf → ∃ h'', h'.wk h'' ∧ I s' h'') → k1 (m23_1_0_1_0_0 x0 x1 x2 x3 (f5 s') j') h') → (
  pv (lenV x0) fun t1 =>
  pv (binV .none .lss (f5 s) t1) fun t2 =>
  cnd t2 (
    lp (fun k2 => den Tryd.prog (sel (bodyOf Tryd.f23) [1, 0, 1, 0, 0, 1, 0, 0, 0, 1, 0, 0]) (thenD k2 (blk 2 (thenD (den Tryd.prog (sel (bodyOf Tryd.f23) [1, 0, 1, 0, 0, 1, 0, 0, 1]) (blk 1 (thenD (den Tryd.prog (sel (bodyOf Tryd.f23) [1, 0, 1, 0, 0, 1, 1]) (thenD k1 (blk 0 (thenD (den Tryd.prog (sel (bodyOf Tryd.f23) [1, 1]) (bodyQ Tryd.prog Tryd.f23.results.toList K E)) (bodyQ Tryd.prog Tryd.f23.results.toList K E))))) (thenD k1 (blk 0 (thenD (den Tryd.prog (sel (bodyOf Tryd.f23) [1, 1]) (bodyQ Tryd.prog Tryd.f23.results.toList K E)) (bodyQ Tryd.prog Tryd.f23.results.toList K E))))))) (blk 1 (thenD (den Tryd.prog (sel (bodyOf Tryd.f23) [1, 0, 1, 0, 0, 1, 1]) (thenD k1 (blk 0 (thenD (den Tryd.prog (sel (bodyOf Tryd.f23) [1, 1]) (bodyQ Tryd.prog Tryd.f23.results.toList K E)) (bodyQ Tryd.prog Tryd.f23.results.toList K E))))) (thenD k1 (blk 0 (thenD (den Tryd.prog (sel (bodyOf Tryd.f23) [1, 1]) (bodyQ Tryd.prog Tryd.f23.results.toList K E)) (bodyQ Tryd.prog Tryd.f23.results.toList K E)))))))))) #[x0, x1, x2, x3, (j 4), (f5 s), (.int .i64 0), (f5 s), x0, t1, t2, (j 11), (j 12), (j 13), (j 14), (j 15), (j 16), (j 17), (j 18), (j 19), (j 20), (j 21), (j 22), (j 23), (j 24), (j 25), (j 26), (j 27), (j 28), (j 29), (j 30), (j 31), (j 32), (j 33), (j 34), (j 35), (j 36), (j 37), (j 38), (j 39), (j 40), (j 41), (j 42), (j 43), (j 44), (j 45), (j 46), (j 47), (j 48), (j 49), (j 50), (j 51), (j 52), (j 53), (j 54), (j 55), (j 56), (j 57), (j 58), (j 59), (j 60), (j 61), (j 62), (j 63), (j 64), (j 65), (j 66), (j 67), (j 68), (j 69), (j 70), (j 71), (j 72), (j 73), (j 74), (j 75), (j 76)]) (
    den Tryd.prog (sel (bodyOf Tryd.f23) [1, 1]) (bodyQ Tryd.prog Tryd.f23.results.toList K E) #[x0, x1, x2, x3, (j 4), (f5 s), (j 6), (f5 s), x0, t1, t2, (j 11), (j 12), (j 13), (j 14), (j 15), (j 16), (j 17), (j 18), (j 19), (j 20), (j 21), (j 22), (j 23), (j 24), (j 25), (j 26), (j 27), (j 28), (j 29), (j 30), (j 31), (j 32), (j 33), (j 34), (j 35), (j 36), (j 37), (j 38), (j 39), (j 40), (j 41), (j 42), (j 43), (j 44), (j 45), (j 46), (j 47), (j 48), (j 49), (j 50), (j 51), (j 52), (j 53), (j 54), (j 55), (j 56), (j 57), (j 58), (j 59), (j 60), (j 61), (j 62), (j 63), (j 64), (j 65), (j 66), (j 67), (j 68), (j 69), (j 70), (j 71), (j 72), (j 73), (j 74), (j 75), (j 76)])) h) :
  lp (fun k1 => den Tryd.prog (sel (bodyOf Tryd.f23) [1, 0, 1, 0, 0]) (thenD k1 (blk 0 (thenD (den Tryd.prog (sel (bodyOf Tryd.f23) [1, 1]) (bodyQ Tryd.prog Tryd.f23.results.toList K E)) (bodyQ Tryd.prog Tryd.f23.results.toList K E))))) #[x0, x1, x2, x3, y4, v5, y6, y7, y8, y9, y10, y11, y12, y13, y14, y15, y16, y17, y18, y19, y20, y21, y22, y23, y24, y25, y26, y27, y28, y29, y30, y31, y32, y33, y34, y35, y36, y37, y38, y39, y40, y41, y42, y43, y44, y45, y46, y47, y48, y49, y50, y51, y52, y53, y54, y55, y56, y57, y58, y59, y60, y61, y62, y63, y64, y65, y66, y67, y68, y69, y70, y71, y72, y73, y74, y75, y76] h := by
  subst e5
  have e : (#[x0, x1, x2, x3, y4, (f5 s0), y6, y7, y8, y9, y10, y11, y12, y13, y14, y15, y16, y17, y18, y19, y20, y21, y22, y23, y24, y25, y26, y27, y28, y29, y30, y31, y32, y33, y34, y35, y36, y37, y38, y39, y40, y41, y42, y43, y44, y45, y46, y47, y48, y49, y50, y51, y52, y53, y54, y55, y56, y57, y58, y59, y60, y61, y62, y63, y64, y65, y66, y67, y68, y69, y70, y71, y72, y73, y74, y75, y76] : Env) = m23_1_0_1_0_0 x0 x1 x2 x3 (f5 s0) (jf #[x0, x1, x2, x3, y4, (f5 s0), y6, y7, y8, y9, y10, y11, y12, y13, y14, y15, y16, y17, y18, y19, y20, y21, y22, y23, y24, y25, y26, y27, y28, y29, y30, y31, y32, y33, y34, y35, y36, y37, y38, y39, y40, y41, y42, y43, y44, y45, y46, y47, y48, y49, y50, y51, y52, y53, y54, y55, y56, y57, y58, y59, y60, y61, y62, y63, y64, y65, y66, y67, y68, y69, y70, y71, y72, y73, y74, y75, y76]) := by kernel_rfl
  rw [e]
  exact loop_r (fun s j => m23_1_0_1_0_0 x0 x1 x2 x3 (f5 s) j) I μ (fun k s j h hI hw next => by rw [t23_1_0_1_0_0]; exact round k s j h hI hw next) s0 (jf #[x0, x1, x2, x3, y4, (f5 s0), y6, y7, y8, y9, y10, y11, y12, y13, y14, y15, y16, y17, y18, y19, y20, y21, y22, y23, y24, y25, y26, y27, y28, y29, y30, y31, y32, y33, y34, y35, y36, y37, y38, y39, y40, y41, y42, y43, y44, y45, y46, y47, y48, y49, y50, y51, y52, y53, y54, y55, y56, y57, y58, y59, y60, y61, y62, y63, y64, y65, y66, y67, y68, y69, y70, y71, y72, y73, y74, y75, y76]) h0
theorem l23_1_0_1_0_0_1_0_0_0_1_0_0 {K : Kont} {E : PanK} {k1 : Env → Hp → Prop} {σ : Type} {x0 x1 x2 x3 x5 x7 x8 x9 x10 x11 x12 x32 x33 x34 x35 x36 x37 x38 x39 x40 x41 x42 x43 x44 x45 x46 x47 x48 x49 x50 x51 x52 x53 x54 x55 x56 x57 x58 x59 x60 x61 x62 x63 x64 x65 x66 x67 x68 x69 x70 x71 x72 x73 x74 x75 x76 v6 y4 y13 y14 y15 y16 y17 y18 y19 y20 y21 y22 y23 y24 y25 y26 y27 y28 y29 y30 y31 : Value} {h : Hp} (f6 : σ → Value) (I : σ → Hp → Prop) (μ : σ → Nat) (s0 : σ) (e6 : v6 = f6 s0) (h0 : h.wf → ∃ h', h.wk h' ∧ I s0 h')
  (round : ∀ (k2 : Env → Hp → Prop) (s : σ) (j : Nat → Value) (h : Hp), I s h → h.wf → (∀ s' j' h', μ s' < μ s → (h'.wf → ∃ h'', h'.wk h'' ∧ I s' h'') → k2 (m23_1_0_1_0_0_1_0_0_0_1_0_0 x0 x1 x2 x3 x5 x7 x8 x9 x10 x11 x12 x32 x33 x34 x35 x36 x37 x38 x39 x40 x41 x42 x43 x44 x45 x46 x47 x48 x49 x50 x51 x52 x53 x54 x55 x56 x57 x58 x59 x60 x61 x62 x63 x64 x65 x66 x67 x68 x69 x70 x71 x72 x73 x74 x75 x76 (f6 s') j') h') → (
  pv (iaV none 5 x0 x5) fun t1 =>
  pv (faV 0 t1) fun t2 =>
  ld false 1 t2 fun t3 =>
  pv (lenV t3) fun t4 =>
  pv (binV .none .lss (f6 s) t4) fun t5 =>
  cnd t5 (
    pv (iaV none 5 x0 x5) fun t6 =>
    pv (faV 0 t6) fun t7 =>
    ld false 1 t7 fun t8 =>
    pv (iaV none 1 t8 (f6 s)) fun t9 =>
    ld false 1 t9 fun t10 =>
    pv (binV .none .lss t10 (.int .i64 0)) fun t11 =>
    cnd t11 (
      K (.bool false)) (
      pv (binV .none .add (f6 s) (.int .i64 1)) fun t12 =>
      k2 (m23_1_0_1_0_0_1_0_0_0_1_0_0 x0 x1 x2 x3 x5 x7 x8 x9 x10 x11 x12 x32 x33 x34 x35 x36 x37 x38 x39 x40 x41 x42 x43 x44 x45 x46 x47 x48 x49 x50 x51 x52 x53 x54 x55 x56 x57 x58 x59 x60 x61 x62 x63 x64 x65 x66 x67 x68 x69 x70 x71 x72 x73 x74 x75 x76 t12 (jf #[x0, x1, x2, x3, (j 4), x5, t12, x7, x8, x9, x10, x11, x12, (f6 s), x0, x5, t1, t2, t3, t4, t5, (f6 s), t12, x0, x5, t6, t7, t8, (f6 s), t9, t10, t11, x32, x33, x34, x35, x36, x37, x38, x39, x40, x41, x42, x43, x44, x45, x46, x47, x48, x49, x50, x51, x52, x53, x54, x55, x56, x57, x58, x59, x60, x61, x62, x63, x64, x65, x66, x67, x68, x69, x70, x71, x72, x73, x74, x75, x76])))) (
    den Tryd.prog (sel (bodyOf Tryd.f23) [1, 0, 1, 0, 0, 1, 0, 0, 1]) (blk 1 (thenD (den Tryd.prog (sel (bodyOf Tryd.f23) [1, 0, 1, 0, 0, 1, 1]) (thenD k1 (blk 0 (thenD (den Tryd.prog (sel (bodyOf Tryd.f23) [1, 1]) (bodyQ Tryd.prog Tryd.f23.results.toList K E)) (bodyQ Tryd.prog Tryd.f23.results.toList K E))))) (thenD k1 (blk 0 (thenD (den Tryd.prog (sel (bodyOf Tryd.f23) [1, 1]) (bodyQ Tryd.prog Tryd.f23.results.toList K E)) (bodyQ Tryd.prog Tryd.f23.results.toList K E)))))) #[x0, x1, x2, x3, (j 4), x5, (f6 s), x7, x8, x9, x10, x11, x12, (f6 s), x0, x5, t1, t2, t3, t4, t5, (j 21), (j 22), (j 23), (j 24), (j 25), (j 26), (j 27), (j 28), (j 29), (j 30), (j 31), x32, x33, x34, x35, x36, x37, x38, x39, x40, x41, x42, x43, x44, x45, x46, x47, x48, x49, x50, x51, x52, x53, x54, x55, x56, x57, x58, x59, x60, x61, x62, x63, x64, x65, x66, x67, x68, x69, x70, x71, x72, x73, x74, x75, x76])) h) :
  lp (fun k2 => den Tryd.prog (sel (bodyOf Tryd.f23) [1, 0, 1, 0, 0, 1, 0, 0, 0, 1, 0, 0]) (thenD k2 (blk 2 (thenD (den Tryd.prog (sel (bodyOf Tryd.f23) [1, 0, 1, 0, 0, 1, 0, 0, 1]) (blk 1 (thenD (den Tryd.prog (sel (bodyOf Tryd.f23) [1, 0, 1, 0, 0, 1, 1]) (thenD k1 (blk 0 (thenD (den Tryd.prog (sel (bodyOf Tryd.f23) [1, 1]) (bodyQ Tryd.prog Tryd.f23.results.toList K E)) (bodyQ Tryd.prog Tryd.f23.results.toList K E))))) (thenD k1 (blk 0 (thenD (den Tryd.prog (sel (bodyOf Tryd.f23) [1, 1]) (bodyQ Tryd.prog Tryd.f23.results.toList K E)) (bodyQ Tryd.prog Tryd.f23.results.toList K E))))))) (blk 1 (thenD (den Tryd.prog (sel (bodyOf Tryd.f23) [1, 0, 1, 0, 0, 1, 1]) (thenD k1 (blk 0 (thenD (den Tryd.prog (sel (bodyOf Tryd.f23) [1, 1]) (bodyQ Tryd.prog Tryd.f23.results.toList K E)) (bodyQ Tryd.prog Tryd.f23.results.toList K E))))) (thenD k1 (blk 0 (thenD (den Tryd.prog (sel (bodyOf Tryd.f23) [1, 1]) (bodyQ Tryd.prog Tryd.f23.results.toList K E)) (bodyQ Tryd.prog Tryd.f23.results.toList K E)))))))))) #[x0, x1, x2, x3, y4, x5, v6, x7, x8, x9, x10, x11, x12, y13, y14, y15, y16, y17, y18, y19, y20, y21, y22, y23, y24, y25, y26, y27, y28, y29, y30, y31, x32, x33, x34, x35, x36, x37, x38, x39, x40, x41, x42, x43, x44, x45, x46, x47, x48, x49, x50, x51, x52, x53, x54, x55, x56, x57, x58, x59, x60, x61, x62, x63, x64, x65, x66, x67, x68, x69, x70, x71, x72, x73, x74, x75, x76] h := by
  subst e6
  have e : (#[x0, x1, x2, x3, y4, x5, (f6 s0), x7, x8, x9, x10, x11, x12, y13, y14, y15, y16, y17, y18, y19, y20, y21, y22, y23, y24, y25, y26, y27, y28, y29, y30, y31, x32, x33, x34, x35, x36, x37, x38, x39, x40, x41, x42, x43, x44, x45, x46, x47, x48, x49, x50, x51, x52, x53, x54, x55, x56, x57, x58, x59, x60, x61, x62, x63, x64, x65, x66, x67, x68, x69, x70, x71, x72, x73, x74, x75, x76] : Env) = m23_1_0_1_0_0_1_0_0_0_1_0_0 x0 x1 x2 x3 x5 x7 x8 x9 x10 x11 x12 x32 x33 x34 x35 x36 x37 x38 x39 x40 x41 x42 x43 x44 x45 x46 x47 x48 x49 x50 x51 x52 x53 x54 x55 x56 x57 x58 x59 x60 x61 x62 x63 x64 x65 x66 x67 x68 x69 x70 x71 x72 x73 x74 x75 x76 (f6 s0) (jf #[x0, x1, x2, x3, y4, x5, (f6 s0), x7, x8, x9, x10, x11, x12, y13, y14, y15, y16, y17, y18, y19, y20, y21, y22, y23, y24, y25, y26, y27, y28, y29, y30, y31, x32, x33, x34, x35, x36, x37, x38, x39, x40, x41, x42, x43, x44, x45, x46, x47, x48, x49, x50, x51, x52, x53, x54, x55, x56, x57, x58, x59, x60, x61, x62, x63, x64, x65, x66, x67, x68, x69, x70, x71, x72, x73, x74, x75, x76]) := by kernel_rfl
  rw [e]
  exact loop_r (fun s j => m23_1_0_1_0_0_1_0_0_0_1_0_0 x0 x1 x2 x3 x5 x7 x8 x9 x10 x11 x12 x32 x33 x34 x35 x36 x37 x38 x39 x40 x41 x42 x43 x44 x45 x46 x47 x48 x49 x50 x51 x52 x53 x54 x55 x56 x57 x58 x59 x60 x61 x62 x63 x64 x65 x66 x67 x68 x69 x70 x71 x72 x73 x74 x75 x76 (f6 s) j) I μ (fun k s j h hI hw next => by rw [t23_1_0_1_0_0_1_0_0_0_1_0_0]; exact round k s j h hI hw next) s0 (jf #[x0, x1, x2, x3, y4, x5, (f6 s0), x7, x8, x9, x10, x11, x12, y13, y14, y15, y16, y17, y18, y19, y20, y21, y22, y23, y24, y25, y26, y27, y28, y29, y30, y31, x32, x33, x34, x35, x36, x37, x38, x39, x40, x41, x42, x43, x44, x45, x46, x47, x48, x49, x50, x51, x52, x53, x54, x55, x56, x57, x58, x59, x60, x61, x62, x63, x64, x65, x66, x67, x68, x69, x70, x71, x72, x73, x74, x75, x76]) h0

theorem t24 (K : Kont) (E : PanK) (x0 x1 : Value)  : den Tryd.prog (sel (bodyOf Tryd.f24) []) (bodyQ Tryd.prog Tryd.f24.results.toList K E) #[x0, x1, undef, undef, undef, undef, undef, undef, undef, undef, undef, undef, undef, undef, undef, undef, undef, undef, undef, undef, undef, undef, undef, undef, undef, undef, undef, undef, undef, undef, undef, undef, undef, undef, undef, undef, undef, undef, undef, undef, undef, undef] =
  pv (lenV x0) fun t1 =>
  pv (lenV x1) fun t2 =>
  pv (binV .none .neq t1 t2) fun t3 =>
  cnd t3 (
    K (.bool false)) (
    lp (fun k1 => den Tryd.prog (sel (bodyOf Tryd.f24) [1, 1, 0, 1, 0, 0]) (thenD k1 (blk 0 (thenD (den Tryd.prog (sel (bodyOf Tryd.f24) [1, 1, 1]) (bodyQ Tryd.prog Tryd.f24.results.toList K E)) (bodyQ Tryd.prog Tryd.f24.results.toList K E))))) #[x0, x1, undef, undef, (.bool false), (.int .i64 0), x0, t1, x1, t2, t3, undef, undef, undef, undef, undef, undef, undef, undef, undef, undef, undef, undef, undef, undef, undef, undef, undef, undef, undef, undef, undef, undef, undef, undef, undef, undef, undef, undef, undef, undef, undef]) := by kernel_rfl
def m24_1_1_0_1_0_0 (x0 x1 x2 x3 x6 x7 x8 x9 x10 : Value) (v5 : Value) (j : Nat → Value) : Env := #[x0, x1, x2, x3, (j 4), v5, x6, x7, x8, x9, x10, (j 11), (j 12), (j 13), (j 14), (j 15), (j 16), (j 17), (j 18), (j 19), (j 20), (j 21), (j 22), (j 23), (j 24), (j 25), (j 26), (j 27), (j 28), (j 29), (j 30), (j 31), (j 32), (j 33), (j 34), (j 35), (j 36), (j 37), (j 38), (j 39), (j 40), (j 41)]
theorem t24_1_1_0_1_0_0 (K : Kont) (E : PanK) (k1 : Env → Hp → Prop) (x0 x1 x2 x3 x6 x7 x8 x9 x10 v5 : Value) (j : Nat → Value) : den Tryd.prog (sel (bodyOf Tryd.f24) [1, 1, 0, 1, 0, 0]) (thenD k1 (blk 0 (thenD (den Tryd.prog (sel (bodyOf Tryd.f24) [1, 1, 1]) (bodyQ Tryd.prog Tryd.f24.results.toList K E)) (bodyQ Tryd.prog Tryd.f24.results.toList K E)))) (m24_1_1_0_1_0_0 x0 x1 x2 x3 x6 x7 x8 x9 x10 v5 j) =
  pv (lenV x0) fun t1 =>
  pv (binV .none .lss v5 t1) fun t2 =>
  cnd t2 (
    pv (iaV none 5 x0 v5) fun t3 =>
    pv (faV 0 t3) fun t4 =>
    ld false 1 t4 fun t5 =>
    pv (iaV none 5 x1 v5) fun t6 =>
    pv (faV 0 t6) fun t7 =>
    ld false 1 t7 fun t8 =>
    callv Tryd.prog (.func (.func 30) #[] #[]) #[t5, t8] (fun t9 =>
    pv (binV .none .neq t9 (.int .i64 0)) fun t10 =>
    gdK t10 false (fun k => k x0) fun t11 =>
    gdK t10 false (fun k => k v5) fun t12 =>
    gdK t10 false (fun k => pv (iaV none 5 t11 t12) k) fun t13 =>
    gdK t10 false (fun k => pv (faV 1 t13) k) fun t14 =>
    gdK t10 false (fun k => ld true 4 t14 k) fun t15 =>
    gdK t10 false (fun k => k x1) fun t16 =>
    gdK t10 false (fun k => k v5) fun t17 =>
    gdK t10 false (fun k => pv (iaV none 5 t16 t17) k) fun t18 =>
    gdK t10 false (fun k => pv (faV 1 t18) k) fun t19 =>
    gdK t10 false (fun k => ld true 4 t19 k) fun t20 =>
    gdK t10 false (fun k => pv (eqCells .neq [0, 0, 0, 0] t15 t20) k) fun t21 =>
    pv (pickV t10 (.bool true) t21) fun t22 =>
    cnd t22 (
      K (.bool false)) (
      pv (binV .none .add v5 (.int .i64 1)) fun t23 =>
      k1 (m24_1_1_0_1_0_0 x0 x1 x2 x3 x6 x7 x8 x9 x10 t23 (jf #[x0, x1, x2, x3, (j 4), t23, x6, x7, x8, x9, x10, v5, x0, t1, t2, v5, t23, x0, v5, t3, t4, t5, x1, v5, t6, t7, t8, t9, t10, t10, t11, t12, t13, t14, t15, t16, t17, t18, t19, t20, t21, t22])))) E) (
    den Tryd.prog (sel (bodyOf Tryd.f24) [1, 1, 1]) (bodyQ Tryd.prog Tryd.f24.results.toList K E) #[x0, x1, x2, x3, (j 4), v5, x6, x7, x8, x9, x10, v5, x0, t1, t2, (j 15), (j 16), (j 17), (j 18), (j 19), (j 20), (j 21), (j 22), (j 23), (j 24), (j 25), (j 26), (j 27), (j 28), (j 29), (j 30), (j 31), (j 32), (j 33), (j 34), (j 35), (j 36), (j 37), (j 38), (j 39), (j 40), (j 41)]) := by kernel_rfl
theorem t24_1_1_1 (K : Kont) (E : PanK) (x0 x1 x2 x3 x4 x5 x6 x7 x8 x9 x10 x11 x12 x13 x14 x15 x16 x17 x18 x19 x20 x21 x22 x23 x24 x25 x26 x27 x28 x29 x30 x31 x32 x33 x34 x35 x36 x37 x38 x39 x40 x41 : Value)  : den Tryd.prog (sel (bodyOf Tryd.f24) [1, 1, 1]) (bodyQ Tryd.prog Tryd.f24.results.toList K E) #[x0, x1, x2, x3, x4, x5, x6, x7, x8, x9, x10, x11, x12, x13, x14, x15, x16, x17, x18, x19, x20, x21, x22, x23, x24, x25, x26, x27, x28, x29, x30, x31, x32, x33, x34, x35, x36, x37, x38, x39, x40, x41] =
  K (.bool true) := by kernel_rfl
theorem l24_1_1_0_1_0_0 {K : Kont} {E : PanK} {σ : Type} {x0 x1 x2 x3 x6 x7 x8 x9 x10 v5 y4 y11 y12 y13 y14 y15 y16 y17 y18 y19 y20 y21 y22 y23 y24 y25 y26 y27 y28 y29 y30 y31 y32 y33 y34 y35 y36 y37 y38 y39 y40 y41 : Value} {h : Hp} (f5 : σ → Value) (I : σ → Hp → Prop) (μ : σ → Nat) (s0 : σ) (e5 : v5 = f5 s0) (h0 : h.wf → ∃ h', h.wk h' ∧ I s0 h')
  (round : ∀ (k1 : Env → Hp → Prop) (s : σ) (j : Nat → Value) (h : Hp), I s h → h.wf → (∀ s' j' h', μ s' < μ s → (h'.wf → ∃ h'', h'.wk h'' ∧ I s' h'') → k1 (m24_1_1_0_1_0_0 x0 x1 x2 x3 x6 x7 x8 x9 x10 (f5 s') j') h') → (
  pv (lenV x0) fun t1 =>
  pv (binV .none .lss (f5 s) t1) fun t2 =>
  cnd t2 (
    pv (iaV none 5 x0 (f5 s)) fun t3 =>
    pv (faV 0 t3) fun t4 =>
    ld false 1 t4 fun t5 =>
    pv (iaV none 5 x1 (f5 s)) fun t6 =>
    pv (faV 0 t6) fun t7 =>
    ld false 1 t7 fun t8 =>
    callv Tryd.prog (.func (.func 30) #[] #[]) #[t5, t8] (fun t9 =>
    pv (binV .none .neq t9 (.int .i64 0)) fun t10 =>
    gdK t10 false (fun k => k x0) fun t11 =>
    gdK t10 false (fun k => k (f5 s)) fun t12 =>
    gdK t10 false (fun k => pv (iaV none 5 t11 t12) k) fun t13 =>
    gdK t10 false (fun k => pv (faV 1 t13) k) fun t14 =>
    gdK t10 false (fun k => ld true 4 t14 k) fun t15 =>
    gdK t10 false (fun k => k x1) fun t16 =>
    gdK t10 false (fun k => k (f5 s)) fun t17 =>
    gdK t10 false (fun k => pv (iaV none 5 t16 t17) k) fun t18 =>
    gdK t10 false (fun k => pv (faV 1 t18) k) fun t19 =>
    gdK t10 false (fun k => ld true 4 t19 k) fun t20 =>
    gdK t10 false (fun k => pv (eqCells .neq [0, 0, 0, 0] t15 t20) k) fun t21 =>
    pv (pickV t10 (.bool true) t21) fun t22 =>
    cnd t22 (
      K (.bool false)) (
      pv (binV .none .add (f5 s) (.int .i64 1)) fun t23 =>
      k1 (m24_1_1_0_1_0_0 x0 x1 x2 x3 x6 x7 x8 x9 x10 t23 (jf #[x0, x1, x2, x3, (j 4), t23, x6, x7, x8, x9, x10, (f5 s), x0, t1, t2, (f5 s), t23, x0, (f5 s), t3, t4, t5, x1, (f5 s), t6, t7, t8, t9, t10, t10, t11, t12, t13, t14, t15, t16, t17, t18, t19, t20, t21, t22])))) E) (
    den Tryd.prog (sel (bodyOf Tryd.f24) [1, 1, 1]) (bodyQ Tryd.prog Tryd.f24.results.toList K E) #[x0, x1, x2, x3, (j 4), (f5 s), x6, x7, x8, x9, x10, (f5 s), x0, t1, t2, (j 15), (j 16), (j 17), (j 18), (j 19), (j 20), (j 21), (j 22), (j 23), (j 24), (j 25), (j 26), (j 27), (j 28), (j 29), (j 30), (j 31), (j 32), (j 33), (j 34), (j 35), (j 36), (j 37), (j 38), (j 39), (j 40), (j 41)])) h) :
  lp (fun k1 => den Tryd.prog (sel (bodyOf Tryd.f24) [1, 1, 0, 1, 0, 0]) (thenD k1 (blk 0 (thenD (den Tryd.prog (sel (bodyOf Tryd.f24) [1, 1, 1]) (bodyQ Tryd.prog Tryd.f24.results.toList K E)) (bodyQ Tryd.prog Tryd.f24.results.toList K E))))) #[x0, x1, x2, x3, y4, v5, x6, x7, x8, x9, x10, y11, y12, y13, y14, y15, y16, y17, y18, y19, y20, y21, y22, y23, y24, y25, y26, y27, y28, y29, y30, y31, y32, y33, y34, y35, y36, y37, y38, y39, y40, y41] h := by
  subst e5
  have e : (#[x0, x1, x2, x3, y4, (f5 s0), x6, x7, x8, x9, x10, y11, y12, y13, y14, y15, y16, y17, y18, y19, y20, y21, y22, y23, y24, y25, y26, y27, y28, y29, y30, y31, y32, y33, y34, y35, y36, y37, y38, y39, y40, y41] : Env) = m24_1_1_0_1_0_0 x0 x1 x2 x3 x6 x7 x8 x9 x10 (f5 s0) (jf #[x0, x1, x2, x3, y4, (f5 s0), x6, x7, x8, x9, x10, y11, y12, y13, y14, y15, y16, y17, y18, y19, y20, y21, y22, y23, y24, y25, y26, y27, y28, y29, y30, y31, y32, y33, y34, y35, y36, y37, y38, y39, y40, y41]) := by kernel_rfl
  rw [e]
  exact loop_r (fun s j => m24_1_1_0_1_0_0 x0 x1 x2 x3 x6 x7 x8 x9 x10 (f5 s) j) I μ (fun k s j h hI hw next => by rw [t24_1_1_0_1_0_0]; exact round k s j h hI hw next) s0 (jf #[x0, x1, x2, x3, y4, (f5 s0), x6, x7, x8, x9, x10, y11, y12, y13, y14, y15, y16, y17, y18, y19, y20, y21, y22, y23, y24, y25, y26, y27, y28, y29, y30, y31, y32, y33, y34, y35, y36, y37, y38, y39, y40, y41]) h0

theorem t25 (K : Kont) (E : PanK) (x0 : Value)  : den Tryd.prog (sel (bodyOf Tryd.f25) []) (bodyQ Tryd.prog Tryd.f25.results.toList K E) #[x0, undef, undef, undef, undef, undef, undef, undef, undef, undef, undef, undef, undef, undef, undef, undef, undef, undef, undef, undef, undef, undef, undef, undef, undef, undef] =
  lp (fun k1 => den Tryd.prog (sel (bodyOf Tryd.f25) [1, 1, 0, 1, 0, 0]) (thenD k1 (blk 0 (thenD (den Tryd.prog (sel (bodyOf Tryd.f25) [1, 1, 1]) (bodyQ Tryd.prog Tryd.f25.results.toList K E)) (bodyQ Tryd.prog Tryd.f25.results.toList K E))))) #[x0, undef, (.slice none 0 0), (.slice none 0 0), (.int .i64 0), undef, undef, undef, undef, undef, undef, undef, undef, undef, undef, undef, undef, undef, undef, undef, undef, undef, undef, undef, undef, undef] := by kernel_rfl
def m25_1_1_0_1_0_0 (x0 x1 x2 x25 : Value) (v3 v4 : Value) (j : Nat → Value) : Env := #[x0, x1, x2, v3, v4, (j 5), (j 6), (j 7), (j 8), (j 9), (j 10), (j 11), (j 12), (j 13), (j 14), (j 15), (j 16), (j 17), (j 18), (j 19), (j 20), (j 21), (j 22), (j 23), (j 24), x25]
theorem t25_1_1_0_1_0_0 (K : Kont) (E : PanK) (k1 : Env → Hp → Prop) (x0 x1 x2 x25 v3 v4 : Value) (j : Nat → Value) : den Tryd.prog (sel (bodyOf Tryd.f25) [1, 1, 0, 1, 0, 0]) (thenD k1 (blk 0 (thenD (den Tryd.prog (sel (bodyOf Tryd.f25) [1, 1, 1]) (bodyQ Tryd.prog Tryd.f25.results.toList K E)) (bodyQ Tryd.prog Tryd.f25.results.toList K E)))) (m25_1_1_0_1_0_0 x0 x1 x2 x25 v3 v4 j) =
  pv (lenV x0) fun t1 =>
  pv (binV .none .lss v4 t1) fun t2 =>
  cnd t2 (
    pv (iaV none 2 x0 v4) fun t3 =>
    pv (faV 0 t3) fun t4 =>
    ld false 1 t4 fun t5 =>
    pv (iaV none 2 x0 v4) fun t6 =>
    pv (faV 1 t6) fun t7 =>
    ld false 1 t7 fun t8 =>
    callv Tryd.prog (.func (.func 52) #[] #[]) #[t8] (fun t9 h10 => (ldV h10 false 1 t4 t5) ∧ (
      pv (bdC #[(.slice none 0 0), (.int .i64 0), (.int .i64 0), (.int .i64 0), (.int .i64 0)] [(0, 1), (1, 4)] #[(0, t5), (1, t9)]) fun t11 =>
      callv Tryd.prog (.func (.func 51) #[] #[]) #[v3, t11] (fun t12 =>
      pv (binV .none .add v4 (.int .i64 1)) fun t13 =>
      k1 (m25_1_1_0_1_0_0 x0 x1 x2 x25 t12 t13 (jf #[x0, x1, x2, t12, t13, v4, x0, t1, t2, v4, t13, v3, x0, v4, t3, t4, t5, x0, v4, t6, t7, t8, t9, t11, t12, x25]))) E) h10) E) (
    den Tryd.prog (sel (bodyOf Tryd.f25) [1, 1, 1]) (bodyQ Tryd.prog Tryd.f25.results.toList K E) #[x0, x1, x2, v3, v4, v4, x0, t1, t2, (j 9), (j 10), (j 11), (j 12), (j 13), (j 14), (j 15), (j 16), (j 17), (j 18), (j 19), (j 20), (j 21), (j 22), (j 23), (j 24), x25]) := by kernel_rfl
theorem t25_1_1_1 (K : Kont) (E : PanK) (x0 x1 x2 x3 x4 x5 x6 x7 x8 x9 x10 x11 x12 x13 x14 x15 x16 x17 x18 x19 x20 x21 x22 x23 x24 x25 : Value)  : den Tryd.prog (sel (bodyOf Tryd.f25) [1, 1, 1]) (bodyQ Tryd.prog Tryd.f25.results.toList K E) #[x0, x1, x2, x3, x4, x5, x6, x7, x8, x9, x10, x11, x12, x13, x14, x15, x16, x17, x18, x19, x20, x21, x22, x23, x24, x25] =
  K x3 := by kernel_rfl
theorem l25_1_1_0_1_0_0 {K : Kont} {E : PanK} {σ : Type} {x0 x1 x2 x25 v3 v4 y5 y6 y7 y8 y9 y10 y11 y12 y13 y14 y15 y16 y17 y18 y19 y20 y21 y22 y23 y24 : Value} {h : Hp} (f3 f4 : σ → Value) (I : σ → Hp → Prop) (μ : σ → Nat) (s0 : σ) (e3 : v3 = f3 s0) (e4 : v4 = f4 s0) (h0 : h.wf → ∃ h', h.wk h' ∧ I s0 h')
  (round : ∀ (k1 : Env → Hp → Prop) (s : σ) (j : Nat → Value) (h : Hp), I s h → h.wf → (∀ s' j' h', μ s' < μ s → (h'.wf → ∃ h'', h'.wk h'' ∧ I s' h'') → k1 (m25_1_1_0_1_0_0 x0 x1 x2 x25 (f3 s') (f4 s') j') h') → (
  pv (lenV x0) fun t1 =>
  pv (binV .none .lss (f4 s) t1) fun t2 =>
  cnd t2 (
    pv (iaV none 2 x0 (f4 s)) fun t3 =>
    pv (faV 0 t3) fun t4 =>
    ld false 1 t4 fun t5 =>
    pv (iaV none 2 x0 (f4 s)) fun t6 =>
    pv (faV 1 t6) fun t7 =>
    ld false 1 t7 fun t8 =>
    callv Tryd.prog (.func (.func 52) #[] #[]) #[t8] (fun t9 h10 => (ldV h10 false 1 t4 t5) ∧ (
      pv (bdC #[(.slice none 0 0), (.int .i64 0), (.int .i64 0), (.int .i64 0), (.int .i64 0)] [(0, 1), (1, 4)] #[(0, t5), (1, t9)]) fun t11 =>
      callv Tryd.prog (.func (.func 51) #[] #[]) #[(f3 s), t11] (fun t12 =>
      pv (binV .none .add (f4 s) (.int .i64 1)) fun t13 =>
      k1 (m25_1_1_0_1_0_0 x0 x1 x2 x25 t12 t13 (jf #[x0, x1, x2, t12, t13, (f4 s), x0, t1, t2, (f4 s), t13, (f3 s), x0, (f4 s), t3, t4, t5, x0, (f4 s), t6, t7, t8, t9, t11, t12, x25]))) E) h10) E) (
    den Tryd.prog (sel (bodyOf Tryd.f25) [1, 1, 1]) (bodyQ Tryd.prog Tryd.f25.results.toList K E) #[x0, x1, x2, (f3 s), (f4 s), (f4 s), x0, t1, t2, (j 9), (j 10), (j 11), (j 12), (j 13), (j 14), (j 15), (j 16), (j 17), (j 18), (j 19), (j 20), (j 21), (j 22), (j 23), (j 24), x25])) h) :
  lp (fun k1 => den Tryd.prog (sel (bodyOf Tryd.f25) [1, 1, 0, 1, 0, 0]) (thenD k1 (blk 0 (thenD (den Tryd.prog (sel (bodyOf Tryd.f25) [1, 1, 1]) (bodyQ Tryd.prog Tryd.f25.results.toList K E)) (bodyQ Tryd.prog Tryd.f25.results.toList K E))))) #[x0, x1, x2, v3, v4, y5, y6, y7, y8, y9, y10, y11, y12, y13, y14, y15, y16, y17, y18, y19, y20, y21, y22, y23, y24, x25] h := by
  subst e3
  subst e4
  have e : (#[x0, x1, x2, (f3 s0), (f4 s0), y5, y6, y7, y8, y9, y10, y11, y12, y13, y14, y15, y16, y17, y18, y19, y20, y21, y22, y23, y24, x25] : Env) = m25_1_1_0_1_0_0 x0 x1 x2 x25 (f3 s0) (f4 s0) (jf #[x0, x1, x2, (f3 s0), (f4 s0), y5, y6, y7, y8, y9, y10, y11, y12, y13, y14, y15, y16, y17, y18, y19, y20, y21, y22, y23, y24, x25]) := by kernel_rfl
  rw [e]
  exact loop_r (fun s j => m25_1_1_0_1_0_0 x0 x1 x2 x25 (f3 s) (f4 s) j) I μ (fun k s j h hI hw next => by rw [t25_1_1_0_1_0_0]; exact round k s j h hI hw next) s0 (jf #[x0, x1, x2, (f3 s0), (f4 s0), y5, y6, y7, y8, y9, y10, y11, y12, y13, y14, y15, y16, y17, y18, y19, y20, y21, y22, y23, y24, x25]) h0

theorem t26 (K : Kont) (E : PanK) (x0 : Value)  : den Tryd.prog (sel (bodyOf Tryd.f26) []) (bodyQ Tryd.prog Tryd.f26.results.toList K E) #[x0, undef, undef, undef, undef, undef, undef, undef, undef, undef, undef, undef, undef, undef, undef, undef, undef, undef, undef, undef] =
  nw 41 [(.int .i64 0), (.int .i64 0), (.int .i64 0), (.int .i64 0)] fun t1 =>
  pv (bdC #[(.int .i64 0), (.int .i64 0), (.int .i64 0), (.int .i64 0)] [(0, 1), (1, 1), (2, 1), (3, 1)] #[]) fun t2 =>
  nw 41 [(.int .i64 0), (.int .i64 0), (.int .i64 0), (.int .i64 0)] fun t3 =>
  st 4 t3 t2 fun _ =>
  lp (fun k1 => den Tryd.prog (sel (bodyOf Tryd.f26) [1, 1, 0, 1, 0, 0]) (thenD k1 (blk 0 (thenD (den Tryd.prog (sel (bodyOf Tryd.f26) [1, 1, 1]) (bodyQ Tryd.prog Tryd.f26.results.toList K E)) (bodyQ Tryd.prog Tryd.f26.results.toList K E))))) #[x0, undef, t1, t3, (.int .i64 0), t2, undef, undef, undef, undef, undef, undef, undef, undef, undef, undef, undef, undef, undef, undef] := by kernel_rfl
def m26_1_1_0_1_0_0 (x0 x1 x2 x3 x5 x19 : Value) (v4 : Value) (j : Nat → Value) : Env := #[x0, x1, x2, x3, v4, x5, (j 6), (j 7), (j 8), (j 9), (j 10), (j 11), (j 12), (j 13), (j 14), (j 15), (j 16), (j 17), (j 18), x19]
theorem t26_1_1_0_1_0_0 (K : Kont) (E : PanK) (k1 : Env → Hp → Prop) (x0 x1 x2 x3 x5 x19 v4 : Value) (j : Nat → Value) : den Tryd.prog (sel (bodyOf Tryd.f26) [1, 1, 0, 1, 0, 0]) (thenD k1 (blk 0 (thenD (den Tryd.prog (sel (bodyOf Tryd.f26) [1, 1, 1]) (bodyQ Tryd.prog Tryd.f26.results.toList K E)) (bodyQ Tryd.prog Tryd.f26.results.toList K E)))) (m26_1_1_0_1_0_0 x0 x1 x2 x3 x5 x19 v4 j) =
  pv (lenV x0) fun t1 =>
  pv (binV .none .lss v4 t1) fun t2 =>
  cnd t2 (
    ld true 4 x3 fun t3 =>
    pv (iaV none 1 x0 v4) fun t4 =>
    ld false 1 t4 fun t5 =>
    callv Tryd.prog (.func (.func 52) #[] #[]) #[t5] (fun t6 h7 => (ldV h7 true 4 x3 t3) ∧ (
      callv Tryd.prog (.func (.func 53) #[] #[]) #[t3, t6] (fun t8 =>
      st 4 x3 t8 fun _ =>
      pv (binV .none .add v4 (.int .i64 1)) fun t9 =>
      k1 (m26_1_1_0_1_0_0 x0 x1 x2 x3 x5 x19 t9 (jf #[x0, x1, x2, x3, t9, x5, v4, x0, t1, t2, v4, t9, t3, x0, v4, t4, t5, t6, t8, x19]))) E) h7) E) (
    den Tryd.prog (sel (bodyOf Tryd.f26) [1, 1, 1]) (bodyQ Tryd.prog Tryd.f26.results.toList K E) #[x0, x1, x2, x3, v4, x5, v4, x0, t1, t2, (j 10), (j 11), (j 12), (j 13), (j 14), (j 15), (j 16), (j 17), (j 18), x19]) := by kernel_rfl
theorem t26_1_1_1 (K : Kont) (E : PanK) (x0 x1 x2 x3 x4 x5 x6 x7 x8 x9 x10 x11 x12 x13 x14 x15 x16 x17 x18 x19 : Value)  : den Tryd.prog (sel (bodyOf Tryd.f26) [1, 1, 1]) (bodyQ Tryd.prog Tryd.f26.results.toList K E) #[x0, x1, x2, x3, x4, x5, x6, x7, x8, x9, x10, x11, x12, x13, x14, x15, x16, x17, x18, x19] =
  ld true 4 x3 fun t1 =>
  st 4 x2 t1 fun _ =>
  ld true 4 x2 fun t2 =>
  K t2 := by kernel_rfl
theorem l26_1_1_0_1_0_0 {K : Kont} {E : PanK} {σ : Type} {x0 x1 x2 x3 x5 x19 v4 y6 y7 y8 y9 y10 y11 y12 y13 y14 y15 y16 y17 y18 : Value} {h : Hp} (f4 : σ → Value) (I : σ → Hp → Prop) (μ : σ → Nat) (s0 : σ) (e4 : v4 = f4 s0) (h0 : h.wf → ∃ h', h.wk h' ∧ I s0 h')
  (round : ∀ (k1 : Env → Hp → Prop) (s : σ) (j : Nat → Value) (h : Hp), I s h → h.wf → (∀ s' j' h', μ s' < μ s → (h'.wf → ∃ h'', h'.wk h'' ∧ I s' h'') → k1 (m26_1_1_0_1_0_0 x0 x1 x2 x3 x5 x19 (f4 s') j') h') → (
  pv (lenV x0) fun t1 =>
  pv (binV .none .lss (f4 s) t1) fun t2 =>
  cnd t2 (
    ld true 4 x3 fun t3 =>
    pv (iaV none 1 x0 (f4 s)) fun t4 =>
    ld false 1 t4 fun t5 =>
    callv Tryd.prog (.func (.func 52) #[] #[]) #[t5] (fun t6 h7 => (ldV h7 true 4 x3 t3) ∧ (
      callv Tryd.prog (.func (.func 53) #[] #[]) #[t3, t6] (fun t8 =>
      st 4 x3 t8 fun _ =>
      pv (binV .none .add (f4 s) (.int .i64 1)) fun t9 =>
      k1 (m26_1_1_0_1_0_0 x0 x1 x2 x3 x5 x19 t9 (jf #[x0, x1, x2, x3, t9, x5, (f4 s), x0, t1, t2, (f4 s), t9, t3, x0, (f4 s), t4, t5, t6, t8, x19]))) E) h7) E) (
    den Tryd.prog (sel (bodyOf Tryd.f26) [1, 1, 1]) (bodyQ Tryd.prog Tryd.f26.results.toList K E) #[x0, x1, x2, x3, (f4 s), x5, (f4 s), x0, t1, t2, (j 10), (j 11), (j 12), (j 13), (j 14), (j 15), (j 16), (j 17), (j 18), x19])) h) :
  lp (fun k1 => den Tryd.prog (sel (bodyOf Tryd.f26) [1, 1, 0, 1, 0, 0]) (thenD k1 (blk 0 (thenD (den Tryd.prog (sel (bodyOf Tryd.f26) [1, 1, 1]) (bodyQ Tryd.prog Tryd.f26.results.toList K E)) (bodyQ Tryd.prog Tryd.f26.results.toList K E))))) #[x0, x1, x2, x3, v4, x5, y6, y7, y8, y9, y10, y11, y12, y13, y14, y15, y16, y17, y18, x19] h := by
  subst e4
  have e : (#[x0, x1, x2, x3, (f4 s0), x5, y6, y7, y8, y9, y10, y11, y12, y13, y14, y15, y16, y17, y18, x19] : Env) = m26_1_1_0_1_0_0 x0 x1 x2 x3 x5 x19 (f4 s0) (jf #[x0, x1, x2, x3, (f4 s0), x5, y6, y7, y8, y9, y10, y11, y12, y13, y14, y15, y16, y17, y18, x19]) := by kernel_rfl
  rw [e]
  exact loop_r (fun s j => m26_1_1_0_1_0_0 x0 x1 x2 x3 x5 x19 (f4 s) j) I μ (fun k s j h hI hw next => by rw [t26_1_1_0_1_0_0]; exact round k s j h hI hw next) s0 (jf #[x0, x1, x2, x3, (f4 s0), x5, y6, y7, y8, y9, y10, y11, y12, y13, y14, y15, y16, y17, y18, x19]) h0

theorem t28 (K : Kont) (E : PanK) (x0 x1 : Value)  : den Tryd.prog (sel (bodyOf Tryd.f28) []) (bodyQ Tryd.prog Tryd.f28.results.toList K E) #[x0, x1, undef, undef, undef, undef, undef, undef, undef, undef, undef, undef, undef, undef, undef, undef, undef, undef, undef, undef, undef, undef, undef, undef, undef, undef, undef, undef, undef, undef, undef, undef, undef] =
  lp (fun k1 => den Tryd.prog (sel (bodyOf Tryd.f28) [1, 1, 0, 1, 0, 0]) (thenD k1 (blk 0 (thenD (den Tryd.prog (sel (bodyOf Tryd.f28) [1, 1, 1]) (bodyQ Tryd.prog Tryd.f28.results.toList K E)) (bodyQ Tryd.prog Tryd.f28.results.toList K E))))) #[x0, x1, undef, undef, (.slice none 0 0), (.slice none 0 0), (.int .i64 0), undef, undef, undef, undef, undef, undef, undef, undef, undef, undef, undef, undef, undef, undef, undef, undef, undef, undef, undef, undef, undef, undef, undef, undef, undef, undef] := by kernel_rfl
def m28_1_1_0_1_0_0 (x0 x1 x2 x3 x4 x7 x20 x21 x22 x23 x24 x25 x26 x27 x28 x29 x30 x31 x32 : Value) (v5 v6 : Value) (j : Nat → Value) : Env := #[x0, x1, x2, x3, x4, v5, v6, x7, (j 8), (j 9), (j 10), (j 11), (j 12), (j 13), (j 14), (j 15), (j 16), (j 17), (j 18), (j 19), x20, x21, x22, x23, x24, x25, x26, x27, x28, x29, x30, x31, x32]
theorem t28_1_1_0_1_0_0 (K : Kont) (E : PanK) (k1 : Env → Hp → Prop) (x0 x1 x2 x3 x4 x7 x20 x21 x22 x23 x24 x25 x26 x27 x28 x29 x30 x31 x32 v5 v6 : Value) (j : Nat → Value) : den Tryd.prog (sel (bodyOf Tryd.f28) [1, 1, 0, 1, 0, 0]) (thenD k1 (blk 0 (thenD (den Tryd.prog (sel (bodyOf Tryd.f28) [1, 1, 1]) (bodyQ Tryd.prog Tryd.f28.results.toList K E)) (bodyQ Tryd.prog Tryd.f28.results.toList K E)))) (m28_1_1_0_1_0_0 x0 x1 x2 x3 x4 x7 x20 x21 x22 x23 x24 x25 x26 x27 x28 x29 x30 x31 x32 v5 v6 j) =
  pv (lenV x0) fun t1 =>
  pv (binV .none .lss v6 t1) fun t2 =>
  cnd t2 (
    pv (iaV none 5 x0 v6) fun t3 =>
    ld true 5 t3 fun t4 =>
    callv Tryd.prog (.func (.func 51) #[] #[]) #[v5, t4] (fun t5 =>
    pv (binV .none .add v6 (.int .i64 1)) fun t6 =>
    k1 (m28_1_1_0_1_0_0 x0 x1 x2 x3 x4 x7 x20 x21 x22 x23 x24 x25 x26 x27 x28 x29 x30 x31 x32 t5 t6 (jf #[x0, x1, x2, x3, x4, t5, t6, x7, v6, x0, t1, t2, v6, t6, v5, x0, v6, t3, t4, t5, x20, x21, x22, x23, x24, x25, x26, x27, x28, x29, x30, x31, x32]))) E) (
    den Tryd.prog (sel (bodyOf Tryd.f28) [1, 1, 1]) (bodyQ Tryd.prog Tryd.f28.results.toList K E) #[x0, x1, x2, x3, x4, v5, v6, x7, v6, x0, t1, t2, (j 12), (j 13), (j 14), (j 15), (j 16), (j 17), (j 18), (j 19), x20, x21, x22, x23, x24, x25, x26, x27, x28, x29, x30, x31, x32]) := by kernel_rfl
theorem t28_1_1_1 (K : Kont) (E : PanK) (x0 x1 x2 x3 x4 x5 x6 x7 x8 x9 x10 x11 x12 x13 x14 x15 x16 x17 x18 x19 x20 x21 x22 x23 x24 x25 x26 x27 x28 x29 x30 x31 x32 : Value)  : den Tryd.prog (sel (bodyOf Tryd.f28) [1, 1, 1]) (bodyQ Tryd.prog Tryd.f28.results.toList K E) #[x0, x1, x2, x3, x4, x5, x6, x7, x8, x9, x10, x11, x12, x13, x14, x15, x16, x17, x18, x19, x20, x21, x22, x23, x24, x25, x26, x27, x28, x29, x30, x31, x32] =
  lp (fun k1 => den Tryd.prog (sel (bodyOf Tryd.f28) [1, 1, 1, 0, 1, 0, 0]) (thenD k1 (blk 2 (thenD (den Tryd.prog (sel (bodyOf Tryd.f28) [1, 1, 1, 1]) (bodyQ Tryd.prog Tryd.f28.results.toList K E)) (bodyQ Tryd.prog Tryd.f28.results.toList K E))))) #[x0, x1, x2, x3, x4, x5, x6, (.int .i64 0), x8, x9, x10, x11, x12, x13, x14, x15, x16, x17, x18, x19, x20, x21, x22, x23, x24, x25, x26, x27, x28, x29, x30, x31, x32] := by kernel_rfl
def m28_1_1_1_0_1_0_0 (x0 x1 x2 x3 x4 x6 x8 x9 x10 x11 x12 x13 x14 x15 x16 x17 x18 x19 x32 : Value) (v5 v7 : Value) (j : Nat → Value) : Env := #[x0, x1, x2, x3, x4, v5, x6, v7, x8, x9, x10, x11, x12, x13, x14, x15, x16, x17, x18, x19, (j 20), (j 21), (j 22), (j 23), (j 24), (j 25), (j 26), (j 27), (j 28), (j 29), (j 30), (j 31), x32]
theorem t28_1_1_1_0_1_0_0 (K : Kont) (E : PanK) (k1 : Env → Hp → Prop) (x0 x1 x2 x3 x4 x6 x8 x9 x10 x11 x12 x13 x14 x15 x16 x17 x18 x19 x32 v5 v7 : Value) (j : Nat → Value) : den Tryd.prog (sel (bodyOf Tryd.f28) [1, 1, 1, 0, 1, 0, 0]) (thenD k1 (blk 2 (thenD (den Tryd.prog (sel (bodyOf Tryd.f28) [1, 1, 1, 1]) (bodyQ Tryd.prog Tryd.f28.results.toList K E)) (bodyQ Tryd.prog Tryd.f28.results.toList K E)))) (m28_1_1_1_0_1_0_0 x0 x1 x2 x3 x4 x6 x8 x9 x10 x11 x12 x13 x14 x15 x16 x17 x18 x19 x32 v5 v7 j) =
  pv (lenV x1) fun t1 =>
  pv (binV .none .lss v7 t1) fun t2 =>
  cnd t2 (
    pv (iaV none 5 x1 v7) fun t3 =>
    ld true 5 t3 fun t4 =>
    callv Tryd.prog (.func (.func 51) #[] #[]) #[v5, t4] (fun t5 =>
    pv (binV .none .add v7 (.int .i64 1)) fun t6 =>
    k1 (m28_1_1_1_0_1_0_0 x0 x1 x2 x3 x4 x6 x8 x9 x10 x11 x12 x13 x14 x15 x16 x17 x18 x19 x32 t5 t6 (jf #[x0, x1, x2, x3, x4, t5, x6, t6, x8, x9, x10, x11, x12, x13, x14, x15, x16, x17, x18, x19, v7, x1, t1, t2, v7, t6, v5, x1, v7, t3, t4, t5, x32]))) E) (
    den Tryd.prog (sel (bodyOf Tryd.f28) [1, 1, 1, 1]) (bodyQ Tryd.prog Tryd.f28.results.toList K E) #[x0, x1, x2, x3, x4, v5, x6, v7, x8, x9, x10, x11, x12, x13, x14, x15, x16, x17, x18, x19, v7, x1, t1, t2, (j 24), (j 25), (j 26), (j 27), (j 28), (j 29), (j 30), (j 31), x32]) := by kernel_rfl
theorem t28_1_1_1_1 (K : Kont) (E : PanK) (x0 x1 x2 x3 x4 x5 x6 x7 x8 x9 x10 x11 x12 x13 x14 x15 x16 x17 x18 x19 x20 x21 x22 x23 x24 x25 x26 x27 x28 x29 x30 x31 x32 : Value)  : den Tryd.prog (sel (bodyOf Tryd.f28) [1, 1, 1, 1]) (bodyQ Tryd.prog Tryd.f28.results.toList K E) #[x0, x1, x2, x3, x4, x5, x6, x7, x8, x9, x10, x11, x12, x13, x14, x15, x16, x17, x18, x19, x20, x21, x22, x23, x24, x25, x26, x27, x28, x29, x30, x31, x32] =
  K x5 := by kernel_rfl
theorem l28_1_1_0_1_0_0 {K : Kont} {E : PanK} {σ : Type} {x0 x1 x2 x3 x4 x7 x20 x21 x22 x23 x24 x25 x26 x27 x28 x29 x30 x31 x32 v5 v6 y8 y9 y10 y11 y12 y13 y14 y15 y16 y17 y18 y19 : Value} {h : Hp} (f5 f6 : σ → Value) (I : σ → Hp → Prop) (μ : σ → Nat) (s0 : σ) (e5 : v5 = f5 s0) (e6 : v6 = f6 s0) (h0 : h.wf → ∃ h', h.wk h' ∧ I s0 h')
  (round : ∀ (k1 : Env → Hp → Prop) (s : σ) (j : Nat → Value) (h : Hp), I s h → h.wf → (∀ s' j' h', μ s' < μ s → (h'.wf → ∃ h'', h'.wk h'' ∧ I s' h'') → k1 (m28_1_1_0_1_0_0 x0 x1 x2 x3 x4 x7 x20 x21 x22 x23 x24 x25 x26 x27 x28 x29 x30 x31 x32 (f5 s') (f6 s') j') h') → (
  pv (lenV x0) fun t1 =>
  pv (binV .none .lss (f6 s) t1) fun t2 =>
  cnd t2 (
    pv (iaV none 5 x0 (f6 s)) fun t3 =>
    ld true 5 t3 fun t4 =>
    callv Tryd.prog (.func (.func 51) #[] #[]) #[(f5 s), t4] (fun t5 =>
    pv (binV .none .add (f6 s) (.int .i64 1)) fun t6 =>
    k1 (m28_1_1_0_1_0_0 x0 x1 x2 x3 x4 x7 x20 x21 x22 x23 x24 x25 x26 x27 x28 x29 x30 x31 x32 t5 t6 (jf #[x0, x1, x2, x3, x4, t5, t6, x7, (f6 s), x0, t1, t2, (f6 s), t6, (f5 s), x0, (f6 s), t3, t4, t5, x20, x21, x22, x23, x24, x25, x26, x27, x28, x29, x30, x31, x32]))) E) (
    den Tryd.prog (sel (bodyOf Tryd.f28) [1, 1, 1]) (bodyQ Tryd.prog Tryd.f28.results.toList K E) #[x0, x1, x2, x3, x4, (f5 s), (f6 s), x7, (f6 s), x0, t1, t2, (j 12), (j 13), (j 14), (j 15), (j 16), (j 17), (j 18), (j 19), x20, x21, x22, x23, x24, x25, x26, x27, x28, x29, x30, x31, x32])) h) :
  lp (fun k1 => den Tryd.prog (sel (bodyOf Tryd.f28) [1, 1, 0, 1, 0, 0]) (thenD k1 (blk 0 (thenD (den Tryd.prog (sel (bodyOf Tryd.f28) [1, 1, 1]) (bodyQ Tryd.prog Tryd.f28.results.toList K E)) (bodyQ Tryd.prog Tryd.f28.results.toList K E))))) #[x0, x1, x2, x3, x4, v5, v6, x7, y8, y9, y10, y11, y12, y13, y14, y15, y16, y17, y18, y19, x20, x21, x22, x23, x24, x25, x26, x27, x28, x29, x30, x31, x32] h := by
  subst e5
  subst e6
  have e : (#[x0, x1, x2, x3, x4, (f5 s0), (f6 s0), x7, y8, y9, y10, y11, y12, y13, y14, y15, y16, y17, y18, y19, x20, x21, x22, x23, x24, x25, x26, x27, x28, x29, x30, x31, x32] : Env) = m28_1_1_0_1_0_0 x0 x1 x2 x3 x4 x7 x20 x21 x22 x23 x24 x25 x26 x27 x28 x29 x30 x31 x32 (f5 s0) (f6 s0) (jf #[x0, x1, x2, x3, x4, (f5 s0), (f6 s0), x7, y8, y9, y10, y11, y12, y13, y14, y15, y16, y17, y18, y19, x20, x21, x22, x23, x24, x25, x26, x27, x28, x29, x30, x31, x32]) := by kernel_rfl
  rw [e]
  exact loop_r (fun s j => m28_1_1_0_1_0_0 x0 x1 x2 x3 x4 x7 x20 x21 x22 x23 x24 x25 x26 x27 x28 x29 x30 x31 x32 (f5 s) (f6 s) j) I μ (fun k s j h hI hw next => by rw [t28_1_1_0_1_0_0]; exact round k s j h hI hw next) s0 (jf #[x0, x1, x2, x3, x4, (f5 s0), (f6 s0), x7, y8, y9, y10, y11, y12, y13, y14, y15, y16, y17, y18, y19, x20, x21, x22, x23, x24, x25, x26, x27, x28, x29, x30, x31, x32]) h0
theorem l28_1_1_1_0_1_0_0 {K : Kont} {E : PanK} {σ : Type} {x0 x1 x2 x3 x4 x6 x8 x9 x10 x11 x12 x13 x14 x15 x16 x17 x18 x19 x32 v5 v7 y20 y21 y22 y23 y24 y25 y26 y27 y28 y29 y30 y31 : Value} {h : Hp} (f5 f7 : σ → Value) (I : σ → Hp → Prop) (μ : σ → Nat) (s0 : σ) (e5 : v5 = f5 s0) (e7 : v7 = f7 s0) (h0 : h.wf → ∃ h', h.wk h' ∧ I s0 h')
  (round : ∀ (k1 : Env → Hp → Prop) (s : σ) (j : Nat → Value) (h : Hp), I s h → h.wf → (∀ s' j' h', μ s' < μ s → (h'.wf → ∃ h'', h'.wk h'' ∧ I s' h'') → k1 (m28_1_1_1_0_1_0_0 x0 x1 x2 x3 x4 x6 x8 x9 x10 x11 x12 x13 x14 x15 x16 x17 x18 x19 x32 (f5 s') (f7 s') j') h') → (
  pv (lenV x1) fun t1 =>
  pv (binV .none .lss (f7 s) t1) fun t2 =>
  cnd t2 (
    pv (iaV none 5 x1 (f7 s)) fun t3 =>
    ld true 5 t3 fun t4 =>
    callv Tryd.prog (.func (.func 51) #[] #[]) #[(f5 s), t4] (fun t5 =>
    pv (binV .none .add (f7 s) (.int .i64 1)) fun t6 =>
    k1 (m28_1_1_1_0_1_0_0 x0 x1 x2 x3 x4 x6 x8 x9 x10 x11 x12 x13 x14 x15 x16 x17 x18 x19 x32 t5 t6 (jf #[x0, x1, x2, x3, x4, t5, x6, t6, x8, x9, x10, x11, x12, x13, x14, x15, x16, x17, x18, x19, (f7 s), x1, t1, t2, (f7 s), t6, (f5 s), x1, (f7 s), t3, t4, t5, x32]))) E) (
    den Tryd.prog (sel (bodyOf Tryd.f28) [1, 1, 1, 1]) (bodyQ Tryd.prog Tryd.f28.results.toList K E) #[x0, x1, x2, x3, x4, (f5 s), x6, (f7 s), x8, x9, x10, x11, x12, x13, x14, x15, x16, x17, x18, x19, (f7 s), x1, t1, t2, (j 24), (j 25), (j 26), (j 27), (j 28), (j 29), (j 30), (j 31), x32])) h) :
  lp (fun k1 => den Tryd.prog (sel (bodyOf Tryd.f28) [1, 1, 1, 0, 1, 0, 0]) (thenD k1 (blk 2 (thenD (den Tryd.prog (sel (bodyOf Tryd.f28) [1, 1, 1, 1]) (bodyQ Tryd.prog Tryd.f28.results.toList K E)) (bodyQ Tryd.prog Tryd.f28.results.toList K E))))) #[x0, x1, x2, x3, x4, v5, x6, v7, x8, x9, x10, x11, x12, x13, x14, x15, x16, x17, x18, x19, y20, y21, y22, y23, y24, y25, y26, y27, y28, y29, y30, y31, x32] h := by
  subst e5
  subst e7
  have e : (#[x0, x1, x2, x3, x4, (f5 s0), x6, (f7 s0), x8, x9, x10, x11, x12, x13, x14, x15, x16, x17, x18, x19, y20, y21, y22, y23, y24, y25, y26, y27, y28, y29, y30, y31, x32] : Env) = m28_1_1_1_0_1_0_0 x0 x1 x2 x3 x4 x6 x8 x9 x10 x11 x12 x13 x14 x15 x16 x17 x18 x19 x32 (f5 s0) (f7 s0) (jf #[x0, x1, x2, x3, x4, (f5 s0), x6, (f7 s0), x8, x9, x10, x11, x12, x13, x14, x15, x16, x17, x18, x19, y20, y21, y22, y23, y24, y25, y26, y27, y28, y29, y30, y31, x32]) := by kernel_rfl
  rw [e]
  exact loop_r (fun s j => m28_1_1_1_0_1_0_0 x0 x1 x2 x3 x4 x6 x8 x9 x10 x11 x12 x13 x14 x15 x16 x17 x18 x19 x32 (f5 s) (f7 s) j) I μ (fun k s j h hI hw next => by rw [t28_1_1_1_0_1_0_0]; exact round k s j h hI hw next) s0 (jf #[x0, x1, x2, x3, x4, (f5 s0), x6, (f7 s0), x8, x9, x10, x11, x12, x13, x14, x15, x16, x17, x18, x19, y20, y21, y22, y23, y24, y25, y26, y27, y28, y29, y30, y31, x32]) h0

theorem t29 (K : Kont) (E : PanK) (x0 : Value)  : den Tryd.prog (sel (bodyOf Tryd.f29) []) (bodyQ Tryd.prog Tryd.f29.results.toList K E) #[x0, undef, undef, undef, undef, undef, undef, undef, undef, undef, undef, undef, undef, undef, undef, undef, undef, undef, undef, undef, undef, undef, undef, undef, undef, undef, undef, undef, undef, undef, undef, undef, undef] =
  nw 41 (Value.cells x0).toList fun t1 =>
  pv (faV 0 t1) fun t2 =>
  ld false 1 t2 fun t3 =>
  pv (binV .none .leq t3 (.int .i64 0)) fun t4 =>
  cnd t4 (
    ld true 4 t1 fun t5 =>
    pv (bdC #[(.int .i64 0), (.int .i64 0), (.int .i64 0), (.int .i64 0)] [(0, 1), (1, 1), (2, 1), (3, 1)] #[]) fun t6 =>
    pv (eqCells .eql [0, 0, 0, 0] t5 t6) fun t7 =>
    K t7) (
    pv (faV 2 t1) fun t8 =>
    ld false 1 t8 fun t9 =>
    pv (faV 3 t1) fun t10 =>
    ld false 1 t10 fun t11 =>
    pv (binV .none .leq t9 t11) fun t12 =>
    gdK t12 true (fun k => pv (faV 0 t1) k) fun t13 =>
    gdK t12 true (fun k => ld false 1 t13 k) fun t14 =>
    gdK t12 true (fun k => pv (binV .none .gtr t14 (.int .i64 1)) k) fun t15 =>
    gdK t12 true (fun k => k t15) fun t16 =>
    gdK t16 false (fun k => pv (faV 1 t1) k) fun t17 =>
    gdK t16 false (fun k => ld false 1 t17 k) fun t18 =>
    gdK t16 false (fun k => pv (faV 2 t1) k) fun t19 =>
    gdK t16 false (fun k => ld false 1 t19 k) fun t20 =>
    gdK t16 false (fun k => pv (binV .none .eql t18 t20) k) fun t21 =>
    gdK t16 false (fun k => k t21) fun t22 =>
    gdK t22 true (fun k => pv (faV 2 t1) k) fun t23 =>
    gdK t22 true (fun k => ld false 1 t23 k) fun t24 =>
    gdK t22 true (fun k => pv (faV 3 t1) k) fun t25 =>
    gdK t22 true (fun k => ld false 1 t25 k) fun t26 =>
    gdK t22 true (fun k => pv (binV .none .eql t24 t26) k) fun t27 =>
    gdK t16 false (fun k => pv (pickV t22 t27 (.bool false)) k) fun t28 =>
    gdK t12 true (fun k => pv (pickV t16 (.bool true) t28) k) fun t29 =>
    pv (pickV t12 t29 (.bool false)) fun t30 =>
    K t30) := by kernel_rfl

theorem t30 (K : Kont) (E : PanK) (x0 x1 : Value)  : den Tryd.prog (sel (bodyOf Tryd.f30) []) (bodyQ Tryd.prog Tryd.f30.results.toList K E) #[x0, x1, undef, undef, undef, undef, undef, undef, undef, undef, undef, undef, undef, undef, undef, undef, undef, undef, undef, undef, undef, undef, undef, undef, undef, undef, undef, undef, undef, undef, undef, undef, undef, undef, undef, undef, undef, undef, undef, undef, undef, undef, undef, undef, undef, undef] =
  lp (fun k1 => den Tryd.prog (sel (bodyOf Tryd.f30) [1, 0, 1, 0, 0]) (thenD k1 (blk 0 (thenD (den Tryd.prog (sel (bodyOf Tryd.f30) [1, 1]) (bodyQ Tryd.prog Tryd.f30.results.toList K E)) (bodyQ Tryd.prog Tryd.f30.results.toList K E))))) #[x0, x1, undef, undef, (.int .i64 0), (.int .i64 0), undef, undef, undef, undef, undef, undef, undef, undef, undef, undef, undef, undef, undef, undef, undef, undef, undef, undef, undef, undef, undef, undef, undef, undef, undef, undef, undef, undef, undef, undef, undef, undef, undef, undef, undef, undef, undef, undef, undef, undef] := by kernel_rfl
def m30_1_0_1_0_0 (x0 x1 x2 x3 x36 x37 x38 x39 x40 x41 x42 x43 x44 x45 : Value) (v5 : Value) (j : Nat → Value) : Env := #[x0, x1, x2, x3, (j 4), v5, (j 6), (j 7), (j 8), (j 9), (j 10), (j 11), (j 12), (j 13), (j 14), (j 15), (j 16), (j 17), (j 18), (j 19), (j 20), (j 21), (j 22), (j 23), (j 24), (j 25), (j 26), (j 27), (j 28), (j 29), (j 30), (j 31), (j 32), (j 33), (j 34), (j 35), x36, x37, x38, x39, x40, x41, x42, x43, x44, x45]
theorem t30_1_0_1_0_0 (K : Kont) (E : PanK) (k1 : Env → Hp → Prop) (x0 x1 x2 x3 x36 x37 x38 x39 x40 x41 x42 x43 x44 x45 v5 : Value) (j : Nat → Value) : den Tryd.prog (sel (bodyOf Tryd.f30) [1, 0, 1, 0, 0]) (thenD k1 (blk 0 (thenD (den Tryd.prog (sel (bodyOf Tryd.f30) [1, 1]) (bodyQ Tryd.prog Tryd.f30.results.toList K E)) (bodyQ Tryd.prog Tryd.f30.results.toList K E)))) (m30_1_0_1_0_0 x0 x1 x2 x3 x36 x37 x38 x39 x40 x41 x42 x43 x44 x45 v5 j) =
  pv (lenV x0) fun t1 =>
  pv (binV .none .lss v5 t1) fun t2 =>
  gdK t2 true (fun k => k v5) fun t3 =>
  gdK t2 true (fun k => k x1) fun t4 =>
  gdK t2 true (fun k => pv (lenV t4) k) fun t5 =>
  gdK t2 true (fun k => pv (binV .none .lss t3 t5) k) fun t6 =>
  pv (pickV t2 t6 (.bool false)) fun t7 =>
  cnd t7 (
    pv (iaV none 1 x0 v5) fun t8 =>
    ld false 1 t8 fun t9 =>
    pv (iaV none 1 x1 v5) fun t10 =>
    ld false 1 t10 fun t11 =>
    pv (binV .none .lss t9 t11) fun t12 =>
    cnd t12 (
      K (.int .i64 (-1))) (
      pv (iaV none 1 x0 v5) fun t13 =>
      ld false 1 t13 fun t14 =>
      pv (iaV none 1 x1 v5) fun t15 =>
      ld false 1 t15 fun t16 =>
      pv (binV .none .gtr t14 t16) fun t17 =>
      cnd t17 (
        K (.int .i64 1)) (
        pv (binV .none .add v5 (.int .i64 1)) fun t18 =>
        k1 (m30_1_0_1_0_0 x0 x1 x2 x3 x36 x37 x38 x39 x40 x41 x42 x43 x44 x45 t18 (jf #[x0, x1, x2, x3, (j 4), t18, v5, x0, t1, t2, t2, t3, t4, t5, t6, t7, v5, t18, x0, v5, t8, t9, x1, v5, t10, t11, t12, x0, v5, t13, t14, x1, v5, t15, t16, t17, x36, x37, x38, x39, x40, x41, x42, x43, x44, x45]))))) (
    den Tryd.prog (sel (bodyOf Tryd.f30) [1, 1]) (bodyQ Tryd.prog Tryd.f30.results.toList K E) #[x0, x1, x2, x3, (j 4), v5, v5, x0, t1, t2, t2, t3, t4, t5, t6, t7, (j 16), (j 17), (j 18), (j 19), (j 20), (j 21), (j 22), (j 23), (j 24), (j 25), (j 26), (j 27), (j 28), (j 29), (j 30), (j 31), (j 32), (j 33), (j 34), (j 35), x36, x37, x38, x39, x40, x41, x42, x43, x44, x45]) := by kernel_rfl
theorem t30_1_1 (K : Kont) (E : PanK) (x0 x1 x2 x3 x4 x5 x6 x7 x8 x9 x10 x11 x12 x13 x14 x15 x16 x17 x18 x19 x20 x21 x22 x23 x24 x25 x26 x27 x28 x29 x30 x31 x32 x33 x34 x35 x36 x37 x38 x39 x40 x41 x42 x43 x44 x45 : Value)  : den Tryd.prog (sel (bodyOf Tryd.f30) [1, 1]) (bodyQ Tryd.prog Tryd.f30.results.toList K E) #[x0, x1, x2, x3, x4, x5, x6, x7, x8, x9, x10, x11, x12, x13, x14, x15, x16, x17, x18, x19, x20, x21, x22, x23, x24, x25, x26, x27, x28, x29, x30, x31, x32, x33, x34, x35, x36, x37, x38, x39, x40, x41, x42, x43, x44, x45] =
  pv (lenV x0) fun t1 =>
  pv (lenV x1) fun t2 =>
  pv (binV .none .lss t1 t2) fun t3 =>
  cnd t3 (
    K (.int .i64 (-1))) (
    pv (lenV x0) fun t4 =>
    pv (lenV x1) fun t5 =>
    pv (binV .none .gtr t4 t5) fun t6 =>
    cnd t6 (
      K (.int .i64 1)) (
      K (.int .i64 0))) := by kernel_rfl
theorem l30_1_0_1_0_0 {K : Kont} {E : PanK} {σ : Type} {x0 x1 x2 x3 x36 x37 x38 x39 x40 x41 x42 x43 x44 x45 v5 y4 y6 y7 y8 y9 y10 y11 y12 y13 y14 y15 y16 y17 y18 y19 y20 y21 y22 y23 y24 y25 y26 y27 y28 y29 y30 y31 y32 y33 y34 y35 : Value} {h : Hp} (f5 : σ → Value) (I : σ → Hp → Prop) (μ : σ → Nat) (s0 : σ) (e5 : v5 = f5 s0) (h0 : h.wf → ∃ h', h.wk h' ∧ I s0 h')
  (round : ∀ (k1 : Env → Hp → Prop) (s : σ) (j : Nat → Value) (h : Hp), I s h → h.wf → (∀ s' j' h', μ s' < μ s → (h'.wf → ∃ h'', h'.wk h'' ∧ I s' h'') → k1 (m30_1_0_1_0_0 x0 x1 x2 x3 x36 x37 x38 x39 x40 x41 x42 x43 x44 x45 (f5 s') j') h') → (
  pv (lenV x0) fun t1 =>
  pv (binV .none .lss (f5 s) t1) fun t2 =>
  gdK t2 true (fun k => k (f5 s)) fun t3 =>
  gdK t2 true (fun k => k x1) fun t4 =>
  gdK t2 true (fun k => pv (lenV t4) k) fun t5 =>
  gdK t2 true (fun k => pv (binV .none .lss t3 t5) k) fun t6 =>
  pv (pickV t2 t6 (.bool false)) fun t7 =>
  cnd t7 (
    pv (iaV none 1 x0 (f5 s)) fun t8 =>
    ld false 1 t8 fun t9 =>
    pv (iaV none 1 x1 (f5 s)) fun t10 =>
    ld false 1 t10 fun t11 =>
    pv (binV .none .lss t9 t11) fun t12 =>
    cnd t12 (
      K (.int .i64 (-1))) (
      pv (iaV none 1 x0 (f5 s)) fun t13 =>
      ld false 1 t13 fun t14 =>
      pv (iaV none 1 x1 (f5 s)) fun t15 =>
      ld false 1 t15 fun t16 =>
      pv (binV .none .gtr t14 t16) fun t17 =>
      cnd t17 (
        K (.int .i64 1)) (
        pv (binV .none .add (f5 s) (.int .i64 1)) fun t18 =>
        k1 (m30_1_0_1_0_0 x0 x1 x2 x3 x36 x37 x38 x39 x40 x41 x42 x43 x44 x45 t18 (jf #[x0, x1, x2, x3, (j 4), t18, (f5 s), x0, t1, t2, t2, t3, t4, t5, t6, t7, (f5 s), t18, x0, (f5 s), t8, t9, x1, (f5 s), t10, t11, t12, x0, (f5 s), t13, t14, x1, (f5 s), t15, t16, t17, x36, x37, x38, x39, x40, x41, x42, x43, x44, x45]))))) (
    den Tryd.prog (sel (bodyOf Tryd.f30) [1, 1]) (bodyQ Tryd.prog Tryd.f30.results.toList K E) #[x0, x1, x2, x3, (j 4), (f5 s), (f5 s), x0, t1, t2, t2, t3, t4, t5, t6, t7, (j 16), (j 17), (j 18), (j 19), (j 20), (j 21), (j 22), (j 23), (j 24), (j 25), (j 26), (j 27), (j 28), (j 29), (j 30), (j 31), (j 32), (j 33), (j 34), (j 35), x36, x37, x38, x39, x40, x41, x42, x43, x44, x45])) h) :
  lp (fun k1 => den Tryd.prog (sel (bodyOf Tryd.f30) [1, 0, 1, 0, 0]) (thenD k1 (blk 0 (thenD (den Tryd.prog (sel (bodyOf Tryd.f30) [1, 1]) (bodyQ Tryd.prog Tryd.f30.results.toList K E)) (bodyQ Tryd.prog Tryd.f30.results.toList K E))))) #[x0, x1, x2, x3, y4, v5, y6, y7, y8, y9, y10, y11, y12, y13, y14, y15, y16, y17, y18, y19, y20, y21, y22, y23, y24, y25, y26, y27, y28, y29, y30, y31, y32, y33, y34, y35, x36, x37, x38, x39, x40, x41, x42, x43, x44, x45] h := by
  subst e5
  have e : (#[x0, x1, x2, x3, y4, (f5 s0), y6, y7, y8, y9, y10, y11, y12, y13, y14, y15, y16, y17, y18, y19, y20, y21, y22, y23, y24, y25, y26, y27, y28, y29, y30, y31, y32, y33, y34, y35, x36, x37, x38, x39, x40, x41, x42, x43, x44, x45] : Env) = m30_1_0_1_0_0 x0 x1 x2 x3 x36 x37 x38 x39 x40 x41 x42 x43 x44 x45 (f5 s0) (jf #[x0, x1, x2, x3, y4, (f5 s0), y6, y7, y8, y9, y10, y11, y12, y13, y14, y15, y16, y17, y18, y19, y20, y21, y22, y23, y24, y25, y26, y27, y28, y29, y30, y31, y32, y33, y34, y35, x36, x37, x38, x39, x40, x41, x42, x43, x44, x45]) := by kernel_rfl
  rw [e]
  exact loop_r (fun s j => m30_1_0_1_0_0 x0 x1 x2 x3 x36 x37 x38 x39 x40 x41 x42 x43 x44 x45 (f5 s) j) I μ (fun k s j h hI hw next => by rw [t30_1_0_1_0_0]; exact round k s j h hI hw next) s0 (jf #[x0, x1, x2, x3, y4, (f5 s0), y6, y7, y8, y9, y10, y11, y12, y13, y14, y15, y16, y17, y18, y19, y20, y21, y22, y23, y24, y25, y26, y27, y28, y29, y30, y31, y32, y33, y34, y35, x36, x37, x38, x39, x40, x41, x42, x43, x44, x45]) h0

theorem t51 (K : Kont) (E : PanK) (x0 x1 : Value)  : den Tryd.prog (sel (bodyOf Tryd.f51) []) (bodyQ Tryd.prog Tryd.f51.results.toList K E) #[x0, x1, undef, undef, undef, undef, undef, undef, undef, undef, undef, undef, undef, undef, undef, undef, undef, undef, undef, undef, undef, undef, undef, undef, undef, undef, undef, undef, undef, undef, undef, undef, undef, undef, undef, undef, undef, undef, undef, undef, undef, undef, undef, undef, undef, undef, undef, undef, undef, undef, undef, undef, undef, undef, undef, undef, undef, undef, undef, undef, undef, undef, undef, undef, undef, undef, undef, undef, undef, undef, undef, undef, undef, undef] =
  nw 43 (Value.cells x1).toList fun t1 =>
  lp (fun k1 => den Tryd.prog (sel (bodyOf Tryd.f51) [1, 1, 1, 0, 0, 0]) (thenD k1 (blk 0 (thenD (den Tryd.prog (sel (bodyOf Tryd.f51) [1, 1, 1, 1]) (bodyQ Tryd.prog Tryd.f51.results.toList K E)) (bodyQ Tryd.prog Tryd.f51.results.toList K E))))) #[x0, x1, undef, t1, (.slice none 0 0), (.slice none 0 0), (.int .i64 0), undef, undef, undef, undef, undef, undef, undef, undef, undef, undef, undef, undef, undef, undef, undef, undef, undef, undef, undef, undef, undef, undef, undef, undef, undef, undef, undef, undef, undef, undef, undef, undef, undef, undef, undef, undef, undef, undef, undef, undef, undef, undef, undef, undef, undef, undef, undef, undef, undef, undef, undef, undef, undef, undef, undef, undef, undef, undef, undef, undef, undef, undef, undef, undef, undef, undef, undef] := by kernel_rfl
def m51_1_1_1_0_0_0 (x0 x1 x2 x3 x4 x7 x32 x33 x34 x35 x36 x37 x38 x39 x40 x41 x42 x43 x44 x45 x46 x47 x48 x49 x50 x51 x52 x53 x54 x55 x56 x57 x58 x59 x60 x61 x62 x63 x64 x65 x66 x67 x68 x69 x70 x71 x72 x73 : Value) (v5 v6 : Value) (j : Nat → Value) : Env := #[x0, x1, x2, x3, x4, v5, v6, x7, (j 8), (j 9), (j 10), (j 11), (j 12), (j 13), (j 14), (j 15), (j 16), (j 17), (j 18), (j 19), (j 20), (j 21), (j 22), (j 23), (j 24), (j 25), (j 26), (j 27), (j 28), (j 29), (j 30), (j 31), x32, x33, x34, x35, x36, x37, x38, x39, x40, x41, x42, x43, x44, x45, x46, x47, x48, x49, x50, x51, x52, x53, x54, x55, x56, x57, x58, x59, x60, x61, x62, x63, x64, x65, x66, x67, x68, x69, x70, x71, x72, x73]
theorem t51_1_1_1_0_0_0 (K : Kont) (E : PanK) (k1 : Env → Hp → Prop) (x0 x1 x2 x3 x4 x7 x32 x33 x34 x35 x36 x37 x38 x39 x40 x41 x42 x43 x44 x45 x46 x47 x48 x49 x50 x51 x52 x53 x54 x55 x56 x57 x58 x59 x60 x61 x62 x63 x64 x65 x66 x67 x68 x69 x70 x71 x72 x73 v5 v6 : Value) (j : Nat → Value) : den Tryd.prog (sel (bodyOf Tryd.f51) [1, 1, 1, 0, 0, 0]) (thenD k1 (blk 0 (thenD (den Tryd.prog (sel (bodyOf Tryd.f51) [1, 1, 1, 1]) (bodyQ Tryd.prog Tryd.f51.results.toList K E)) (bodyQ Tryd.prog Tryd.f51.results.toList K E)))) (m51_1_1_1_0_0_0 x0 x1 x2 x3 x4 x7 x32 x33 x34 x35 x36 x37 x38 x39 x40 x41 x42 x43 x44 x45 x46 x47 x48 x49 x50 x51 x52 x53 x54 x55 x56 x57 x58 x59 x60 x61 x62 x63 x64 x65 x66 x67 x68 x69 x70 x71 x72 x73 v5 v6 j) =
  pv (lenV x0) fun t1 =>
  pv (binV .none .lss v6 t1) fun t2 =>
  gdK t2 true (fun k => k x0) fun t3 =>
  gdK t2 true (fun k => k v6) fun t4 =>
  gdK t2 true (fun k => pv (iaV none 5 t3 t4) k) fun t5 =>
  gdK t2 true (fun k => pv (faV 0 t5) k) fun t6 =>
  gdK t2 true (fun k => ld false 1 t6 k) fun t7 =>
  gdK t2 true (fun k => pv (faV 0 x3) k) fun t8 =>
  gdK t2 true (fun k => ld false 1 t8 k) fun t9 =>
  gdK t2 true (fun k => callv Tryd.prog (.func (.func 30) #[] #[]) #[t7, t9] k E) fun t10 =>
  gdK t2 true (fun k => pv (binV .none .lss t10 (.int .i64 0)) k) fun t11 =>
  pv (pickV t2 t11 (.bool false)) fun t12 =>
  cnd t12 (
    pv (iaV none 5 x0 v6) fun t13 =>
    ld true 5 t13 fun t14 =>
    nws 43 1 (bsC #[(.slice none 0 0), (.int .i64 0), (.int .i64 0), (.int .i64 0), (.int .i64 0)] 5 1 #[(0, t14)]) fun t15 =>
    appX 43 5 56 v5 t15 fun t16 =>
    pv (binV .none .add v6 (.int .i64 1)) fun t17 =>
    k1 (m51_1_1_1_0_0_0 x0 x1 x2 x3 x4 x7 x32 x33 x34 x35 x36 x37 x38 x39 x40 x41 x42 x43 x44 x45 x46 x47 x48 x49 x50 x51 x52 x53 x54 x55 x56 x57 x58 x59 x60 x61 x62 x63 x64 x65 x66 x67 x68 x69 x70 x71 x72 x73 t16 t17 (jf #[x0, x1, x2, x3, x4, t16, t17, x7, v6, x0, t1, t2, t2, t3, t4, t5, t6, t7, t8, t9, t10, t11, t12, v5, x0, v6, t13, t14, t15, t16, v6, t17, x32, x33, x34, x35, x36, x37, x38, x39, x40, x41, x42, x43, x44, x45, x46, x47, x48, x49, x50, x51, x52, x53, x54, x55, x56, x57, x58, x59, x60, x61, x62, x63, x64, x65, x66, x67, x68, x69, x70, x71, x72, x73]))) (
    den Tryd.prog (sel (bodyOf Tryd.f51) [1, 1, 1, 1]) (bodyQ Tryd.prog Tryd.f51.results.toList K E) #[x0, x1, x2, x3, x4, v5, v6, x7, v6, x0, t1, t2, t2, t3, t4, t5, t6, t7, t8, t9, t10, t11, t12, (j 23), (j 24), (j 25), (j 26), (j 27), (j 28), (j 29), (j 30), (j 31), x32, x33, x34, x35, x36, x37, x38, x39, x40, x41, x42, x43, x44, x45, x46, x47, x48, x49, x50, x51, x52, x53, x54, x55, x56, x57, x58, x59, x60, x61, x62, x63, x64, x65, x66, x67, x68, x69, x70, x71, x72, x73]) := by kernel_rfl
theorem t51_1_1_1_1 (K : Kont) (E : PanK) (x0 x1 x2 x3 x4 x5 x6 x7 x8 x9 x10 x11 x12 x13 x14 x15 x16 x17 x18 x19 x20 x21 x22 x23 x24 x25 x26 x27 x28 x29 x30 x31 x32 x33 x34 x35 x36 x37 x38 x39 x40 x41 x42 x43 x44 x45 x46 x47 x48 x49 x50 x51 x52 x53 x54 x55 x56 x57 x58 x59 x60 x61 x62 x63 x64 x65 x66 x67 x68 x69 x70 x71 x72 x73 : Value)  : den Tryd.prog (sel (bodyOf Tryd.f51) [1, 1, 1, 1]) (bodyQ Tryd.prog Tryd.f51.results.toList K E) #[x0, x1, x2, x3, x4, x5, x6, x7, x8, x9, x10, x11, x12, x13, x14, x15, x16, x17, x18, x19, x20, x21, x22, x23, x24, x25, x26, x27, x28, x29, x30, x31, x32, x33, x34, x35, x36, x37, x38, x39, x40, x41, x42, x43, x44, x45, x46, x47, x48, x49, x50, x51, x52, x53, x54, x55, x56, x57, x58, x59, x60, x61, x62, x63, x64, x65, x66, x67, x68, x69, x70, x71, x72, x73] =
  pv (faV 0 x3) fun t1 =>
  ld false 1 t1 fun t2 =>
  pv (faV 1 x3) fun t3 =>
  ld true 4 t3 fun t4 =>
  bth (
    callv Tryd.prog (.func (.func 82) #[] #[]) #[t2] (fun t5 h6 => (ldV h6 true 4 t3 t4) ∧ (
      pv (bdC #[(.slice none 0 0), (.int .i64 0), (.int .i64 0), (.int .i64 0), (.int .i64 0)] [(0, 1), (1, 4)] #[(0, t5), (1, t4)]) fun t7 =>
      nw 43 [(.slice none 0 0), (.int .i64 0), (.int .i64 0), (.int .i64 0), (.int .i64 0)] (fun t8 h9 => (ldV h9 true 4 t3 t4) ∧ (
        st 5 t8 t7 fun _ =>
        pv (lenV x0) fun t10 =>
        pv (binV .none .lss x6 t10) fun t11 =>
        gdK t11 true (fun k => k x0) fun t12 =>
        gdK t11 true (fun k => k x6) fun t13 =>
        gdK t11 true (fun k => pv (iaV none 5 t12 t13) k) fun t14 =>
        gdK t11 true (fun k => pv (faV 0 t14) k) fun t15 =>
        gdK t11 true (fun k => ld false 1 t15 k) fun t16 =>
        gdK t11 true (fun k => pv (faV 0 x3) k) fun t17 =>
        gdK t11 true (fun k => ld false 1 t17 k) fun t18 =>
        gdK t11 true (fun k => callv Tryd.prog (.func (.func 30) #[] #[]) #[t16, t18] k E) fun t19 =>
        gdK t11 true (fun k => pv (binV .none .eql t19 (.int .i64 0)) k) fun t20 =>
        pv (pickV t11 t20 (.bool false)) fun t21 =>
        cnd t21 (
          pv (iaV none 5 x0 x6) fun t22 =>
          pv (faV 1 t22) fun t23 =>
          ld true 4 t23 fun t24 =>
          pv (faV 1 x3) fun t25 =>
          ld true 4 t25 fun t26 =>
          callv Tryd.prog (.func (.func 53) #[] #[]) #[t24, t26] (fun t27 =>
          pv (faV 1 t8) fun t28 =>
          st 4 t28 t27 fun _ =>
          pv (binV .none .add x6 (.int .i64 1)) fun t29 =>
          den Tryd.prog (sel (bodyOf Tryd.f51) [1, 1, 1, 1, 1, 1]) (bodyQ Tryd.prog Tryd.f51.results.toList K E) #[x0, x1, x2, x3, x4, x5, t29, t8, x8, x9, x10, x11, x12, x13, x14, x15, x16, x17, x18, x19, x20, x21, x22, x23, x24, x25, x26, x27, x28, x29, x30, x31, t1, t2, t5, t3, t4, t7, x6, x0, t10, t11, t11, t12, t13, t14, t15, t16, t17, t18, t19, t20, t21, x0, x6, t22, t23, t24, t25, t26, t27, t28, x6, t29, x64, x65, x66, x67, x68, x69, x70, x71, x72, x73]) E) (
          den Tryd.prog (sel (bodyOf Tryd.f51) [1, 1, 1, 1, 1, 1]) (bodyQ Tryd.prog Tryd.f51.results.toList K E) #[x0, x1, x2, x3, x4, x5, x6, t8, x8, x9, x10, x11, x12, x13, x14, x15, x16, x17, x18, x19, x20, x21, x22, x23, x24, x25, x26, x27, x28, x29, x30, x31, t1, t2, t5, t3, t4, t7, x6, x0, t10, t11, t11, t12, t13, t14, t15, t16, t17, t18, t19, t20, t21, x53, x54, x55, x56, x57, x58, x59, x60, x61, x62, x63, x64, x65, x66, x67, x68, x69, x70, x71, x72, x73])) h9)) h6) E) (
    nw 43 [(.slice none 0 0), (.int .i64 0), (.int .i64 0), (.int .i64 0), (.int .i64 0)] (fun t30 h31 => (ldV h31 true 4 t3 t4) ∧ (ldV h31 false 1 t1 t2) ∧ (
      callv Tryd.prog (.func (.func 82) #[] #[]) #[t2] (fun t32 h33 => (ldV h33 true 4 t3 t4) ∧ (
        pv (bdC #[(.slice none 0 0), (.int .i64 0), (.int .i64 0), (.int .i64 0), (.int .i64 0)] [(0, 1), (1, 4)] #[(0, t32), (1, t4)]) fun t34 =>
        st 5 t30 t34 fun _ =>
        pv (lenV x0) fun t35 =>
        pv (binV .none .lss x6 t35) fun t36 =>
        gdK t36 true (fun k => k x0) fun t37 =>
        gdK t36 true (fun k => k x6) fun t38 =>
        gdK t36 true (fun k => pv (iaV none 5 t37 t38) k) fun t39 =>
        gdK t36 true (fun k => pv (faV 0 t39) k) fun t40 =>
        gdK t36 true (fun k => ld false 1 t40 k) fun t41 =>
        gdK t36 true (fun k => pv (faV 0 x3) k) fun t42 =>
        gdK t36 true (fun k => ld false 1 t42 k) fun t43 =>
        gdK t36 true (fun k => callv Tryd.prog (.func (.func 30) #[] #[]) #[t41, t43] k E) fun t44 =>
        gdK t36 true (fun k => pv (binV .none .eql t44 (.int .i64 0)) k) fun t45 =>
        pv (pickV t36 t45 (.bool false)) fun t46 =>
        cnd t46 (
          pv (iaV none 5 x0 x6) fun t47 =>
          pv (faV 1 t47) fun t48 =>
          ld true 4 t48 fun t49 =>
          pv (faV 1 x3) fun t50 =>
          ld true 4 t50 fun t51 =>
          callv Tryd.prog (.func (.func 53) #[] #[]) #[t49, t51] (fun t52 =>
          pv (faV 1 t30) fun t53 =>
          st 4 t53 t52 fun _ =>
          pv (binV .none .add x6 (.int .i64 1)) fun t54 =>
          den Tryd.prog (sel (bodyOf Tryd.f51) [1, 1, 1, 1, 1, 1]) (bodyQ Tryd.prog Tryd.f51.results.toList K E) #[x0, x1, x2, x3, x4, x5, t54, t30, x8, x9, x10, x11, x12, x13, x14, x15, x16, x17, x18, x19, x20, x21, x22, x23, x24, x25, x26, x27, x28, x29, x30, x31, t1, t2, t32, t3, t4, t34, x6, x0, t35, t36, t36, t37, t38, t39, t40, t41, t42, t43, t44, t45, t46, x0, x6, t47, t48, t49, t50, t51, t52, t53, x6, t54, x64, x65, x66, x67, x68, x69, x70, x71, x72, x73]) E) (
          den Tryd.prog (sel (bodyOf Tryd.f51) [1, 1, 1, 1, 1, 1]) (bodyQ Tryd.prog Tryd.f51.results.toList K E) #[x0, x1, x2, x3, x4, x5, x6, t30, x8, x9, x10, x11, x12, x13, x14, x15, x16, x17, x18, x19, x20, x21, x22, x23, x24, x25, x26, x27, x28, x29, x30, x31, t1, t2, t32, t3, t4, t34, x6, x0, t35, t36, t36, t37, t38, t39, t40, t41, t42, t43, t44, t45, t46, x53, x54, x55, x56, x57, x58, x59, x60, x61, x62, x63, x64, x65, x66, x67, x68, x69, x70, x71, x72, x73])) h33) E) h31)) := by kernel_rfl
theorem t51_1_1_1_1_1_1 (K : Kont) (E : PanK) (x0 x1 x2 x3 x4 x5 x6 x7 x8 x9 x10 x11 x12 x13 x14 x15 x16 x17 x18 x19 x20 x21 x22 x23 x24 x25 x26 x27 x28 x29 x30 x31 x32 x33 x34 x35 x36 x37 x38 x39 x40 x41 x42 x43 x44 x45 x46 x47 x48 x49 x50 x51 x52 x53 x54 x55 x56 x57 x58 x59 x60 x61 x62 x63 x64 x65 x66 x67 x68 x69 x70 x71 x72 x73 : Value)  : den Tryd.prog (sel (bodyOf Tryd.f51) [1, 1, 1, 1, 1, 1]) (bodyQ Tryd.prog Tryd.f51.results.toList K E) #[x0, x1, x2, x3, x4, x5, x6, x7, x8, x9, x10, x11, x12, x13, x14, x15, x16, x17, x18, x19, x20, x21, x22, x23, x24, x25, x26, x27, x28, x29, x30, x31, x32, x33, x34, x35, x36, x37, x38, x39, x40, x41, x42, x43, x44, x45, x46, x47, x48, x49, x50, x51, x52, x53, x54, x55, x56, x57, x58, x59, x60, x61, x62, x63, x64, x65, x66, x67, x68, x69, x70, x71, x72, x73] =
  ld true 5 x7 fun t1 =>
  nws 43 1 (bsC #[(.slice none 0 0), (.int .i64 0), (.int .i64 0), (.int .i64 0), (.int .i64 0)] 5 1 #[(0, t1)]) fun t2 =>
  appX 43 5 56 x5 t2 fun t3 =>
  pv (slV 5 x0 (some x6) none none) fun t4 =>
  appX 43 5 56 t3 t4 fun t5 =>
  K t5 := by kernel_rfl
theorem l51_1_1_1_0_0_0 {K : Kont} {E : PanK} {σ : Type} {x0 x1 x2 x3 x4 x7 x32 x33 x34 x35 x36 x37 x38 x39 x40 x41 x42 x43 x44 x45 x46 x47 x48 x49 x50 x51 x52 x53 x54 x55 x56 x57 x58 x59 x60 x61 x62 x63 x64 x65 x66 x67 x68 x69 x70 x71 x72 x73 v5 v6 y8 y9 y10 y11 y12 y13 y14 y15 y16 y17 y18 y19 y20 y21 y22 y23 y24 y25 y26 y27 y28 y29 y30 y31 : Value} {h : Hp} (f5 f6 : σ → Value) (I : σ → Hp → Prop) (μ : σ → Nat) (s0 : σ) (e5 : v5 = f5 s0) (e6 : v6 = f6 s0) (h0 : h.wf → ∃ h', h.wk h' ∧ I s0 h')
  (round : ∀ (k1 : Env → Hp → Prop) (s : σ) (j : Nat → Value) (h : Hp), I s h → h.wf → (∀ s' j' h', μ s' < μ s → (h'.wf → ∃ h'', h'.wk h'' ∧ I s' h'') → k1 (m51_1_1_1_0_0_0 x0 x1 x2 x3 x4 x7 x32 x33 x34 x35 x36 x37 x38 x39 x40 x41 x42 x43 x44 x45 x46 x47 x48 x49 x50 x51 x52 x53 x54 x55 x56 x57 x58 x59 x60 x61 x62 x63 x64 x65 x66 x67 x68 x69 x70 x71 x72 x73 (f5 s') (f6 s') j') h') → (
  pv (lenV x0) fun t1 =>
  pv (binV .none .lss (f6 s) t1) fun t2 =>
  gdK t2 true (fun k => k x0) fun t3 =>
  gdK t2 true (fun k => k (f6 s)) fun t4 =>
  gdK t2 true (fun k => pv (iaV none 5 t3 t4) k) fun t5 =>
  gdK t2 true (fun k => pv (faV 0 t5) k) fun t6 =>
  gdK t2 true (fun k => ld false 1 t6 k) fun t7 =>
  gdK t2 true (fun k => pv (faV 0 x3) k) fun t8 =>
  gdK t2 true (fun k => ld false 1 t8 k) fun t9 =>
  gdK t2 true (fun k => callv Tryd.prog (.func (.func 30) #[] #[]) #[t7, t9] k E) fun t10 =>
  gdK t2 true (fun k => pv (binV .none .lss t10 (.int .i64 0)) k) fun t11 =>
  pv (pickV t2 t11 (.bool false)) fun t12 =>
  cnd t12 (
    pv (iaV none 5 x0 (f6 s)) fun t13 =>
    ld true 5 t13 fun t14 =>
    nws 43 1 (bsC #[(.slice none 0 0), (.int .i64 0), (.int .i64 0), (.int .i64 0), (.int .i64 0)] 5 1 #[(0, t14)]) fun t15 =>
    appX 43 5 56 (f5 s) t15 fun t16 =>
    pv (binV .none .add (f6 s) (.int .i64 1)) fun t17 =>
    k1 (m51_1_1_1_0_0_0 x0 x1 x2 x3 x4 x7 x32 x33 x34 x35 x36 x37 x38 x39 x40 x41 x42 x43 x44 x45 x46 x47 x48 x49 x50 x51 x52 x53 x54 x55 x56 x57 x58 x59 x60 x61 x62 x63 x64 x65 x66 x67 x68 x69 x70 x71 x72 x73 t16 t17 (jf #[x0, x1, x2, x3, x4, t16, t17, x7, (f6 s), x0, t1, t2, t2, t3, t4, t5, t6, t7, t8, t9, t10, t11, t12, (f5 s), x0, (f6 s), t13, t14, t15, t16, (f6 s), t17, x32, x33, x34, x35, x36, x37, x38, x39, x40, x41, x42, x43, x44, x45, x46, x47, x48, x49, x50, x51, x52, x53, x54, x55, x56, x57, x58, x59, x60, x61, x62, x63, x64, x65, x66, x67, x68, x69, x70, x71, x72, x73]))) (
    den Tryd.prog (sel (bodyOf Tryd.f51) [1, 1, 1, 1]) (bodyQ Tryd.prog Tryd.f51.results.toList K E) #[x0, x1, x2, x3, x4, (f5 s), (f6 s), x7, (f6 s), x0, t1, t2, t2, t3, t4, t5, t6, t7, t8, t9, t10, t11, t12, (j 23), (j 24), (j 25), (j 26), (j 27), (j 28), (j 29), (j 30), (j 31), x32, x33, x34, x35, x36, x37, x38, x39, x40, x41, x42, x43, x44, x45, x46, x47, x48, x49, x50, x51, x52, x53, x54, x55, x56, x57, x58, x59, x60, x61, x62, x63, x64, x65, x66, x67, x68, x69, x70, x71, x72, x73])) h) :
  lp (fun k1 => den Tryd.prog (sel (bodyOf Tryd.f51) [1, 1, 1, 0, 0, 0]) (thenD k1 (blk 0 (thenD (den Tryd.prog (sel (bodyOf Tryd.f51) [1, 1, 1, 1]) (bodyQ Tryd.prog Tryd.f51.results.toList K E)) (bodyQ Tryd.prog Tryd.f51.results.toList K E))))) #[x0, x1, x2, x3, x4, v5, v6, x7, y8, y9, y10, y11, y12, y13, y14, y15, y16, y17, y18, y19, y20, y21, y22, y23, y24, y25, y26, y27, y28, y29, y30, y31, x32, x33, x34, x35, x36, x37, x38, x39, x40, x41, x42, x43, x44, x45, x46, x47, x48, x49, x50, x51, x52, x53, x54, x55, x56, x57, x58, x59, x60, x61, x62, x63, x64, x65, x66, x67, x68, x69, x70, x71, x72, x73] h := by
  subst e5
  subst e6
  have e : (#[x0, x1, x2, x3, x4, (f5 s0), (f6 s0), x7, y8, y9, y10, y11, y12, y13, y14, y15, y16, y17, y18, y19, y20, y21, y22, y23, y24, y25, y26, y27, y28, y29, y30, y31, x32, x33, x34, x35, x36, x37, x38, x39, x40, x41, x42, x43, x44, x45, x46, x47, x48, x49, x50, x51, x52, x53, x54, x55, x56, x57, x58, x59, x60, x61, x62, x63, x64, x65, x66, x67, x68, x69, x70, x71, x72, x73] : Env) = m51_1_1_1_0_0_0 x0 x1 x2 x3 x4 x7 x32 x33 x34 x35 x36 x37 x38 x39 x40 x41 x42 x43 x44 x45 x46 x47 x48 x49 x50 x51 x52 x53 x54 x55 x56 x57 x58 x59 x60 x61 x62 x63 x64 x65 x66 x67 x68 x69 x70 x71 x72 x73 (f5 s0) (f6 s0) (jf #[x0, x1, x2, x3, x4, (f5 s0), (f6 s0), x7, y8, y9, y10, y11, y12, y13, y14, y15, y16, y17, y18, y19, y20, y21, y22, y23, y24, y25, y26, y27, y28, y29, y30, y31, x32, x33, x34, x35, x36, x37, x38, x39, x40, x41, x42, x43, x44, x45, x46, x47, x48, x49, x50, x51, x52, x53, x54, x55, x56, x57, x58, x59, x60, x61, x62, x63, x64, x65, x66, x67, x68, x69, x70, x71, x72, x73]) := by kernel_rfl
  rw [e]
  exact loop_r (fun s j => m51_1_1_1_0_0_0 x0 x1 x2 x3 x4 x7 x32 x33 x34 x35 x36 x37 x38 x39 x40 x41 x42 x43 x44 x45 x46 x47 x48 x49 x50 x51 x52 x53 x54 x55 x56 x57 x58 x59 x60 x61 x62 x63 x64 x65 x66 x67 x68 x69 x70 x71 x72 x73 (f5 s) (f6 s) j) I μ (fun k s j h hI hw next => by rw [t51_1_1_1_0_0_0]; exact round k s j h hI hw next) s0 (jf #[x0, x1, x2, x3, x4, (f5 s0), (f6 s0), x7, y8, y9, y10, y11, y12, y13, y14, y15, y16, y17, y18, y19, y20, y21, y22, y23, y24, y25, y26, y27, y28, y29, y30, y31, x32, x33, x34, x35, x36, x37, x38, x39, x40, x41, x42, x43, x44, x45, x46, x47, x48, x49, x50, x51, x52, x53, x54, x55, x56, x57, x58, x59, x60, x61, x62, x63, x64, x65, x66, x67, x68, x69, x70, x71, x72, x73]) h0

theorem t52 (K : Kont) (E : PanK) (x0 : Value)  : den Tryd.prog (sel (bodyOf Tryd.f52) []) (bodyQ Tryd.prog Tryd.f52.results.toList K E) #[x0, undef, undef, undef, undef, undef, undef] =
  nw 41 [(.int .i64 0), (.int .i64 0), (.int .i64 0), (.int .i64 0)] fun t1 =>
  pv (bdC #[(.int .i64 0), (.int .i64 0), (.int .i64 0), (.int .i64 0)] [(0, 1), (1, 1), (2, 1), (3, 1)] #[(0, (.int .i64 1)), (1, x0), (2, x0), (3, x0)]) fun t2 =>
  st 4 t1 t2 fun _ =>
  ld true 4 t1 fun t3 =>
  K t3 := by kernel_rfl

theorem t53 (K : Kont) (E : PanK) (x0 x1 : Value)  : den Tryd.prog (sel (bodyOf Tryd.f53) []) (bodyQ Tryd.prog Tryd.f53.results.toList K E) #[x0, x1, undef, undef, undef, undef, undef, undef, undef, undef, undef, undef, undef, undef, undef, undef, undef, undef, undef, undef, undef, undef, undef, undef, undef, undef, undef, undef, undef, undef, undef, undef, undef, undef] =
  nw 41 (Value.cells x0).toList fun t1 =>
  nw 41 (Value.cells x1).toList fun t2 =>
  nw 41 [(.int .i64 0), (.int .i64 0), (.int .i64 0), (.int .i64 0)] fun t3 =>
  pv (faV 0 t1) fun t4 =>
  ld false 1 t4 fun t5 =>
  pv (binV .none .eql t5 (.int .i64 0)) fun t6 =>
  cnd t6 (
    ld true 4 t2 fun t7 =>
    st 4 t3 t7 fun _ =>
    ld true 4 t3 fun t8 =>
    K t8) (
    pv (faV 0 t2) fun t9 =>
    ld false 1 t9 fun t10 =>
    pv (binV .none .eql t10 (.int .i64 0)) fun t11 =>
    cnd t11 (
      ld true 4 t1 fun t12 =>
      st 4 t3 t12 fun _ =>
      ld true 4 t3 fun t13 =>
      K t13) (
      pv (faV 0 t1) fun t14 =>
      ld false 1 t14 fun t15 =>
      pv (faV 0 t2) fun t16 =>
      ld false 1 t16 fun t17 =>
      pv (binV .none .add t15 t17) fun t18 =>
      pv (faV 1 t1) fun t19 =>
      ld false 1 t19 fun t20 =>
      pv (faV 1 t2) fun t21 =>
      ld false 1 t21 fun t22 =>
      pv (binV .none .add t20 t22) fun t23 =>
      pv (faV 2 t1) fun t24 =>
      ld false 1 t24 fun t25 =>
      pv (faV 2 t2) fun t26 =>
      ld false 1 t26 fun t27 =>
      pv (mm false t25 t27) fun t28 =>
      pv (faV 3 t1) fun t29 =>
      ld false 1 t29 fun t30 =>
      pv (faV 3 t2) fun t31 =>
      ld false 1 t31 fun t32 =>
      pv (mm true t30 t32) fun t33 =>
      pv (bdC #[(.int .i64 0), (.int .i64 0), (.int .i64 0), (.int .i64 0)] [(0, 1), (1, 1), (2, 1), (3, 1)] #[(0, t18), (1, t23), (2, t28), (3, t33)]) fun t34 =>
      st 4 t3 t34 fun _ =>
      ld true 4 t3 fun t35 =>
      K t35)) := by kernel_rfl

theorem t82 (K : Kont) (E : PanK) (x0 : Value)  : den Tryd.prog (sel (bodyOf Tryd.f82) []) (bodyQ Tryd.prog Tryd.f82.results.toList K E) #[x0, undef, undef, undef, undef, undef, undef] =
  appX 3 1 8 (.slice none 0 0) x0 fun t1 =>
  K t1 := by kernel_rfl

end Go.Proofs.YthpacapdaembpaaDoor.T
