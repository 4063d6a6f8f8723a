import Derived.Test.YthpacapdaembpaaGreatDoorProg
import Derived.Test.YthpacapdaembpaaGreatDoorZ1
open Go Go.RowKit Go.Proofs.YthpacapdaembpaaGreatDoor.K
set_option linter.unusedVariables false
set_option maxRecDepth 100000
namespace Go.Proofs.YthpacapdaembpaaGreatDoor.T
theorem t3 (K : Kont) (E : PanK) (x0 x1 x2 x3 x4 x5 : Value)  : den Tryz.prog (sel (bodyOf Tryz.f3) []) (bodyQ Tryz.prog Tryz.f3.results.toList K E) #[x0, x1, x2, x3, x4, x5, undef, undef, undef, undef, undef, undef, undef, undef, undef, undef, undef, undef, undef, undef, undef, undef, undef, undef, undef, undef, undef, undef, undef, undef, undef, undef, undef, undef, undef, undef, undef, undef, undef, undef, undef, undef, undef, undef, undef, undef, undef, undef, undef, undef, undef, undef, undef, undef, undef, undef, undef, undef, undef, undef, undef, undef, undef, undef, undef] =
  pv (lenV x1) fun t1 =>
  pv (binV .none .gtr t1 (.int .i64 200)) fun t2 =>
  gdK t2 false (fun k => callv Tryz.prog (.func (.func 4) #[] #[]) #[] k E) fun t3 =>
  gdK t2 false (fun k => pv (unV .not t3) k) fun t4 =>
  pv (pickV t2 (.bool true) t4) fun t5 =>
  cnd t5 (
    callv Tryz.prog (.func (.func 4) #[] #[]) #[] (fun t6 =>
    K t6) E) (
    callv Tryz.prog (.func (.func 5) #[] #[]) #[x0] (fun t7 =>
    callv Tryz.prog (.func (.func 7) #[] #[]) #[t7, x1, x2] (fun t8 =>
    callv Tryz.prog (.func (.func 6) #[] #[]) #[t8] (fun t9 =>
    callv Tryz.prog (.func (.func 8) #[] #[]) #[t7, x3, x4, x5] (fun t10 =>
    nw 36 [(.slice none 0 0), (.slice none 0 0), (.slice none 0 0)] fun t11 =>
    st 3 t11 t10 fun _ =>
    ld true 3 t11 fun t12 =>
    callv Tryz.prog (.func (.func 9) #[] #[]) #[t7, t9, t12] (fun t13 =>
    pv (exV 0 t13) fun t14 =>
    pv (exV 1 t13) fun t15 =>
    ld true 3 t11 fun t16 =>
    callv Tryz.prog (.func (.func 10) #[] #[]) #[t7, t9, t16] (fun t17 =>
    pv (exV 0 t17) fun t18 =>
    pv (exV 1 t17) fun t19 =>
    pv (binV .none .eql t15 (.int .u16 0)) fun t20 =>
    gdK t20 true (fun k => k t19) fun t21 =>
    gdK t20 true (fun k => pv (binV .none .eql t21 (.int .i64 0)) k) fun t22 =>
    pv (pickV t20 t22 (.bool false)) fun t23 =>
    gdK t23 true (fun k => k t14) fun t24 =>
    gdK t23 true (fun k => k t18) fun t25 =>
    gdK t23 true (fun k => callv Tryz.prog (.func (.func 11) #[] #[]) #[t24, t25] k E) fun t26 =>
    pv (pickV t23 t26 (.bool false)) fun t27 =>
    K t27) E) E) E) E) E) E) := by kernel_rfl

theorem t4 (K : Kont) (E : PanK)  : den Tryz.prog (sel (bodyOf Tryz.f4) []) (bodyQ Tryz.prog Tryz.f4.results.toList K E) #[undef, undef, undef, undef, undef, undef, undef, undef, undef, undef, undef, undef, undef, undef, undef, undef, undef, undef, undef, undef, undef, undef, undef, undef, undef, undef, undef, undef, undef, undef, undef, undef, undef, undef, undef, undef, undef, undef, undef, undef, undef, undef, undef, undef, undef, undef, undef, undef, undef, undef, undef, undef, undef, undef, undef, undef] =
  nws 3 1 (bsC #[(.int .i64 0)] 1 1 #[(0, (.int .i64 5))]) fun t1 =>
  pv (bdC #[(.int .i64 0), (.slice none 0 0)] [(0, 1), (1, 1)] #[(0, (.int .i64 10)), (1, t1)]) fun t2 =>
  nws 47 1 (bsC #[(.int .i64 0), (.slice none 0 0)] 2 1 #[(0, t2)]) fun t3 =>
  nws 3 1 (bsC #[(.int .i64 0)] 1 1 #[(0, (.int .i64 1))]) fun t4 =>
  pv (bdC #[(.int .i64 0), (.int .i64 0), (.int .i64 0), (.int .i64 0)] [(0, 1), (1, 1), (2, 1), (3, 1)] #[(0, (.int .i64 1))]) fun t5 =>
  pv (bdC #[(.slice none 0 0), (.int .i64 0), (.int .i64 0), (.int .i64 0), (.int .i64 0)] [(0, 1), (1, 4)] #[(0, t4), (1, t5)]) fun t6 =>
  nws 3 1 (bsC #[(.int .i64 0)] 1 1 #[(0, (.int .i64 4))]) fun t7 =>
  pv (bdC #[(.int .i64 0), (.int .i64 0), (.int .i64 0), (.int .i64 0)] [(0, 1), (1, 1), (2, 1), (3, 1)] #[(0, (.int .i64 1))]) fun t8 =>
  pv (bdC #[(.slice none 0 0), (.int .i64 0), (.int .i64 0), (.int .i64 0), (.int .i64 0)] [(0, 1), (1, 4)] #[(0, t7), (1, t8)]) fun t9 =>
  nws 3 1 (bsC #[(.int .i64 0)] 1 1 #[(0, (.int .i64 7))]) fun t10 =>
  pv (bdC #[(.int .i64 0), (.int .i64 0), (.int .i64 0), (.int .i64 0)] [(0, 1), (1, 1), (2, 1), (3, 1)] #[(0, (.int .i64 1))]) fun t11 =>
  pv (bdC #[(.slice none 0 0), (.int .i64 0), (.int .i64 0), (.int .i64 0), (.int .i64 0)] [(0, 1), (1, 4)] #[(0, t10), (1, t11)]) fun t12 =>
  nws 51 3 (bsC #[(.slice none 0 0), (.int .i64 0), (.int .i64 0), (.int .i64 0), (.int .i64 0)] 5 3 #[(0, t6), (1, t9), (2, t12)]) fun t13 =>
  nws 3 1 (bsC #[(.int .i64 0)] 1 1 #[(0, (.int .i64 1))]) fun t14 =>
  nws 3 1 (bsC #[(.int .i64 0)] 1 1 #[(0, (.int .i64 0))]) fun t15 =>
  nws 3 1 (bsC #[(.int .i64 0)] 1 1 #[(0, (.int .i64 10))]) fun t16 =>
  pv (bdC #[(.slice none 0 0), (.slice none 0 0), (.slice none 0 0)] [(0, 1), (1, 1), (2, 1)] #[(0, t14), (1, t15), (2, t16)]) fun t17 =>
  callv Tryz.prog (.func (.func 9) #[] #[]) #[t3, t13, t17] (fun t18 =>
  pv (exV 0 t18) fun t19 =>
  pv (exV 1 t18) fun t20 =>
  pv (binV .none .eql t20 (.int .u16 0)) fun t21 =>
  gdK t21 true (fun k => k t19) fun t22 =>
  gdK t21 true (fun k => pv (lenV t22) k) fun t23 =>
  gdK t21 true (fun k => pv (binV .none .eql t23 (.int .i64 2)) k) fun t24 =>
  pv (pickV t21 t24 (.bool false)) fun t25 =>
  gdK t25 true (fun k => k t19) fun t26 =>
  gdK t25 true (fun k => pv (iaV none 5 t26 (.int .i64 0)) k) fun t27 =>
  gdK t25 true (fun k => pv (faV 1 t27) k) fun t28 =>
  gdK t25 true (fun k => pv (faV 0 t28) k) fun t29 =>
  gdK t25 true (fun k => ld false 1 t29 k) fun t30 =>
  gdK t25 true (fun k => pv (binV .none .eql t30 (.int .i64 2)) k) fun t31 =>
  pv (pickV t25 t31 (.bool false)) fun t32 =>
  gdK t32 true (fun k => k t19) fun t33 =>
  gdK t32 true (fun k => pv (iaV none 5 t33 (.int .i64 1)) k) fun t34 =>
  gdK t32 true (fun k => pv (faV 0 t34) k) fun t35 =>
  gdK t32 true (fun k => ld false 1 t35 k) fun t36 =>
  gdK t32 true (fun k => pv (iaV none 1 t36 (.int .i64 0)) k) fun t37 =>
  gdK t32 true (fun k => ld false 1 t37 k) fun t38 =>
  gdK t32 true (fun k => pv (binV .none .eql t38 (.int .i64 1)) k) fun t39 =>
  pv (pickV t32 t39 (.bool false)) fun t40 =>
  gdK t40 true (fun k => k t3) fun t41 =>
  gdK t40 true (fun k => pv (bdC #[(.slice none 0 0), (.slice none 0 0), (.slice none 0 0)] [(0, 1), (1, 1), (2, 1)] #[]) k) fun t42 =>
  gdK t40 true (fun k => callv Tryz.prog (.func (.func 12) #[] #[]) #[t41, t42] k E) fun t43 =>
  gdK t40 true (fun k => pv (binV .none .eql t43 (.int .u16 40)) k) fun t44 =>
  pv (pickV t40 t44 (.bool false)) fun t45 =>
  K t45) E := by kernel_rfl

theorem t5 (K : Kont) (E : PanK) (x0 : Value)  : den Tryz.prog (sel (bodyOf Tryz.f5) []) (bodyQ Tryz.prog Tryz.f5.results.toList K E) #[x0, undef, undef, undef, undef, undef, undef, undef, undef, undef, undef, undef, undef, undef, undef, undef, undef, undef, undef, undef, undef, undef, undef, undef, undef, undef, undef, undef, undef, undef, undef, undef, undef, undef, undef, undef, undef, undef, undef, undef, undef, undef, undef, undef, undef, undef, undef, undef, undef, undef, undef, undef, undef, undef, undef, undef, undef, undef, undef, undef, undef, undef, undef, undef, undef, undef, undef, undef, undef, undef, undef, undef, undef] =
  lp (fun k1 => den Tryz.prog (sel (bodyOf Tryz.f5) [1, 1, 0, 1, 0, 0]) (thenD k1 (blk 0 (thenD (den Tryz.prog (sel (bodyOf Tryz.f5) [1, 1, 1]) (bodyQ Tryz.prog Tryz.f5.results.toList K E)) (bodyQ Tryz.prog Tryz.f5.results.toList K E))))) #[x0, undef, (.slice none 0 0), (.slice none 0 0), (.int .i64 0), undef, undef, undef, undef, undef, undef, undef, undef, undef, undef, undef, undef, undef, undef, undef, undef, undef, undef, undef, undef, undef, undef, undef, undef, undef, undef, undef, undef, undef, undef, undef, undef, undef, undef, undef, undef, undef, undef, undef, undef, undef, undef, undef, undef, undef, undef, undef, undef, undef, undef, undef, undef, undef, undef, undef, undef, undef, undef, undef, undef, undef, undef, undef, undef, undef, undef, undef, undef] := by kernel_rfl
def m5_1_1_0_1_0_0 (x0 x1 x2 x64 x65 x66 x67 x68 x69 x70 x71 x72 : Value) (v3 v4 : Value) (j : Nat → Value) : Env := #[x0, x1, x2, v3, v4, (j 5), (j 6), (j 7), (j 8), (j 9), (j 10), (j 11), (j 12), (j 13), (j 14), (j 15), (j 16), (j 17), (j 18), (j 19), (j 20), (j 21), (j 22), (j 23), (j 24), (j 25), (j 26), (j 27), (j 28), (j 29), (j 30), (j 31), (j 32), (j 33), (j 34), (j 35), (j 36), (j 37), (j 38), (j 39), (j 40), (j 41), (j 42), (j 43), (j 44), (j 45), (j 46), (j 47), (j 48), (j 49), (j 50), (j 51), (j 52), (j 53), (j 54), (j 55), (j 56), (j 57), (j 58), (j 59), (j 60), (j 61), (j 62), (j 63), x64, x65, x66, x67, x68, x69, x70, x71, x72]
theorem t5_1_1_0_1_0_0 (K : Kont) (E : PanK) (k1 : Env → Hp → Prop) (x0 x1 x2 x64 x65 x66 x67 x68 x69 x70 x71 x72 v3 v4 : Value) (j : Nat → Value) : den Tryz.prog (sel (bodyOf Tryz.f5) [1, 1, 0, 1, 0, 0]) (thenD k1 (blk 0 (thenD (den Tryz.prog (sel (bodyOf Tryz.f5) [1, 1, 1]) (bodyQ Tryz.prog Tryz.f5.results.toList K E)) (bodyQ Tryz.prog Tryz.f5.results.toList K E)))) (m5_1_1_0_1_0_0 x0 x1 x2 x64 x65 x66 x67 x68 x69 x70 x71 x72 v3 v4 j) =
  pv (lenV x0) fun t1 =>
  pv (binV .none .lss v4 t1) fun t2 =>
  gdK t2 true (fun k => k v4) fun t3 =>
  gdK t2 true (fun k => pv (binV .none .lss t3 (.int .i64 4)) k) fun t4 =>
  pv (pickV t2 t4 (.bool false)) fun t5 =>
  cnd t5 (
    pv (iaV none 2 x0 v4) fun t6 =>
    pv (faV 0 t6) fun t7 =>
    ld false 1 t7 fun t8 =>
    pv (binV .none .rem t8 (.int .u16 200)) fun t9 =>
    pv (cvV .i64 t9) fun t10 =>
    pv (binV .none .add (.int .i64 1) t10) fun t11 =>
    pv (bdC #[(.int .i64 0), (.slice none 0 0)] [(0, 1), (1, 1)] #[(0, t11)]) fun t12 =>
    nw 47 [(.int .i64 0), (.slice none 0 0)] fun t13 =>
    st 2 t13 t12 fun _ =>
    lp (fun k2 => den Tryz.prog (sel (bodyOf Tryz.f5) [1, 1, 0, 1, 0, 0, 1, 0, 0, 1, 1, 0, 1, 0, 0]) (thenD k2 (blk 2 (thenD (den Tryz.prog (sel (bodyOf Tryz.f5) [1, 1, 0, 1, 0, 0, 1, 0, 0, 1, 1, 1]) (blk 1 (thenD (den Tryz.prog (sel (bodyOf Tryz.f5) [1, 1, 0, 1, 0, 0, 1, 1]) (thenD k1 (blk 0 (thenD (den Tryz.prog (sel (bodyOf Tryz.f5) [1, 1, 1]) (bodyQ Tryz.prog Tryz.f5.results.toList K E)) (bodyQ Tryz.prog Tryz.f5.results.toList K E))))) (thenD k1 (blk 0 (thenD (den Tryz.prog (sel (bodyOf Tryz.f5) [1, 1, 1]) (bodyQ Tryz.prog Tryz.f5.results.toList K E)) (bodyQ Tryz.prog Tryz.f5.results.toList K E))))))) (blk 1 (thenD (den Tryz.prog (sel (bodyOf Tryz.f5) [1, 1, 0, 1, 0, 0, 1, 1]) (thenD k1 (blk 0 (thenD (den Tryz.prog (sel (bodyOf Tryz.f5) [1, 1, 1]) (bodyQ Tryz.prog Tryz.f5.results.toList K E)) (bodyQ Tryz.prog Tryz.f5.results.toList K E))))) (thenD k1 (blk 0 (thenD (den Tryz.prog (sel (bodyOf Tryz.f5) [1, 1, 1]) (bodyQ Tryz.prog Tryz.f5.results.toList K E)) (bodyQ Tryz.prog Tryz.f5.results.toList K E)))))))))) #[x0, x1, x2, v3, v4, t13, (.int .i64 1), (.int .i64 0), v4, x0, t1, t2, t2, t3, t4, t5, (j 16), (j 17), x0, v4, t6, t7, t8, t9, t10, t11, t12, (j 27), (j 28), (j 29), (j 30), (j 31), (j 32), (j 33), (j 34), (j 35), (j 36), (j 37), (j 38), (j 39), (j 40), (j 41), (j 42), (j 43), (j 44), (j 45), (j 46), (j 47), (j 48), (j 49), (j 50), (j 51), (j 52), (j 53), (j 54), (j 55), (j 56), (j 57), (j 58), (j 59), (j 60), (j 61), (j 62), (j 63), x64, x65, x66, x67, x68, x69, x70, x71, x72]) (
    den Tryz.prog (sel (bodyOf Tryz.f5) [1, 1, 1]) (bodyQ Tryz.prog Tryz.f5.results.toList K E) #[x0, x1, x2, v3, v4, (j 5), (j 6), (j 7), v4, x0, t1, t2, t2, t3, t4, t5, (j 16), (j 17), (j 18), (j 19), (j 20), (j 21), (j 22), (j 23), (j 24), (j 25), (j 26), (j 27), (j 28), (j 29), (j 30), (j 31), (j 32), (j 33), (j 34), (j 35), (j 36), (j 37), (j 38), (j 39), (j 40), (j 41), (j 42), (j 43), (j 44), (j 45), (j 46), (j 47), (j 48), (j 49), (j 50), (j 51), (j 52), (j 53), (j 54), (j 55), (j 56), (j 57), (j 58), (j 59), (j 60), (j 61), (j 62), (j 63), x64, x65, x66, x67, x68, x69, x70, x71, x72]) := by kernel_rfl
theorem t5_1_1_1 (K : Kont) (E : PanK) (x0 x1 x2 x3 x4 x5 x6 x7 x8 x9 x10 x11 x12 x13 x14 x15 x16 x17 x18 x19 x20 x21 x22 x23 x24 x25 x26 x27 x28 x29 x30 x31 x32 x33 x34 x35 x36 x37 x38 x39 x40 x41 x42 x43 x44 x45 x46 x47 x48 x49 x50 x51 x52 x53 x54 x55 x56 x57 x58 x59 x60 x61 x62 x63 x64 x65 x66 x67 x68 x69 x70 x71 x72 : Value)  : den Tryz.prog (sel (bodyOf Tryz.f5) [1, 1, 1]) (bodyQ Tryz.prog Tryz.f5.results.toList K E) #[x0, x1, x2, x3, x4, x5, x6, x7, x8, x9, x10, x11, x12, x13, x14, x15, x16, x17, x18, x19, x20, x21, x22, x23, x24, x25, x26, x27, x28, x29, x30, x31, x32, x33, x34, x35, x36, x37, x38, x39, x40, x41, x42, x43, x44, x45, x46, x47, x48, x49, x50, x51, x52, x53, x54, x55, x56, x57, x58, x59, x60, x61, x62, x63, x64, x65, x66, x67, x68, x69, x70, x71, x72] =
  pv (lenV x3) fun t1 =>
  pv (binV .none .eql t1 (.int .i64 0)) fun t2 =>
  cnd t2 (
    nws 3 1 (bsC #[(.int .i64 0)] 1 1 #[(0, (.int .i64 10))]) fun t3 =>
    pv (bdC #[(.int .i64 0), (.slice none 0 0)] [(0, 1), (1, 1)] #[(0, (.int .i64 100)), (1, t3)]) fun t4 =>
    nws 47 1 (bsC #[(.int .i64 0), (.slice none 0 0)] 2 1 #[(0, t4)]) fun t5 =>
    appX 47 2 32 x3 t5 fun t6 =>
    den Tryz.prog (sel (bodyOf Tryz.f5) [1, 1, 1, 1]) (bodyQ Tryz.prog Tryz.f5.results.toList K E) #[x0, x1, x2, t6, x4, x5, x6, x7, x8, x9, x10, x11, x12, x13, x14, x15, x16, x17, x18, x19, x20, x21, x22, x23, x24, x25, x26, x27, x28, x29, x30, x31, x32, x33, x34, x35, x36, x37, x38, x39, x40, x41, x42, x43, x44, x45, x46, x47, x48, x49, x50, x51, x52, x53, x54, x55, x56, x57, x58, x59, x60, x61, x62, x63, x3, t1, t2, x3, t3, t4, t5, t6, x72]) (
    den Tryz.prog (sel (bodyOf Tryz.f5) [1, 1, 1, 1]) (bodyQ Tryz.prog Tryz.f5.results.toList K E) #[x0, x1, x2, x3, x4, x5, x6, x7, x8, x9, x10, x11, x12, x13, x14, x15, x16, x17, x18, x19, x20, x21, x22, x23, x24, x25, x26, x27, x28, x29, x30, x31, x32, x33, x34, x35, x36, x37, x38, x39, x40, x41, x42, x43, x44, x45, x46, x47, x48, x49, x50, x51, x52, x53, x54, x55, x56, x57, x58, x59, x60, x61, x62, x63, x3, t1, t2, x67, x68, x69, x70, x71, x72]) := by kernel_rfl
def m5_1_1_0_1_0_0_1_0_0_1_1_0_1_0_0 (x0 x1 x2 x3 x4 x5 x8 x9 x10 x11 x12 x13 x14 x15 x16 x17 x18 x19 x20 x21 x22 x23 x24 x25 x26 x60 x61 x62 x63 x64 x65 x66 x67 x68 x69 x70 x71 x72 : Value) (v6 v7 : Value) (j : Nat → Value) : Env := #[x0, x1, x2, x3, x4, x5, v6, v7, x8, x9, x10, x11, x12, x13, x14, x15, x16, x17, x18, x19, x20, x21, x22, x23, x24, x25, x26, (j 27), (j 28), (j 29), (j 30), (j 31), (j 32), (j 33), (j 34), (j 35), (j 36), (j 37), (j 38), (j 39), (j 40), (j 41), (j 42), (j 43), (j 44), (j 45), (j 46), (j 47), (j 48), (j 49), (j 50), (j 51), (j 52), (j 53), (j 54), (j 55), (j 56), (j 57), (j 58), (j 59), x60, x61, x62, x63, x64, x65, x66, x67, x68, x69, x70, x71, x72]
theorem t5_1_1_0_1_0_0_1_0_0_1_1_0_1_0_0 (K : Kont) (E : PanK) (k1 k2 : Env → Hp → Prop) (x0 x1 x2 x3 x4 x5 x8 x9 x10 x11 x12 x13 x14 x15 x16 x17 x18 x19 x20 x21 x22 x23 x24 x25 x26 x60 x61 x62 x63 x64 x65 x66 x67 x68 x69 x70 x71 x72 v6 v7 : Value) (j : Nat → Value) : den Tryz.prog (sel (bodyOf Tryz.f5) [1, 1, 0, 1, 0, 0, 1, 0, 0, 1, 1, 0, 1, 0, 0]) (thenD k2 (blk 2 (thenD (den Tryz.prog (sel (bodyOf Tryz.f5) [1, 1, 0, 1, 0, 0, 1, 0, 0, 1, 1, 1]) (blk 1 (thenD (den Tryz.prog (sel (bodyOf Tryz.f5) [1, 1, 0, 1, 0, 0, 1, 1]) (thenD k1 (blk 0 (thenD (den Tryz.prog (sel (bodyOf Tryz.f5) [1, 1, 1]) (bodyQ Tryz.prog Tryz.f5.results.toList K E)) (bodyQ Tryz.prog Tryz.f5.results.toList K E))))) (thenD k1 (blk 0 (thenD (den Tryz.prog (sel (bodyOf Tryz.f5) [1, 1, 1]) (bodyQ Tryz.prog Tryz.f5.results.toList K E)) (bodyQ Tryz.prog Tryz.f5.results.toList K E))))))) (blk 1 (thenD (den Tryz.prog (sel (bodyOf Tryz.f5) [1, 1, 0, 1, 0, 0, 1, 1]) (thenD k1 (blk 0 (thenD (den Tryz.prog (sel (bodyOf Tryz.f5) [1, 1, 1]) (bodyQ Tryz.prog Tryz.f5.results.toList K E)) (bodyQ Tryz.prog Tryz.f5.results.toList K E))))) (thenD k1 (blk 0 (thenD (den Tryz.prog (sel (bodyOf Tryz.f5) [1, 1, 1]) (bodyQ Tryz.prog Tryz.f5.results.toList K E)) (bodyQ Tryz.prog Tryz.f5.results.toList K E))))))))) (m5_1_1_0_1_0_0_1_0_0_1_1_0_1_0_0 x0 x1 x2 x3 x4 x5 x8 x9 x10 x11 x12 x13 x14 x15 x16 x17 x18 x19 x20 x21 x22 x23 x24 x25 x26 x60 x61 x62 x63 x64 x65 x66 x67 x68 x69 x70 x71 x72 v6 v7 j) =
  pv (iaV none 2 x0 x4) fun t1 =>
  pv (faV 1 t1) fun t2 =>
  ld false 1 t2 fun t3 =>
  pv (lenV t3) fun t4 =>
  pv (binV .none .lss v7 t4) fun t5 =>
  gdK t5 true (fun k => k v7) fun t6 =>
  gdK t5 true (fun k => pv (binV .none .lss t6 (.int .i64 4)) k) fun t7 =>
  pv (pickV t5 t7 (.bool false)) fun t8 =>
  cnd t8 (
    pv (iaV none 2 x0 x4) fun t9 =>
    pv (faV 1 t9) fun t10 =>
    ld false 1 t10 fun t11 =>
    pv (iaV none 1 t11 v7) fun t12 =>
    ld false 1 t12 fun t13 =>
    pv (binV .none .rem t13 (.int .u8 4)) fun t14 =>
    pv (cvV .i64 t14) fun t15 =>
    pv (binV .none .add (.int .i64 2) t15) fun t16 =>
    pv (binV .none .mul v6 t16) fun t17 =>
    pv (faV 1 x5) fun t18 =>
    ld false 1 t18 fun t19 =>
    nws 3 1 (bsC #[(.int .i64 0)] 1 1 #[(0, t17)]) fun t20 =>
    appX 3 1 8 t19 t20 fun t21 =>
    pv (faV 1 x5) fun t22 =>
    st 1 t22 t21 fun _ =>
    pv (binV .none .add v7 (.int .i64 1)) fun t23 =>
    k2 (m5_1_1_0_1_0_0_1_0_0_1_1_0_1_0_0 x0 x1 x2 x3 x4 x5 x8 x9 x10 x11 x12 x13 x14 x15 x16 x17 x18 x19 x20 x21 x22 x23 x24 x25 x26 x60 x61 x62 x63 x64 x65 x66 x67 x68 x69 x70 x71 x72 t17 t23 (jf #[x0, x1, x2, x3, x4, x5, t17, t23, x8, x9, x10, x11, x12, x13, x14, x15, x16, x17, x18, x19, x20, x21, x22, x23, x24, x25, x26, v7, x0, x4, t1, t2, t3, t4, t5, t5, t6, t7, t8, v7, t23, v6, x0, x4, t9, t10, t11, v7, t12, t13, t14, t15, t16, t17, t18, t19, t17, t20, t21, t22, x60, x61, x62, x63, x64, x65, x66, x67, x68, x69, x70, x71, x72]))) (
    den Tryz.prog (sel (bodyOf Tryz.f5) [1, 1, 0, 1, 0, 0, 1, 0, 0, 1, 1, 1]) (blk 1 (thenD (den Tryz.prog (sel (bodyOf Tryz.f5) [1, 1, 0, 1, 0, 0, 1, 1]) (thenD k1 (blk 0 (thenD (den Tryz.prog (sel (bodyOf Tryz.f5) [1, 1, 1]) (bodyQ Tryz.prog Tryz.f5.results.toList K E)) (bodyQ Tryz.prog Tryz.f5.results.toList K E))))) (thenD k1 (blk 0 (thenD (den Tryz.prog (sel (bodyOf Tryz.f5) [1, 1, 1]) (bodyQ Tryz.prog Tryz.f5.results.toList K E)) (bodyQ Tryz.prog Tryz.f5.results.toList K E)))))) #[x0, x1, x2, x3, x4, x5, v6, v7, x8, x9, x10, x11, x12, x13, x14, x15, x16, x17, x18, x19, x20, x21, x22, x23, x24, x25, x26, v7, x0, x4, t1, t2, t3, t4, t5, t5, t6, t7, t8, (j 39), (j 40), (j 41), (j 42), (j 43), (j 44), (j 45), (j 46), (j 47), (j 48), (j 49), (j 50), (j 51), (j 52), (j 53), (j 54), (j 55), (j 56), (j 57), (j 58), (j 59), x60, x61, x62, x63, x64, x65, x66, x67, x68, x69, x70, x71, x72]) := by kernel_rfl
theorem t5_1_1_0_1_0_0_1_0_0_1_1_1 (K : Kont) (E : PanK) (k1 : Env → Hp → Prop) (x0 x1 x2 x3 x4 x5 x6 x7 x8 x9 x10 x11 x12 x13 x14 x15 x16 x17 x18 x19 x20 x21 x22 x23 x24 x25 x26 x27 x28 x29 x30 x31 x32 x33 x34 x35 x36 x37 x38 x39 x40 x41 x42 x43 x44 x45 x46 x47 x48 x49 x50 x51 x52 x53 x54 x55 x56 x57 x58 x59 x60 x61 x62 x63 x64 x65 x66 x67 x68 x69 x70 x71 x72 : Value)  : den Tryz.prog (sel (bodyOf Tryz.f5) [1, 1, 0, 1, 0, 0, 1, 0, 0, 1, 1, 1]) (blk 1 (thenD (den Tryz.prog (sel (bodyOf Tryz.f5) [1, 1, 0, 1, 0, 0, 1, 1]) (thenD k1 (blk 0 (thenD (den Tryz.prog (sel (bodyOf Tryz.f5) [1, 1, 1]) (bodyQ Tryz.prog Tryz.f5.results.toList K E)) (bodyQ Tryz.prog Tryz.f5.results.toList K E))))) (thenD k1 (blk 0 (thenD (den Tryz.prog (sel (bodyOf Tryz.f5) [1, 1, 1]) (bodyQ Tryz.prog Tryz.f5.results.toList K E)) (bodyQ Tryz.prog Tryz.f5.results.toList K E)))))) #[x0, x1, x2, x3, x4, x5, x6, x7, x8, x9, x10, x11, x12, x13, x14, x15, x16, x17, x18, x19, x20, x21, x22, x23, x24, x25, x26, x27, x28, x29, x30, x31, x32, x33, x34, x35, x36, x37, x38, x39, x40, x41, x42, x43, x44, x45, x46, x47, x48, x49, x50, x51, x52, x53, x54, x55, x56, x57, x58, x59, x60, x61, x62, x63, x64, x65, x66, x67, x68, x69, x70, x71, x72] =
  ld true 2 x5 fun t1 =>
  nws 47 1 (bsC #[(.int .i64 0), (.slice none 0 0)] 2 1 #[(0, t1)]) fun t2 =>
  appX 47 2 32 x3 t2 fun t3 =>
  den Tryz.prog (sel (bodyOf Tryz.f5) [1, 1, 0, 1, 0, 0, 1, 1]) (thenD k1 (blk 0 (thenD (den Tryz.prog (sel (bodyOf Tryz.f5) [1, 1, 1]) (bodyQ Tryz.prog Tryz.f5.results.toList K E)) (bodyQ Tryz.prog Tryz.f5.results.toList K E)))) #[x0, x1, x2, t3, x4, x5, x6, x7, x8, x9, x10, x11, x12, x13, x14, x15, x16, x17, x18, x19, x20, x21, x22, x23, x24, x25, x26, x27, x28, x29, x30, x31, x32, x33, x34, x35, x36, x37, x38, x39, x40, x41, x42, x43, x44, x45, x46, x47, x48, x49, x50, x51, x52, x53, x54, x55, x56, x57, x58, x59, x3, t1, t2, t3, x64, x65, x66, x67, x68, x69, x70, x71, x72] := by kernel_rfl
theorem t5_1_1_1_1 (K : Kont) (E : PanK) (x0 x1 x2 x3 x4 x5 x6 x7 x8 x9 x10 x11 x12 x13 x14 x15 x16 x17 x18 x19 x20 x21 x22 x23 x24 x25 x26 x27 x28 x29 x30 x31 x32 x33 x34 x35 x36 x37 x38 x39 x40 x41 x42 x43 x44 x45 x46 x47 x48 x49 x50 x51 x52 x53 x54 x55 x56 x57 x58 x59 x60 x61 x62 x63 x64 x65 x66 x67 x68 x69 x70 x71 x72 : Value)  : den Tryz.prog (sel (bodyOf Tryz.f5) [1, 1, 1, 1]) (bodyQ Tryz.prog Tryz.f5.results.toList K E) #[x0, x1, x2, x3, x4, x5, x6, x7, x8, x9, x10, x11, x12, x13, x14, x15, x16, x17, x18, x19, x20, x21, x22, x23, x24, x25, x26, x27, x28, x29, x30, x31, x32, x33, x34, x35, x36, x37, x38, x39, x40, x41, x42, x43, x44, x45, x46, x47, x48, x49, x50, x51, x52, x53, x54, x55, x56, x57, x58, x59, x60, x61, x62, x63, x64, x65, x66, x67, x68, x69, x70, x71, x72] =
  K x3 := by kernel_rfl
theorem t5_1_1_0_1_0_0_1_1 (K : Kont) (E : PanK) (k1 : Env → Hp → Prop) (x0 x1 x2 x3 x4 x5 x6 x7 x8 x9 x10 x11 x12 x13 x14 x15 x16 x17 x18 x19 x20 x21 x22 x23 x24 x25 x26 x27 x28 x29 x30 x31 x32 x33 x34 x35 x36 x37 x38 x39 x40 x41 x42 x43 x44 x45 x46 x47 x48 x49 x50 x51 x52 x53 x54 x55 x56 x57 x58 x59 x60 x61 x62 x63 x64 x65 x66 x67 x68 x69 x70 x71 x72 : Value)  : den Tryz.prog (sel (bodyOf Tryz.f5) [1, 1, 0, 1, 0, 0, 1, 1]) (thenD k1 (blk 0 (thenD (den Tryz.prog (sel (bodyOf Tryz.f5) [1, 1, 1]) (bodyQ Tryz.prog Tryz.f5.results.toList K E)) (bodyQ Tryz.prog Tryz.f5.results.toList K E)))) #[x0, x1, x2, x3, x4, x5, x6, x7, x8, x9, x10, x11, x12, x13, x14, x15, x16, x17, x18, x19, x20, x21, x22, x23, x24, x25, x26, x27, x28, x29, x30, x31, x32, x33, x34, x35, x36, x37, x38, x39, x40, x41, x42, x43, x44, x45, x46, x47, x48, x49, x50, x51, x52, x53, x54, x55, x56, x57, x58, x59, x60, x61, x62, x63, x64, x65, x66, x67, x68, x69, x70, x71, x72] =
  pv (binV .none .add x4 (.int .i64 1)) fun t1 =>
  k1 (m5_1_1_0_1_0_0 x0 x1 x2 x64 x65 x66 x67 x68 x69 x70 x71 x72 x3 t1 (jf #[x0, x1, x2, x3, t1, x5, x6, x7, x8, x9, x10, x11, x12, x13, x14, x15, x4, t1, x18, x19, x20, x21, x22, x23, x24, x25, x26, x27, x28, x29, x30, x31, x32, x33, x34, x35, x36, x37, x38, x39, x40, x41, x42, x43, x44, x45, x46, x47, x48, x49, x50, x51, x52, x53, x54, x55, x56, x57, x58, x59, x60, x61, x62, x63, x64, x65, x66, x67, x68, x69, x70, x71, x72])) := by kernel_rfl
theorem l5_1_1_0_1_0_0 {K : Kont} {E : PanK} {σ : Type} {x0 x1 x2 x64 x65 x66 x67 x68 x69 x70 x71 x72 v3 v4 y5 y6 y7 y8 y9 y10 y11 y12 y13 y14 y15 y16 y17 y18 y19 y20 y21 y22 y23 y24 y25 y26 y27 y28 y29 y30 y31 y32 y33 y34 y35 y36 y37 y38 y39 y40 y41 y42 y43 y44 y45 y46 y47 y48 y49 y50 y51 y52 y53 y54 y55 y56 y57 y58 y59 y60 y61 y62 y63 : Value} {h : Hp} (f3 f4 : σ → Value) (I : σ → Hp → Prop) (μ : σ → Nat) (s0 : σ) (e3 : v3 = f3 s0) (e4 : v4 = f4 s0) (h0 : h.wf → ∃ h', h.wk h' ∧ I s0 h')
  (round : ∀ (k1 : Env → Hp → Prop) (s : σ) (j : Nat → Value) (h : Hp), I s h → h.wf → (∀ s' j' h', μ s' < μ s → (h'.wf → ∃ h'', h'.wk h'' ∧ I s' h'') → k1 (m5_1_1_0_1_0_0 x0 x1 x2 x64 x65 x66 x67 x68 x69 x70 x71 x72 (f3 s') (f4 s') j') h') → (
  pv (lenV x0) fun t1 =>
  pv (binV .none .lss (f4 s) t1) fun t2 =>
  gdK t2 true (fun k => k (f4 s)) fun t3 =>
  gdK t2 true (fun k => pv (binV .none .lss t3 (.int .i64 4)) k) fun t4 =>
  pv (pickV t2 t4 (.bool false)) fun t5 =>
  cnd t5 (
    pv (iaV none 2 x0 (f4 s)) fun t6 =>
    pv (faV 0 t6) fun t7 =>
    ld false 1 t7 fun t8 =>
    pv (binV .none .rem t8 (.int .u16 200)) fun t9 =>
    pv (cvV .i64 t9) fun t10 =>
    pv (binV .none .add (.int .i64 1) t10) fun t11 =>
    pv (bdC #[(.int .i64 0), (.slice none 0 0)] [(0, 1), (1, 1)] #[(0, t11)]) fun t12 =>
    nw 47 [(.int .i64 0), (.slice none 0 0)] fun t13 =>
    st 2 t13 t12 fun _ =>
    lp (fun k2 => den Tryz.prog (sel (bodyOf Tryz.f5) [1, 1, 0, 1, 0, 0, 1, 0, 0, 1, 1, 0, 1, 0, 0]) (thenD k2 (blk 2 (thenD (den Tryz.prog (sel (bodyOf Tryz.f5) [1, 1, 0, 1, 0, 0, 1, 0, 0, 1, 1, 1]) (blk 1 (thenD (den Tryz.prog (sel (bodyOf Tryz.f5) [1, 1, 0, 1, 0, 0, 1, 1]) (thenD k1 (blk 0 (thenD (den Tryz.prog (sel (bodyOf Tryz.f5) [1, 1, 1]) (bodyQ Tryz.prog Tryz.f5.results.toList K E)) (bodyQ Tryz.prog Tryz.f5.results.toList K E))))) (thenD k1 (blk 0 (thenD (den Tryz.prog (sel (bodyOf Tryz.f5) [1, 1, 1]) (bodyQ Tryz.prog Tryz.f5.results.toList K E)) (bodyQ Tryz.prog Tryz.f5.results.toList K E))))))) (blk 1 (thenD (den Tryz.prog (sel (bodyOf Tryz.f5) [1, 1, 0, 1, 0, 0, 1, 1]) (thenD k1 (blk 0 (thenD (den Tryz.prog (sel (bodyOf Tryz.f5) [1, 1, 1]) (bodyQ Tryz.prog Tryz.f5.results.toList K E)) (bodyQ Tryz.prog Tryz.f5.results.toList K E))))) (thenD k1 (blk 0 (thenD (den Tryz.prog (sel (bodyOf Tryz.f5) [1, 1, 1]) (bodyQ Tryz.prog Tryz.f5.results.toList K E)) (bodyQ Tryz.prog Tryz.f5.results.toList K E)))))))))) #[x0, x1, x2, (f3 s), (f4 s), t13, (.int .i64 1), (.int .i64 0), (f4 s), x0, t1, t2, t2, t3, t4, t5, (j 16), (j 17), x0, (f4 s), t6, t7, t8, t9, t10, t11, t12, (j 27), (j 28), (j 29), (j 30), (j 31), (j 32), (j 33), (j 34), (j 35), (j 36), (j 37), (j 38), (j 39), (j 40), (j 41), (j 42), (j 43), (j 44), (j 45), (j 46), (j 47), (j 48), (j 49), (j 50), (j 51), (j 52), (j 53), (j 54), (j 55), (j 56), (j 57), (j 58), (j 59), (j 60), (j 61), (j 62), (j 63), x64, x65, x66, x67, x68, x69, x70, x71, x72]) (
    den Tryz.prog (sel (bodyOf Tryz.f5) [1, 1, 1]) (bodyQ Tryz.prog Tryz.f5.results.toList K E) #[x0, x1, x2, (f3 s), (f4 s), (j 5), (j 6), (j 7), (f4 s), x0, t1, t2, t2, t3, t4, t5, (j 16), (j 17), (j 18), (j 19), (j 20), (j 21), (j 22), (j 23), (j 24), (j 25), (j 26), (j 27), (j 28), (j 29), (j 30), (j 31), (j 32), (j 33), (j 34), (j 35), (j 36), (j 37), (j 38), (j 39), (j 40), (j 41), (j 42), (j 43), (j 44), (j 45), (j 46), (j 47), (j 48), (j 49), (j 50), (j 51), (j 52), (j 53), (j 54), (j 55), (j 56), (j 57), (j 58), (j 59), (j 60), (j 61), (j 62), (j 63), x64, x65, x66, x67, x68, x69, x70, x71, x72])) h) :
  lp (fun k1 => den Tryz.prog (sel (bodyOf Tryz.f5) [1, 1, 0, 1, 0, 0]) (thenD k1 (blk 0 (thenD (den Tryz.prog (sel (bodyOf Tryz.f5) [1, 1, 1]) (bodyQ Tryz.prog Tryz.f5.results.toList K E)) (bodyQ Tryz.prog Tryz.f5.results.toList K E))))) #[x0, x1, x2, v3, v4, y5, y6, y7, y8, y9, y10, y11, y12, y13, y14, y15, y16, y17, y18, y19, y20, y21, y22, y23, y24, y25, y26, y27, y28, y29, y30, y31, y32, y33, y34, y35, y36, y37, y38, y39, y40, y41, y42, y43, y44, y45, y46, y47, y48, y49, y50, y51, y52, y53, y54, y55, y56, y57, y58, y59, y60, y61, y62, y63, x64, x65, x66, x67, x68, x69, x70, x71, x72] h := by
  subst e3
  subst e4
  have e : (#[x0, x1, x2, (f3 s0), (f4 s0), y5, y6, y7, y8, y9, y10, y11, y12, y13, y14, y15, y16, y17, y18, y19, y20, y21, y22, y23, y24, y25, y26, y27, y28, y29, y30, y31, y32, y33, y34, y35, y36, y37, y38, y39, y40, y41, y42, y43, y44, y45, y46, y47, y48, y49, y50, y51, y52, y53, y54, y55, y56, y57, y58, y59, y60, y61, y62, y63, x64, x65, x66, x67, x68, x69, x70, x71, x72] : Env) = m5_1_1_0_1_0_0 x0 x1 x2 x64 x65 x66 x67 x68 x69 x70 x71 x72 (f3 s0) (f4 s0) (jf #[x0, x1, x2, (f3 s0), (f4 s0), y5, y6, y7, y8, y9, y10, y11, y12, y13, y14, y15, y16, y17, y18, y19, y20, y21, y22, y23, y24, y25, y26, y27, y28, y29, y30, y31, y32, y33, y34, y35, y36, y37, y38, y39, y40, y41, y42, y43, y44, y45, y46, y47, y48, y49, y50, y51, y52, y53, y54, y55, y56, y57, y58, y59, y60, y61, y62, y63, x64, x65, x66, x67, x68, x69, x70, x71, x72]) := by kernel_rfl
  rw [e]
  exact loop_r (fun s j => m5_1_1_0_1_0_0 x0 x1 x2 x64 x65 x66 x67 x68 x69 x70 x71 x72 (f3 s) (f4 s) j) I μ (fun k s j h hI hw next => by rw [t5_1_1_0_1_0_0]; exact round k s j h hI hw next) s0 (jf #[x0, x1, x2, (f3 s0), (f4 s0), y5, y6, y7, y8, y9, y10, y11, y12, y13, y14, y15, y16, y17, y18, y19, y20, y21, y22, y23, y24, y25, y26, y27, y28, y29, y30, y31, y32, y33, y34, y35, y36, y37, y38, y39, y40, y41, y42, y43, y44, y45, y46, y47, y48, y49, y50, y51, y52, y53, y54, y55, y56, y57, y58, y59, y60, y61, y62, y63, x64, x65, x66, x67, x68, x69, x70, x71, x72]) h0
theorem l5_1_1_0_1_0_0_1_0_0_1_1_0_1_0_0 {K : Kont} {E : PanK} {k1 : Env → Hp → Prop} {σ : Type} {x0 x1 x2 x3 x4 x5 x8 x9 x10 x11 x12 x13 x14 x15 x16 x17 x18 x19 x20 x21 x22 x23 x24 x25 x26 x60 x61 x62 x63 x64 x65 x66 x67 x68 x69 x70 x71 x72 v6 v7 y27 y28 y29 y30 y31 y32 y33 y34 y35 y36 y37 y38 y39 y40 y41 y42 y43 y44 y45 y46 y47 y48 y49 y50 y51 y52 y53 y54 y55 y56 y57 y58 y59 : Value} {h : Hp} (f6 f7 : σ → Value) (I : σ → Hp → Prop) (μ : σ → Nat) (s0 : σ) (e6 : v6 = f6 s0) (e7 : v7 = f7 s0) (h0 : h.wf → ∃ h', h.wk h' ∧ I s0 h')
  (round : ∀ (k2 : Env → Hp → Prop) (s : σ) (j : Nat → Value) (h : Hp), I s h → h.wf → (∀ s' j' h', μ s' < μ s → (h'.wf → ∃ h'', h'.wk h'' ∧ I s' h'') → k2 (m5_1_1_0_1_0_0_1_0_0_1_1_0_1_0_0 x0 x1 x2 x3 x4 x5 x8 x9 x10 x11 x12 x13 x14 x15 x16 x17 x18 x19 x20 x21 x22 x23 x24 x25 x26 x60 x61 x62 x63 x64 x65 x66 x67 x68 x69 x70 x71 x72 (f6 s') (f7 s') j') h') → (
  pv (iaV none 2 x0 x4) fun t1 =>
  pv (faV 1 t1) fun t2 =>
  ld false 1 t2 fun t3 =>
  pv (lenV t3) fun t4 =>
  pv (binV .none .lss (f7 s) t4) fun t5 =>
  gdK t5 true (fun k => k (f7 s)) fun t6 =>
  gdK t5 true (fun k => pv (binV .none .lss t6 (.int .i64 4)) k) fun t7 =>
  pv (pickV t5 t7 (.bool false)) fun t8 =>
  cnd t8 (
    pv (iaV none 2 x0 x4) fun t9 =>
    pv (faV 1 t9) fun t10 =>
    ld false 1 t10 fun t11 =>
    pv (iaV none 1 t11 (f7 s)) fun t12 =>
    ld false 1 t12 fun t13 =>
    pv (binV .none .rem t13 (.int .u8 4)) fun t14 =>
    pv (cvV .i64 t14) fun t15 =>
    pv (binV .none .add (.int .i64 2) t15) fun t16 =>
    pv (binV .none .mul (f6 s) t16) fun t17 =>
    pv (faV 1 x5) fun t18 =>
    ld false 1 t18 fun t19 =>
    nws 3 1 (bsC #[(.int .i64 0)] 1 1 #[(0, t17)]) fun t20 =>
    appX 3 1 8 t19 t20 fun t21 =>
    pv (faV 1 x5) fun t22 =>
    st 1 t22 t21 fun _ =>
    pv (binV .none .add (f7 s) (.int .i64 1)) fun t23 =>
    k2 (m5_1_1_0_1_0_0_1_0_0_1_1_0_1_0_0 x0 x1 x2 x3 x4 x5 x8 x9 x10 x11 x12 x13 x14 x15 x16 x17 x18 x19 x20 x21 x22 x23 x24 x25 x26 x60 x61 x62 x63 x64 x65 x66 x67 x68 x69 x70 x71 x72 t17 t23 (jf #[x0, x1, x2, x3, x4, x5, t17, t23, x8, x9, x10, x11, x12, x13, x14, x15, x16, x17, x18, x19, x20, x21, x22, x23, x24, x25, x26, (f7 s), x0, x4, t1, t2, t3, t4, t5, t5, t6, t7, t8, (f7 s), t23, (f6 s), x0, x4, t9, t10, t11, (f7 s), t12, t13, t14, t15, t16, t17, t18, t19, t17, t20, t21, t22, x60, x61, x62, x63, x64, x65, x66, x67, x68, x69, x70, x71, x72]))) (
    den Tryz.prog (sel (bodyOf Tryz.f5) [1, 1, 0, 1, 0, 0, 1, 0, 0, 1, 1, 1]) (blk 1 (thenD (den Tryz.prog (sel (bodyOf Tryz.f5) [1, 1, 0, 1, 0, 0, 1, 1]) (thenD k1 (blk 0 (thenD (den Tryz.prog (sel (bodyOf Tryz.f5) [1, 1, 1]) (bodyQ Tryz.prog Tryz.f5.results.toList K E)) (bodyQ Tryz.prog Tryz.f5.results.toList K E))))) (thenD k1 (blk 0 (thenD (den Tryz.prog (sel (bodyOf Tryz.f5) [1, 1, 1]) (bodyQ Tryz.prog Tryz.f5.results.toList K E)) (bodyQ Tryz.prog Tryz.f5.results.toList K E)))))) #[x0, x1, x2, x3, x4, x5, (f6 s), (f7 s), x8, x9, x10, x11, x12, x13, x14, x15, x16, x17, x18, x19, x20, x21, x22, x23, x24, x25, x26, (f7 s), x0, x4, t1, t2, t3, t4, t5, t5, t6, t7, t8, (j 39), (j 40), (j 41), (j 42), (j 43), (j 44), (j 45), (j 46), (j 47), (j 48), (j 49), (j 50), (j 51), (j 52), (j 53), (j 54), (j 55), (j 56), (j 57), (j 58), (j 59), x60, x61, x62, x63, x64, x65, x66, x67, x68, x69, x70, x71, x72])) h) :
  lp (fun k2 => den Tryz.prog (sel (bodyOf Tryz.f5) [1, 1, 0, 1, 0, 0, 1, 0, 0, 1, 1, 0, 1, 0, 0]) (thenD k2 (blk 2 (thenD (den Tryz.prog (sel (bodyOf Tryz.f5) [1, 1, 0, 1, 0, 0, 1, 0, 0, 1, 1, 1]) (blk 1 (thenD (den Tryz.prog (sel (bodyOf Tryz.f5) [1, 1, 0, 1, 0, 0, 1, 1]) (thenD k1 (blk 0 (thenD (den Tryz.prog (sel (bodyOf Tryz.f5) [1, 1, 1]) (bodyQ Tryz.prog Tryz.f5.results.toList K E)) (bodyQ Tryz.prog Tryz.f5.results.toList K E))))) (thenD k1 (blk 0 (thenD (den Tryz.prog (sel (bodyOf Tryz.f5) [1, 1, 1]) (bodyQ Tryz.prog Tryz.f5.results.toList K E)) (bodyQ Tryz.prog Tryz.f5.results.toList K E))))))) (blk 1 (thenD (den Tryz.prog (sel (bodyOf Tryz.f5) [1, 1, 0, 1, 0, 0, 1, 1]) (thenD k1 (blk 0 (thenD (den Tryz.prog (sel (bodyOf Tryz.f5) [1, 1, 1]) (bodyQ Tryz.prog Tryz.f5.results.toList K E)) (bodyQ Tryz.prog Tryz.f5.results.toList K E))))) (thenD k1 (blk 0 (thenD (den Tryz.prog (sel (bodyOf Tryz.f5) [1, 1, 1]) (bodyQ Tryz.prog Tryz.f5.results.toList K E)) (bodyQ Tryz.prog Tryz.f5.results.toList K E)))))))))) #[x0, x1, x2, x3, x4, x5, v6, v7, x8, x9, x10, x11, x12, x13, x14, x15, x16, x17, x18, x19, x20, x21, x22, x23, x24, x25, x26, y27, y28, y29, y30, y31, y32, y33, y34, y35, y36, y37, y38, y39, y40, y41, y42, y43, y44, y45, y46, y47, y48, y49, y50, y51, y52, y53, y54, y55, y56, y57, y58, y59, x60, x61, x62, x63, x64, x65, x66, x67, x68, x69, x70, x71, x72] h := by
  subst e6
  subst e7
  have e : (#[x0, x1, x2, x3, x4, x5, (f6 s0), (f7 s0), x8, x9, x10, x11, x12, x13, x14, x15, x16, x17, x18, x19, x20, x21, x22, x23, x24, x25, x26, y27, y28, y29, y30, y31, y32, y33, y34, y35, y36, y37, y38, y39, y40, y41, y42, y43, y44, y45, y46, y47, y48, y49, y50, y51, y52, y53, y54, y55, y56, y57, y58, y59, x60, x61, x62, x63, x64, x65, x66, x67, x68, x69, x70, x71, x72] : Env) = m5_1_1_0_1_0_0_1_0_0_1_1_0_1_0_0 x0 x1 x2 x3 x4 x5 x8 x9 x10 x11 x12 x13 x14 x15 x16 x17 x18 x19 x20 x21 x22 x23 x24 x25 x26 x60 x61 x62 x63 x64 x65 x66 x67 x68 x69 x70 x71 x72 (f6 s0) (f7 s0) (jf #[x0, x1, x2, x3, x4, x5, (f6 s0), (f7 s0), x8, x9, x10, x11, x12, x13, x14, x15, x16, x17, x18, x19, x20, x21, x22, x23, x24, x25, x26, y27, y28, y29, y30, y31, y32, y33, y34, y35, y36, y37, y38, y39, y40, y41, y42, y43, y44, y45, y46, y47, y48, y49, y50, y51, y52, y53, y54, y55, y56, y57, y58, y59, x60, x61, x62, x63, x64, x65, x66, x67, x68, x69, x70, x71, x72]) := by kernel_rfl
  rw [e]
  exact loop_r (fun s j => m5_1_1_0_1_0_0_1_0_0_1_1_0_1_0_0 x0 x1 x2 x3 x4 x5 x8 x9 x10 x11 x12 x13 x14 x15 x16 x17 x18 x19 x20 x21 x22 x23 x24 x25 x26 x60 x61 x62 x63 x64 x65 x66 x67 x68 x69 x70 x71 x72 (f6 s) (f7 s) j) I μ (fun k s j h hI hw next => by rw [t5_1_1_0_1_0_0_1_0_0_1_1_0_1_0_0]; exact round k s j h hI hw next) s0 (jf #[x0, x1, x2, x3, x4, x5, (f6 s0), (f7 s0), x8, x9, x10, x11, x12, x13, x14, x15, x16, x17, x18, x19, x20, x21, x22, x23, x24, x25, x26, y27, y28, y29, y30, y31, y32, y33, y34, y35, y36, y37, y38, y39, y40, y41, y42, y43, y44, y45, y46, y47, y48, y49, y50, y51, y52, y53, y54, y55, y56, y57, y58, y59, x60, x61, x62, x63, x64, x65, x66, x67, x68, x69, x70, x71, x72]) h0

theorem t6 (K : Kont) (E : PanK) (x0 : Value)  : den Tryz.prog (sel (bodyOf Tryz.f6) []) (bodyQ Tryz.prog Tryz.f6.results.toList K E) #[x0, undef, undef, undef, undef, undef, undef, undef, undef, undef, undef, undef, undef, undef, undef, undef, undef, undef, undef, undef, undef, undef, undef, undef, undef, undef] =
  lp (fun k1 => den Tryz.prog (sel (bodyOf Tryz.f6) [1, 1, 0, 1, 0, 0]) (thenD k1 (blk 0 (thenD (den Tryz.prog (sel (bodyOf Tryz.f6) [1, 1, 1]) (bodyQ Tryz.prog Tryz.f6.results.toList K E)) (bodyQ Tryz.prog Tryz.f6.results.toList K E))))) #[x0, undef, (.slice none 0 0), (.slice none 0 0), (.int .i64 0), undef, undef, undef, undef, undef, undef, undef, undef, undef, undef, undef, undef, undef, undef, undef, undef, undef, undef, undef, undef, undef] := by kernel_rfl
def m6_1_1_0_1_0_0 (x0 x1 x2 x25 : Value) (v3 v4 : Value) (j : Nat → Value) : Env := #[x0, x1, x2, v3, v4, (j 5), (j 6), (j 7), (j 8), (j 9), (j 10), (j 11), (j 12), (j 13), (j 14), (j 15), (j 16), (j 17), (j 18), (j 19), (j 20), (j 21), (j 22), (j 23), (j 24), x25]
theorem t6_1_1_0_1_0_0 (K : Kont) (E : PanK) (k1 : Env → Hp → Prop) (x0 x1 x2 x25 v3 v4 : Value) (j : Nat → Value) : den Tryz.prog (sel (bodyOf Tryz.f6) [1, 1, 0, 1, 0, 0]) (thenD k1 (blk 0 (thenD (den Tryz.prog (sel (bodyOf Tryz.f6) [1, 1, 1]) (bodyQ Tryz.prog Tryz.f6.results.toList K E)) (bodyQ Tryz.prog Tryz.f6.results.toList K E)))) (m6_1_1_0_1_0_0 x0 x1 x2 x25 v3 v4 j) =
  pv (lenV x0) fun t1 =>
  pv (binV .none .lss v4 t1) fun t2 =>
  cnd t2 (
    pv (iaV none 2 x0 v4) fun t3 =>
    pv (faV 0 t3) fun t4 =>
    ld false 1 t4 fun t5 =>
    pv (iaV none 2 x0 v4) fun t6 =>
    pv (faV 1 t6) fun t7 =>
    ld false 1 t7 fun t8 =>
    callv Tryz.prog (.func (.func 14) #[] #[]) #[t8] (fun t9 h10 => (ldV h10 false 1 t4 t5) ∧ (
      pv (bdC #[(.slice none 0 0), (.int .i64 0), (.int .i64 0), (.int .i64 0), (.int .i64 0)] [(0, 1), (1, 4)] #[(0, t5), (1, t9)]) fun t11 =>
      callv Tryz.prog (.func (.func 13) #[] #[]) #[v3, t11] (fun t12 =>
      pv (binV .none .add v4 (.int .i64 1)) fun t13 =>
      k1 (m6_1_1_0_1_0_0 x0 x1 x2 x25 t12 t13 (jf #[x0, x1, x2, t12, t13, v4, x0, t1, t2, v4, t13, v3, x0, v4, t3, t4, t5, x0, v4, t6, t7, t8, t9, t11, t12, x25]))) E) h10) E) (
    den Tryz.prog (sel (bodyOf Tryz.f6) [1, 1, 1]) (bodyQ Tryz.prog Tryz.f6.results.toList K E) #[x0, x1, x2, v3, v4, v4, x0, t1, t2, (j 9), (j 10), (j 11), (j 12), (j 13), (j 14), (j 15), (j 16), (j 17), (j 18), (j 19), (j 20), (j 21), (j 22), (j 23), (j 24), x25]) := by kernel_rfl
theorem t6_1_1_1 (K : Kont) (E : PanK) (x0 x1 x2 x3 x4 x5 x6 x7 x8 x9 x10 x11 x12 x13 x14 x15 x16 x17 x18 x19 x20 x21 x22 x23 x24 x25 : Value)  : den Tryz.prog (sel (bodyOf Tryz.f6) [1, 1, 1]) (bodyQ Tryz.prog Tryz.f6.results.toList K E) #[x0, x1, x2, x3, x4, x5, x6, x7, x8, x9, x10, x11, x12, x13, x14, x15, x16, x17, x18, x19, x20, x21, x22, x23, x24, x25] =
  K x3 := by kernel_rfl
theorem l6_1_1_0_1_0_0 {K : Kont} {E : PanK} {σ : Type} {x0 x1 x2 x25 v3 v4 y5 y6 y7 y8 y9 y10 y11 y12 y13 y14 y15 y16 y17 y18 y19 y20 y21 y22 y23 y24 : Value} {h : Hp} (f3 f4 : σ → Value) (I : σ → Hp → Prop) (μ : σ → Nat) (s0 : σ) (e3 : v3 = f3 s0) (e4 : v4 = f4 s0) (h0 : h.wf → ∃ h', h.wk h' ∧ I s0 h')
  (round : ∀ (k1 : Env → Hp → Prop) (s : σ) (j : Nat → Value) (h : Hp), I s h → h.wf → (∀ s' j' h', μ s' < μ s → (h'.wf → ∃ h'', h'.wk h'' ∧ I s' h'') → k1 (m6_1_1_0_1_0_0 x0 x1 x2 x25 (f3 s') (f4 s') j') h') → (
  pv (lenV x0) fun t1 =>
  pv (binV .none .lss (f4 s) t1) fun t2 =>
  cnd t2 (
    pv (iaV none 2 x0 (f4 s)) fun t3 =>
    pv (faV 0 t3) fun t4 =>
    ld false 1 t4 fun t5 =>
    pv (iaV none 2 x0 (f4 s)) fun t6 =>
    pv (faV 1 t6) fun t7 =>
    ld false 1 t7 fun t8 =>
    callv Tryz.prog (.func (.func 14) #[] #[]) #[t8] (fun t9 h10 => (ldV h10 false 1 t4 t5) ∧ (
      pv (bdC #[(.slice none 0 0), (.int .i64 0), (.int .i64 0), (.int .i64 0), (.int .i64 0)] [(0, 1), (1, 4)] #[(0, t5), (1, t9)]) fun t11 =>
      callv Tryz.prog (.func (.func 13) #[] #[]) #[(f3 s), t11] (fun t12 =>
      pv (binV .none .add (f4 s) (.int .i64 1)) fun t13 =>
      k1 (m6_1_1_0_1_0_0 x0 x1 x2 x25 t12 t13 (jf #[x0, x1, x2, t12, t13, (f4 s), x0, t1, t2, (f4 s), t13, (f3 s), x0, (f4 s), t3, t4, t5, x0, (f4 s), t6, t7, t8, t9, t11, t12, x25]))) E) h10) E) (
    den Tryz.prog (sel (bodyOf Tryz.f6) [1, 1, 1]) (bodyQ Tryz.prog Tryz.f6.results.toList K E) #[x0, x1, x2, (f3 s), (f4 s), (f4 s), x0, t1, t2, (j 9), (j 10), (j 11), (j 12), (j 13), (j 14), (j 15), (j 16), (j 17), (j 18), (j 19), (j 20), (j 21), (j 22), (j 23), (j 24), x25])) h) :
  lp (fun k1 => den Tryz.prog (sel (bodyOf Tryz.f6) [1, 1, 0, 1, 0, 0]) (thenD k1 (blk 0 (thenD (den Tryz.prog (sel (bodyOf Tryz.f6) [1, 1, 1]) (bodyQ Tryz.prog Tryz.f6.results.toList K E)) (bodyQ Tryz.prog Tryz.f6.results.toList K E))))) #[x0, x1, x2, v3, v4, y5, y6, y7, y8, y9, y10, y11, y12, y13, y14, y15, y16, y17, y18, y19, y20, y21, y22, y23, y24, x25] h := by
  subst e3
  subst e4
  have e : (#[x0, x1, x2, (f3 s0), (f4 s0), y5, y6, y7, y8, y9, y10, y11, y12, y13, y14, y15, y16, y17, y18, y19, y20, y21, y22, y23, y24, x25] : Env) = m6_1_1_0_1_0_0 x0 x1 x2 x25 (f3 s0) (f4 s0) (jf #[x0, x1, x2, (f3 s0), (f4 s0), y5, y6, y7, y8, y9, y10, y11, y12, y13, y14, y15, y16, y17, y18, y19, y20, y21, y22, y23, y24, x25]) := by kernel_rfl
  rw [e]
  exact loop_r (fun s j => m6_1_1_0_1_0_0 x0 x1 x2 x25 (f3 s) (f4 s) j) I μ (fun k s j h hI hw next => by rw [t6_1_1_0_1_0_0]; exact round k s j h hI hw next) s0 (jf #[x0, x1, x2, (f3 s0), (f4 s0), y5, y6, y7, y8, y9, y10, y11, y12, y13, y14, y15, y16, y17, y18, y19, y20, y21, y22, y23, y24, x25]) h0

theorem t7 (K : Kont) (E : PanK) (x0 x1 x2 : Value)  : den Tryz.prog (sel (bodyOf Tryz.f7) []) (bodyQ Tryz.prog Tryz.f7.results.toList K E) #[x0, x1, x2, undef, undef, undef, undef, undef, undef, undef, undef, undef, undef, undef, undef, undef, undef, undef, undef, undef, undef, undef, undef, undef, undef, undef, undef, undef, undef, undef, undef, undef, undef, undef, undef, undef, undef, undef, undef, undef, undef, undef, undef] =
  lp (fun k1 => den Tryz.prog (sel (bodyOf Tryz.f7) [1, 1, 0, 1, 0, 0]) (thenD k1 (blk 0 (thenD (den Tryz.prog (sel (bodyOf Tryz.f7) [1, 1, 1]) (bodyQ Tryz.prog Tryz.f7.results.toList K E)) (bodyQ Tryz.prog Tryz.f7.results.toList K E))))) #[x0, x1, x2, undef, undef, undef, (.slice none 0 0), (.slice none 0 0), (.int .i64 0), undef, undef, undef, undef, undef, undef, undef, undef, undef, undef, undef, undef, undef, undef, undef, undef, undef, undef, undef, undef, undef, undef, undef, undef, undef, undef, undef, undef, undef, undef, undef, undef, undef, undef] := by kernel_rfl
def m7_1_1_0_1_0_0 (x0 x1 x2 x3 x4 x5 x6 x42 : Value) (v7 v8 : Value) (j : Nat → Value) : Env := #[x0, x1, x2, x3, x4, x5, x6, v7, v8, (j 9), (j 10), (j 11), (j 12), (j 13), (j 14), (j 15), (j 16), (j 17), (j 18), (j 19), (j 20), (j 21), (j 22), (j 23), (j 24), (j 25), (j 26), (j 27), (j 28), (j 29), (j 30), (j 31), (j 32), (j 33), (j 34), (j 35), (j 36), (j 37), (j 38), (j 39), (j 40), (j 41), x42]
theorem t7_1_1_0_1_0_0 (K : Kont) (E : PanK) (k1 : Env → Hp → Prop) (x0 x1 x2 x3 x4 x5 x6 x42 v7 v8 : Value) (j : Nat → Value) : den Tryz.prog (sel (bodyOf Tryz.f7) [1, 1, 0, 1, 0, 0]) (thenD k1 (blk 0 (thenD (den Tryz.prog (sel (bodyOf Tryz.f7) [1, 1, 1]) (bodyQ Tryz.prog Tryz.f7.results.toList K E)) (bodyQ Tryz.prog Tryz.f7.results.toList K E)))) (m7_1_1_0_1_0_0 x0 x1 x2 x3 x4 x5 x6 x42 v7 v8 j) =
  pv (lenV x1) fun t1 =>
  pv (binV .none .lss v8 t1) fun t2 =>
  gdK t2 true (fun k => k v8) fun t3 =>
  gdK t2 true (fun k => pv (binV .none .lss t3 (.int .i64 200)) k) fun t4 =>
  pv (pickV t2 t4 (.bool false)) fun t5 =>
  cnd t5 (
    pv (iaV none 1 x1 v8) fun t6 =>
    ld false 1 t6 fun t7 =>
    callv Tryz.prog (.func (.func 15) #[] #[]) #[x0, t7] (fun t8 =>
    pv (bdC #[(.slice none 0 0), (.int .i64 0)] [(0, 1), (1, 1)] #[(0, t8)]) fun t9 =>
    nw 57 [(.slice none 0 0), (.int .i64 0)] fun t10 =>
    st 2 t10 t9 fun _ =>
    pv (lenV x2) fun t11 =>
    pv (binV .none .gtr t11 (.int .i64 0)) fun t12 =>
    cnd t12 (
      pv (lenV x2) fun t13 =>
      pv (binV .none .rem v8 t13) fun t14 =>
      pv (iaV none 1 x2 t14) fun t15 =>
      ld false 1 t15 fun t16 =>
      pv (faV 1 t10) fun t17 =>
      st 1 t17 t16 fun _ =>
      den Tryz.prog (sel (bodyOf Tryz.f7) [1, 1, 0, 1, 0, 0, 1, 0, 0, 1, 1]) (blk 1 (thenD (den Tryz.prog (sel (bodyOf Tryz.f7) [1, 1, 0, 1, 0, 0, 1, 1]) (thenD k1 (blk 0 (thenD (den Tryz.prog (sel (bodyOf Tryz.f7) [1, 1, 1]) (bodyQ Tryz.prog Tryz.f7.results.toList K E)) (bodyQ Tryz.prog Tryz.f7.results.toList K E))))) (thenD k1 (blk 0 (thenD (den Tryz.prog (sel (bodyOf Tryz.f7) [1, 1, 1]) (bodyQ Tryz.prog Tryz.f7.results.toList K E)) (bodyQ Tryz.prog Tryz.f7.results.toList K E)))))) #[x0, x1, x2, x3, x4, x5, x6, v7, v8, t10, v8, x1, t1, t2, t2, t3, t4, t5, (j 18), (j 19), x0, x1, v8, t6, t7, t8, t9, x2, t11, t12, x2, v8, x2, t13, t14, t15, t16, t17, (j 38), (j 39), (j 40), (j 41), x42]) (
      den Tryz.prog (sel (bodyOf Tryz.f7) [1, 1, 0, 1, 0, 0, 1, 0, 0, 1, 1]) (blk 1 (thenD (den Tryz.prog (sel (bodyOf Tryz.f7) [1, 1, 0, 1, 0, 0, 1, 1]) (thenD k1 (blk 0 (thenD (den Tryz.prog (sel (bodyOf Tryz.f7) [1, 1, 1]) (bodyQ Tryz.prog Tryz.f7.results.toList K E)) (bodyQ Tryz.prog Tryz.f7.results.toList K E))))) (thenD k1 (blk 0 (thenD (den Tryz.prog (sel (bodyOf Tryz.f7) [1, 1, 1]) (bodyQ Tryz.prog Tryz.f7.results.toList K E)) (bodyQ Tryz.prog Tryz.f7.results.toList K E)))))) #[x0, x1, x2, x3, x4, x5, x6, v7, v8, t10, v8, x1, t1, t2, t2, t3, t4, t5, (j 18), (j 19), x0, x1, v8, t6, t7, t8, t9, x2, t11, t12, (j 30), (j 31), (j 32), (j 33), (j 34), (j 35), (j 36), (j 37), (j 38), (j 39), (j 40), (j 41), x42])) E) (
    den Tryz.prog (sel (bodyOf Tryz.f7) [1, 1, 1]) (bodyQ Tryz.prog Tryz.f7.results.toList K E) #[x0, x1, x2, x3, x4, x5, x6, v7, v8, (j 9), v8, x1, t1, t2, t2, t3, t4, t5, (j 18), (j 19), (j 20), (j 21), (j 22), (j 23), (j 24), (j 25), (j 26), (j 27), (j 28), (j 29), (j 30), (j 31), (j 32), (j 33), (j 34), (j 35), (j 36), (j 37), (j 38), (j 39), (j 40), (j 41), x42]) := by kernel_rfl
theorem t7_1_1_1 (K : Kont) (E : PanK) (x0 x1 x2 x3 x4 x5 x6 x7 x8 x9 x10 x11 x12 x13 x14 x15 x16 x17 x18 x19 x20 x21 x22 x23 x24 x25 x26 x27 x28 x29 x30 x31 x32 x33 x34 x35 x36 x37 x38 x39 x40 x41 x42 : Value)  : den Tryz.prog (sel (bodyOf Tryz.f7) [1, 1, 1]) (bodyQ Tryz.prog Tryz.f7.results.toList K E) #[x0, x1, x2, x3, x4, x5, x6, x7, x8, x9, x10, x11, x12, x13, x14, x15, x16, x17, x18, x19, x20, x21, x22, x23, x24, x25, x26, x27, x28, x29, x30, x31, x32, x33, x34, x35, x36, x37, x38, x39, x40, x41, x42] =
  K x7 := by kernel_rfl
theorem t7_1_1_0_1_0_0_1_0_0_1_1 (K : Kont) (E : PanK) (k1 : Env → Hp → Prop) (x0 x1 x2 x3 x4 x5 x6 x7 x8 x9 x10 x11 x12 x13 x14 x15 x16 x17 x18 x19 x20 x21 x22 x23 x24 x25 x26 x27 x28 x29 x30 x31 x32 x33 x34 x35 x36 x37 x38 x39 x40 x41 x42 : Value)  : den Tryz.prog (sel (bodyOf Tryz.f7) [1, 1, 0, 1, 0, 0, 1, 0, 0, 1, 1]) (blk 1 (thenD (den Tryz.prog (sel (bodyOf Tryz.f7) [1, 1, 0, 1, 0, 0, 1, 1]) (thenD k1 (blk 0 (thenD (den Tryz.prog (sel (bodyOf Tryz.f7) [1, 1, 1]) (bodyQ Tryz.prog Tryz.f7.results.toList K E)) (bodyQ Tryz.prog Tryz.f7.results.toList K E))))) (thenD k1 (blk 0 (thenD (den Tryz.prog (sel (bodyOf Tryz.f7) [1, 1, 1]) (bodyQ Tryz.prog Tryz.f7.results.toList K E)) (bodyQ Tryz.prog Tryz.f7.results.toList K E)))))) #[x0, x1, x2, x3, x4, x5, x6, x7, x8, x9, x10, x11, x12, x13, x14, x15, x16, x17, x18, x19, x20, x21, x22, x23, x24, x25, x26, x27, x28, x29, x30, x31, x32, x33, x34, x35, x36, x37, x38, x39, x40, x41, x42] =
  ld true 2 x9 fun t1 =>
  nws 57 1 (bsC #[(.slice none 0 0), (.int .i64 0)] 2 1 #[(0, t1)]) fun t2 =>
  appX 57 2 32 x7 t2 fun t3 =>
  den Tryz.prog (sel (bodyOf Tryz.f7) [1, 1, 0, 1, 0, 0, 1, 1]) (thenD k1 (blk 0 (thenD (den Tryz.prog (sel (bodyOf Tryz.f7) [1, 1, 1]) (bodyQ Tryz.prog Tryz.f7.results.toList K E)) (bodyQ Tryz.prog Tryz.f7.results.toList K E)))) #[x0, x1, x2, x3, x4, x5, x6, t3, x8, x9, x10, x11, x12, x13, x14, x15, x16, x17, x18, x19, x20, x21, x22, x23, x24, x25, x26, x27, x28, x29, x30, x31, x32, x33, x34, x35, x36, x37, x7, t1, t2, t3, x42] := by kernel_rfl
theorem t7_1_1_0_1_0_0_1_1 (K : Kont) (E : PanK) (k1 : Env → Hp → Prop) (x0 x1 x2 x3 x4 x5 x6 x7 x8 x9 x10 x11 x12 x13 x14 x15 x16 x17 x18 x19 x20 x21 x22 x23 x24 x25 x26 x27 x28 x29 x30 x31 x32 x33 x34 x35 x36 x37 x38 x39 x40 x41 x42 : Value)  : den Tryz.prog (sel (bodyOf Tryz.f7) [1, 1, 0, 1, 0, 0, 1, 1]) (thenD k1 (blk 0 (thenD (den Tryz.prog (sel (bodyOf Tryz.f7) [1, 1, 1]) (bodyQ Tryz.prog Tryz.f7.results.toList K E)) (bodyQ Tryz.prog Tryz.f7.results.toList K E)))) #[x0, x1, x2, x3, x4, x5, x6, x7, x8, x9, x10, x11, x12, x13, x14, x15, x16, x17, x18, x19, x20, x21, x22, x23, x24, x25, x26, x27, x28, x29, x30, x31, x32, x33, x34, x35, x36, x37, x38, x39, x40, x41, x42] =
  pv (binV .none .add x8 (.int .i64 1)) fun t1 =>
  k1 (m7_1_1_0_1_0_0 x0 x1 x2 x3 x4 x5 x6 x42 x7 t1 (jf #[x0, x1, x2, x3, x4, x5, x6, x7, t1, x9, x10, x11, x12, x13, x14, x15, x16, x17, x8, t1, x20, x21, x22, x23, x24, x25, x26, x27, x28, x29, x30, x31, x32, x33, x34, x35, x36, x37, x38, x39, x40, x41, x42])) := by kernel_rfl
theorem l7_1_1_0_1_0_0 {K : Kont} {E : PanK} {σ : Type} {x0 x1 x2 x3 x4 x5 x6 x42 v7 v8 y9 y10 y11 y12 y13 y14 y15 y16 y17 y18 y19 y20 y21 y22 y23 y24 y25 y26 y27 y28 y29 y30 y31 y32 y33 y34 y35 y36 y37 y38 y39 y40 y41 : Value} {h : Hp} (f7 f8 : σ → Value) (I : σ → Hp → Prop) (μ : σ → Nat) (s0 : σ) (e7 : v7 = f7 s0) (e8 : v8 = f8 s0) (h0 : h.wf → ∃ h', h.wk h' ∧ I s0 h')
  (round : ∀ (k1 : Env → Hp → Prop) (s : σ) (j : Nat → Value) (h : Hp), I s h → h.wf → (∀ s' j' h', μ s' < μ s → (h'.wf → ∃ h'', h'.wk h'' ∧ I s' h'') → k1 (m7_1_1_0_1_0_0 x0 x1 x2 x3 x4 x5 x6 x42 (f7 s') (f8 s') j') h') → (
  pv (lenV x1) fun t1 =>
  pv (binV .none .lss (f8 s) t1) fun t2 =>
  gdK t2 true (fun k => k (f8 s)) fun t3 =>
  gdK t2 true (fun k => pv (binV .none .lss t3 (.int .i64 200)) k) fun t4 =>
  pv (pickV t2 t4 (.bool false)) fun t5 =>
  cnd t5 (
    pv (iaV none 1 x1 (f8 s)) fun t6 =>
    ld false 1 t6 fun t7 =>
    callv Tryz.prog (.func (.func 15) #[] #[]) #[x0, t7] (fun t8 =>
    pv (bdC #[(.slice none 0 0), (.int .i64 0)] [(0, 1), (1, 1)] #[(0, t8)]) fun t9 =>
    nw 57 [(.slice none 0 0), (.int .i64 0)] fun t10 =>
    st 2 t10 t9 fun _ =>
    pv (lenV x2) fun t11 =>
    pv (binV .none .gtr t11 (.int .i64 0)) fun t12 =>
    cnd t12 (
      pv (lenV x2) fun t13 =>
      pv (binV .none .rem (f8 s) t13) fun t14 =>
      pv (iaV none 1 x2 t14) fun t15 =>
      ld false 1 t15 fun t16 =>
      pv (faV 1 t10) fun t17 =>
      st 1 t17 t16 fun _ =>
      den Tryz.prog (sel (bodyOf Tryz.f7) [1, 1, 0, 1, 0, 0, 1, 0, 0, 1, 1]) (blk 1 (thenD (den Tryz.prog (sel (bodyOf Tryz.f7) [1, 1, 0, 1, 0, 0, 1, 1]) (thenD k1 (blk 0 (thenD (den Tryz.prog (sel (bodyOf Tryz.f7) [1, 1, 1]) (bodyQ Tryz.prog Tryz.f7.results.toList K E)) (bodyQ Tryz.prog Tryz.f7.results.toList K E))))) (thenD k1 (blk 0 (thenD (den Tryz.prog (sel (bodyOf Tryz.f7) [1, 1, 1]) (bodyQ Tryz.prog Tryz.f7.results.toList K E)) (bodyQ Tryz.prog Tryz.f7.results.toList K E)))))) #[x0, x1, x2, x3, x4, x5, x6, (f7 s), (f8 s), t10, (f8 s), x1, t1, t2, t2, t3, t4, t5, (j 18), (j 19), x0, x1, (f8 s), t6, t7, t8, t9, x2, t11, t12, x2, (f8 s), x2, t13, t14, t15, t16, t17, (j 38), (j 39), (j 40), (j 41), x42]) (
      den Tryz.prog (sel (bodyOf Tryz.f7) [1, 1, 0, 1, 0, 0, 1, 0, 0, 1, 1]) (blk 1 (thenD (den Tryz.prog (sel (bodyOf Tryz.f7) [1, 1, 0, 1, 0, 0, 1, 1]) (thenD k1 (blk 0 (thenD (den Tryz.prog (sel (bodyOf Tryz.f7) [1, 1, 1]) (bodyQ Tryz.prog Tryz.f7.results.toList K E)) (bodyQ Tryz.prog Tryz.f7.results.toList K E))))) (thenD k1 (blk 0 (thenD (den Tryz.prog (sel (bodyOf Tryz.f7) [1, 1, 1]) (bodyQ Tryz.prog Tryz.f7.results.toList K E)) (bodyQ Tryz.prog Tryz.f7.results.toList K E)))))) #[x0, x1, x2, x3, x4, x5, x6, (f7 s), (f8 s), t10, (f8 s), x1, t1, t2, t2, t3, t4, t5, (j 18), (j 19), x0, x1, (f8 s), t6, t7, t8, t9, x2, t11, t12, (j 30), (j 31), (j 32), (j 33), (j 34), (j 35), (j 36), (j 37), (j 38), (j 39), (j 40), (j 41), x42])) E) (
    den Tryz.prog (sel (bodyOf Tryz.f7) [1, 1, 1]) (bodyQ Tryz.prog Tryz.f7.results.toList K E) #[x0, x1, x2, x3, x4, x5, x6, (f7 s), (f8 s), (j 9), (f8 s), x1, t1, t2, t2, t3, t4, t5, (j 18), (j 19), (j 20), (j 21), (j 22), (j 23), (j 24), (j 25), (j 26), (j 27), (j 28), (j 29), (j 30), (j 31), (j 32), (j 33), (j 34), (j 35), (j 36), (j 37), (j 38), (j 39), (j 40), (j 41), x42])) h) :
  lp (fun k1 => den Tryz.prog (sel (bodyOf Tryz.f7) [1, 1, 0, 1, 0, 0]) (thenD k1 (blk 0 (thenD (den Tryz.prog (sel (bodyOf Tryz.f7) [1, 1, 1]) (bodyQ Tryz.prog Tryz.f7.results.toList K E)) (bodyQ Tryz.prog Tryz.f7.results.toList K E))))) #[x0, x1, x2, x3, x4, x5, x6, v7, v8, y9, y10, y11, y12, y13, y14, y15, y16, y17, y18, y19, y20, y21, y22, y23, y24, y25, y26, y27, y28, y29, y30, y31, y32, y33, y34, y35, y36, y37, y38, y39, y40, y41, x42] h := by
  subst e7
  subst e8
  have e : (#[x0, x1, x2, x3, x4, x5, x6, (f7 s0), (f8 s0), y9, y10, y11, y12, y13, y14, y15, y16, y17, y18, y19, y20, y21, y22, y23, y24, y25, y26, y27, y28, y29, y30, y31, y32, y33, y34, y35, y36, y37, y38, y39, y40, y41, x42] : Env) = m7_1_1_0_1_0_0 x0 x1 x2 x3 x4 x5 x6 x42 (f7 s0) (f8 s0) (jf #[x0, x1, x2, x3, x4, x5, x6, (f7 s0), (f8 s0), y9, y10, y11, y12, y13, y14, y15, y16, y17, y18, y19, y20, y21, y22, y23, y24, y25, y26, y27, y28, y29, y30, y31, y32, y33, y34, y35, y36, y37, y38, y39, y40, y41, x42]) := by kernel_rfl
  rw [e]
  exact loop_r (fun s j => m7_1_1_0_1_0_0 x0 x1 x2 x3 x4 x5 x6 x42 (f7 s) (f8 s) j) I μ (fun k s j h hI hw next => by rw [t7_1_1_0_1_0_0]; exact round k s j h hI hw next) s0 (jf #[x0, x1, x2, x3, x4, x5, x6, (f7 s0), (f8 s0), y9, y10, y11, y12, y13, y14, y15, y16, y17, y18, y19, y20, y21, y22, y23, y24, y25, y26, y27, y28, y29, y30, y31, y32, y33, y34, y35, y36, y37, y38, y39, y40, y41, x42]) h0

theorem t8 (K : Kont) (E : PanK) (x0 x1 x2 x3 : Value)  : den Tryz.prog (sel (bodyOf Tryz.f8) []) (bodyQ Tryz.prog Tryz.f8.results.toList K E) #[x0, x1, x2, x3, undef, undef, undef, undef, undef, undef, undef, undef, undef, undef, undef, undef, undef, undef, undef, undef, undef, undef, undef, undef] =
  nw 36 [(.slice none 0 0), (.slice none 0 0), (.slice none 0 0)] fun t1 =>
  callv Tryz.prog (.func (.func 16) #[] #[]) #[x0, x2, x3] (fun t2 =>
  pv (exV 0 t2) fun t3 =>
  pv (exV 1 t2) fun t4 =>
  callv Tryz.prog (.func (.func 17) #[] #[]) #[x0, x1, (.slice none 0 0)] (fun t5 =>
  pv (bdC #[(.slice none 0 0), (.slice none 0 0), (.slice none 0 0)] [(0, 1), (1, 1), (2, 1)] #[(0, t5), (1, t3), (2, t4)]) fun t6 =>
  st 3 t1 t6 fun _ =>
  ld true 3 t1 fun t7 =>
  K t7) E) E := by kernel_rfl

theorem t9 (K : Kont) (E : PanK) (x0 x1 x2 : Value)  : den Tryz.prog (sel (bodyOf Tryz.f9) []) (bodyQ Tryz.prog Tryz.f9.results.toList K E) #[x0, x1, x2, undef, undef, undef, undef, undef, undef, undef, undef, undef, undef, undef, undef, undef, undef, undef, undef, undef, undef, undef, undef, undef, undef, undef, undef, undef, undef, undef, undef, undef, undef, undef, undef, undef, undef, undef, undef, undef, undef, undef, undef, undef, undef] =
  nw 36 (Value.cells x2).toList fun t1 =>
  ld true 3 t1 fun t2 =>
  callv Tryz.prog (.func (.func 12) #[] #[]) #[x0, t2] (fun t3 =>
  pv (binV .none .neq t3 (.int .u16 0)) fun t4 =>
  cnd t4 (
    K (.tuple #[(.slice none 0 0), t3])) (
    pv (lenV x0) fun t5 =>
    callv Tryz.prog (.func (.func 18) #[] #[]) #[x1, t5] (fun t6 =>
    pv (unV .not t6) fun t7 =>
    cnd t7 (
      K (.tuple #[(.slice none 0 0), (.int .u16 1)])) (
      pv (faV 1 t1) fun t8 =>
      ld false 1 t8 fun t9 =>
      pv (faV 2 t1) fun t10 =>
      ld false 1 t10 fun t11 =>
      pv (lenV x0) fun t12 =>
      pv (faV 0 t1) fun t13 =>
      ld false 1 t13 fun t14 =>
      bth (
        callv Tryz.prog (.func (.func 20) #[] #[]) #[x1, t9, t11] (fun t15 h16 => (ldV h16 false 1 t13 t14) ∧ (
          mks 3 [(.int .i64 0)] 1 8 t12 t12 (fun t17 h18 => (ldV h18 false 1 t13 t14) ∧ (
            callv Tryz.prog (.func (.func 19) #[] #[]) #[x0, t15, t17, t14] (fun t19 =>
            pv (exV 0 t19) fun t20 =>
            pv (exV 1 t19) fun t21 =>
            pv (binV .none .neq t21 (.int .u16 0)) fun t22 =>
            cnd t22 (
              K (.tuple #[(.slice none 0 0), t21])) (
              callv Tryz.prog (.func (.func 21) #[] #[]) #[t20] (fun t23 =>
              pv (exV 0 t23) fun t24 =>
              pv (exV 1 t23) fun t25 =>
              K (.tuple #[t24, t25])) E)) E) h18)) h16) E) (
        mks 3 [(.int .i64 0)] 1 8 t12 t12 (fun t26 h27 => (ldV h27 false 1 t13 t14) ∧ (ldV h27 false 1 t10 t11) ∧ (ldV h27 false 1 t8 t9) ∧ (
          callv Tryz.prog (.func (.func 20) #[] #[]) #[x1, t9, t11] (fun t28 h29 => (ldV h29 false 1 t13 t14) ∧ (
            callv Tryz.prog (.func (.func 19) #[] #[]) #[x0, t28, t26, t14] (fun t30 =>
            pv (exV 0 t30) fun t31 =>
            pv (exV 1 t30) fun t32 =>
            pv (binV .none .neq t32 (.int .u16 0)) fun t33 =>
            cnd t33 (
              K (.tuple #[(.slice none 0 0), t32])) (
              callv Tryz.prog (.func (.func 21) #[] #[]) #[t31] (fun t34 =>
              pv (exV 0 t34) fun t35 =>
              pv (exV 1 t34) fun t36 =>
              K (.tuple #[t35, t36])) E)) E) h29) E) h27)))) E)) E := by kernel_rfl

theorem t10 (K : Kont) (E : PanK) (x0 x1 x2 : Value)  : den Tryz.prog (sel (bodyOf Tryz.f10) []) (bodyQ Tryz.prog Tryz.f10.results.toList K E) #[x0, x1, x2, undef, undef, undef, undef, undef, undef, undef, undef, undef, undef, undef, undef, undef, undef, undef, undef, undef, undef, undef, undef, undef, undef, undef, undef, undef, undef, undef, undef, undef, undef, undef, undef, undef, undef, undef, undef, undef, undef, undef, undef, undef, undef, undef, undef, undef, undef, undef, undef] =
  nw 36 (Value.cells x2).toList fun t1 =>
  ld true 3 t1 fun t2 =>
  callv Tryz.prog (.func (.func 22) #[] #[]) #[x0, t2] (fun t3 =>
  pv (binV .none .neq t3 (.int .i64 0)) fun t4 =>
  cnd t4 (
    K (.tuple #[(.slice none 0 0), t3])) (
    pv (lenV x0) fun t5 =>
    callv Tryz.prog (.func (.func 23) #[] #[]) #[x1, t5] (fun t6 =>
    pv (unV .not t6) fun t7 =>
    cnd t7 (
      K (.tuple #[(.slice none 0 0), (.int .i64 1)])) (
      lp (fun k1 => den Tryz.prog (sel (bodyOf Tryz.f10) [1, 1, 1, 1, 1, 0, 1, 0, 0]) (thenD k1 (blk 0 (thenD (den Tryz.prog (sel (bodyOf Tryz.f10) [1, 1, 1, 1, 1, 1]) (bodyQ Tryz.prog Tryz.f10.results.toList K E)) (bodyQ Tryz.prog Tryz.f10.results.toList K E))))) #[x0, x1, x2, undef, undef, t1, (.slice none 0 0), (.int .i64 0), t3, (.slice none 0 0), (.int .i64 0), undef, undef, x0, t2, t3, t3, t4, undef, x1, x0, t5, t6, t7, undef, undef, undef, undef, undef, undef, undef, undef, undef, undef, undef, undef, undef, undef, undef, undef, undef, undef, undef, undef, undef, undef, undef, undef, undef, undef, undef])) E)) E := by kernel_rfl
def m10_1_1_1_1_1_0_1_0_0 (x0 x1 x2 x3 x4 x5 x6 x7 x8 x11 x12 x13 x14 x15 x16 x17 x18 x19 x20 x21 x22 x23 x33 x34 x35 x36 x37 x38 x39 x40 x41 x42 x43 x44 x45 x46 x47 x48 x49 x50 : Value) (v9 v10 : Value) (j : Nat → Value) : Env := #[x0, x1, x2, x3, x4, x5, x6, x7, x8, v9, v10, x11, x12, x13, x14, x15, x16, x17, x18, x19, x20, x21, x22, x23, (j 24), (j 25), (j 26), (j 27), (j 28), (j 29), (j 30), (j 31), (j 32), x33, x34, x35, x36, x37, x38, x39, x40, x41, x42, x43, x44, x45, x46, x47, x48, x49, x50]
theorem t10_1_1_1_1_1_0_1_0_0 (K : Kont) (E : PanK) (k1 : Env → Hp → Prop) (x0 x1 x2 x3 x4 x5 x6 x7 x8 x11 x12 x13 x14 x15 x16 x17 x18 x19 x20 x21 x22 x23 x33 x34 x35 x36 x37 x38 x39 x40 x41 x42 x43 x44 x45 x46 x47 x48 x49 x50 v9 v10 : Value) (j : Nat → Value) : den Tryz.prog (sel (bodyOf Tryz.f10) [1, 1, 1, 1, 1, 0, 1, 0, 0]) (thenD k1 (blk 0 (thenD (den Tryz.prog (sel (bodyOf Tryz.f10) [1, 1, 1, 1, 1, 1]) (bodyQ Tryz.prog Tryz.f10.results.toList K E)) (bodyQ Tryz.prog Tryz.f10.results.toList K E)))) (m10_1_1_1_1_1_0_1_0_0 x0 x1 x2 x3 x4 x5 x6 x7 x8 x11 x12 x13 x14 x15 x16 x17 x18 x19 x20 x21 x22 x23 x33 x34 x35 x36 x37 x38 x39 x40 x41 x42 x43 x44 x45 x46 x47 x48 x49 x50 v9 v10 j) =
  pv (lenV x0) fun t1 =>
  pv (binV .none .lss v10 t1) fun t2 =>
  cnd t2 (
    nws 3 1 (bsC #[(.int .i64 0)] 1 1 #[(0, (.int .i64 0))]) fun t3 =>
    appX 3 1 8 v9 t3 fun t4 =>
    pv (binV .none .add v10 (.int .i64 1)) fun t5 =>
    k1 (m10_1_1_1_1_1_0_1_0_0 x0 x1 x2 x3 x4 x5 x6 x7 x8 x11 x12 x13 x14 x15 x16 x17 x18 x19 x20 x21 x22 x23 x33 x34 x35 x36 x37 x38 x39 x40 x41 x42 x43 x44 x45 x46 x47 x48 x49 x50 t4 t5 (jf #[x0, x1, x2, x3, x4, x5, x6, x7, x8, t4, t5, x11, x12, x13, x14, x15, x16, x17, x18, x19, x20, x21, x22, x23, v10, x0, t1, t2, v10, t5, v9, t3, t4, x33, x34, x35, x36, x37, x38, x39, x40, x41, x42, x43, x44, x45, x46, x47, x48, x49, x50]))) (
    den Tryz.prog (sel (bodyOf Tryz.f10) [1, 1, 1, 1, 1, 1]) (bodyQ Tryz.prog Tryz.f10.results.toList K E) #[x0, x1, x2, x3, x4, x5, x6, x7, x8, v9, v10, x11, x12, x13, x14, x15, x16, x17, x18, x19, x20, x21, x22, x23, v10, x0, t1, t2, (j 28), (j 29), (j 30), (j 31), (j 32), x33, x34, x35, x36, x37, x38, x39, x40, x41, x42, x43, x44, x45, x46, x47, x48, x49, x50]) := by kernel_rfl
theorem t10_1_1_1_1_1_1 (K : Kont) (E : PanK) (x0 x1 x2 x3 x4 x5 x6 x7 x8 x9 x10 x11 x12 x13 x14 x15 x16 x17 x18 x19 x20 x21 x22 x23 x24 x25 x26 x27 x28 x29 x30 x31 x32 x33 x34 x35 x36 x37 x38 x39 x40 x41 x42 x43 x44 x45 x46 x47 x48 x49 x50 : Value)  : den Tryz.prog (sel (bodyOf Tryz.f10) [1, 1, 1, 1, 1, 1]) (bodyQ Tryz.prog Tryz.f10.results.toList K E) #[x0, x1, x2, x3, x4, x5, x6, x7, x8, x9, x10, x11, x12, x13, x14, x15, x16, x17, x18, x19, x20, x21, x22, x23, x24, x25, x26, x27, x28, x29, x30, x31, x32, x33, x34, x35, x36, x37, x38, x39, x40, x41, x42, x43, x44, x45, x46, x47, x48, x49, x50] =
  pv (faV 1 x5) fun t1 =>
  ld false 1 t1 fun t2 =>
  pv (faV 2 x5) fun t3 =>
  ld false 1 t3 fun t4 =>
  pv (faV 0 x5) fun t5 =>
  ld false 1 t5 fun t6 =>
  callv Tryz.prog (.func (.func 25) #[] #[]) #[x1, t2, t4] (fun t7 h8 => (ldV h8 false 1 t5 t6) ∧ (
    callv Tryz.prog (.func (.func 24) #[] #[]) #[x0, t7, x9, t6] (fun t9 =>
    pv (exV 0 t9) fun t10 =>
    pv (exV 1 t9) fun t11 =>
    pv (lenV t10) fun t12 =>
    pv (binV .none .gtr t12 (.int .i64 500)) fun t13 =>
    cnd t13 (
      K (.tuple #[(.slice none 0 0), (.int .i64 61)])) (
      K (.tuple #[t10, (.int .i64 0)]))) E) h8) E := by kernel_rfl
theorem l10_1_1_1_1_1_0_1_0_0 {K : Kont} {E : PanK} {σ : Type} {x0 x1 x2 x3 x4 x5 x6 x7 x8 x11 x12 x13 x14 x15 x16 x17 x18 x19 x20 x21 x22 x23 x33 x34 x35 x36 x37 x38 x39 x40 x41 x42 x43 x44 x45 x46 x47 x48 x49 x50 v9 v10 y24 y25 y26 y27 y28 y29 y30 y31 y32 : Value} {h : Hp} (f9 f10 : σ → Value) (I : σ → Hp → Prop) (μ : σ → Nat) (s0 : σ) (e9 : v9 = f9 s0) (e10 : v10 = f10 s0) (h0 : h.wf → ∃ h', h.wk h' ∧ I s0 h')
  (round : ∀ (k1 : Env → Hp → Prop) (s : σ) (j : Nat → Value) (h : Hp), I s h → h.wf → (∀ s' j' h', μ s' < μ s → (h'.wf → ∃ h'', h'.wk h'' ∧ I s' h'') → k1 (m10_1_1_1_1_1_0_1_0_0 x0 x1 x2 x3 x4 x5 x6 x7 x8 x11 x12 x13 x14 x15 x16 x17 x18 x19 x20 x21 x22 x23 x33 x34 x35 x36 x37 x38 x39 x40 x41 x42 x43 x44 x45 x46 x47 x48 x49 x50 (f9 s') (f10 s') j') h') → (
  pv (lenV x0) fun t1 =>
  pv (binV .none .lss (f10 s) t1) fun t2 =>
  cnd t2 (
    nws 3 1 (bsC #[(.int .i64 0)] 1 1 #[(0, (.int .i64 0))]) fun t3 =>
    appX 3 1 8 (f9 s) t3 fun t4 =>
    pv (binV .none .add (f10 s) (.int .i64 1)) fun t5 =>
    k1 (m10_1_1_1_1_1_0_1_0_0 x0 x1 x2 x3 x4 x5 x6 x7 x8 x11 x12 x13 x14 x15 x16 x17 x18 x19 x20 x21 x22 x23 x33 x34 x35 x36 x37 x38 x39 x40 x41 x42 x43 x44 x45 x46 x47 x48 x49 x50 t4 t5 (jf #[x0, x1, x2, x3, x4, x5, x6, x7, x8, t4, t5, x11, x12, x13, x14, x15, x16, x17, x18, x19, x20, x21, x22, x23, (f10 s), x0, t1, t2, (f10 s), t5, (f9 s), t3, t4, x33, x34, x35, x36, x37, x38, x39, x40, x41, x42, x43, x44, x45, x46, x47, x48, x49, x50]))) (
    den Tryz.prog (sel (bodyOf Tryz.f10) [1, 1, 1, 1, 1, 1]) (bodyQ Tryz.prog Tryz.f10.results.toList K E) #[x0, x1, x2, x3, x4, x5, x6, x7, x8, (f9 s), (f10 s), x11, x12, x13, x14, x15, x16, x17, x18, x19, x20, x21, x22, x23, (f10 s), x0, t1, t2, (j 28), (j 29), (j 30), (j 31), (j 32), x33, x34, x35, x36, x37, x38, x39, x40, x41, x42, x43, x44, x45, x46, x47, x48, x49, x50])) h) :
  lp (fun k1 => den Tryz.prog (sel (bodyOf Tryz.f10) [1, 1, 1, 1, 1, 0, 1, 0, 0]) (thenD k1 (blk 0 (thenD (den Tryz.prog (sel (bodyOf Tryz.f10) [1, 1, 1, 1, 1, 1]) (bodyQ Tryz.prog Tryz.f10.results.toList K E)) (bodyQ Tryz.prog Tryz.f10.results.toList K E))))) #[x0, x1, x2, x3, x4, x5, x6, x7, x8, v9, v10, x11, x12, x13, x14, x15, x16, x17, x18, x19, x20, x21, x22, x23, y24, y25, y26, y27, y28, y29, y30, y31, y32, x33, x34, x35, x36, x37, x38, x39, x40, x41, x42, x43, x44, x45, x46, x47, x48, x49, x50] h := by
  subst e9
  subst e10
  have e : (#[x0, x1, x2, x3, x4, x5, x6, x7, x8, (f9 s0), (f10 s0), x11, x12, x13, x14, x15, x16, x17, x18, x19, x20, x21, x22, x23, y24, y25, y26, y27, y28, y29, y30, y31, y32, x33, x34, x35, x36, x37, x38, x39, x40, x41, x42, x43, x44, x45, x46, x47, x48, x49, x50] : Env) = m10_1_1_1_1_1_0_1_0_0 x0 x1 x2 x3 x4 x5 x6 x7 x8 x11 x12 x13 x14 x15 x16 x17 x18 x19 x20 x21 x22 x23 x33 x34 x35 x36 x37 x38 x39 x40 x41 x42 x43 x44 x45 x46 x47 x48 x49 x50 (f9 s0) (f10 s0) (jf #[x0, x1, x2, x3, x4, x5, x6, x7, x8, (f9 s0), (f10 s0), x11, x12, x13, x14, x15, x16, x17, x18, x19, x20, x21, x22, x23, y24, y25, y26, y27, y28, y29, y30, y31, y32, x33, x34, x35, x36, x37, x38, x39, x40, x41, x42, x43, x44, x45, x46, x47, x48, x49, x50]) := by kernel_rfl
  rw [e]
  exact loop_r (fun s j => m10_1_1_1_1_1_0_1_0_0 x0 x1 x2 x3 x4 x5 x6 x7 x8 x11 x12 x13 x14 x15 x16 x17 x18 x19 x20 x21 x22 x23 x33 x34 x35 x36 x37 x38 x39 x40 x41 x42 x43 x44 x45 x46 x47 x48 x49 x50 (f9 s) (f10 s) j) I μ (fun k s j h hI hw next => by rw [t10_1_1_1_1_1_0_1_0_0]; exact round k s j h hI hw next) s0 (jf #[x0, x1, x2, x3, x4, x5, x6, x7, x8, (f9 s0), (f10 s0), x11, x12, x13, x14, x15, x16, x17, x18, x19, x20, x21, x22, x23, y24, y25, y26, y27, y28, y29, y30, y31, y32, x33, x34, x35, x36, x37, x38, x39, x40, x41, x42, x43, x44, x45, x46, x47, x48, x49, x50]) h0

theorem t11 (K : Kont) (E : PanK) (x0 x1 : Value)  : den Tryz.prog (sel (bodyOf Tryz.f11) []) (bodyQ Tryz.prog Tryz.f11.results.toList K E) #[x0, x1, undef, undef, undef, undef, undef, undef, undef, undef, undef, undef, undef, undef, undef, undef, undef, undef, undef, undef, undef, undef, undef, undef, undef, undef, undef, undef, undef, undef, undef, undef, undef, undef, undef, undef, undef, undef, undef, undef, undef, undef] =
  pv (lenV x0) fun t1 =>
  pv (lenV x1) fun t2 =>
  pv (binV .none .neq t1 t2) fun t3 =>
  cnd t3 (
    K (.bool false)) (
    lp (fun k1 => den Tryz.prog (sel (bodyOf Tryz.f11) [1, 1, 0, 1, 0, 0]) (thenD k1 (blk 0 (thenD (den Tryz.prog (sel (bodyOf Tryz.f11) [1, 1, 1]) (bodyQ Tryz.prog Tryz.f11.results.toList K E)) (bodyQ Tryz.prog Tryz.f11.results.toList K E))))) #[x0, x1, undef, undef, (.bool false), (.int .i64 0), x0, t1, x1, t2, t3, undef, undef, undef, undef, undef, undef, undef, undef, undef, undef, undef, undef, undef, undef, undef, undef, undef, undef, undef, undef, undef, undef, undef, undef, undef, undef, undef, undef, undef, undef, undef]) := by kernel_rfl
def m11_1_1_0_1_0_0 (x0 x1 x2 x3 x6 x7 x8 x9 x10 : Value) (v5 : Value) (j : Nat → Value) : Env := #[x0, x1, x2, x3, (j 4), v5, x6, x7, x8, x9, x10, (j 11), (j 12), (j 13), (j 14), (j 15), (j 16), (j 17), (j 18), (j 19), (j 20), (j 21), (j 22), (j 23), (j 24), (j 25), (j 26), (j 27), (j 28), (j 29), (j 30), (j 31), (j 32), (j 33), (j 34), (j 35), (j 36), (j 37), (j 38), (j 39), (j 40), (j 41)]
theorem t11_1_1_0_1_0_0 (K : Kont) (E : PanK) (k1 : Env → Hp → Prop) (x0 x1 x2 x3 x6 x7 x8 x9 x10 v5 : Value) (j : Nat → Value) : den Tryz.prog (sel (bodyOf Tryz.f11) [1, 1, 0, 1, 0, 0]) (thenD k1 (blk 0 (thenD (den Tryz.prog (sel (bodyOf Tryz.f11) [1, 1, 1]) (bodyQ Tryz.prog Tryz.f11.results.toList K E)) (bodyQ Tryz.prog Tryz.f11.results.toList K E)))) (m11_1_1_0_1_0_0 x0 x1 x2 x3 x6 x7 x8 x9 x10 v5 j) =
  pv (lenV x0) fun t1 =>
  pv (binV .none .lss v5 t1) fun t2 =>
  cnd t2 (
    pv (iaV none 5 x0 v5) fun t3 =>
    pv (faV 0 t3) fun t4 =>
    ld false 1 t4 fun t5 =>
    pv (iaV none 5 x1 v5) fun t6 =>
    pv (faV 0 t6) fun t7 =>
    ld false 1 t7 fun t8 =>
    callv Tryz.prog (.func (.func 26) #[] #[]) #[t5, t8] (fun t9 =>
    pv (binV .none .neq t9 (.int .i64 0)) fun t10 =>
    gdK t10 false (fun k => k x0) fun t11 =>
    gdK t10 false (fun k => k v5) fun t12 =>
    gdK t10 false (fun k => pv (iaV none 5 t11 t12) k) fun t13 =>
    gdK t10 false (fun k => pv (faV 1 t13) k) fun t14 =>
    gdK t10 false (fun k => ld true 4 t14 k) fun t15 =>
    gdK t10 false (fun k => k x1) fun t16 =>
    gdK t10 false (fun k => k v5) fun t17 =>
    gdK t10 false (fun k => pv (iaV none 5 t16 t17) k) fun t18 =>
    gdK t10 false (fun k => pv (faV 1 t18) k) fun t19 =>
    gdK t10 false (fun k => ld true 4 t19 k) fun t20 =>
    gdK t10 false (fun k => pv (eqCells .neq [0, 0, 0, 0] t15 t20) k) fun t21 =>
    pv (pickV t10 (.bool true) t21) fun t22 =>
    cnd t22 (
      K (.bool false)) (
      pv (binV .none .add v5 (.int .i64 1)) fun t23 =>
      k1 (m11_1_1_0_1_0_0 x0 x1 x2 x3 x6 x7 x8 x9 x10 t23 (jf #[x0, x1, x2, x3, (j 4), t23, x6, x7, x8, x9, x10, v5, x0, t1, t2, v5, t23, x0, v5, t3, t4, t5, x1, v5, t6, t7, t8, t9, t10, t10, t11, t12, t13, t14, t15, t16, t17, t18, t19, t20, t21, t22])))) E) (
    den Tryz.prog (sel (bodyOf Tryz.f11) [1, 1, 1]) (bodyQ Tryz.prog Tryz.f11.results.toList K E) #[x0, x1, x2, x3, (j 4), v5, x6, x7, x8, x9, x10, v5, x0, t1, t2, (j 15), (j 16), (j 17), (j 18), (j 19), (j 20), (j 21), (j 22), (j 23), (j 24), (j 25), (j 26), (j 27), (j 28), (j 29), (j 30), (j 31), (j 32), (j 33), (j 34), (j 35), (j 36), (j 37), (j 38), (j 39), (j 40), (j 41)]) := by kernel_rfl
theorem t11_1_1_1 (K : Kont) (E : PanK) (x0 x1 x2 x3 x4 x5 x6 x7 x8 x9 x10 x11 x12 x13 x14 x15 x16 x17 x18 x19 x20 x21 x22 x23 x24 x25 x26 x27 x28 x29 x30 x31 x32 x33 x34 x35 x36 x37 x38 x39 x40 x41 : Value)  : den Tryz.prog (sel (bodyOf Tryz.f11) [1, 1, 1]) (bodyQ Tryz.prog Tryz.f11.results.toList K E) #[x0, x1, x2, x3, x4, x5, x6, x7, x8, x9, x10, x11, x12, x13, x14, x15, x16, x17, x18, x19, x20, x21, x22, x23, x24, x25, x26, x27, x28, x29, x30, x31, x32, x33, x34, x35, x36, x37, x38, x39, x40, x41] =
  K (.bool true) := by kernel_rfl
theorem l11_1_1_0_1_0_0 {K : Kont} {E : PanK} {σ : Type} {x0 x1 x2 x3 x6 x7 x8 x9 x10 v5 y4 y11 y12 y13 y14 y15 y16 y17 y18 y19 y20 y21 y22 y23 y24 y25 y26 y27 y28 y29 y30 y31 y32 y33 y34 y35 y36 y37 y38 y39 y40 y41 : Value} {h : Hp} (f5 : σ → Value) (I : σ → Hp → Prop) (μ : σ → Nat) (s0 : σ) (e5 : v5 = f5 s0) (h0 : h.wf → ∃ h', h.wk h' ∧ I s0 h')
  (round : ∀ (k1 : Env → Hp → Prop) (s : σ) (j : Nat → Value) (h : Hp), I s h → h.wf → (∀ s' j' h', μ s' < μ s → (h'.wf → ∃ h'', h'.wk h'' ∧ I s' h'') → k1 (m11_1_1_0_1_0_0 x0 x1 x2 x3 x6 x7 x8 x9 x10 (f5 s') j') h') → (
  pv (lenV x0) fun t1 =>
  pv (binV .none .lss (f5 s) t1) fun t2 =>
  cnd t2 (
    pv (iaV none 5 x0 (f5 s)) fun t3 =>
    pv (faV 0 t3) fun t4 =>
    ld false 1 t4 fun t5 =>
    pv (iaV none 5 x1 (f5 s)) fun t6 =>
    pv (faV 0 t6) fun t7 =>
    ld false 1 t7 fun t8 =>
    callv Tryz.prog (.func (.func 26) #[] #[]) #[t5, t8] (fun t9 =>
    pv (binV .none .neq t9 (.int .i64 0)) fun t10 =>
    gdK t10 false (fun k => k x0) fun t11 =>
    gdK t10 false (fun k => k (f5 s)) fun t12 =>
    gdK t10 false (fun k => pv (iaV none 5 t11 t12) k) fun t13 =>
    gdK t10 false (fun k => pv (faV 1 t13) k) fun t14 =>
    gdK t10 false (fun k => ld true 4 t14 k) fun t15 =>
    gdK t10 false (fun k => k x1) fun t16 =>
    gdK t10 false (fun k => k (f5 s)) fun t17 =>
    gdK t10 false (fun k => pv (iaV none 5 t16 t17) k) fun t18 =>
    gdK t10 false (fun k => pv (faV 1 t18) k) fun t19 =>
    gdK t10 false (fun k => ld true 4 t19 k) fun t20 =>
    gdK t10 false (fun k => pv (eqCells .neq [0, 0, 0, 0] t15 t20) k) fun t21 =>
    pv (pickV t10 (.bool true) t21) fun t22 =>
    cnd t22 (
      K (.bool false)) (
      pv (binV .none .add (f5 s) (.int .i64 1)) fun t23 =>
      k1 (m11_1_1_0_1_0_0 x0 x1 x2 x3 x6 x7 x8 x9 x10 t23 (jf #[x0, x1, x2, x3, (j 4), t23, x6, x7, x8, x9, x10, (f5 s), x0, t1, t2, (f5 s), t23, x0, (f5 s), t3, t4, t5, x1, (f5 s), t6, t7, t8, t9, t10, t10, t11, t12, t13, t14, t15, t16, t17, t18, t19, t20, t21, t22])))) E) (
    den Tryz.prog (sel (bodyOf Tryz.f11) [1, 1, 1]) (bodyQ Tryz.prog Tryz.f11.results.toList K E) #[x0, x1, x2, x3, (j 4), (f5 s), x6, x7, x8, x9, x10, (f5 s), x0, t1, t2, (j 15), (j 16), (j 17), (j 18), (j 19), (j 20), (j 21), (j 22), (j 23), (j 24), (j 25), (j 26), (j 27), (j 28), (j 29), (j 30), (j 31), (j 32), (j 33), (j 34), (j 35), (j 36), (j 37), (j 38), (j 39), (j 40), (j 41)])) h) :
  lp (fun k1 => den Tryz.prog (sel (bodyOf Tryz.f11) [1, 1, 0, 1, 0, 0]) (thenD k1 (blk 0 (thenD (den Tryz.prog (sel (bodyOf Tryz.f11) [1, 1, 1]) (bodyQ Tryz.prog Tryz.f11.results.toList K E)) (bodyQ Tryz.prog Tryz.f11.results.toList K E))))) #[x0, x1, x2, x3, y4, v5, x6, x7, x8, x9, x10, y11, y12, y13, y14, y15, y16, y17, y18, y19, y20, y21, y22, y23, y24, y25, y26, y27, y28, y29, y30, y31, y32, y33, y34, y35, y36, y37, y38, y39, y40, y41] h := by
  subst e5
  have e : (#[x0, x1, x2, x3, y4, (f5 s0), x6, x7, x8, x9, x10, y11, y12, y13, y14, y15, y16, y17, y18, y19, y20, y21, y22, y23, y24, y25, y26, y27, y28, y29, y30, y31, y32, y33, y34, y35, y36, y37, y38, y39, y40, y41] : Env) = m11_1_1_0_1_0_0 x0 x1 x2 x3 x6 x7 x8 x9 x10 (f5 s0) (jf #[x0, x1, x2, x3, y4, (f5 s0), x6, x7, x8, x9, x10, y11, y12, y13, y14, y15, y16, y17, y18, y19, y20, y21, y22, y23, y24, y25, y26, y27, y28, y29, y30, y31, y32, y33, y34, y35, y36, y37, y38, y39, y40, y41]) := by kernel_rfl
  rw [e]
  exact loop_r (fun s j => m11_1_1_0_1_0_0 x0 x1 x2 x3 x6 x7 x8 x9 x10 (f5 s) j) I μ (fun k s j h hI hw next => by rw [t11_1_1_0_1_0_0]; exact round k s j h hI hw next) s0 (jf #[x0, x1, x2, x3, y4, (f5 s0), x6, x7, x8, x9, x10, y11, y12, y13, y14, y15, y16, y17, y18, y19, y20, y21, y22, y23, y24, y25, y26, y27, y28, y29, y30, y31, y32, y33, y34, y35, y36, y37, y38, y39, y40, y41]) h0

theorem t12 (K : Kont) (E : PanK) (x0 x1 : Value)  : den Tryz.prog (sel (bodyOf Tryz.f12) []) (bodyQ Tryz.prog Tryz.f12.results.toList K E) #[x0, x1, undef, undef, undef, undef, undef, undef, undef, undef, undef, undef, undef, undef, undef, undef, undef, undef, undef, undef, undef, undef, undef, undef, undef] =
  nw 36 (Value.cells x1).toList fun t1 =>
  callv Tryz.prog (.func (.func 29) #[] #[]) #[x0] (fun t2 =>
  pv (unV .not t2) fun t3 =>
  cnd t3 (
    K (.int .u16 30)) (
    pv (faV 0 t1) fun t4 =>
    ld false 1 t4 fun t5 =>
    callv Tryz.prog (.func (.func 30) #[] #[]) #[x0, t5, (.func (.func 27) #[] #[])] (fun t6 =>
    pv (unV .not t6) fun t7 =>
    cnd t7 (
      K (.int .u16 40)) (
      pv (faV 1 t1) fun t8 =>
      ld false 1 t8 fun t9 =>
      pv (faV 2 t1) fun t10 =>
      ld false 1 t10 fun t11 =>
      callv Tryz.prog (.func (.func 31) #[] #[]) #[x0, t9, t11] (fun t12 =>
      pv (unV .not t12) fun t13 =>
      cnd t13 (
        K (.int .u16 60)) (
        K (.int .u16 0))) E)) E)) E := by kernel_rfl

theorem t13 (K : Kont) (E : PanK) (x0 x1 : Value)  : den Tryz.prog (sel (bodyOf Tryz.f13) []) (bodyQ Tryz.prog Tryz.f13.results.toList K E) #[x0, x1, undef, undef, undef, undef, undef, undef, undef, undef, undef, undef, undef, undef, undef, undef, undef, undef, undef, undef, undef, undef, undef, undef, undef, undef, undef, undef, undef, undef, undef, undef, undef, undef, undef, undef, undef, undef, undef, undef, undef, undef, undef, undef, undef, undef, undef, undef, undef, undef, undef, undef, undef, undef, undef, undef, undef, undef, undef, undef, undef, undef, undef, undef, undef, undef, undef, undef, undef, undef, undef, undef, undef, undef] =
  nw 51 (Value.cells x1).toList fun t1 =>
  lp (fun k1 => den Tryz.prog (sel (bodyOf Tryz.f13) [1, 1, 1, 0, 0, 0]) (thenD k1 (blk 0 (thenD (den Tryz.prog (sel (bodyOf Tryz.f13) [1, 1, 1, 1]) (bodyQ Tryz.prog Tryz.f13.results.toList K E)) (bodyQ Tryz.prog Tryz.f13.results.toList K E))))) #[x0, x1, undef, t1, (.slice none 0 0), (.slice none 0 0), (.int .i64 0), undef, undef, undef, undef, undef, undef, undef, undef, undef, undef, undef, undef, undef, undef, undef, undef, undef, undef, undef, undef, undef, undef, undef, undef, undef, undef, undef, undef, undef, undef, undef, undef, undef, undef, undef, undef, undef, undef, undef, undef, undef, undef, undef, undef, undef, undef, undef, undef, undef, undef, undef, undef, undef, undef, undef, undef, undef, undef, undef, undef, undef, undef, undef, undef, undef, undef, undef] := by kernel_rfl
def m13_1_1_1_0_0_0 (x0 x1 x2 x3 x4 x7 x32 x33 x34 x35 x36 x37 x38 x39 x40 x41 x42 x43 x44 x45 x46 x47 x48 x49 x50 x51 x52 x53 x54 x55 x56 x57 x58 x59 x60 x61 x62 x63 x64 x65 x66 x67 x68 x69 x70 x71 x72 x73 : Value) (v5 v6 : Value) (j : Nat → Value) : Env := #[x0, x1, x2, x3, x4, v5, v6, x7, (j 8), (j 9), (j 10), (j 11), (j 12), (j 13), (j 14), (j 15), (j 16), (j 17), (j 18), (j 19), (j 20), (j 21), (j 22), (j 23), (j 24), (j 25), (j 26), (j 27), (j 28), (j 29), (j 30), (j 31), x32, x33, x34, x35, x36, x37, x38, x39, x40, x41, x42, x43, x44, x45, x46, x47, x48, x49, x50, x51, x52, x53, x54, x55, x56, x57, x58, x59, x60, x61, x62, x63, x64, x65, x66, x67, x68, x69, x70, x71, x72, x73]
theorem t13_1_1_1_0_0_0 (K : Kont) (E : PanK) (k1 : Env → Hp → Prop) (x0 x1 x2 x3 x4 x7 x32 x33 x34 x35 x36 x37 x38 x39 x40 x41 x42 x43 x44 x45 x46 x47 x48 x49 x50 x51 x52 x53 x54 x55 x56 x57 x58 x59 x60 x61 x62 x63 x64 x65 x66 x67 x68 x69 x70 x71 x72 x73 v5 v6 : Value) (j : Nat → Value) : den Tryz.prog (sel (bodyOf Tryz.f13) [1, 1, 1, 0, 0, 0]) (thenD k1 (blk 0 (thenD (den Tryz.prog (sel (bodyOf Tryz.f13) [1, 1, 1, 1]) (bodyQ Tryz.prog Tryz.f13.results.toList K E)) (bodyQ Tryz.prog Tryz.f13.results.toList K E)))) (m13_1_1_1_0_0_0 x0 x1 x2 x3 x4 x7 x32 x33 x34 x35 x36 x37 x38 x39 x40 x41 x42 x43 x44 x45 x46 x47 x48 x49 x50 x51 x52 x53 x54 x55 x56 x57 x58 x59 x60 x61 x62 x63 x64 x65 x66 x67 x68 x69 x70 x71 x72 x73 v5 v6 j) =
  pv (lenV x0) fun t1 =>
  pv (binV .none .lss v6 t1) fun t2 =>
  gdK t2 true (fun k => k x0) fun t3 =>
  gdK t2 true (fun k => k v6) fun t4 =>
  gdK t2 true (fun k => pv (iaV none 5 t3 t4) k) fun t5 =>
  gdK t2 true (fun k => pv (faV 0 t5) k) fun t6 =>
  gdK t2 true (fun k => ld false 1 t6 k) fun t7 =>
  gdK t2 true (fun k => pv (faV 0 x3) k) fun t8 =>
  gdK t2 true (fun k => ld false 1 t8 k) fun t9 =>
  gdK t2 true (fun k => callv Tryz.prog (.func (.func 26) #[] #[]) #[t7, t9] k E) fun t10 =>
  gdK t2 true (fun k => pv (binV .none .lss t10 (.int .i64 0)) k) fun t11 =>
  pv (pickV t2 t11 (.bool false)) fun t12 =>
  cnd t12 (
    pv (iaV none 5 x0 v6) fun t13 =>
    ld true 5 t13 fun t14 =>
    nws 51 1 (bsC #[(.slice none 0 0), (.int .i64 0), (.int .i64 0), (.int .i64 0), (.int .i64 0)] 5 1 #[(0, t14)]) fun t15 =>
    appX 51 5 56 v5 t15 fun t16 =>
    pv (binV .none .add v6 (.int .i64 1)) fun t17 =>
    k1 (m13_1_1_1_0_0_0 x0 x1 x2 x3 x4 x7 x32 x33 x34 x35 x36 x37 x38 x39 x40 x41 x42 x43 x44 x45 x46 x47 x48 x49 x50 x51 x52 x53 x54 x55 x56 x57 x58 x59 x60 x61 x62 x63 x64 x65 x66 x67 x68 x69 x70 x71 x72 x73 t16 t17 (jf #[x0, x1, x2, x3, x4, t16, t17, x7, v6, x0, t1, t2, t2, t3, t4, t5, t6, t7, t8, t9, t10, t11, t12, v5, x0, v6, t13, t14, t15, t16, v6, t17, x32, x33, x34, x35, x36, x37, x38, x39, x40, x41, x42, x43, x44, x45, x46, x47, x48, x49, x50, x51, x52, x53, x54, x55, x56, x57, x58, x59, x60, x61, x62, x63, x64, x65, x66, x67, x68, x69, x70, x71, x72, x73]))) (
    den Tryz.prog (sel (bodyOf Tryz.f13) [1, 1, 1, 1]) (bodyQ Tryz.prog Tryz.f13.results.toList K E) #[x0, x1, x2, x3, x4, v5, v6, x7, v6, x0, t1, t2, t2, t3, t4, t5, t6, t7, t8, t9, t10, t11, t12, (j 23), (j 24), (j 25), (j 26), (j 27), (j 28), (j 29), (j 30), (j 31), x32, x33, x34, x35, x36, x37, x38, x39, x40, x41, x42, x43, x44, x45, x46, x47, x48, x49, x50, x51, x52, x53, x54, x55, x56, x57, x58, x59, x60, x61, x62, x63, x64, x65, x66, x67, x68, x69, x70, x71, x72, x73]) := by kernel_rfl
theorem t13_1_1_1_1 (K : Kont) (E : PanK) (x0 x1 x2 x3 x4 x5 x6 x7 x8 x9 x10 x11 x12 x13 x14 x15 x16 x17 x18 x19 x20 x21 x22 x23 x24 x25 x26 x27 x28 x29 x30 x31 x32 x33 x34 x35 x36 x37 x38 x39 x40 x41 x42 x43 x44 x45 x46 x47 x48 x49 x50 x51 x52 x53 x54 x55 x56 x57 x58 x59 x60 x61 x62 x63 x64 x65 x66 x67 x68 x69 x70 x71 x72 x73 : Value)  : den Tryz.prog (sel (bodyOf Tryz.f13) [1, 1, 1, 1]) (bodyQ Tryz.prog Tryz.f13.results.toList K E) #[x0, x1, x2, x3, x4, x5, x6, x7, x8, x9, x10, x11, x12, x13, x14, x15, x16, x17, x18, x19, x20, x21, x22, x23, x24, x25, x26, x27, x28, x29, x30, x31, x32, x33, x34, x35, x36, x37, x38, x39, x40, x41, x42, x43, x44, x45, x46, x47, x48, x49, x50, x51, x52, x53, x54, x55, x56, x57, x58, x59, x60, x61, x62, x63, x64, x65, x66, x67, x68, x69, x70, x71, x72, x73] =
  pv (faV 0 x3) fun t1 =>
  ld false 1 t1 fun t2 =>
  pv (faV 1 x3) fun t3 =>
  ld true 4 t3 fun t4 =>
  bth (
    callv Tryz.prog (.func (.func 32) #[] #[]) #[t2] (fun t5 h6 => (ldV h6 true 4 t3 t4) ∧ (
      pv (bdC #[(.slice none 0 0), (.int .i64 0), (.int .i64 0), (.int .i64 0), (.int .i64 0)] [(0, 1), (1, 4)] #[(0, t5), (1, t4)]) fun t7 =>
      nw 51 [(.slice none 0 0), (.int .i64 0), (.int .i64 0), (.int .i64 0), (.int .i64 0)] (fun t8 h9 => (ldV h9 true 4 t3 t4) ∧ (
        st 5 t8 t7 fun _ =>
        pv (lenV x0) fun t10 =>
        pv (binV .none .lss x6 t10) fun t11 =>
        gdK t11 true (fun k => k x0) fun t12 =>
        gdK t11 true (fun k => k x6) fun t13 =>
        gdK t11 true (fun k => pv (iaV none 5 t12 t13) k) fun t14 =>
        gdK t11 true (fun k => pv (faV 0 t14) k) fun t15 =>
        gdK t11 true (fun k => ld false 1 t15 k) fun t16 =>
        gdK t11 true (fun k => pv (faV 0 x3) k) fun t17 =>
        gdK t11 true (fun k => ld false 1 t17 k) fun t18 =>
        gdK t11 true (fun k => callv Tryz.prog (.func (.func 26) #[] #[]) #[t16, t18] k E) fun t19 =>
        gdK t11 true (fun k => pv (binV .none .eql t19 (.int .i64 0)) k) fun t20 =>
        pv (pickV t11 t20 (.bool false)) fun t21 =>
        cnd t21 (
          pv (iaV none 5 x0 x6) fun t22 =>
          pv (faV 1 t22) fun t23 =>
          ld true 4 t23 fun t24 =>
          pv (faV 1 x3) fun t25 =>
          ld true 4 t25 fun t26 =>
          callv Tryz.prog (.func (.func 33) #[] #[]) #[t24, t26] (fun t27 =>
          pv (faV 1 t8) fun t28 =>
          st 4 t28 t27 fun _ =>
          pv (binV .none .add x6 (.int .i64 1)) fun t29 =>
          den Tryz.prog (sel (bodyOf Tryz.f13) [1, 1, 1, 1, 1, 1]) (bodyQ Tryz.prog Tryz.f13.results.toList K E) #[x0, x1, x2, x3, x4, x5, t29, t8, x8, x9, x10, x11, x12, x13, x14, x15, x16, x17, x18, x19, x20, x21, x22, x23, x24, x25, x26, x27, x28, x29, x30, x31, t1, t2, t5, t3, t4, t7, x6, x0, t10, t11, t11, t12, t13, t14, t15, t16, t17, t18, t19, t20, t21, x0, x6, t22, t23, t24, t25, t26, t27, t28, x6, t29, x64, x65, x66, x67, x68, x69, x70, x71, x72, x73]) E) (
          den Tryz.prog (sel (bodyOf Tryz.f13) [1, 1, 1, 1, 1, 1]) (bodyQ Tryz.prog Tryz.f13.results.toList K E) #[x0, x1, x2, x3, x4, x5, x6, t8, x8, x9, x10, x11, x12, x13, x14, x15, x16, x17, x18, x19, x20, x21, x22, x23, x24, x25, x26, x27, x28, x29, x30, x31, t1, t2, t5, t3, t4, t7, x6, x0, t10, t11, t11, t12, t13, t14, t15, t16, t17, t18, t19, t20, t21, x53, x54, x55, x56, x57, x58, x59, x60, x61, x62, x63, x64, x65, x66, x67, x68, x69, x70, x71, x72, x73])) h9)) h6) E) (
    nw 51 [(.slice none 0 0), (.int .i64 0), (.int .i64 0), (.int .i64 0), (.int .i64 0)] (fun t30 h31 => (ldV h31 true 4 t3 t4) ∧ (ldV h31 false 1 t1 t2) ∧ (
      callv Tryz.prog (.func (.func 32) #[] #[]) #[t2] (fun t32 h33 => (ldV h33 true 4 t3 t4) ∧ (
        pv (bdC #[(.slice none 0 0), (.int .i64 0), (.int .i64 0), (.int .i64 0), (.int .i64 0)] [(0, 1), (1, 4)] #[(0, t32), (1, t4)]) fun t34 =>
        st 5 t30 t34 fun _ =>
        pv (lenV x0) fun t35 =>
        pv (binV .none .lss x6 t35) fun t36 =>
        gdK t36 true (fun k => k x0) fun t37 =>
        gdK t36 true (fun k => k x6) fun t38 =>
        gdK t36 true (fun k => pv (iaV none 5 t37 t38) k) fun t39 =>
        gdK t36 true (fun k => pv (faV 0 t39) k) fun t40 =>
        gdK t36 true (fun k => ld false 1 t40 k) fun t41 =>
        gdK t36 true (fun k => pv (faV 0 x3) k) fun t42 =>
        gdK t36 true (fun k => ld false 1 t42 k) fun t43 =>
        gdK t36 true (fun k => callv Tryz.prog (.func (.func 26) #[] #[]) #[t41, t43] k E) fun t44 =>
        gdK t36 true (fun k => pv (binV .none .eql t44 (.int .i64 0)) k) fun t45 =>
        pv (pickV t36 t45 (.bool false)) fun t46 =>
        cnd t46 (
          pv (iaV none 5 x0 x6) fun t47 =>
          pv (faV 1 t47) fun t48 =>
          ld true 4 t48 fun t49 =>
          pv (faV 1 x3) fun t50 =>
          ld true 4 t50 fun t51 =>
          callv Tryz.prog (.func (.func 33) #[] #[]) #[t49, t51] (fun t52 =>
          pv (faV 1 t30) fun t53 =>
          st 4 t53 t52 fun _ =>
          pv (binV .none .add x6 (.int .i64 1)) fun t54 =>
          den Tryz.prog (sel (bodyOf Tryz.f13) [1, 1, 1, 1, 1, 1]) (bodyQ Tryz.prog Tryz.f13.results.toList K E) #[x0, x1, x2, x3, x4, x5, t54, t30, x8, x9, x10, x11, x12, x13, x14, x15, x16, x17, x18, x19, x20, x21, x22, x23, x24, x25, x26, x27, x28, x29, x30, x31, t1, t2, t32, t3, t4, t34, x6, x0, t35, t36, t36, t37, t38, t39, t40, t41, t42, t43, t44, t45, t46, x0, x6, t47, t48, t49, t50, t51, t52, t53, x6, t54, x64, x65, x66, x67, x68, x69, x70, x71, x72, x73]) E) (
          den Tryz.prog (sel (bodyOf Tryz.f13) [1, 1, 1, 1, 1, 1]) (bodyQ Tryz.prog Tryz.f13.results.toList K E) #[x0, x1, x2, x3, x4, x5, x6, t30, x8, x9, x10, x11, x12, x13, x14, x15, x16, x17, x18, x19, x20, x21, x22, x23, x24, x25, x26, x27, x28, x29, x30, x31, t1, t2, t32, t3, t4, t34, x6, x0, t35, t36, t36, t37, t38, t39, t40, t41, t42, t43, t44, t45, t46, x53, x54, x55, x56, x57, x58, x59, x60, x61, x62, x63, x64, x65, x66, x67, x68, x69, x70, x71, x72, x73])) h33) E) h31)) := by kernel_rfl
theorem t13_1_1_1_1_1_1 (K : Kont) (E : PanK) (x0 x1 x2 x3 x4 x5 x6 x7 x8 x9 x10 x11 x12 x13 x14 x15 x16 x17 x18 x19 x20 x21 x22 x23 x24 x25 x26 x27 x28 x29 x30 x31 x32 x33 x34 x35 x36 x37 x38 x39 x40 x41 x42 x43 x44 x45 x46 x47 x48 x49 x50 x51 x52 x53 x54 x55 x56 x57 x58 x59 x60 x61 x62 x63 x64 x65 x66 x67 x68 x69 x70 x71 x72 x73 : Value)  : den Tryz.prog (sel (bodyOf Tryz.f13) [1, 1, 1, 1, 1, 1]) (bodyQ Tryz.prog Tryz.f13.results.toList K E) #[x0, x1, x2, x3, x4, x5, x6, x7, x8, x9, x10, x11, x12, x13, x14, x15, x16, x17, x18, x19, x20, x21, x22, x23, x24, x25, x26, x27, x28, x29, x30, x31, x32, x33, x34, x35, x36, x37, x38, x39, x40, x41, x42, x43, x44, x45, x46, x47, x48, x49, x50, x51, x52, x53, x54, x55, x56, x57, x58, x59, x60, x61, x62, x63, x64, x65, x66, x67, x68, x69, x70, x71, x72, x73] =
  ld true 5 x7 fun t1 =>
  nws 51 1 (bsC #[(.slice none 0 0), (.int .i64 0), (.int .i64 0), (.int .i64 0), (.int .i64 0)] 5 1 #[(0, t1)]) fun t2 =>
  appX 51 5 56 x5 t2 fun t3 =>
  pv (slV 5 x0 (some x6) none none) fun t4 =>
  appX 51 5 56 t3 t4 fun t5 =>
  K t5 := by kernel_rfl
theorem l13_1_1_1_0_0_0 {K : Kont} {E : PanK} {σ : Type} {x0 x1 x2 x3 x4 x7 x32 x33 x34 x35 x36 x37 x38 x39 x40 x41 x42 x43 x44 x45 x46 x47 x48 x49 x50 x51 x52 x53 x54 x55 x56 x57 x58 x59 x60 x61 x62 x63 x64 x65 x66 x67 x68 x69 x70 x71 x72 x73 v5 v6 y8 y9 y10 y11 y12 y13 y14 y15 y16 y17 y18 y19 y20 y21 y22 y23 y24 y25 y26 y27 y28 y29 y30 y31 : Value} {h : Hp} (f5 f6 : σ → Value) (I : σ → Hp → Prop) (μ : σ → Nat) (s0 : σ) (e5 : v5 = f5 s0) (e6 : v6 = f6 s0) (h0 : h.wf → ∃ h', h.wk h' ∧ I s0 h')
  (round : ∀ (k1 : Env → Hp → Prop) (s : σ) (j : Nat → Value) (h : Hp), I s h → h.wf → (∀ s' j' h', μ s' < μ s → (h'.wf → ∃ h'', h'.wk h'' ∧ I s' h'') → k1 (m13_1_1_1_0_0_0 x0 x1 x2 x3 x4 x7 x32 x33 x34 x35 x36 x37 x38 x39 x40 x41 x42 x43 x44 x45 x46 x47 x48 x49 x50 x51 x52 x53 x54 x55 x56 x57 x58 x59 x60 x61 x62 x63 x64 x65 x66 x67 x68 x69 x70 x71 x72 x73 (f5 s') (f6 s') j') h') → (
  pv (lenV x0) fun t1 =>
  pv (binV .none .lss (f6 s) t1) fun t2 =>
  gdK t2 true (fun k => k x0) fun t3 =>
  gdK t2 true (fun k => k (f6 s)) fun t4 =>
  gdK t2 true (fun k => pv (iaV none 5 t3 t4) k) fun t5 =>
  gdK t2 true (fun k => pv (faV 0 t5) k) fun t6 =>
  gdK t2 true (fun k => ld false 1 t6 k) fun t7 =>
  gdK t2 true (fun k => pv (faV 0 x3) k) fun t8 =>
  gdK t2 true (fun k => ld false 1 t8 k) fun t9 =>
  gdK t2 true (fun k => callv Tryz.prog (.func (.func 26) #[] #[]) #[t7, t9] k E) fun t10 =>
  gdK t2 true (fun k => pv (binV .none .lss t10 (.int .i64 0)) k) fun t11 =>
  pv (pickV t2 t11 (.bool false)) fun t12 =>
  cnd t12 (
    pv (iaV none 5 x0 (f6 s)) fun t13 =>
    ld true 5 t13 fun t14 =>
    nws 51 1 (bsC #[(.slice none 0 0), (.int .i64 0), (.int .i64 0), (.int .i64 0), (.int .i64 0)] 5 1 #[(0, t14)]) fun t15 =>
    appX 51 5 56 (f5 s) t15 fun t16 =>
    pv (binV .none .add (f6 s) (.int .i64 1)) fun t17 =>
    k1 (m13_1_1_1_0_0_0 x0 x1 x2 x3 x4 x7 x32 x33 x34 x35 x36 x37 x38 x39 x40 x41 x42 x43 x44 x45 x46 x47 x48 x49 x50 x51 x52 x53 x54 x55 x56 x57 x58 x59 x60 x61 x62 x63 x64 x65 x66 x67 x68 x69 x70 x71 x72 x73 t16 t17 (jf #[x0, x1, x2, x3, x4, t16, t17, x7, (f6 s), x0, t1, t2, t2, t3, t4, t5, t6, t7, t8, t9, t10, t11, t12, (f5 s), x0, (f6 s), t13, t14, t15, t16, (f6 s), t17, x32, x33, x34, x35, x36, x37, x38, x39, x40, x41, x42, x43, x44, x45, x46, x47, x48, x49, x50, x51, x52, x53, x54, x55, x56, x57, x58, x59, x60, x61, x62, x63, x64, x65, x66, x67, x68, x69, x70, x71, x72, x73]))) (
    den Tryz.prog (sel (bodyOf Tryz.f13) [1, 1, 1, 1]) (bodyQ Tryz.prog Tryz.f13.results.toList K E) #[x0, x1, x2, x3, x4, (f5 s), (f6 s), x7, (f6 s), x0, t1, t2, t2, t3, t4, t5, t6, t7, t8, t9, t10, t11, t12, (j 23), (j 24), (j 25), (j 26), (j 27), (j 28), (j 29), (j 30), (j 31), x32, x33, x34, x35, x36, x37, x38, x39, x40, x41, x42, x43, x44, x45, x46, x47, x48, x49, x50, x51, x52, x53, x54, x55, x56, x57, x58, x59, x60, x61, x62, x63, x64, x65, x66, x67, x68, x69, x70, x71, x72, x73])) h) :
  lp (fun k1 => den Tryz.prog (sel (bodyOf Tryz.f13) [1, 1, 1, 0, 0, 0]) (thenD k1 (blk 0 (thenD (den Tryz.prog (sel (bodyOf Tryz.f13) [1, 1, 1, 1]) (bodyQ Tryz.prog Tryz.f13.results.toList K E)) (bodyQ Tryz.prog Tryz.f13.results.toList K E))))) #[x0, x1, x2, x3, x4, v5, v6, x7, y8, y9, y10, y11, y12, y13, y14, y15, y16, y17, y18, y19, y20, y21, y22, y23, y24, y25, y26, y27, y28, y29, y30, y31, x32, x33, x34, x35, x36, x37, x38, x39, x40, x41, x42, x43, x44, x45, x46, x47, x48, x49, x50, x51, x52, x53, x54, x55, x56, x57, x58, x59, x60, x61, x62, x63, x64, x65, x66, x67, x68, x69, x70, x71, x72, x73] h := by
  subst e5
  subst e6
  have e : (#[x0, x1, x2, x3, x4, (f5 s0), (f6 s0), x7, y8, y9, y10, y11, y12, y13, y14, y15, y16, y17, y18, y19, y20, y21, y22, y23, y24, y25, y26, y27, y28, y29, y30, y31, x32, x33, x34, x35, x36, x37, x38, x39, x40, x41, x42, x43, x44, x45, x46, x47, x48, x49, x50, x51, x52, x53, x54, x55, x56, x57, x58, x59, x60, x61, x62, x63, x64, x65, x66, x67, x68, x69, x70, x71, x72, x73] : Env) = m13_1_1_1_0_0_0 x0 x1 x2 x3 x4 x7 x32 x33 x34 x35 x36 x37 x38 x39 x40 x41 x42 x43 x44 x45 x46 x47 x48 x49 x50 x51 x52 x53 x54 x55 x56 x57 x58 x59 x60 x61 x62 x63 x64 x65 x66 x67 x68 x69 x70 x71 x72 x73 (f5 s0) (f6 s0) (jf #[x0, x1, x2, x3, x4, (f5 s0), (f6 s0), x7, y8, y9, y10, y11, y12, y13, y14, y15, y16, y17, y18, y19, y20, y21, y22, y23, y24, y25, y26, y27, y28, y29, y30, y31, x32, x33, x34, x35, x36, x37, x38, x39, x40, x41, x42, x43, x44, x45, x46, x47, x48, x49, x50, x51, x52, x53, x54, x55, x56, x57, x58, x59, x60, x61, x62, x63, x64, x65, x66, x67, x68, x69, x70, x71, x72, x73]) := by kernel_rfl
  rw [e]
  exact loop_r (fun s j => m13_1_1_1_0_0_0 x0 x1 x2 x3 x4 x7 x32 x33 x34 x35 x36 x37 x38 x39 x40 x41 x42 x43 x44 x45 x46 x47 x48 x49 x50 x51 x52 x53 x54 x55 x56 x57 x58 x59 x60 x61 x62 x63 x64 x65 x66 x67 x68 x69 x70 x71 x72 x73 (f5 s) (f6 s) j) I μ (fun k s j h hI hw next => by rw [t13_1_1_1_0_0_0]; exact round k s j h hI hw next) s0 (jf #[x0, x1, x2, x3, x4, (f5 s0), (f6 s0), x7, y8, y9, y10, y11, y12, y13, y14, y15, y16, y17, y18, y19, y20, y21, y22, y23, y24, y25, y26, y27, y28, y29, y30, y31, x32, x33, x34, x35, x36, x37, x38, x39, x40, x41, x42, x43, x44, x45, x46, x47, x48, x49, x50, x51, x52, x53, x54, x55, x56, x57, x58, x59, x60, x61, x62, x63, x64, x65, x66, x67, x68, x69, x70, x71, x72, x73]) h0

theorem t14 (K : Kont) (E : PanK) (x0 : Value)  : den Tryz.prog (sel (bodyOf Tryz.f14) []) (bodyQ Tryz.prog Tryz.f14.results.toList K E) #[x0, undef, undef, undef, undef, undef, undef] =
  nw 49 [(.int .i64 0), (.int .i64 0), (.int .i64 0), (.int .i64 0)] fun t1 =>
  pv (bdC #[(.int .i64 0), (.int .i64 0), (.int .i64 0), (.int .i64 0)] [(0, 1), (1, 1), (2, 1), (3, 1)] #[(0, (.int .i64 1)), (1, x0), (2, x0), (3, x0)]) fun t2 =>
  st 4 t1 t2 fun _ =>
  ld true 4 t1 fun t3 =>
  K t3 := by kernel_rfl

theorem t15 (K : Kont) (E : PanK) (x0 x1 : Value)  : den Tryz.prog (sel (bodyOf Tryz.f15) []) (bodyQ Tryz.prog Tryz.f15.results.toList K E) #[x0, x1, undef, undef, undef, undef, undef, undef, undef, undef, undef, undef, undef, undef, undef, undef, undef, undef, undef, undef, undef, undef, undef, undef, undef, undef, undef, undef, undef, undef, undef, undef, undef, undef] =
  lp (fun k1 => den Tryz.prog (sel (bodyOf Tryz.f15) [1, 1, 0, 1, 0, 0]) (thenD k1 (blk 0 (thenD (den Tryz.prog (sel (bodyOf Tryz.f15) [1, 1, 1]) (bodyQ Tryz.prog Tryz.f15.results.toList K E)) (bodyQ Tryz.prog Tryz.f15.results.toList K E))))) #[x0, x1, undef, undef, (.slice none 0 0), (.slice none 0 0), (.int .i64 0), undef, undef, undef, undef, undef, undef, undef, undef, undef, undef, undef, undef, undef, undef, undef, undef, undef, undef, undef, undef, undef, undef, undef, undef, undef, undef, undef] := by kernel_rfl
def m15_1_1_0_1_0_0 (x0 x1 x2 x3 x4 x33 : Value) (v5 v6 : Value) (j : Nat → Value) : Env := #[x0, x1, x2, x3, x4, v5, v6, (j 7), (j 8), (j 9), (j 10), (j 11), (j 12), (j 13), (j 14), (j 15), (j 16), (j 17), (j 18), (j 19), (j 20), (j 21), (j 22), (j 23), (j 24), (j 25), (j 26), (j 27), (j 28), (j 29), (j 30), (j 31), (j 32), x33]
theorem t15_1_1_0_1_0_0 (K : Kont) (E : PanK) (k1 : Env → Hp → Prop) (x0 x1 x2 x3 x4 x33 v5 v6 : Value) (j : Nat → Value) : den Tryz.prog (sel (bodyOf Tryz.f15) [1, 1, 0, 1, 0, 0]) (thenD k1 (blk 0 (thenD (den Tryz.prog (sel (bodyOf Tryz.f15) [1, 1, 1]) (bodyQ Tryz.prog Tryz.f15.results.toList K E)) (bodyQ Tryz.prog Tryz.f15.results.toList K E)))) (m15_1_1_0_1_0_0 x0 x1 x2 x3 x4 x33 v5 v6 j) =
  pv (lenV x0) fun t1 =>
  pv (binV .none .lss v6 t1) fun t2 =>
  cnd t2 (
    pv (lenV x1) fun t3 =>
    pv (binV .none .lss v6 t3) fun t4 =>
    cnd t4 (
      pv (iaV none 1 x1 v6) fun t5 =>
      ld false 1 t5 fun t6 =>
      pv (cvV .i64 t6) fun t7 =>
      den Tryz.prog (sel (bodyOf Tryz.f15) [1, 1, 0, 1, 0, 0, 1, 0, 0, 1, 1]) (blk 1 (thenD (den Tryz.prog (sel (bodyOf Tryz.f15) [1, 1, 0, 1, 0, 0, 1, 1]) (thenD k1 (blk 0 (thenD (den Tryz.prog (sel (bodyOf Tryz.f15) [1, 1, 1]) (bodyQ Tryz.prog Tryz.f15.results.toList K E)) (bodyQ Tryz.prog Tryz.f15.results.toList K E))))) (thenD k1 (blk 0 (thenD (den Tryz.prog (sel (bodyOf Tryz.f15) [1, 1, 1]) (bodyQ Tryz.prog Tryz.f15.results.toList K E)) (bodyQ Tryz.prog Tryz.f15.results.toList K E)))))) #[x0, x1, x2, x3, x4, v5, v6, t7, v6, x0, t1, t2, (j 12), (j 13), v6, x1, t3, t4, x1, v6, t5, t6, t7, (j 23), (j 24), (j 25), (j 26), (j 27), (j 28), (j 29), (j 30), (j 31), (j 32), x33]) (
      den Tryz.prog (sel (bodyOf Tryz.f15) [1, 1, 0, 1, 0, 0, 1, 0, 0, 1, 1]) (blk 1 (thenD (den Tryz.prog (sel (bodyOf Tryz.f15) [1, 1, 0, 1, 0, 0, 1, 1]) (thenD k1 (blk 0 (thenD (den Tryz.prog (sel (bodyOf Tryz.f15) [1, 1, 1]) (bodyQ Tryz.prog Tryz.f15.results.toList K E)) (bodyQ Tryz.prog Tryz.f15.results.toList K E))))) (thenD k1 (blk 0 (thenD (den Tryz.prog (sel (bodyOf Tryz.f15) [1, 1, 1]) (bodyQ Tryz.prog Tryz.f15.results.toList K E)) (bodyQ Tryz.prog Tryz.f15.results.toList K E)))))) #[x0, x1, x2, x3, x4, v5, v6, (.int .i64 0), v6, x0, t1, t2, (j 12), (j 13), v6, x1, t3, t4, (j 18), (j 19), (j 20), (j 21), (j 22), (j 23), (j 24), (j 25), (j 26), (j 27), (j 28), (j 29), (j 30), (j 31), (j 32), x33])) (
    den Tryz.prog (sel (bodyOf Tryz.f15) [1, 1, 1]) (bodyQ Tryz.prog Tryz.f15.results.toList K E) #[x0, x1, x2, x3, x4, v5, v6, (j 7), v6, x0, t1, t2, (j 12), (j 13), (j 14), (j 15), (j 16), (j 17), (j 18), (j 19), (j 20), (j 21), (j 22), (j 23), (j 24), (j 25), (j 26), (j 27), (j 28), (j 29), (j 30), (j 31), (j 32), x33]) := by kernel_rfl
theorem t15_1_1_1 (K : Kont) (E : PanK) (x0 x1 x2 x3 x4 x5 x6 x7 x8 x9 x10 x11 x12 x13 x14 x15 x16 x17 x18 x19 x20 x21 x22 x23 x24 x25 x26 x27 x28 x29 x30 x31 x32 x33 : Value)  : den Tryz.prog (sel (bodyOf Tryz.f15) [1, 1, 1]) (bodyQ Tryz.prog Tryz.f15.results.toList K E) #[x0, x1, x2, x3, x4, x5, x6, x7, x8, x9, x10, x11, x12, x13, x14, x15, x16, x17, x18, x19, x20, x21, x22, x23, x24, x25, x26, x27, x28, x29, x30, x31, x32, x33] =
  K x5 := by kernel_rfl
theorem t15_1_1_0_1_0_0_1_0_0_1_1 (K : Kont) (E : PanK) (k1 : Env → Hp → Prop) (x0 x1 x2 x3 x4 x5 x6 x7 x8 x9 x10 x11 x12 x13 x14 x15 x16 x17 x18 x19 x20 x21 x22 x23 x24 x25 x26 x27 x28 x29 x30 x31 x32 x33 : Value)  : den Tryz.prog (sel (bodyOf Tryz.f15) [1, 1, 0, 1, 0, 0, 1, 0, 0, 1, 1]) (blk 1 (thenD (den Tryz.prog (sel (bodyOf Tryz.f15) [1, 1, 0, 1, 0, 0, 1, 1]) (thenD k1 (blk 0 (thenD (den Tryz.prog (sel (bodyOf Tryz.f15) [1, 1, 1]) (bodyQ Tryz.prog Tryz.f15.results.toList K E)) (bodyQ Tryz.prog Tryz.f15.results.toList K E))))) (thenD k1 (blk 0 (thenD (den Tryz.prog (sel (bodyOf Tryz.f15) [1, 1, 1]) (bodyQ Tryz.prog Tryz.f15.results.toList K E)) (bodyQ Tryz.prog Tryz.f15.results.toList K E)))))) #[x0, x1, x2, x3, x4, x5, x6, x7, x8, x9, x10, x11, x12, x13, x14, x15, x16, x17, x18, x19, x20, x21, x22, x23, x24, x25, x26, x27, x28, x29, x30, x31, x32, x33] =
  pv (iaV none 2 x0 x6) fun t1 =>
  pv (faV 0 t1) fun t2 =>
  ld false 1 t2 fun t3 =>
  pv (binV .none .rem x7 t3) fun t4 =>
  nws 3 1 (bsC #[(.int .i64 0)] 1 1 #[(0, t4)]) fun t5 =>
  appX 3 1 8 x5 t5 fun t6 =>
  den Tryz.prog (sel (bodyOf Tryz.f15) [1, 1, 0, 1, 0, 0, 1, 1]) (thenD k1 (blk 0 (thenD (den Tryz.prog (sel (bodyOf Tryz.f15) [1, 1, 1]) (bodyQ Tryz.prog Tryz.f15.results.toList K E)) (bodyQ Tryz.prog Tryz.f15.results.toList K E)))) #[x0, x1, x2, x3, x4, t6, x6, x7, x8, x9, x10, x11, x12, x13, x14, x15, x16, x17, x18, x19, x20, x21, x22, x5, x7, x0, x6, t1, t2, t3, t4, t5, t6, x33] := by kernel_rfl
theorem t15_1_1_0_1_0_0_1_1 (K : Kont) (E : PanK) (k1 : Env → Hp → Prop) (x0 x1 x2 x3 x4 x5 x6 x7 x8 x9 x10 x11 x12 x13 x14 x15 x16 x17 x18 x19 x20 x21 x22 x23 x24 x25 x26 x27 x28 x29 x30 x31 x32 x33 : Value)  : den Tryz.prog (sel (bodyOf Tryz.f15) [1, 1, 0, 1, 0, 0, 1, 1]) (thenD k1 (blk 0 (thenD (den Tryz.prog (sel (bodyOf Tryz.f15) [1, 1, 1]) (bodyQ Tryz.prog Tryz.f15.results.toList K E)) (bodyQ Tryz.prog Tryz.f15.results.toList K E)))) #[x0, x1, x2, x3, x4, x5, x6, x7, x8, x9, x10, x11, x12, x13, x14, x15, x16, x17, x18, x19, x20, x21, x22, x23, x24, x25, x26, x27, x28, x29, x30, x31, x32, x33] =
  pv (binV .none .add x6 (.int .i64 1)) fun t1 =>
  k1 (m15_1_1_0_1_0_0 x0 x1 x2 x3 x4 x33 x5 t1 (jf #[x0, x1, x2, x3, x4, x5, t1, x7, x8, x9, x10, x11, x6, t1, x14, x15, x16, x17, x18, x19, x20, x21, x22, x23, x24, x25, x26, x27, x28, x29, x30, x31, x32, x33])) := by kernel_rfl
theorem l15_1_1_0_1_0_0 {K : Kont} {E : PanK} {σ : Type} {x0 x1 x2 x3 x4 x33 v5 v6 y7 y8 y9 y10 y11 y12 y13 y14 y15 y16 y17 y18 y19 y20 y21 y22 y23 y24 y25 y26 y27 y28 y29 y30 y31 y32 : Value} {h : Hp} (f5 f6 : σ → Value) (I : σ → Hp → Prop) (μ : σ → Nat) (s0 : σ) (e5 : v5 = f5 s0) (e6 : v6 = f6 s0) (h0 : h.wf → ∃ h', h.wk h' ∧ I s0 h')
  (round : ∀ (k1 : Env → Hp → Prop) (s : σ) (j : Nat → Value) (h : Hp), I s h → h.wf → (∀ s' j' h', μ s' < μ s → (h'.wf → ∃ h'', h'.wk h'' ∧ I s' h'') → k1 (m15_1_1_0_1_0_0 x0 x1 x2 x3 x4 x33 (f5 s') (f6 s') j') h') → (
  pv (lenV x0) fun t1 =>
  pv (binV .none .lss (f6 s) t1) fun t2 =>
  cnd t2 (
    pv (lenV x1) fun t3 =>
    pv (binV .none .lss (f6 s) t3) fun t4 =>
    cnd t4 (
      pv (iaV none 1 x1 (f6 s)) fun t5 =>
      ld false 1 t5 fun t6 =>
      pv (cvV .i64 t6) fun t7 =>
      den Tryz.prog (sel (bodyOf Tryz.f15) [1, 1, 0, 1, 0, 0, 1, 0, 0, 1, 1]) (blk 1 (thenD (den Tryz.prog (sel (bodyOf Tryz.f15) [1, 1, 0, 1, 0, 0, 1, 1]) (thenD k1 (blk 0 (thenD (den Tryz.prog (sel (bodyOf Tryz.f15) [1, 1, 1]) (bodyQ Tryz.prog Tryz.f15.results.toList K E)) (bodyQ Tryz.prog Tryz.f15.results.toList K E))))) (thenD k1 (blk 0 (thenD (den Tryz.prog (sel (bodyOf Tryz.f15) [1, 1, 1]) (bodyQ Tryz.prog Tryz.f15.results.toList K E)) (bodyQ Tryz.prog Tryz.f15.results.toList K E)))))) #[x0, x1, x2, x3, x4, (f5 s), (f6 s), t7, (f6 s), x0, t1, t2, (j 12), (j 13), (f6 s), x1, t3, t4, x1, (f6 s), t5, t6, t7, (j 23), (j 24), (j 25), (j 26), (j 27), (j 28), (j 29), (j 30), (j 31), (j 32), x33]) (
      den Tryz.prog (sel (bodyOf Tryz.f15) [1, 1, 0, 1, 0, 0, 1, 0, 0, 1, 1]) (blk 1 (thenD (den Tryz.prog (sel (bodyOf Tryz.f15) [1, 1, 0, 1, 0, 0, 1, 1]) (thenD k1 (blk 0 (thenD (den Tryz.prog (sel (bodyOf Tryz.f15) [1, 1, 1]) (bodyQ Tryz.prog Tryz.f15.results.toList K E)) (bodyQ Tryz.prog Tryz.f15.results.toList K E))))) (thenD k1 (blk 0 (thenD (den Tryz.prog (sel (bodyOf Tryz.f15) [1, 1, 1]) (bodyQ Tryz.prog Tryz.f15.results.toList K E)) (bodyQ Tryz.prog Tryz.f15.results.toList K E)))))) #[x0, x1, x2, x3, x4, (f5 s), (f6 s), (.int .i64 0), (f6 s), x0, t1, t2, (j 12), (j 13), (f6 s), x1, t3, t4, (j 18), (j 19), (j 20), (j 21), (j 22), (j 23), (j 24), (j 25), (j 26), (j 27), (j 28), (j 29), (j 30), (j 31), (j 32), x33])) (
    den Tryz.prog (sel (bodyOf Tryz.f15) [1, 1, 1]) (bodyQ Tryz.prog Tryz.f15.results.toList K E) #[x0, x1, x2, x3, x4, (f5 s), (f6 s), (j 7), (f6 s), x0, t1, t2, (j 12), (j 13), (j 14), (j 15), (j 16), (j 17), (j 18), (j 19), (j 20), (j 21), (j 22), (j 23), (j 24), (j 25), (j 26), (j 27), (j 28), (j 29), (j 30), (j 31), (j 32), x33])) h) :
  lp (fun k1 => den Tryz.prog (sel (bodyOf Tryz.f15) [1, 1, 0, 1, 0, 0]) (thenD k1 (blk 0 (thenD (den Tryz.prog (sel (bodyOf Tryz.f15) [1, 1, 1]) (bodyQ Tryz.prog Tryz.f15.results.toList K E)) (bodyQ Tryz.prog Tryz.f15.results.toList K E))))) #[x0, x1, x2, x3, x4, v5, v6, y7, y8, y9, y10, y11, y12, y13, y14, y15, y16, y17, y18, y19, y20, y21, y22, y23, y24, y25, y26, y27, y28, y29, y30, y31, y32, x33] h := by
  subst e5
  subst e6
  have e : (#[x0, x1, x2, x3, x4, (f5 s0), (f6 s0), y7, y8, y9, y10, y11, y12, y13, y14, y15, y16, y17, y18, y19, y20, y21, y22, y23, y24, y25, y26, y27, y28, y29, y30, y31, y32, x33] : Env) = m15_1_1_0_1_0_0 x0 x1 x2 x3 x4 x33 (f5 s0) (f6 s0) (jf #[x0, x1, x2, x3, x4, (f5 s0), (f6 s0), y7, y8, y9, y10, y11, y12, y13, y14, y15, y16, y17, y18, y19, y20, y21, y22, y23, y24, y25, y26, y27, y28, y29, y30, y31, y32, x33]) := by kernel_rfl
  rw [e]
  exact loop_r (fun s j => m15_1_1_0_1_0_0 x0 x1 x2 x3 x4 x33 (f5 s) (f6 s) j) I μ (fun k s j h hI hw next => by rw [t15_1_1_0_1_0_0]; exact round k s j h hI hw next) s0 (jf #[x0, x1, x2, x3, x4, (f5 s0), (f6 s0), y7, y8, y9, y10, y11, y12, y13, y14, y15, y16, y17, y18, y19, y20, y21, y22, y23, y24, y25, y26, y27, y28, y29, y30, y31, y32, x33]) h0

theorem t16 (K : Kont) (E : PanK) (x0 x1 x2 : Value)  : den Tryz.prog (sel (bodyOf Tryz.f16) []) (bodyQ Tryz.prog Tryz.f16.results.toList K E) #[x0, x1, x2, undef, undef, undef, undef, undef, undef, undef, undef, undef, undef, undef, undef, undef, undef, undef, undef, undef, undef, undef, undef, undef, undef, undef, undef, undef, undef, undef, undef, undef, undef, undef, undef, undef, undef, undef, undef, undef, undef, undef, undef, undef, undef, undef, undef, undef, undef, undef, undef, undef] =
  callv Tryz.prog (.func (.func 15) #[] #[]) #[x0, x1] (fun t1 =>
  callv Tryz.prog (.func (.func 15) #[] #[]) #[x0, x2] (fun t2 =>
  lp (fun k1 => den Tryz.prog (sel (bodyOf Tryz.f16) [1, 1, 1, 0, 1, 0, 0]) (thenD k1 (blk 0 (thenD (den Tryz.prog (sel (bodyOf Tryz.f16) [1, 1, 1, 1]) (bodyQ Tryz.prog Tryz.f16.results.toList K E)) (bodyQ Tryz.prog Tryz.f16.results.toList K E))))) #[x0, x1, x2, undef, undef, undef, (.slice none 0 0), (.slice none 0 0), t1, t2, (.int .i64 0), undef, x0, x1, t1, x0, x2, t2, undef, undef, undef, undef, undef, undef, undef, undef, undef, undef, undef, undef, undef, undef, undef, undef, undef, undef, undef, undef, undef, undef, undef, undef, undef, undef, undef, undef, undef, undef, undef, undef, undef, undef]) E) E := by kernel_rfl
def m16_1_1_1_0_1_0_0 (x0 x1 x2 x3 x4 x5 x6 x7 x8 x9 x12 x13 x14 x15 x16 x17 x50 x51 : Value) (v10 : Value) (j : Nat → Value) : Env := #[x0, x1, x2, x3, x4, x5, x6, x7, x8, x9, v10, (j 11), x12, x13, x14, x15, x16, x17, (j 18), (j 19), (j 20), (j 21), (j 22), (j 23), (j 24), (j 25), (j 26), (j 27), (j 28), (j 29), (j 30), (j 31), (j 32), (j 33), (j 34), (j 35), (j 36), (j 37), (j 38), (j 39), (j 40), (j 41), (j 42), (j 43), (j 44), (j 45), (j 46), (j 47), (j 48), (j 49), x50, x51]
theorem t16_1_1_1_0_1_0_0 (K : Kont) (E : PanK) (k1 : Env → Hp → Prop) (x0 x1 x2 x3 x4 x5 x6 x7 x8 x9 x12 x13 x14 x15 x16 x17 x50 x51 v10 : Value) (j : Nat → Value) : den Tryz.prog (sel (bodyOf Tryz.f16) [1, 1, 1, 0, 1, 0, 0]) (thenD k1 (blk 0 (thenD (den Tryz.prog (sel (bodyOf Tryz.f16) [1, 1, 1, 1]) (bodyQ Tryz.prog Tryz.f16.results.toList K E)) (bodyQ Tryz.prog Tryz.f16.results.toList K E)))) (m16_1_1_1_0_1_0_0 x0 x1 x2 x3 x4 x5 x6 x7 x8 x9 x12 x13 x14 x15 x16 x17 x50 x51 v10 j) =
  pv (lenV x0) fun t1 =>
  pv (binV .none .lss v10 t1) fun t2 =>
  cnd t2 (
    pv (iaV none 1 x8 v10) fun t3 =>
    ld false 1 t3 fun t4 =>
    pv (iaV none 1 x9 v10) fun t5 =>
    ld false 1 t5 fun t6 =>
    pv (mm false t4 t6) fun t7 =>
    pv (iaV none 1 x8 v10) fun t8 =>
    ld false 1 t8 fun t9 =>
    pv (iaV none 1 x9 v10) fun t10 =>
    ld false 1 t10 fun t11 =>
    pv (mm true t9 t11) fun t12 =>
    pv (binV .none .add t12 (.int .i64 1)) fun t13 =>
    pv (iaV none 1 x9 v10) fun t14 =>
    st 1 t14 t13 fun _ =>
    pv (iaV none 1 x8 v10) fun t15 =>
    st 1 t15 t7 fun _ =>
    pv (binV .none .add v10 (.int .i64 1)) fun t16 =>
    k1 (m16_1_1_1_0_1_0_0 x0 x1 x2 x3 x4 x5 x6 x7 x8 x9 x12 x13 x14 x15 x16 x17 x50 x51 t16 (jf #[x0, x1, x2, x3, x4, x5, x6, x7, x8, x9, t16, t7, x12, x13, x14, x15, x16, x17, v10, x0, t1, t2, v10, t16, x8, v10, t3, t4, x9, v10, t5, t6, t7, x9, v10, x8, v10, t8, t9, x9, v10, t10, t11, t12, t13, t14, x8, v10, t7, t15, x50, x51]))) (
    den Tryz.prog (sel (bodyOf Tryz.f16) [1, 1, 1, 1]) (bodyQ Tryz.prog Tryz.f16.results.toList K E) #[x0, x1, x2, x3, x4, x5, x6, x7, x8, x9, v10, (j 11), x12, x13, x14, x15, x16, x17, v10, x0, t1, t2, (j 22), (j 23), (j 24), (j 25), (j 26), (j 27), (j 28), (j 29), (j 30), (j 31), (j 32), (j 33), (j 34), (j 35), (j 36), (j 37), (j 38), (j 39), (j 40), (j 41), (j 42), (j 43), (j 44), (j 45), (j 46), (j 47), (j 48), (j 49), x50, x51]) := by kernel_rfl
theorem t16_1_1_1_1 (K : Kont) (E : PanK) (x0 x1 x2 x3 x4 x5 x6 x7 x8 x9 x10 x11 x12 x13 x14 x15 x16 x17 x18 x19 x20 x21 x22 x23 x24 x25 x26 x27 x28 x29 x30 x31 x32 x33 x34 x35 x36 x37 x38 x39 x40 x41 x42 x43 x44 x45 x46 x47 x48 x49 x50 x51 : Value)  : den Tryz.prog (sel (bodyOf Tryz.f16) [1, 1, 1, 1]) (bodyQ Tryz.prog Tryz.f16.results.toList K E) #[x0, x1, x2, x3, x4, x5, x6, x7, x8, x9, x10, x11, x12, x13, x14, x15, x16, x17, x18, x19, x20, x21, x22, x23, x24, x25, x26, x27, x28, x29, x30, x31, x32, x33, x34, x35, x36, x37, x38, x39, x40, x41, x42, x43, x44, x45, x46, x47, x48, x49, x50, x51] =
  K (.tuple #[x8, x9]) := by kernel_rfl
theorem l16_1_1_1_0_1_0_0 {K : Kont} {E : PanK} {σ : Type} {x0 x1 x2 x3 x4 x5 x6 x7 x8 x9 x12 x13 x14 x15 x16 x17 x50 x51 v10 y11 y18 y19 y20 y21 y22 y23 y24 y25 y26 y27 y28 y29 y30 y31 y32 y33 y34 y35 y36 y37 y38 y39 y40 y41 y42 y43 y44 y45 y46 y47 y48 y49 : Value} {h : Hp} (f10 : σ → Value) (I : σ → Hp → Prop) (μ : σ → Nat) (s0 : σ) (e10 : v10 = f10 s0) (h0 : h.wf → ∃ h', h.wk h' ∧ I s0 h')
  (round : ∀ (k1 : Env → Hp → Prop) (s : σ) (j : Nat → Value) (h : Hp), I s h → h.wf → (∀ s' j' h', μ s' < μ s → (h'.wf → ∃ h'', h'.wk h'' ∧ I s' h'') → k1 (m16_1_1_1_0_1_0_0 x0 x1 x2 x3 x4 x5 x6 x7 x8 x9 x12 x13 x14 x15 x16 x17 x50 x51 (f10 s') j') h') → (
  pv (lenV x0) fun t1 =>
  pv (binV .none .lss (f10 s) t1) fun t2 =>
  cnd t2 (
    pv (iaV none 1 x8 (f10 s)) fun t3 =>
    ld false 1 t3 fun t4 =>
    pv (iaV none 1 x9 (f10 s)) fun t5 =>
    ld false 1 t5 fun t6 =>
    pv (mm false t4 t6) fun t7 =>
    pv (iaV none 1 x8 (f10 s)) fun t8 =>
    ld false 1 t8 fun t9 =>
    pv (iaV none 1 x9 (f10 s)) fun t10 =>
    ld false 1 t10 fun t11 =>
    pv (mm true t9 t11) fun t12 =>
    pv (binV .none .add t12 (.int .i64 1)) fun t13 =>
    pv (iaV none 1 x9 (f10 s)) fun t14 =>
    st 1 t14 t13 fun _ =>
    pv (iaV none 1 x8 (f10 s)) fun t15 =>
    st 1 t15 t7 fun _ =>
    pv (binV .none .add (f10 s) (.int .i64 1)) fun t16 =>
    k1 (m16_1_1_1_0_1_0_0 x0 x1 x2 x3 x4 x5 x6 x7 x8 x9 x12 x13 x14 x15 x16 x17 x50 x51 t16 (jf #[x0, x1, x2, x3, x4, x5, x6, x7, x8, x9, t16, t7, x12, x13, x14, x15, x16, x17, (f10 s), x0, t1, t2, (f10 s), t16, x8, (f10 s), t3, t4, x9, (f10 s), t5, t6, t7, x9, (f10 s), x8, (f10 s), t8, t9, x9, (f10 s), t10, t11, t12, t13, t14, x8, (f10 s), t7, t15, x50, x51]))) (
    den Tryz.prog (sel (bodyOf Tryz.f16) [1, 1, 1, 1]) (bodyQ Tryz.prog Tryz.f16.results.toList K E) #[x0, x1, x2, x3, x4, x5, x6, x7, x8, x9, (f10 s), (j 11), x12, x13, x14, x15, x16, x17, (f10 s), x0, t1, t2, (j 22), (j 23), (j 24), (j 25), (j 26), (j 27), (j 28), (j 29), (j 30), (j 31), (j 32), (j 33), (j 34), (j 35), (j 36), (j 37), (j 38), (j 39), (j 40), (j 41), (j 42), (j 43), (j 44), (j 45), (j 46), (j 47), (j 48), (j 49), x50, x51])) h) :
  lp (fun k1 => den Tryz.prog (sel (bodyOf Tryz.f16) [1, 1, 1, 0, 1, 0, 0]) (thenD k1 (blk 0 (thenD (den Tryz.prog (sel (bodyOf Tryz.f16) [1, 1, 1, 1]) (bodyQ Tryz.prog Tryz.f16.results.toList K E)) (bodyQ Tryz.prog Tryz.f16.results.toList K E))))) #[x0, x1, x2, x3, x4, x5, x6, x7, x8, x9, v10, y11, x12, x13, x14, x15, x16, x17, y18, y19, y20, y21, y22, y23, y24, y25, y26, y27, y28, y29, y30, y31, y32, y33, y34, y35, y36, y37, y38, y39, y40, y41, y42, y43, y44, y45, y46, y47, y48, y49, x50, x51] h := by
  subst e10
  have e : (#[x0, x1, x2, x3, x4, x5, x6, x7, x8, x9, (f10 s0), y11, x12, x13, x14, x15, x16, x17, y18, y19, y20, y21, y22, y23, y24, y25, y26, y27, y28, y29, y30, y31, y32, y33, y34, y35, y36, y37, y38, y39, y40, y41, y42, y43, y44, y45, y46, y47, y48, y49, x50, x51] : Env) = m16_1_1_1_0_1_0_0 x0 x1 x2 x3 x4 x5 x6 x7 x8 x9 x12 x13 x14 x15 x16 x17 x50 x51 (f10 s0) (jf #[x0, x1, x2, x3, x4, x5, x6, x7, x8, x9, (f10 s0), y11, x12, x13, x14, x15, x16, x17, y18, y19, y20, y21, y22, y23, y24, y25, y26, y27, y28, y29, y30, y31, y32, y33, y34, y35, y36, y37, y38, y39, y40, y41, y42, y43, y44, y45, y46, y47, y48, y49, x50, x51]) := by kernel_rfl
  rw [e]
  exact loop_r (fun s j => m16_1_1_1_0_1_0_0 x0 x1 x2 x3 x4 x5 x6 x7 x8 x9 x12 x13 x14 x15 x16 x17 x50 x51 (f10 s) j) I μ (fun k s j h hI hw next => by rw [t16_1_1_1_0_1_0_0]; exact round k s j h hI hw next) s0 (jf #[x0, x1, x2, x3, x4, x5, x6, x7, x8, x9, (f10 s0), y11, x12, x13, x14, x15, x16, x17, y18, y19, y20, y21, y22, y23, y24, y25, y26, y27, y28, y29, y30, y31, y32, y33, y34, y35, y36, y37, y38, y39, y40, y41, y42, y43, y44, y45, y46, y47, y48, y49, x50, x51]) h0

theorem t17 (K : Kont) (E : PanK) (x0 x1 x2 : Value)  : den Tryz.prog (sel (bodyOf Tryz.f17) []) (bodyQ Tryz.prog Tryz.f17.results.toList K E) #[x0, x1, x2, undef, undef, undef, undef, undef, undef, undef, undef, undef, undef, undef, undef, undef, undef, undef, undef, undef, undef, undef, undef, undef, undef, undef, undef, undef, undef, undef, undef, undef, undef, undef, undef, undef, undef, undef, undef, undef, undef, undef, undef, undef, undef, undef, undef, undef, undef, undef, undef] =
  lp (fun k1 => den Tryz.prog (sel (bodyOf Tryz.f17) [1, 1, 0, 1, 0, 0]) (thenD k1 (blk 0 (thenD (den Tryz.prog (sel (bodyOf Tryz.f17) [1, 1, 1]) (bodyQ Tryz.prog Tryz.f17.results.toList K E)) (bodyQ Tryz.prog Tryz.f17.results.toList K E))))) #[x0, x1, x2, undef, undef, undef, (.slice none 0 0), (.slice none 0 0), (.int .i64 0), undef, undef, undef, undef, undef, undef, undef, undef, undef, undef, undef, undef, undef, undef, undef, undef, undef, undef, undef, undef, undef, undef, undef, undef, undef, undef, undef, undef, undef, undef, undef, undef, undef, undef, undef, undef, undef, undef, undef, undef, undef, undef] := by kernel_rfl
def m17_1_1_0_1_0_0 (x0 x1 x2 x3 x4 x5 x6 x50 : Value) (v7 v8 : Value) (j : Nat → Value) : Env := #[x0, x1, x2, x3, x4, x5, x6, v7, v8, (j 9), (j 10), (j 11), (j 12), (j 13), (j 14), (j 15), (j 16), (j 17), (j 18), (j 19), (j 20), (j 21), (j 22), (j 23), (j 24), (j 25), (j 26), (j 27), (j 28), (j 29), (j 30), (j 31), (j 32), (j 33), (j 34), (j 35), (j 36), (j 37), (j 38), (j 39), (j 40), (j 41), (j 42), (j 43), (j 44), (j 45), (j 46), (j 47), (j 48), (j 49), x50]
theorem t17_1_1_0_1_0_0 (K : Kont) (E : PanK) (k1 : Env → Hp → Prop) (x0 x1 x2 x3 x4 x5 x6 x50 v7 v8 : Value) (j : Nat → Value) : den Tryz.prog (sel (bodyOf Tryz.f17) [1, 1, 0, 1, 0, 0]) (thenD k1 (blk 0 (thenD (den Tryz.prog (sel (bodyOf Tryz.f17) [1, 1, 1]) (bodyQ Tryz.prog Tryz.f17.results.toList K E)) (bodyQ Tryz.prog Tryz.f17.results.toList K E)))) (m17_1_1_0_1_0_0 x0 x1 x2 x3 x4 x5 x6 x50 v7 v8 j) =
  pv (lenV x0) fun t1 =>
  pv (binV .none .lss v8 t1) fun t2 =>
  cnd t2 (
    pv (lenV x1) fun t3 =>
    pv (binV .none .lss v8 t3) fun t4 =>
    cnd t4 (
      pv (iaV none 1 x1 v8) fun t5 =>
      ld false 1 t5 fun t6 =>
      pv (cvV .i64 t6) fun t7 =>
      den Tryz.prog (sel (bodyOf Tryz.f17) [1, 1, 0, 1, 0, 0, 1, 0, 0, 1, 1, 1]) (blk 1 (thenD (den Tryz.prog (sel (bodyOf Tryz.f17) [1, 1, 0, 1, 0, 0, 1, 1]) (thenD k1 (blk 0 (thenD (den Tryz.prog (sel (bodyOf Tryz.f17) [1, 1, 1]) (bodyQ Tryz.prog Tryz.f17.results.toList K E)) (bodyQ Tryz.prog Tryz.f17.results.toList K E))))) (thenD k1 (blk 0 (thenD (den Tryz.prog (sel (bodyOf Tryz.f17) [1, 1, 1]) (bodyQ Tryz.prog Tryz.f17.results.toList K E)) (bodyQ Tryz.prog Tryz.f17.results.toList K E)))))) #[x0, x1, x2, x3, x4, x5, x6, v7, v8, t7, (.int .i64 0), v8, x0, t1, t2, (j 15), (j 16), v8, x1, t3, t4, x1, v8, t5, t6, t7, (j 26), (j 27), (j 28), (j 29), (j 30), (j 31), (j 32), (j 33), (j 34), (j 35), (j 36), (j 37), (j 38), (j 39), (j 40), (j 41), (j 42), (j 43), (j 44), (j 45), (j 46), (j 47), (j 48), (j 49), x50]) (
      den Tryz.prog (sel (bodyOf Tryz.f17) [1, 1, 0, 1, 0, 0, 1, 0, 0, 1, 1, 1]) (blk 1 (thenD (den Tryz.prog (sel (bodyOf Tryz.f17) [1, 1, 0, 1, 0, 0, 1, 1]) (thenD k1 (blk 0 (thenD (den Tryz.prog (sel (bodyOf Tryz.f17) [1, 1, 1]) (bodyQ Tryz.prog Tryz.f17.results.toList K E)) (bodyQ Tryz.prog Tryz.f17.results.toList K E))))) (thenD k1 (blk 0 (thenD (den Tryz.prog (sel (bodyOf Tryz.f17) [1, 1, 1]) (bodyQ Tryz.prog Tryz.f17.results.toList K E)) (bodyQ Tryz.prog Tryz.f17.results.toList K E)))))) #[x0, x1, x2, x3, x4, x5, x6, v7, v8, (.int .i64 0), (.int .i64 0), v8, x0, t1, t2, (j 15), (j 16), v8, x1, t3, t4, (j 21), (j 22), (j 23), (j 24), (j 25), (j 26), (j 27), (j 28), (j 29), (j 30), (j 31), (j 32), (j 33), (j 34), (j 35), (j 36), (j 37), (j 38), (j 39), (j 40), (j 41), (j 42), (j 43), (j 44), (j 45), (j 46), (j 47), (j 48), (j 49), x50])) (
    den Tryz.prog (sel (bodyOf Tryz.f17) [1, 1, 1]) (bodyQ Tryz.prog Tryz.f17.results.toList K E) #[x0, x1, x2, x3, x4, x5, x6, v7, v8, (j 9), (j 10), v8, x0, t1, t2, (j 15), (j 16), (j 17), (j 18), (j 19), (j 20), (j 21), (j 22), (j 23), (j 24), (j 25), (j 26), (j 27), (j 28), (j 29), (j 30), (j 31), (j 32), (j 33), (j 34), (j 35), (j 36), (j 37), (j 38), (j 39), (j 40), (j 41), (j 42), (j 43), (j 44), (j 45), (j 46), (j 47), (j 48), (j 49), x50]) := by kernel_rfl
theorem t17_1_1_1 (K : Kont) (E : PanK) (x0 x1 x2 x3 x4 x5 x6 x7 x8 x9 x10 x11 x12 x13 x14 x15 x16 x17 x18 x19 x20 x21 x22 x23 x24 x25 x26 x27 x28 x29 x30 x31 x32 x33 x34 x35 x36 x37 x38 x39 x40 x41 x42 x43 x44 x45 x46 x47 x48 x49 x50 : Value)  : den Tryz.prog (sel (bodyOf Tryz.f17) [1, 1, 1]) (bodyQ Tryz.prog Tryz.f17.results.toList K E) #[x0, x1, x2, x3, x4, x5, x6, x7, x8, x9, x10, x11, x12, x13, x14, x15, x16, x17, x18, x19, x20, x21, x22, x23, x24, x25, x26, x27, x28, x29, x30, x31, x32, x33, x34, x35, x36, x37, x38, x39, x40, x41, x42, x43, x44, x45, x46, x47, x48, x49, x50] =
  K x7 := by kernel_rfl
theorem t17_1_1_0_1_0_0_1_0_0_1_1_1 (K : Kont) (E : PanK) (k1 : Env → Hp → Prop) (x0 x1 x2 x3 x4 x5 x6 x7 x8 x9 x10 x11 x12 x13 x14 x15 x16 x17 x18 x19 x20 x21 x22 x23 x24 x25 x26 x27 x28 x29 x30 x31 x32 x33 x34 x35 x36 x37 x38 x39 x40 x41 x42 x43 x44 x45 x46 x47 x48 x49 x50 : Value)  : den Tryz.prog (sel (bodyOf Tryz.f17) [1, 1, 0, 1, 0, 0, 1, 0, 0, 1, 1, 1]) (blk 1 (thenD (den Tryz.prog (sel (bodyOf Tryz.f17) [1, 1, 0, 1, 0, 0, 1, 1]) (thenD k1 (blk 0 (thenD (den Tryz.prog (sel (bodyOf Tryz.f17) [1, 1, 1]) (bodyQ Tryz.prog Tryz.f17.results.toList K E)) (bodyQ Tryz.prog Tryz.f17.results.toList K E))))) (thenD k1 (blk 0 (thenD (den Tryz.prog (sel (bodyOf Tryz.f17) [1, 1, 1]) (bodyQ Tryz.prog Tryz.f17.results.toList K E)) (bodyQ Tryz.prog Tryz.f17.results.toList K E)))))) #[x0, x1, x2, x3, x4, x5, x6, x7, x8, x9, x10, x11, x12, x13, x14, x15, x16, x17, x18, x19, x20, x21, x22, x23, x24, x25, x26, x27, x28, x29, x30, x31, x32, x33, x34, x35, x36, x37, x38, x39, x40, x41, x42, x43, x44, x45, x46, x47, x48, x49, x50] =
  pv (lenV x2) fun t1 =>
  pv (binV .none .lss x8 t1) fun t2 =>
  cnd t2 (
    pv (iaV none 1 x2 x8) fun t3 =>
    ld false 1 t3 fun t4 =>
    den Tryz.prog (sel (bodyOf Tryz.f17) [1, 1, 0, 1, 0, 0, 1, 0, 0, 1, 1, 1, 1]) (blk 1 (thenD (den Tryz.prog (sel (bodyOf Tryz.f17) [1, 1, 0, 1, 0, 0, 1, 1]) (thenD k1 (blk 0 (thenD (den Tryz.prog (sel (bodyOf Tryz.f17) [1, 1, 1]) (bodyQ Tryz.prog Tryz.f17.results.toList K E)) (bodyQ Tryz.prog Tryz.f17.results.toList K E))))) (thenD k1 (blk 0 (thenD (den Tryz.prog (sel (bodyOf Tryz.f17) [1, 1, 1]) (bodyQ Tryz.prog Tryz.f17.results.toList K E)) (bodyQ Tryz.prog Tryz.f17.results.toList K E)))))) #[x0, x1, x2, x3, x4, x5, x6, x7, x8, x9, t4, x11, x12, x13, x14, x15, x16, x17, x18, x19, x20, x21, x22, x23, x24, x25, x8, x2, t1, t2, x2, x8, t3, t4, x34, x35, x36, x37, x38, x39, x40, x41, x42, x43, x44, x45, x46, x47, x48, x49, x50]) (
    den Tryz.prog (sel (bodyOf Tryz.f17) [1, 1, 0, 1, 0, 0, 1, 0, 0, 1, 1, 1, 1]) (blk 1 (thenD (den Tryz.prog (sel (bodyOf Tryz.f17) [1, 1, 0, 1, 0, 0, 1, 1]) (thenD k1 (blk 0 (thenD (den Tryz.prog (sel (bodyOf Tryz.f17) [1, 1, 1]) (bodyQ Tryz.prog Tryz.f17.results.toList K E)) (bodyQ Tryz.prog Tryz.f17.results.toList K E))))) (thenD k1 (blk 0 (thenD (den Tryz.prog (sel (bodyOf Tryz.f17) [1, 1, 1]) (bodyQ Tryz.prog Tryz.f17.results.toList K E)) (bodyQ Tryz.prog Tryz.f17.results.toList K E)))))) #[x0, x1, x2, x3, x4, x5, x6, x7, x8, x9, x10, x11, x12, x13, x14, x15, x16, x17, x18, x19, x20, x21, x22, x23, x24, x25, x8, x2, t1, t2, x30, x31, x32, x33, x34, x35, x36, x37, x38, x39, x40, x41, x42, x43, x44, x45, x46, x47, x48, x49, x50]) := by kernel_rfl
theorem t17_1_1_0_1_0_0_1_0_0_1_1_1_1 (K : Kont) (E : PanK) (k1 : Env → Hp → Prop) (x0 x1 x2 x3 x4 x5 x6 x7 x8 x9 x10 x11 x12 x13 x14 x15 x16 x17 x18 x19 x20 x21 x22 x23 x24 x25 x26 x27 x28 x29 x30 x31 x32 x33 x34 x35 x36 x37 x38 x39 x40 x41 x42 x43 x44 x45 x46 x47 x48 x49 x50 : Value)  : den Tryz.prog (sel (bodyOf Tryz.f17) [1, 1, 0, 1, 0, 0, 1, 0, 0, 1, 1, 1, 1]) (blk 1 (thenD (den Tryz.prog (sel (bodyOf Tryz.f17) [1, 1, 0, 1, 0, 0, 1, 1]) (thenD k1 (blk 0 (thenD (den Tryz.prog (sel (bodyOf Tryz.f17) [1, 1, 1]) (bodyQ Tryz.prog Tryz.f17.results.toList K E)) (bodyQ Tryz.prog Tryz.f17.results.toList K E))))) (thenD k1 (blk 0 (thenD (den Tryz.prog (sel (bodyOf Tryz.f17) [1, 1, 1]) (bodyQ Tryz.prog Tryz.f17.results.toList K E)) (bodyQ Tryz.prog Tryz.f17.results.toList K E)))))) #[x0, x1, x2, x3, x4, x5, x6, x7, x8, x9, x10, x11, x12, x13, x14, x15, x16, x17, x18, x19, x20, x21, x22, x23, x24, x25, x26, x27, x28, x29, x30, x31, x32, x33, x34, x35, x36, x37, x38, x39, x40, x41, x42, x43, x44, x45, x46, x47, x48, x49, x50] =
  pv (iaV none 2 x0 x8) fun t1 =>
  pv (faV 1 t1) fun t2 =>
  ld false 1 t2 fun t3 =>
  pv (lenV t3) fun t4 =>
  pv (binV .none .add t4 (.int .i64 2)) fun t5 =>
  pv (binV .none .sub t5 x10) fun t6 =>
  pv (binV .none .rem x9 t6) fun t7 =>
  pv (binV .none .add x10 t7) fun t8 =>
  nws 3 1 (bsC #[(.int .i64 0)] 1 1 #[(0, t8)]) fun t9 =>
  appX 3 1 8 x7 t9 fun t10 =>
  den Tryz.prog (sel (bodyOf Tryz.f17) [1, 1, 0, 1, 0, 0, 1, 1]) (thenD k1 (blk 0 (thenD (den Tryz.prog (sel (bodyOf Tryz.f17) [1, 1, 1]) (bodyQ Tryz.prog Tryz.f17.results.toList K E)) (bodyQ Tryz.prog Tryz.f17.results.toList K E)))) #[x0, x1, x2, x3, x4, x5, x6, t10, x8, x9, x10, x11, x12, x13, x14, x15, x16, x17, x18, x19, x20, x21, x22, x23, x24, x25, x26, x27, x28, x29, x30, x31, x32, x33, x7, x10, x9, x0, x8, t1, t2, t3, t4, t5, x10, t6, t7, t8, t9, t10, x50] := by kernel_rfl
theorem t17_1_1_0_1_0_0_1_1 (K : Kont) (E : PanK) (k1 : Env → Hp → Prop) (x0 x1 x2 x3 x4 x5 x6 x7 x8 x9 x10 x11 x12 x13 x14 x15 x16 x17 x18 x19 x20 x21 x22 x23 x24 x25 x26 x27 x28 x29 x30 x31 x32 x33 x34 x35 x36 x37 x38 x39 x40 x41 x42 x43 x44 x45 x46 x47 x48 x49 x50 : Value)  : den Tryz.prog (sel (bodyOf Tryz.f17) [1, 1, 0, 1, 0, 0, 1, 1]) (thenD k1 (blk 0 (thenD (den Tryz.prog (sel (bodyOf Tryz.f17) [1, 1, 1]) (bodyQ Tryz.prog Tryz.f17.results.toList K E)) (bodyQ Tryz.prog Tryz.f17.results.toList K E)))) #[x0, x1, x2, x3, x4, x5, x6, x7, x8, x9, x10, x11, x12, x13, x14, x15, x16, x17, x18, x19, x20, x21, x22, x23, x24, x25, x26, x27, x28, x29, x30, x31, x32, x33, x34, x35, x36, x37, x38, x39, x40, x41, x42, x43, x44, x45, x46, x47, x48, x49, x50] =
  pv (binV .none .add x8 (.int .i64 1)) fun t1 =>
  k1 (m17_1_1_0_1_0_0 x0 x1 x2 x3 x4 x5 x6 x50 x7 t1 (jf #[x0, x1, x2, x3, x4, x5, x6, x7, t1, x9, x10, x11, x12, x13, x14, x8, t1, x17, x18, x19, x20, x21, x22, x23, x24, x25, x26, x27, x28, x29, x30, x31, x32, x33, x34, x35, x36, x37, x38, x39, x40, x41, x42, x43, x44, x45, x46, x47, x48, x49, x50])) := by kernel_rfl
theorem l17_1_1_0_1_0_0 {K : Kont} {E : PanK} {σ : Type} {x0 x1 x2 x3 x4 x5 x6 x50 v7 v8 y9 y10 y11 y12 y13 y14 y15 y16 y17 y18 y19 y20 y21 y22 y23 y24 y25 y26 y27 y28 y29 y30 y31 y32 y33 y34 y35 y36 y37 y38 y39 y40 y41 y42 y43 y44 y45 y46 y47 y48 y49 : Value} {h : Hp} (f7 f8 : σ → Value) (I : σ → Hp → Prop) (μ : σ → Nat) (s0 : σ) (e7 : v7 = f7 s0) (e8 : v8 = f8 s0) (h0 : h.wf → ∃ h', h.wk h' ∧ I s0 h')
  (round : ∀ (k1 : Env → Hp → Prop) (s : σ) (j : Nat → Value) (h : Hp), I s h → h.wf → (∀ s' j' h', μ s' < μ s → (h'.wf → ∃ h'', h'.wk h'' ∧ I s' h'') → k1 (m17_1_1_0_1_0_0 x0 x1 x2 x3 x4 x5 x6 x50 (f7 s') (f8 s') j') h') → (
  pv (lenV x0) fun t1 =>
  pv (binV .none .lss (f8 s) t1) fun t2 =>
  cnd t2 (
    pv (lenV x1) fun t3 =>
    pv (binV .none .lss (f8 s) t3) fun t4 =>
    cnd t4 (
      pv (iaV none 1 x1 (f8 s)) fun t5 =>
      ld false 1 t5 fun t6 =>
      pv (cvV .i64 t6) fun t7 =>
      den Tryz.prog (sel (bodyOf Tryz.f17) [1, 1, 0, 1, 0, 0, 1, 0, 0, 1, 1, 1]) (blk 1 (thenD (den Tryz.prog (sel (bodyOf Tryz.f17) [1, 1, 0, 1, 0, 0, 1, 1]) (thenD k1 (blk 0 (thenD (den Tryz.prog (sel (bodyOf Tryz.f17) [1, 1, 1]) (bodyQ Tryz.prog Tryz.f17.results.toList K E)) (bodyQ Tryz.prog Tryz.f17.results.toList K E))))) (thenD k1 (blk 0 (thenD (den Tryz.prog (sel (bodyOf Tryz.f17) [1, 1, 1]) (bodyQ Tryz.prog Tryz.f17.results.toList K E)) (bodyQ Tryz.prog Tryz.f17.results.toList K E)))))) #[x0, x1, x2, x3, x4, x5, x6, (f7 s), (f8 s), t7, (.int .i64 0), (f8 s), x0, t1, t2, (j 15), (j 16), (f8 s), x1, t3, t4, x1, (f8 s), t5, t6, t7, (j 26), (j 27), (j 28), (j 29), (j 30), (j 31), (j 32), (j 33), (j 34), (j 35), (j 36), (j 37), (j 38), (j 39), (j 40), (j 41), (j 42), (j 43), (j 44), (j 45), (j 46), (j 47), (j 48), (j 49), x50]) (
      den Tryz.prog (sel (bodyOf Tryz.f17) [1, 1, 0, 1, 0, 0, 1, 0, 0, 1, 1, 1]) (blk 1 (thenD (den Tryz.prog (sel (bodyOf Tryz.f17) [1, 1, 0, 1, 0, 0, 1, 1]) (thenD k1 (blk 0 (thenD (den Tryz.prog (sel (bodyOf Tryz.f17) [1, 1, 1]) (bodyQ Tryz.prog Tryz.f17.results.toList K E)) (bodyQ Tryz.prog Tryz.f17.results.toList K E))))) (thenD k1 (blk 0 (thenD (den Tryz.prog (sel (bodyOf Tryz.f17) [1, 1, 1]) (bodyQ Tryz.prog Tryz.f17.results.toList K E)) (bodyQ Tryz.prog Tryz.f17.results.toList K E)))))) #[x0, x1, x2, x3, x4, x5, x6, (f7 s), (f8 s), (.int .i64 0), (.int .i64 0), (f8 s), x0, t1, t2, (j 15), (j 16), (f8 s), x1, t3, t4, (j 21), (j 22), (j 23), (j 24), (j 25), (j 26), (j 27), (j 28), (j 29), (j 30), (j 31), (j 32), (j 33), (j 34), (j 35), (j 36), (j 37), (j 38), (j 39), (j 40), (j 41), (j 42), (j 43), (j 44), (j 45), (j 46), (j 47), (j 48), (j 49), x50])) (
    den Tryz.prog (sel (bodyOf Tryz.f17) [1, 1, 1]) (bodyQ Tryz.prog Tryz.f17.results.toList K E) #[x0, x1, x2, x3, x4, x5, x6, (f7 s), (f8 s), (j 9), (j 10), (f8 s), x0, t1, t2, (j 15), (j 16), (j 17), (j 18), (j 19), (j 20), (j 21), (j 22), (j 23), (j 24), (j 25), (j 26), (j 27), (j 28), (j 29), (j 30), (j 31), (j 32), (j 33), (j 34), (j 35), (j 36), (j 37), (j 38), (j 39), (j 40), (j 41), (j 42), (j 43), (j 44), (j 45), (j 46), (j 47), (j 48), (j 49), x50])) h) :
  lp (fun k1 => den Tryz.prog (sel (bodyOf Tryz.f17) [1, 1, 0, 1, 0, 0]) (thenD k1 (blk 0 (thenD (den Tryz.prog (sel (bodyOf Tryz.f17) [1, 1, 1]) (bodyQ Tryz.prog Tryz.f17.results.toList K E)) (bodyQ Tryz.prog Tryz.f17.results.toList K E))))) #[x0, x1, x2, x3, x4, x5, x6, v7, v8, y9, y10, y11, y12, y13, y14, y15, y16, y17, y18, y19, y20, y21, y22, y23, y24, y25, y26, y27, y28, y29, y30, y31, y32, y33, y34, y35, y36, y37, y38, y39, y40, y41, y42, y43, y44, y45, y46, y47, y48, y49, x50] h := by
  subst e7
  subst e8
  have e : (#[x0, x1, x2, x3, x4, x5, x6, (f7 s0), (f8 s0), y9, y10, y11, y12, y13, y14, y15, y16, y17, y18, y19, y20, y21, y22, y23, y24, y25, y26, y27, y28, y29, y30, y31, y32, y33, y34, y35, y36, y37, y38, y39, y40, y41, y42, y43, y44, y45, y46, y47, y48, y49, x50] : Env) = m17_1_1_0_1_0_0 x0 x1 x2 x3 x4 x5 x6 x50 (f7 s0) (f8 s0) (jf #[x0, x1, x2, x3, x4, x5, x6, (f7 s0), (f8 s0), y9, y10, y11, y12, y13, y14, y15, y16, y17, y18, y19, y20, y21, y22, y23, y24, y25, y26, y27, y28, y29, y30, y31, y32, y33, y34, y35, y36, y37, y38, y39, y40, y41, y42, y43, y44, y45, y46, y47, y48, y49, x50]) := by kernel_rfl
  rw [e]
  exact loop_r (fun s j => m17_1_1_0_1_0_0 x0 x1 x2 x3 x4 x5 x6 x50 (f7 s) (f8 s) j) I μ (fun k s j h hI hw next => by rw [t17_1_1_0_1_0_0]; exact round k s j h hI hw next) s0 (jf #[x0, x1, x2, x3, x4, x5, x6, (f7 s0), (f8 s0), y9, y10, y11, y12, y13, y14, y15, y16, y17, y18, y19, y20, y21, y22, y23, y24, y25, y26, y27, y28, y29, y30, y31, y32, y33, y34, y35, y36, y37, y38, y39, y40, y41, y42, y43, y44, y45, y46, y47, y48, y49, x50]) h0

theorem t18 (K : Kont) (E : PanK) (x0 x1 : Value)  : den Tryz.prog (sel (bodyOf Tryz.f18) []) (bodyQ Tryz.prog Tryz.f18.results.toList K E) #[x0, x1, undef, undef, undef, undef, undef, undef, undef, undef, undef, undef, undef, undef, undef, undef, undef, undef, undef, undef, undef, undef, undef, undef, undef, undef, undef, undef, undef, undef, undef, undef, undef] =
  pv (lenV x0) fun t1 =>
  lp (fun k1 => den Tryz.prog (sel (bodyOf Tryz.f18) [1, 0, 1, 0, 0]) (thenD k1 (blk 0 (thenD (den Tryz.prog (sel (bodyOf Tryz.f18) [1, 1]) (bodyQ Tryz.prog Tryz.f18.results.toList K E)) (bodyQ Tryz.prog Tryz.f18.results.toList K E))))) #[x0, x1, undef, undef, (.bool false), undef, undef, x0, t1, (.int .i64 0), undef, undef, undef, undef, undef, undef, undef, undef, undef, undef, undef, undef, undef, undef, undef, undef, undef, undef, undef, undef, undef, undef, undef] := by kernel_rfl
def m18_1_0_1_0_0 (x0 x1 x2 x3 x7 x8 : Value) (v9 : Value) (j : Nat → Value) : Env := #[x0, x1, x2, x3, (j 4), (j 5), (j 6), x7, x8, v9, (j 10), (j 11), (j 12), (j 13), (j 14), (j 15), (j 16), (j 17), (j 18), (j 19), (j 20), (j 21), (j 22), (j 23), (j 24), (j 25), (j 26), (j 27), (j 28), (j 29), (j 30), (j 31), (j 32)]
theorem t18_1_0_1_0_0 (K : Kont) (E : PanK) (k1 : Env → Hp → Prop) (x0 x1 x2 x3 x7 x8 v9 : Value) (j : Nat → Value) : den Tryz.prog (sel (bodyOf Tryz.f18) [1, 0, 1, 0, 0]) (thenD k1 (blk 0 (thenD (den Tryz.prog (sel (bodyOf Tryz.f18) [1, 1]) (bodyQ Tryz.prog Tryz.f18.results.toList K E)) (bodyQ Tryz.prog Tryz.f18.results.toList K E)))) (m18_1_0_1_0_0 x0 x1 x2 x3 x7 x8 v9 j) =
  pv (binV .none .lss v9 x8) fun t1 =>
  cnd t1 (
    pv (iaV none 5 x7 v9) fun t2 =>
    ld true 5 t2 fun t3 =>
    nw 51 [(.slice none 0 0), (.int .i64 0), (.int .i64 0), (.int .i64 0), (.int .i64 0)] fun t4 =>
    st 5 t4 t3 fun _ =>
    ld true 5 t4 fun t5 =>
    callv Tryz.prog (.func (.func 34) #[] #[]) #[t5, x1] (fun t6 =>
    pv (unV .not t6) fun t7 =>
    gdK t7 false (fun k => k v9) fun t8 =>
    gdK t7 false (fun k => pv (binV .none .gtr t8 (.int .i64 0)) k) fun t9 =>
    gdK t7 false (fun k => k t9) fun t10 =>
    gdK t10 true (fun k => k x0) fun t11 =>
    gdK t10 true (fun k => k v9) fun t12 =>
    gdK t10 true (fun k => pv (binV .none .sub t12 (.int .i64 1)) k) fun t13 =>
    gdK t10 true (fun k => pv (iaV none 5 t11 t13) k) fun t14 =>
    gdK t10 true (fun k => ld true 5 t14 k) fun t15 =>
    gdK t10 true (fun k => ld true 5 t4 k) fun t16 =>
    gdK t10 true (fun k => callv Tryz.prog (.func (.func 35) #[] #[]) #[t15, t16] k E) fun t17 =>
    gdK t10 true (fun k => pv (binV .none .geq t17 (.int .i64 0)) k) fun t18 =>
    gdK t7 false (fun k => pv (pickV t10 t18 (.bool false)) k) fun t19 =>
    pv (pickV t7 (.bool true) t19) fun t20 =>
    cnd t20 (
      K (.bool false)) (
      pv (binV .none .add v9 (.int .i64 1)) fun t21 =>
      k1 (m18_1_0_1_0_0 x0 x1 x2 x3 x7 x8 t21 (jf #[x0, x1, x2, x3, (j 4), v9, t4, x7, x8, t21, t1, v9, t2, t3, t5, x1, t6, t7, t7, t8, t9, t10, t11, t12, t13, t14, t15, t16, t17, t18, t19, t20, t21])))) E) (
    den Tryz.prog (sel (bodyOf Tryz.f18) [1, 1]) (bodyQ Tryz.prog Tryz.f18.results.toList K E) #[x0, x1, x2, x3, (j 4), (j 5), (j 6), x7, x8, v9, t1, (j 11), (j 12), (j 13), (j 14), (j 15), (j 16), (j 17), (j 18), (j 19), (j 20), (j 21), (j 22), (j 23), (j 24), (j 25), (j 26), (j 27), (j 28), (j 29), (j 30), (j 31), (j 32)]) := by kernel_rfl
theorem t18_1_1 (K : Kont) (E : PanK) (x0 x1 x2 x3 x4 x5 x6 x7 x8 x9 x10 x11 x12 x13 x14 x15 x16 x17 x18 x19 x20 x21 x22 x23 x24 x25 x26 x27 x28 x29 x30 x31 x32 : Value)  : den Tryz.prog (sel (bodyOf Tryz.f18) [1, 1]) (bodyQ Tryz.prog Tryz.f18.results.toList K E) #[x0, x1, x2, x3, x4, x5, x6, x7, x8, x9, x10, x11, x12, x13, x14, x15, x16, x17, x18, x19, x20, x21, x22, x23, x24, x25, x26, x27, x28, x29, x30, x31, x32] =
  K (.bool true) := by kernel_rfl
theorem l18_1_0_1_0_0 {K : Kont} {E : PanK} {σ : Type} {x0 x1 x2 x3 x7 x8 v9 y4 y5 y6 y10 y11 y12 y13 y14 y15 y16 y17 y18 y19 y20 y21 y22 y23 y24 y25 y26 y27 y28 y29 y30 y31 y32 : Value} {h : Hp} (f9 : σ → Value) (I : σ → Hp → Prop) (μ : σ → Nat) (s0 : σ) (e9 : v9 = f9 s0) (h0 : h.wf → ∃ h', h.wk h' ∧ I s0 h')
  (round : ∀ (k1 : Env → Hp → Prop) (s : σ) (j : Nat → Value) (h : Hp), I s h → h.wf → (∀ s' j' h', μ s' < μ s → (h'.wf → ∃ h'', h'.wk h'' ∧ I s' h'') → k1 (m18_1_0_1_0_0 x0 x1 x2 x3 x7 x8 (f9 s') j') h') → (
  pv (binV .none .lss (f9 s) x8) fun t1 =>
  cnd t1 (
    pv (iaV none 5 x7 (f9 s)) fun t2 =>
    ld true 5 t2 fun t3 =>
    nw 51 [(.slice none 0 0), (.int .i64 0), (.int .i64 0), (.int .i64 0), (.int .i64 0)] fun t4 =>
    st 5 t4 t3 fun _ =>
    ld true 5 t4 fun t5 =>
    callv Tryz.prog (.func (.func 34) #[] #[]) #[t5, x1] (fun t6 =>
    pv (unV .not t6) fun t7 =>
    gdK t7 false (fun k => k (f9 s)) fun t8 =>
    gdK t7 false (fun k => pv (binV .none .gtr t8 (.int .i64 0)) k) fun t9 =>
    gdK t7 false (fun k => k t9) fun t10 =>
    gdK t10 true (fun k => k x0) fun t11 =>
    gdK t10 true (fun k => k (f9 s)) fun t12 =>
    gdK t10 true (fun k => pv (binV .none .sub t12 (.int .i64 1)) k) fun t13 =>
    gdK t10 true (fun k => pv (iaV none 5 t11 t13) k) fun t14 =>
    gdK t10 true (fun k => ld true 5 t14 k) fun t15 =>
    gdK t10 true (fun k => ld true 5 t4 k) fun t16 =>
    gdK t10 true (fun k => callv Tryz.prog (.func (.func 35) #[] #[]) #[t15, t16] k E) fun t17 =>
    gdK t10 true (fun k => pv (binV .none .geq t17 (.int .i64 0)) k) fun t18 =>
    gdK t7 false (fun k => pv (pickV t10 t18 (.bool false)) k) fun t19 =>
    pv (pickV t7 (.bool true) t19) fun t20 =>
    cnd t20 (
      K (.bool false)) (
      pv (binV .none .add (f9 s) (.int .i64 1)) fun t21 =>
      k1 (m18_1_0_1_0_0 x0 x1 x2 x3 x7 x8 t21 (jf #[x0, x1, x2, x3, (j 4), (f9 s), t4, x7, x8, t21, t1, (f9 s), t2, t3, t5, x1, t6, t7, t7, t8, t9, t10, t11, t12, t13, t14, t15, t16, t17, t18, t19, t20, t21])))) E) (
    den Tryz.prog (sel (bodyOf Tryz.f18) [1, 1]) (bodyQ Tryz.prog Tryz.f18.results.toList K E) #[x0, x1, x2, x3, (j 4), (j 5), (j 6), x7, x8, (f9 s), t1, (j 11), (j 12), (j 13), (j 14), (j 15), (j 16), (j 17), (j 18), (j 19), (j 20), (j 21), (j 22), (j 23), (j 24), (j 25), (j 26), (j 27), (j 28), (j 29), (j 30), (j 31), (j 32)])) h) :
  lp (fun k1 => den Tryz.prog (sel (bodyOf Tryz.f18) [1, 0, 1, 0, 0]) (thenD k1 (blk 0 (thenD (den Tryz.prog (sel (bodyOf Tryz.f18) [1, 1]) (bodyQ Tryz.prog Tryz.f18.results.toList K E)) (bodyQ Tryz.prog Tryz.f18.results.toList K E))))) #[x0, x1, x2, x3, y4, y5, y6, x7, x8, v9, y10, y11, y12, y13, y14, y15, y16, y17, y18, y19, y20, y21, y22, y23, y24, y25, y26, y27, y28, y29, y30, y31, y32] h := by
  subst e9
  have e : (#[x0, x1, x2, x3, y4, y5, y6, x7, x8, (f9 s0), y10, y11, y12, y13, y14, y15, y16, y17, y18, y19, y20, y21, y22, y23, y24, y25, y26, y27, y28, y29, y30, y31, y32] : Env) = m18_1_0_1_0_0 x0 x1 x2 x3 x7 x8 (f9 s0) (jf #[x0, x1, x2, x3, y4, y5, y6, x7, x8, (f9 s0), y10, y11, y12, y13, y14, y15, y16, y17, y18, y19, y20, y21, y22, y23, y24, y25, y26, y27, y28, y29, y30, y31, y32]) := by kernel_rfl
  rw [e]
  exact loop_r (fun s j => m18_1_0_1_0_0 x0 x1 x2 x3 x7 x8 (f9 s) j) I μ (fun k s j h hI hw next => by rw [t18_1_0_1_0_0]; exact round k s j h hI hw next) s0 (jf #[x0, x1, x2, x3, y4, y5, y6, x7, x8, (f9 s0), y10, y11, y12, y13, y14, y15, y16, y17, y18, y19, y20, y21, y22, y23, y24, y25, y26, y27, y28, y29, y30, y31, y32]) h0

theorem t19 (K : Kont) (E : PanK) (x0 x1 x2 x3 : Value)  : den Tryz.prog (sel (bodyOf Tryz.f19) []) (bodyQ Tryz.prog Tryz.f19.results.toList K E) #[x0, x1, x2, x3, undef, undef, undef, undef, undef, undef, undef, undef, undef, undef, undef, undef, undef, undef, undef, undef, undef, undef, undef, undef, undef, undef, undef, undef, undef] =
  nw 28 (Value.cells x0).toList fun t1 =>
  nw 34 (Value.cells x2).toList fun t2 =>
  nw 34 (Value.cells x3).toList fun t3 =>
  ld false 1 t1 fun t4 =>
  callv Tryz.prog (.func (.func 29) #[] #[]) #[t4] (fun t5 =>
  pv (unV .not t5) fun t6 =>
  cnd t6 (
    K (.tuple #[(.slice none 0 0), (.int .u16 30)])) (
    ld false 1 t1 fun t7 =>
    ld false 1 t2 fun t8 =>
    ld false 1 t3 fun t9 =>
    callv Tryz.prog (.func (.func 36) #[] #[]) #[t7, t8, t9] (fun t10 =>
    pv (unV .not t10) fun t11 =>
    cnd t11 (
      K (.tuple #[(.slice none 0 0), (.int .u16 40)])) (
      ld false 1 t1 fun t12 =>
      pv (lenV t12) fun t13 =>
      callv Tryz.prog (.func (.func 18) #[] #[]) #[x1, t13] (fun t14 =>
      pv (unV .not t14) fun t15 =>
      cnd t15 (
        K (.tuple #[(.slice none 0 0), (.int .u16 1)])) (
        callv Tryz.prog (.func (.func 37) #[] #[]) #[x1, (.func (.func 38) #[] #[t1, t2, t3])] (fun t16 =>
        K (.tuple #[t16, (.int .u16 0)])) E)) E)) E)) E := by kernel_rfl

theorem t20 (K : Kont) (E : PanK) (x0 x1 x2 : Value)  : den Tryz.prog (sel (bodyOf Tryz.f20) []) (bodyQ Tryz.prog Tryz.f20.results.toList K E) #[x0, x1, x2, undef, undef, undef, undef, undef, undef, undef, undef, undef, undef, undef, undef, undef, undef, undef, undef, undef, undef, undef, undef, undef, undef, undef, undef, undef, undef, undef, undef, undef] =
  pv (lenV x0) fun t1 =>
  lp (fun k1 => den Tryz.prog (sel (bodyOf Tryz.f20) [1, 1, 0, 1, 0, 0]) (thenD k1 (blk 0 (thenD (den Tryz.prog (sel (bodyOf Tryz.f20) [1, 1, 1]) (bodyQ Tryz.prog Tryz.f20.results.toList K E)) (bodyQ Tryz.prog Tryz.f20.results.toList K E))))) #[x0, x1, x2, undef, undef, undef, (.slice none 0 0), (.slice none 0 0), undef, undef, x0, t1, (.int .i64 0), undef, undef, undef, undef, undef, undef, undef, undef, undef, undef, undef, undef, undef, undef, undef, undef, undef, undef, undef] := by kernel_rfl
def m20_1_1_0_1_0_0 (x0 x1 x2 x3 x4 x5 x6 x8 x10 x11 x31 : Value) (v7 v12 : Value) (j : Nat → Value) : Env := #[x0, x1, x2, x3, x4, x5, x6, v7, x8, (j 9), x10, x11, v12, (j 13), (j 14), (j 15), (j 16), (j 17), (j 18), (j 19), (j 20), (j 21), (j 22), (j 23), (j 24), (j 25), (j 26), (j 27), (j 28), (j 29), (j 30), x31]
theorem t20_1_1_0_1_0_0 (K : Kont) (E : PanK) (k1 : Env → Hp → Prop) (x0 x1 x2 x3 x4 x5 x6 x8 x10 x11 x31 v7 v12 : Value) (j : Nat → Value) : den Tryz.prog (sel (bodyOf Tryz.f20) [1, 1, 0, 1, 0, 0]) (thenD k1 (blk 0 (thenD (den Tryz.prog (sel (bodyOf Tryz.f20) [1, 1, 1]) (bodyQ Tryz.prog Tryz.f20.results.toList K E)) (bodyQ Tryz.prog Tryz.f20.results.toList K E)))) (m20_1_1_0_1_0_0 x0 x1 x2 x3 x4 x5 x6 x8 x10 x11 x31 v7 v12 j) =
  pv (binV .none .lss v12 x11) fun t1 =>
  cnd t1 (
    pv (iaV none 5 x10 v12) fun t2 =>
    ld true 5 t2 fun t3 =>
    nw 51 [(.slice none 0 0), (.int .i64 0), (.int .i64 0), (.int .i64 0), (.int .i64 0)] fun t4 =>
    st 5 t4 t3 fun _ =>
    pv (faV 0 t4) fun t5 =>
    ld false 1 t5 fun t6 =>
    callv Tryz.prog (.func (.func 40) #[] #[]) #[x1, x2, t6] (fun t7 =>
    cnd t7 (
      pv (faV 0 t4) fun t8 =>
      ld false 1 t8 fun t9 =>
      pv (faV 1 t4) fun t10 =>
      ld true 4 t10 fun t11 =>
      callv Tryz.prog (.func (.func 41) #[] #[]) #[t9] (fun t12 h13 => (ldV h13 true 4 t10 t11) ∧ (
        pv (bdC #[(.slice none 0 0), (.int .i64 0), (.int .i64 0), (.int .i64 0), (.int .i64 0)] [(0, 1), (1, 4)] #[(0, t12), (1, t11)]) fun t14 =>
        nws 51 1 (bsC #[(.slice none 0 0), (.int .i64 0), (.int .i64 0), (.int .i64 0), (.int .i64 0)] 5 1 #[(0, t14)]) fun t15 =>
        appX 51 5 56 v7 t15 fun t16 =>
        den Tryz.prog (sel (bodyOf Tryz.f20) [1, 1, 0, 1, 0, 0, 1, 1, 1]) (thenD k1 (blk 0 (thenD (den Tryz.prog (sel (bodyOf Tryz.f20) [1, 1, 1]) (bodyQ Tryz.prog Tryz.f20.results.toList K E)) (bodyQ Tryz.prog Tryz.f20.results.toList K E)))) #[x0, x1, x2, x3, x4, x5, x6, t16, x8, t4, x10, x11, v12, t1, t2, t3, x1, x2, t5, t6, t7, v7, t8, t9, t12, t10, t11, t14, t15, t16, (j 30), x31]) h13) E) (
      den Tryz.prog (sel (bodyOf Tryz.f20) [1, 1, 0, 1, 0, 0, 1, 1, 1]) (thenD k1 (blk 0 (thenD (den Tryz.prog (sel (bodyOf Tryz.f20) [1, 1, 1]) (bodyQ Tryz.prog Tryz.f20.results.toList K E)) (bodyQ Tryz.prog Tryz.f20.results.toList K E)))) #[x0, x1, x2, x3, x4, x5, x6, v7, x8, t4, x10, x11, v12, t1, t2, t3, x1, x2, t5, t6, t7, (j 21), (j 22), (j 23), (j 24), (j 25), (j 26), (j 27), (j 28), (j 29), (j 30), x31])) E) (
    den Tryz.prog (sel (bodyOf Tryz.f20) [1, 1, 1]) (bodyQ Tryz.prog Tryz.f20.results.toList K E) #[x0, x1, x2, x3, x4, x5, x6, v7, x8, (j 9), x10, x11, v12, t1, (j 14), (j 15), (j 16), (j 17), (j 18), (j 19), (j 20), (j 21), (j 22), (j 23), (j 24), (j 25), (j 26), (j 27), (j 28), (j 29), (j 30), x31]) := by kernel_rfl
theorem t20_1_1_1 (K : Kont) (E : PanK) (x0 x1 x2 x3 x4 x5 x6 x7 x8 x9 x10 x11 x12 x13 x14 x15 x16 x17 x18 x19 x20 x21 x22 x23 x24 x25 x26 x27 x28 x29 x30 x31 : Value)  : den Tryz.prog (sel (bodyOf Tryz.f20) [1, 1, 1]) (bodyQ Tryz.prog Tryz.f20.results.toList K E) #[x0, x1, x2, x3, x4, x5, x6, x7, x8, x9, x10, x11, x12, x13, x14, x15, x16, x17, x18, x19, x20, x21, x22, x23, x24, x25, x26, x27, x28, x29, x30, x31] =
  K x7 := by kernel_rfl
theorem t20_1_1_0_1_0_0_1_1_1 (K : Kont) (E : PanK) (k1 : Env → Hp → Prop) (x0 x1 x2 x3 x4 x5 x6 x7 x8 x9 x10 x11 x12 x13 x14 x15 x16 x17 x18 x19 x20 x21 x22 x23 x24 x25 x26 x27 x28 x29 x30 x31 : Value)  : den Tryz.prog (sel (bodyOf Tryz.f20) [1, 1, 0, 1, 0, 0, 1, 1, 1]) (thenD k1 (blk 0 (thenD (den Tryz.prog (sel (bodyOf Tryz.f20) [1, 1, 1]) (bodyQ Tryz.prog Tryz.f20.results.toList K E)) (bodyQ Tryz.prog Tryz.f20.results.toList K E)))) #[x0, x1, x2, x3, x4, x5, x6, x7, x8, x9, x10, x11, x12, x13, x14, x15, x16, x17, x18, x19, x20, x21, x22, x23, x24, x25, x26, x27, x28, x29, x30, x31] =
  pv (binV .none .add x12 (.int .i64 1)) fun t1 =>
  k1 (m20_1_1_0_1_0_0 x0 x1 x2 x3 x4 x5 x6 x8 x10 x11 x31 x7 t1 (jf #[x0, x1, x2, x3, x4, x5, x6, x7, x8, x9, x10, x11, t1, x13, x14, x15, x16, x17, x18, x19, x20, x21, x22, x23, x24, x25, x26, x27, x28, x29, t1, x31])) := by kernel_rfl
theorem l20_1_1_0_1_0_0 {K : Kont} {E : PanK} {σ : Type} {x0 x1 x2 x3 x4 x5 x6 x8 x10 x11 x31 v7 v12 y9 y13 y14 y15 y16 y17 y18 y19 y20 y21 y22 y23 y24 y25 y26 y27 y28 y29 y30 : Value} {h : Hp} (f7 f12 : σ → Value) (I : σ → Hp → Prop) (μ : σ → Nat) (s0 : σ) (e7 : v7 = f7 s0) (e12 : v12 = f12 s0) (h0 : h.wf → ∃ h', h.wk h' ∧ I s0 h')
  (round : ∀ (k1 : Env → Hp → Prop) (s : σ) (j : Nat → Value) (h : Hp), I s h → h.wf → (∀ s' j' h', μ s' < μ s → (h'.wf → ∃ h'', h'.wk h'' ∧ I s' h'') → k1 (m20_1_1_0_1_0_0 x0 x1 x2 x3 x4 x5 x6 x8 x10 x11 x31 (f7 s') (f12 s') j') h') → (
  pv (binV .none .lss (f12 s) x11) fun t1 =>
  cnd t1 (
    pv (iaV none 5 x10 (f12 s)) fun t2 =>
    ld true 5 t2 fun t3 =>
    nw 51 [(.slice none 0 0), (.int .i64 0), (.int .i64 0), (.int .i64 0), (.int .i64 0)] fun t4 =>
    st 5 t4 t3 fun _ =>
    pv (faV 0 t4) fun t5 =>
    ld false 1 t5 fun t6 =>
    callv Tryz.prog (.func (.func 40) #[] #[]) #[x1, x2, t6] (fun t7 =>
    cnd t7 (
      pv (faV 0 t4) fun t8 =>
      ld false 1 t8 fun t9 =>
      pv (faV 1 t4) fun t10 =>
      ld true 4 t10 fun t11 =>
      callv Tryz.prog (.func (.func 41) #[] #[]) #[t9] (fun t12 h13 => (ldV h13 true 4 t10 t11) ∧ (
        pv (bdC #[(.slice none 0 0), (.int .i64 0), (.int .i64 0), (.int .i64 0), (.int .i64 0)] [(0, 1), (1, 4)] #[(0, t12), (1, t11)]) fun t14 =>
        nws 51 1 (bsC #[(.slice none 0 0), (.int .i64 0), (.int .i64 0), (.int .i64 0), (.int .i64 0)] 5 1 #[(0, t14)]) fun t15 =>
        appX 51 5 56 (f7 s) t15 fun t16 =>
        den Tryz.prog (sel (bodyOf Tryz.f20) [1, 1, 0, 1, 0, 0, 1, 1, 1]) (thenD k1 (blk 0 (thenD (den Tryz.prog (sel (bodyOf Tryz.f20) [1, 1, 1]) (bodyQ Tryz.prog Tryz.f20.results.toList K E)) (bodyQ Tryz.prog Tryz.f20.results.toList K E)))) #[x0, x1, x2, x3, x4, x5, x6, t16, x8, t4, x10, x11, (f12 s), t1, t2, t3, x1, x2, t5, t6, t7, (f7 s), t8, t9, t12, t10, t11, t14, t15, t16, (j 30), x31]) h13) E) (
      den Tryz.prog (sel (bodyOf Tryz.f20) [1, 1, 0, 1, 0, 0, 1, 1, 1]) (thenD k1 (blk 0 (thenD (den Tryz.prog (sel (bodyOf Tryz.f20) [1, 1, 1]) (bodyQ Tryz.prog Tryz.f20.results.toList K E)) (bodyQ Tryz.prog Tryz.f20.results.toList K E)))) #[x0, x1, x2, x3, x4, x5, x6, (f7 s), x8, t4, x10, x11, (f12 s), t1, t2, t3, x1, x2, t5, t6, t7, (j 21), (j 22), (j 23), (j 24), (j 25), (j 26), (j 27), (j 28), (j 29), (j 30), x31])) E) (
    den Tryz.prog (sel (bodyOf Tryz.f20) [1, 1, 1]) (bodyQ Tryz.prog Tryz.f20.results.toList K E) #[x0, x1, x2, x3, x4, x5, x6, (f7 s), x8, (j 9), x10, x11, (f12 s), t1, (j 14), (j 15), (j 16), (j 17), (j 18), (j 19), (j 20), (j 21), (j 22), (j 23), (j 24), (j 25), (j 26), (j 27), (j 28), (j 29), (j 30), x31])) h) :
  lp (fun k1 => den Tryz.prog (sel (bodyOf Tryz.f20) [1, 1, 0, 1, 0, 0]) (thenD k1 (blk 0 (thenD (den Tryz.prog (sel (bodyOf Tryz.f20) [1, 1, 1]) (bodyQ Tryz.prog Tryz.f20.results.toList K E)) (bodyQ Tryz.prog Tryz.f20.results.toList K E))))) #[x0, x1, x2, x3, x4, x5, x6, v7, x8, y9, x10, x11, v12, y13, y14, y15, y16, y17, y18, y19, y20, y21, y22, y23, y24, y25, y26, y27, y28, y29, y30, x31] h := by
  subst e7
  subst e12
  have e : (#[x0, x1, x2, x3, x4, x5, x6, (f7 s0), x8, y9, x10, x11, (f12 s0), y13, y14, y15, y16, y17, y18, y19, y20, y21, y22, y23, y24, y25, y26, y27, y28, y29, y30, x31] : Env) = m20_1_1_0_1_0_0 x0 x1 x2 x3 x4 x5 x6 x8 x10 x11 x31 (f7 s0) (f12 s0) (jf #[x0, x1, x2, x3, x4, x5, x6, (f7 s0), x8, y9, x10, x11, (f12 s0), y13, y14, y15, y16, y17, y18, y19, y20, y21, y22, y23, y24, y25, y26, y27, y28, y29, y30, x31]) := by kernel_rfl
  rw [e]
  exact loop_r (fun s j => m20_1_1_0_1_0_0 x0 x1 x2 x3 x4 x5 x6 x8 x10 x11 x31 (f7 s) (f12 s) j) I μ (fun k s j h hI hw next => by rw [t20_1_1_0_1_0_0]; exact round k s j h hI hw next) s0 (jf #[x0, x1, x2, x3, x4, x5, x6, (f7 s0), x8, y9, x10, x11, (f12 s0), y13, y14, y15, y16, y17, y18, y19, y20, y21, y22, y23, y24, y25, y26, y27, y28, y29, y30, x31]) h0

theorem t21 (K : Kont) (E : PanK) (x0 : Value)  : den Tryz.prog (sel (bodyOf Tryz.f21) []) (bodyQ Tryz.prog Tryz.f21.results.toList K E) #[x0, undef, undef, undef, undef, undef, undef, undef] =
  pv (lenV x0) fun t1 =>
  pv (binV .none .gtr t1 (.int .i64 500)) fun t2 =>
  cnd t2 (
    K (.tuple #[(.slice none 0 0), (.int .u16 61)])) (
    K (.tuple #[x0, (.int .u16 0)])) := by kernel_rfl

theorem t22 (K : Kont) (E : PanK) (x0 x1 : Value)  : den Tryz.prog (sel (bodyOf Tryz.f22) []) (bodyQ Tryz.prog Tryz.f22.results.toList K E) #[x0, x1, undef, undef, undef, undef, undef, undef, undef, undef, undef, undef, undef, undef, undef, undef, undef, undef, undef, undef, undef, undef, undef, undef, undef, undef, undef, undef, undef, undef, undef, undef, undef, undef, undef, undef, undef, undef, undef, undef, undef, undef, undef, undef, undef, undef, undef] =
  nw 36 (Value.cells x1).toList fun t1 =>
  callv Tryz.prog (.func (.func 42) #[] #[]) #[x0] (fun t2 =>
  pv (unV .not t2) fun t3 =>
  cnd t3 (
    K (.int .i64 30)) (
    pv (faV 0 t1) fun t4 =>
    ld false 1 t4 fun t5 =>
    pv (lenV t5) fun t6 =>
    pv (lenV x0) fun t7 =>
    pv (binV .none .neq t6 t7) fun t8 =>
    cnd t8 (
      K (.int .i64 40)) (
      lp (fun k1 => den Tryz.prog (sel (bodyOf Tryz.f22) [1, 1, 1, 0, 1, 0, 0]) (thenD k1 (blk 0 (thenD (den Tryz.prog (sel (bodyOf Tryz.f22) [1, 1, 1, 1]) (bodyQ Tryz.prog Tryz.f22.results.toList K E)) (bodyQ Tryz.prog Tryz.f22.results.toList K E))))) #[x0, x1, undef, t1, (.int .i64 0), (.int .i64 0), x0, t2, t3, t4, t5, t6, x0, t7, t8, undef, undef, undef, undef, undef, undef, undef, undef, undef, undef, undef, undef, undef, undef, undef, undef, undef, undef, undef, undef, undef, undef, undef, undef, undef, undef, undef, undef, undef, undef, undef, undef]))) E := by kernel_rfl
def m22_1_1_1_0_1_0_0 (x0 x1 x2 x3 x6 x7 x8 x9 x10 x11 x12 x13 x14 x40 x41 x42 x43 x44 x45 x46 : Value) (v5 : Value) (j : Nat → Value) : Env := #[x0, x1, x2, x3, (j 4), v5, x6, x7, x8, x9, x10, x11, x12, x13, x14, (j 15), (j 16), (j 17), (j 18), (j 19), (j 20), (j 21), (j 22), (j 23), (j 24), (j 25), (j 26), (j 27), (j 28), (j 29), (j 30), (j 31), (j 32), (j 33), (j 34), (j 35), (j 36), (j 37), (j 38), (j 39), x40, x41, x42, x43, x44, x45, x46]
theorem t22_1_1_1_0_1_0_0 (K : Kont) (E : PanK) (k1 : Env → Hp → Prop) (x0 x1 x2 x3 x6 x7 x8 x9 x10 x11 x12 x13 x14 x40 x41 x42 x43 x44 x45 x46 v5 : Value) (j : Nat → Value) : den Tryz.prog (sel (bodyOf Tryz.f22) [1, 1, 1, 0, 1, 0, 0]) (thenD k1 (blk 0 (thenD (den Tryz.prog (sel (bodyOf Tryz.f22) [1, 1, 1, 1]) (bodyQ Tryz.prog Tryz.f22.results.toList K E)) (bodyQ Tryz.prog Tryz.f22.results.toList K E)))) (m22_1_1_1_0_1_0_0 x0 x1 x2 x3 x6 x7 x8 x9 x10 x11 x12 x13 x14 x40 x41 x42 x43 x44 x45 x46 v5 j) =
  pv (lenV x0) fun t1 =>
  pv (binV .none .lss v5 t1) fun t2 =>
  cnd t2 (
    pv (faV 0 x3) fun t3 =>
    ld false 1 t3 fun t4 =>
    pv (iaV none 1 t4 v5) fun t5 =>
    ld false 1 t5 fun t6 =>
    pv (binV .none .lss t6 (.int .i64 0)) fun t7 =>
    gdK t7 false (fun k => pv (faV 0 x3) k) fun t8 =>
    gdK t7 false (fun k => ld false 1 t8 k) fun t9 =>
    gdK t7 false (fun k => k v5) fun t10 =>
    gdK t7 false (fun k => pv (iaV none 1 t9 t10) k) fun t11 =>
    gdK t7 false (fun k => ld false 1 t11 k) fun t12 =>
    gdK t7 false (fun k => k x0) fun t13 =>
    gdK t7 false (fun k => k v5) fun t14 =>
    gdK t7 false (fun k => pv (iaV none 2 t13 t14) k) fun t15 =>
    gdK t7 false (fun k => ld true 2 t15 k) fun t16 =>
    gdK t7 false (fun k => callv Tryz.prog (.func (.func 43) #[] #[]) #[t16] k E) (fun t17 h18 => (isB t7 false = true → ldV h18 false 1 t11 t12) ∧ (isB t7 false = true → ldV h18 false 1 t8 t9) ∧ (
      gdK t7 false (fun k => pv (binV .none .geq t12 t17) k) fun t19 =>
      pv (pickV t7 (.bool true) t19) fun t20 =>
      cnd t20 (
        K (.int .i64 40)) (
        pv (binV .none .add v5 (.int .i64 1)) fun t21 =>
        k1 (m22_1_1_1_0_1_0_0 x0 x1 x2 x3 x6 x7 x8 x9 x10 x11 x12 x13 x14 x40 x41 x42 x43 x44 x45 x46 t21 (jf #[x0, x1, x2, x3, (j 4), t21, x6, x7, x8, x9, x10, x11, x12, x13, x14, v5, x0, t1, t2, v5, t21, t3, t4, v5, t5, t6, t7, t7, t8, t9, t10, t11, t12, t13, t14, t15, t16, t17, t19, t20, x40, x41, x42, x43, x44, x45, x46])))) h18)) (
    den Tryz.prog (sel (bodyOf Tryz.f22) [1, 1, 1, 1]) (bodyQ Tryz.prog Tryz.f22.results.toList K E) #[x0, x1, x2, x3, (j 4), v5, x6, x7, x8, x9, x10, x11, x12, x13, x14, v5, x0, t1, t2, (j 19), (j 20), (j 21), (j 22), (j 23), (j 24), (j 25), (j 26), (j 27), (j 28), (j 29), (j 30), (j 31), (j 32), (j 33), (j 34), (j 35), (j 36), (j 37), (j 38), (j 39), x40, x41, x42, x43, x44, x45, x46]) := by kernel_rfl
theorem t22_1_1_1_1 (K : Kont) (E : PanK) (x0 x1 x2 x3 x4 x5 x6 x7 x8 x9 x10 x11 x12 x13 x14 x15 x16 x17 x18 x19 x20 x21 x22 x23 x24 x25 x26 x27 x28 x29 x30 x31 x32 x33 x34 x35 x36 x37 x38 x39 x40 x41 x42 x43 x44 x45 x46 : Value)  : den Tryz.prog (sel (bodyOf Tryz.f22) [1, 1, 1, 1]) (bodyQ Tryz.prog Tryz.f22.results.toList K E) #[x0, x1, x2, x3, x4, x5, x6, x7, x8, x9, x10, x11, x12, x13, x14, x15, x16, x17, x18, x19, x20, x21, x22, x23, x24, x25, x26, x27, x28, x29, x30, x31, x32, x33, x34, x35, x36, x37, x38, x39, x40, x41, x42, x43, x44, x45, x46] =
  pv (faV 1 x3) fun t1 =>
  ld false 1 t1 fun t2 =>
  pv (faV 2 x3) fun t3 =>
  ld false 1 t3 fun t4 =>
  callv Tryz.prog (.func (.func 44) #[] #[]) #[x0, t2, t4] (fun t5 =>
  pv (unV .not t5) fun t6 =>
  cnd t6 (
    K (.int .i64 60)) (
    K (.int .i64 0))) E := by kernel_rfl
theorem l22_1_1_1_0_1_0_0 {K : Kont} {E : PanK} {σ : Type} {x0 x1 x2 x3 x6 x7 x8 x9 x10 x11 x12 x13 x14 x40 x41 x42 x43 x44 x45 x46 v5 y4 y15 y16 y17 y18 y19 y20 y21 y22 y23 y24 y25 y26 y27 y28 y29 y30 y31 y32 y33 y34 y35 y36 y37 y38 y39 : Value} {h : Hp} (f5 : σ → Value) (I : σ → Hp → Prop) (μ : σ → Nat) (s0 : σ) (e5 : v5 = f5 s0) (h0 : h.wf → ∃ h', h.wk h' ∧ I s0 h')
  (round : ∀ (k1 : Env → Hp → Prop) (s : σ) (j : Nat → Value) (h : Hp), I s h → h.wf → (∀ s' j' h', μ s' < μ s → (h'.wf → ∃ h'', h'.wk h'' ∧ I s' h'') → k1 (m22_1_1_1_0_1_0_0 x0 x1 x2 x3 x6 x7 x8 x9 x10 x11 x12 x13 x14 x40 x41 x42 x43 x44 x45 x46 (f5 s') j') h') → (
  pv (lenV x0) fun t1 =>
  pv (binV .none .lss (f5 s) t1) fun t2 =>
  cnd t2 (
    pv (faV 0 x3) fun t3 =>
    ld false 1 t3 fun t4 =>
    pv (iaV none 1 t4 (f5 s)) fun t5 =>
    ld false 1 t5 fun t6 =>
    pv (binV .none .lss t6 (.int .i64 0)) fun t7 =>
    gdK t7 false (fun k => pv (faV 0 x3) k) fun t8 =>
    gdK t7 false (fun k => ld false 1 t8 k) fun t9 =>
    gdK t7 false (fun k => k (f5 s)) fun t10 =>
    gdK t7 false (fun k => pv (iaV none 1 t9 t10) k) fun t11 =>
    gdK t7 false (fun k => ld false 1 t11 k) fun t12 =>
    gdK t7 false (fun k => k x0) fun t13 =>
    gdK t7 false (fun k => k (f5 s)) fun t14 =>
    gdK t7 false (fun k => pv (iaV none 2 t13 t14) k) fun t15 =>
    gdK t7 false (fun k => ld true 2 t15 k) fun t16 =>
    gdK t7 false (fun k => callv Tryz.prog (.func (.func 43) #[] #[]) #[t16] k E) (fun t17 h18 => (isB t7 false = true → ldV h18 false 1 t11 t12) ∧ (isB t7 false = true → ldV h18 false 1 t8 t9) ∧ (
      gdK t7 false (fun k => pv (binV .none .geq t12 t17) k) fun t19 =>
      pv (pickV t7 (.bool true) t19) fun t20 =>
      cnd t20 (
        K (.int .i64 40)) (
        pv (binV .none .add (f5 s) (.int .i64 1)) fun t21 =>
        k1 (m22_1_1_1_0_1_0_0 x0 x1 x2 x3 x6 x7 x8 x9 x10 x11 x12 x13 x14 x40 x41 x42 x43 x44 x45 x46 t21 (jf #[x0, x1, x2, x3, (j 4), t21, x6, x7, x8, x9, x10, x11, x12, x13, x14, (f5 s), x0, t1, t2, (f5 s), t21, t3, t4, (f5 s), t5, t6, t7, t7, t8, t9, t10, t11, t12, t13, t14, t15, t16, t17, t19, t20, x40, x41, x42, x43, x44, x45, x46])))) h18)) (
    den Tryz.prog (sel (bodyOf Tryz.f22) [1, 1, 1, 1]) (bodyQ Tryz.prog Tryz.f22.results.toList K E) #[x0, x1, x2, x3, (j 4), (f5 s), x6, x7, x8, x9, x10, x11, x12, x13, x14, (f5 s), x0, t1, t2, (j 19), (j 20), (j 21), (j 22), (j 23), (j 24), (j 25), (j 26), (j 27), (j 28), (j 29), (j 30), (j 31), (j 32), (j 33), (j 34), (j 35), (j 36), (j 37), (j 38), (j 39), x40, x41, x42, x43, x44, x45, x46])) h) :
  lp (fun k1 => den Tryz.prog (sel (bodyOf Tryz.f22) [1, 1, 1, 0, 1, 0, 0]) (thenD k1 (blk 0 (thenD (den Tryz.prog (sel (bodyOf Tryz.f22) [1, 1, 1, 1]) (bodyQ Tryz.prog Tryz.f22.results.toList K E)) (bodyQ Tryz.prog Tryz.f22.results.toList K E))))) #[x0, x1, x2, x3, y4, v5, x6, x7, x8, x9, x10, x11, x12, x13, x14, y15, y16, y17, y18, y19, y20, y21, y22, y23, y24, y25, y26, y27, y28, y29, y30, y31, y32, y33, y34, y35, y36, y37, y38, y39, x40, x41, x42, x43, x44, x45, x46] h := by
  subst e5
  have e : (#[x0, x1, x2, x3, y4, (f5 s0), x6, x7, x8, x9, x10, x11, x12, x13, x14, y15, y16, y17, y18, y19, y20, y21, y22, y23, y24, y25, y26, y27, y28, y29, y30, y31, y32, y33, y34, y35, y36, y37, y38, y39, x40, x41, x42, x43, x44, x45, x46] : Env) = m22_1_1_1_0_1_0_0 x0 x1 x2 x3 x6 x7 x8 x9 x10 x11 x12 x13 x14 x40 x41 x42 x43 x44 x45 x46 (f5 s0) (jf #[x0, x1, x2, x3, y4, (f5 s0), x6, x7, x8, x9, x10, x11, x12, x13, x14, y15, y16, y17, y18, y19, y20, y21, y22, y23, y24, y25, y26, y27, y28, y29, y30, y31, y32, y33, y34, y35, y36, y37, y38, y39, x40, x41, x42, x43, x44, x45, x46]) := by kernel_rfl
  rw [e]
  exact loop_r (fun s j => m22_1_1_1_0_1_0_0 x0 x1 x2 x3 x6 x7 x8 x9 x10 x11 x12 x13 x14 x40 x41 x42 x43 x44 x45 x46 (f5 s) j) I μ (fun k s j h hI hw next => by rw [t22_1_1_1_0_1_0_0]; exact round k s j h hI hw next) s0 (jf #[x0, x1, x2, x3, y4, (f5 s0), x6, x7, x8, x9, x10, x11, x12, x13, x14, y15, y16, y17, y18, y19, y20, y21, y22, y23, y24, y25, y26, y27, y28, y29, y30, y31, y32, y33, y34, y35, y36, y37, y38, y39, x40, x41, x42, x43, x44, x45, x46]) h0

end Go.Proofs.YthpacapdaembpaaGreatDoor.T
open Go Go.RowKit Go.Proofs.YthpacapdaembpaaGreatDoor.K
set_option linter.unusedVariables false
set_option maxRecDepth 100000
namespace Go.Proofs.YthpacapdaembpaaGreatDoor.T
theorem t23 (K : Kont) (E : PanK) (x0 x1 : Value)  : den Tryz.prog (sel (bodyOf Tryz.f23) []) (bodyQ Tryz.prog Tryz.f23.results.toList K E) #[x0, x1, undef, undef, undef, undef, undef, undef, undef, undef, undef, undef, undef, undef, undef, undef, undef, undef, undef, undef, undef, undef, undef, undef, undef, undef, undef, undef, undef, undef, undef, undef, undef, undef, undef, undef, undef, undef, undef, undef, undef, undef, undef, undef, undef, undef, undef, undef, undef, undef, undef, undef, undef, undef, undef, undef, undef, undef, undef, undef, undef, undef, undef, undef, undef, undef, undef, undef, undef, undef, undef, undef, undef, undef, undef, undef, undef] =
  lp (fun k1 => den Tryz.prog (sel (bodyOf Tryz.f23) [1, 0, 1, 0, 0]) (thenD k1 (blk 0 (thenD (den Tryz.prog (sel (bodyOf Tryz.f23) [1, 1]) (bodyQ Tryz.prog Tryz.f23.results.toList K E)) (bodyQ Tryz.prog Tryz.f23.results.toList K E))))) #[x0, x1, undef, undef, (.bool false), (.int .i64 0), undef, undef, undef, undef, undef, undef, undef, undef, undef, undef, undef, undef, undef, undef, undef, undef, undef, undef, undef, undef, undef, undef, undef, undef, undef, undef, undef, undef, undef, undef, undef, undef, undef, undef, undef, undef, undef, undef, undef, undef, undef, undef, undef, undef, undef, undef, undef, undef, undef, undef, undef, undef, undef, undef, undef, undef, undef, undef, undef, undef, undef, undef, undef, undef, undef, undef, undef, undef, undef, undef, undef] := by kernel_rfl
def m23_1_0_1_0_0 (x0 x1 x2 x3 : Value) (v5 : Value) (j : Nat → Value) : Env := #[x0, x1, x2, x3, (j 4), v5, (j 6), (j 7), (j 8), (j 9), (j 10), (j 11), (j 12), (j 13), (j 14), (j 15), (j 16), (j 17), (j 18), (j 19), (j 20), (j 21), (j 22), (j 23), (j 24), (j 25), (j 26), (j 27), (j 28), (j 29), (j 30), (j 31), (j 32), (j 33), (j 34), (j 35), (j 36), (j 37), (j 38), (j 39), (j 40), (j 41), (j 42), (j 43), (j 44), (j 45), (j 46), (j 47), (j 48), (j 49), (j 50), (j 51), (j 52), (j 53), (j 54), (j 55), (j 56), (j 57), (j 58), (j 59), (j 60), (j 61), (j 62), (j 63), (j 64), (j 65), (j 66), (j 67), (j 68), (j 69), (j 70), (j 71), (j 72), (j 73), (j 74), (j 75), (j 76)]
theorem t23_1_0_1_0_0 (K : Kont) (E : PanK) (k1 : Env → Hp → Prop) (x0 x1 x2 x3 v5 : Value) (j : Nat → Value) : den Tryz.prog (sel (bodyOf Tryz.f23) [1, 0, 1, 0, 0]) (thenD k1 (blk 0 (thenD (den Tryz.prog (sel (bodyOf Tryz.f23) [1, 1]) (bodyQ Tryz.prog Tryz.f23.results.toList K E)) (bodyQ Tryz.prog Tryz.f23.results.toList K E)))) (m23_1_0_1_0_0 x0 x1 x2 x3 v5 j) =
  pv (lenV x0) fun t1 =>
  pv (binV .none .lss v5 t1) fun t2 =>
  cnd t2 (
    lp (fun k2 => den Tryz.prog (sel (bodyOf Tryz.f23) [1, 0, 1, 0, 0, 1, 0, 0, 0, 1, 0, 0]) (thenD k2 (blk 2 (thenD (den Tryz.prog (sel (bodyOf Tryz.f23) [1, 0, 1, 0, 0, 1, 0, 0, 1]) (blk 1 (thenD (den Tryz.prog (sel (bodyOf Tryz.f23) [1, 0, 1, 0, 0, 1, 1]) (thenD k1 (blk 0 (thenD (den Tryz.prog (sel (bodyOf Tryz.f23) [1, 1]) (bodyQ Tryz.prog Tryz.f23.results.toList K E)) (bodyQ Tryz.prog Tryz.f23.results.toList K E))))) (thenD k1 (blk 0 (thenD (den Tryz.prog (sel (bodyOf Tryz.f23) [1, 1]) (bodyQ Tryz.prog Tryz.f23.results.toList K E)) (bodyQ Tryz.prog Tryz.f23.results.toList K E))))))) (blk 1 (thenD (den Tryz.prog (sel (bodyOf Tryz.f23) [1, 0, 1, 0, 0, 1, 1]) (thenD k1 (blk 0 (thenD (den Tryz.prog (sel (bodyOf Tryz.f23) [1, 1]) (bodyQ Tryz.prog Tryz.f23.results.toList K E)) (bodyQ Tryz.prog Tryz.f23.results.toList K E))))) (thenD k1 (blk 0 (thenD (den Tryz.prog (sel (bodyOf Tryz.f23) [1, 1]) (bodyQ Tryz.prog Tryz.f23.results.toList K E)) (bodyQ Tryz.prog Tryz.f23.results.toList K E)))))))))) #[x0, x1, x2, x3, (j 4), v5, (.int .i64 0), v5, x0, t1, t2, (j 11), (j 12), (j 13), (j 14), (j 15), (j 16), (j 17), (j 18), (j 19), (j 20), (j 21), (j 22), (j 23), (j 24), (j 25), (j 26), (j 27), (j 28), (j 29), (j 30), (j 31), (j 32), (j 33), (j 34), (j 35), (j 36), (j 37), (j 38), (j 39), (j 40), (j 41), (j 42), (j 43), (j 44), (j 45), (j 46), (j 47), (j 48), (j 49), (j 50), (j 51), (j 52), (j 53), (j 54), (j 55), (j 56), (j 57), (j 58), (j 59), (j 60), (j 61), (j 62), (j 63), (j 64), (j 65), (j 66), (j 67), (j 68), (j 69), (j 70), (j 71), (j 72), (j 73), (j 74), (j 75), (j 76)]) (
    den Tryz.prog (sel (bodyOf Tryz.f23) [1, 1]) (bodyQ Tryz.prog Tryz.f23.results.toList K E) #[x0, x1, x2, x3, (j 4), v5, (j 6), v5, x0, t1, t2, (j 11), (j 12), (j 13), (j 14), (j 15), (j 16), (j 17), (j 18), (j 19), (j 20), (j 21), (j 22), (j 23), (j 24), (j 25), (j 26), (j 27), (j 28), (j 29), (j 30), (j 31), (j 32), (j 33), (j 34), (j 35), (j 36), (j 37), (j 38), (j 39), (j 40), (j 41), (j 42), (j 43), (j 44), (j 45), (j 46), (j 47), (j 48), (j 49), (j 50), (j 51), (j 52), (j 53), (j 54), (j 55), (j 56), (j 57), (j 58), (j 59), (j 60), (j 61), (j 62), (j 63), (j 64), (j 65), (j 66), (j 67), (j 68), (j 69), (j 70), (j 71), (j 72), (j 73), (j 74), (j 75), (j 76)]) := by kernel_rfl
theorem t23_1_1 (K : Kont) (E : PanK) (x0 x1 x2 x3 x4 x5 x6 x7 x8 x9 x10 x11 x12 x13 x14 x15 x16 x17 x18 x19 x20 x21 x22 x23 x24 x25 x26 x27 x28 x29 x30 x31 x32 x33 x34 x35 x36 x37 x38 x39 x40 x41 x42 x43 x44 x45 x46 x47 x48 x49 x50 x51 x52 x53 x54 x55 x56 x57 x58 x59 x60 x61 x62 x63 x64 x65 x66 x67 x68 x69 x70 x71 x72 x73 x74 x75 x76 : Value)  : den Tryz.prog (sel (bodyOf Tryz.f23) [1, 1]) (bodyQ Tryz.prog Tryz.f23.results.toList K E) #[x0, x1, x2, x3, x4, x5, x6, x7, x8, x9, x10, x11, x12, x13, x14, x15, x16, x17, x18, x19, x20, x21, x22, x23, x24, x25, x26, x27, x28, x29, x30, x31, x32, x33, x34, x35, x36, x37, x38, x39, x40, x41, x42, x43, x44, x45, x46, x47, x48, x49, x50, x51, x52, x53, x54, x55, x56, x57, x58, x59, x60, x61, x62, x63, x64, x65, x66, x67, x68, x69, x70, x71, x72, x73, x74, x75, x76] =
  K (.bool true) := by kernel_rfl
def m23_1_0_1_0_0_1_0_0_0_1_0_0 (x0 x1 x2 x3 x5 x7 x8 x9 x10 x11 x12 x32 x33 x34 x35 x36 x37 x38 x39 x40 x41 x42 x43 x44 x45 x46 x47 x48 x49 x50 x51 x52 x53 x54 x55 x56 x57 x58 x59 x60 x61 x62 x63 x64 x65 x66 x67 x68 x69 x70 x71 x72 x73 x74 x75 x76 : Value) (v6 : Value) (j : Nat → Value) : Env := #[x0, x1, x2, x3, (j 4), x5, v6, x7, x8, x9, x10, x11, x12, (j 13), (j 14), (j 15), (j 16), (j 17), (j 18), (j 19), (j 20), (j 21), (j 22), (j 23), (j 24), (j 25), (j 26), (j 27), (j 28), (j 29), (j 30), (j 31), x32, x33, x34, x35, x36, x37, x38, x39, x40, x41, x42, x43, x44, x45, x46, x47, x48, x49, x50, x51, x52, x53, x54, x55, x56, x57, x58, x59, x60, x61, x62, x63, x64, x65, x66, x67, x68, x69, x70, x71, x72, x73, x74, x75, x76]
theorem t23_1_0_1_0_0_1_0_0_0_1_0_0 (K : Kont) (E : PanK) (k1 k2 : Env → Hp → Prop) (x0 x1 x2 x3 x5 x7 x8 x9 x10 x11 x12 x32 x33 x34 x35 x36 x37 x38 x39 x40 x41 x42 x43 x44 x45 x46 x47 x48 x49 x50 x51 x52 x53 x54 x55 x56 x57 x58 x59 x60 x61 x62 x63 x64 x65 x66 x67 x68 x69 x70 x71 x72 x73 x74 x75 x76 v6 : Value) (j : Nat → Value) : den Tryz.prog (sel (bodyOf Tryz.f23) [1, 0, 1, 0, 0, 1, 0, 0, 0, 1, 0, 0]) (thenD k2 (blk 2 (thenD (den Tryz.prog (sel (bodyOf Tryz.f23) [1, 0, 1, 0, 0, 1, 0, 0, 1]) (blk 1 (thenD (den Tryz.prog (sel (bodyOf Tryz.f23) [1, 0, 1, 0, 0, 1, 1]) (thenD k1 (blk 0 (thenD (den Tryz.prog (sel (bodyOf Tryz.f23) [1, 1]) (bodyQ Tryz.prog Tryz.f23.results.toList K E)) (bodyQ Tryz.prog Tryz.f23.results.toList K E))))) (thenD k1 (blk 0 (thenD (den Tryz.prog (sel (bodyOf Tryz.f23) [1, 1]) (bodyQ Tryz.prog Tryz.f23.results.toList K E)) (bodyQ Tryz.prog Tryz.f23.results.toList K E))))))) (blk 1 (thenD (den Tryz.prog (sel (bodyOf Tryz.f23) [1, 0, 1, 0, 0, 1, 1]) (thenD k1 (blk 0 (thenD (den Tryz.prog (sel (bodyOf Tryz.f23) [1, 1]) (bodyQ Tryz.prog Tryz.f23.results.toList K E)) (bodyQ Tryz.prog Tryz.f23.results.toList K E))))) (thenD k1 (blk 0 (thenD (den Tryz.prog (sel (bodyOf Tryz.f23) [1, 1]) (bodyQ Tryz.prog Tryz.f23.results.toList K E)) (bodyQ Tryz.prog Tryz.f23.results.toList K E))))))))) (m23_1_0_1_0_0_1_0_0_0_1_0_0 x0 x1 x2 x3 x5 x7 x8 x9 x10 x11 x12 x32 x33 x34 x35 x36 x37 x38 x39 x40 x41 x42 x43 x44 x45 x46 x47 x48 x49 x50 x51 x52 x53 x54 x55 x56 x57 x58 x59 x60 x61 x62 x63 x64 x65 x66 x67 x68 x69 x70 x71 x72 x73 x74 x75 x76 v6 j) =
  pv (iaV none 5 x0 x5) fun t1 =>
  pv (faV 0 t1) fun t2 =>
  ld false 1 t2 fun t3 =>
  pv (lenV t3) fun t4 =>
  pv (binV .none .lss v6 t4) fun t5 =>
  cnd t5 (
    pv (iaV none 5 x0 x5) fun t6 =>
    pv (faV 0 t6) fun t7 =>
    ld false 1 t7 fun t8 =>
    pv (iaV none 1 t8 v6) fun t9 =>
    ld false 1 t9 fun t10 =>
    pv (binV .none .lss t10 (.int .i64 0)) fun t11 =>
    cnd t11 (
      K (.bool false)) (
      pv (binV .none .add v6 (.int .i64 1)) fun t12 =>
      k2 (m23_1_0_1_0_0_1_0_0_0_1_0_0 x0 x1 x2 x3 x5 x7 x8 x9 x10 x11 x12 x32 x33 x34 x35 x36 x37 x38 x39 x40 x41 x42 x43 x44 x45 x46 x47 x48 x49 x50 x51 x52 x53 x54 x55 x56 x57 x58 x59 x60 x61 x62 x63 x64 x65 x66 x67 x68 x69 x70 x71 x72 x73 x74 x75 x76 t12 (jf #[x0, x1, x2, x3, (j 4), x5, t12, x7, x8, x9, x10, x11, x12, v6, x0, x5, t1, t2, t3, t4, t5, v6, t12, x0, x5, t6, t7, t8, v6, t9, t10, t11, x32, x33, x34, x35, x36, x37, x38, x39, x40, x41, x42, x43, x44, x45, x46, x47, x48, x49, x50, x51, x52, x53, x54, x55, x56, x57, x58, x59, x60, x61, x62, x63, x64, x65, x66, x67, x68, x69, x70, x71, x72, x73, x74, x75, x76])))) (
    den Tryz.prog (sel (bodyOf Tryz.f23) [1, 0, 1, 0, 0, 1, 0, 0, 1]) (blk 1 (thenD (den Tryz.prog (sel (bodyOf Tryz.f23) [1, 0, 1, 0, 0, 1, 1]) (thenD k1 (blk 0 (thenD (den Tryz.prog (sel (bodyOf Tryz.f23) [1, 1]) (bodyQ Tryz.prog Tryz.f23.results.toList K E)) (bodyQ Tryz.prog Tryz.f23.results.toList K E))))) (thenD k1 (blk 0 (thenD (den Tryz.prog (sel (bodyOf Tryz.f23) [1, 1]) (bodyQ Tryz.prog Tryz.f23.results.toList K E)) (bodyQ Tryz.prog Tryz.f23.results.toList K E)))))) #[x0, x1, x2, x3, (j 4), x5, v6, x7, x8, x9, x10, x11, x12, v6, x0, x5, t1, t2, t3, t4, t5, (j 21), (j 22), (j 23), (j 24), (j 25), (j 26), (j 27), (j 28), (j 29), (j 30), (j 31), x32, x33, x34, x35, x36, x37, x38, x39, x40, x41, x42, x43, x44, x45, x46, x47, x48, x49, x50, x51, x52, x53, x54, x55, x56, x57, x58, x59, x60, x61, x62, x63, x64, x65, x66, x67, x68, x69, x70, x71, x72, x73, x74, x75, x76]) := by kernel_rfl
theorem t23_1_0_1_0_0_1_0_0_1 (K : Kont) (E : PanK) (k1 : Env → Hp → Prop) (x0 x1 x2 x3 x4 x5 x6 x7 x8 x9 x10 x11 x12 x13 x14 x15 x16 x17 x18 x19 x20 x21 x22 x23 x24 x25 x26 x27 x28 x29 x30 x31 x32 x33 x34 x35 x36 x37 x38 x39 x40 x41 x42 x43 x44 x45 x46 x47 x48 x49 x50 x51 x52 x53 x54 x55 x56 x57 x58 x59 x60 x61 x62 x63 x64 x65 x66 x67 x68 x69 x70 x71 x72 x73 x74 x75 x76 : Value)  : den Tryz.prog (sel (bodyOf Tryz.f23) [1, 0, 1, 0, 0, 1, 0, 0, 1]) (blk 1 (thenD (den Tryz.prog (sel (bodyOf Tryz.f23) [1, 0, 1, 0, 0, 1, 1]) (thenD k1 (blk 0 (thenD (den Tryz.prog (sel (bodyOf Tryz.f23) [1, 1]) (bodyQ Tryz.prog Tryz.f23.results.toList K E)) (bodyQ Tryz.prog Tryz.f23.results.toList K E))))) (thenD k1 (blk 0 (thenD (den Tryz.prog (sel (bodyOf Tryz.f23) [1, 1]) (bodyQ Tryz.prog Tryz.f23.results.toList K E)) (bodyQ Tryz.prog Tryz.f23.results.toList K E)))))) #[x0, x1, x2, x3, x4, x5, x6, x7, x8, x9, x10, x11, x12, x13, x14, x15, x16, x17, x18, x19, x20, x21, x22, x23, x24, x25, x26, x27, x28, x29, x30, x31, x32, x33, x34, x35, x36, x37, x38, x39, x40, x41, x42, x43, x44, x45, x46, x47, x48, x49, x50, x51, x52, x53, x54, x55, x56, x57, x58, x59, x60, x61, x62, x63, x64, x65, x66, x67, x68, x69, x70, x71, x72, x73, x74, x75, x76] =
  pv (iaV none 5 x0 x5) fun t1 =>
  pv (faV 0 t1) fun t2 =>
  ld false 1 t2 fun t3 =>
  pv (lenV t3) fun t4 =>
  pv (binV .none .neq t4 x1) fun t5 =>
  gdK t5 false (fun k => k x0) fun t6 =>
  gdK t5 false (fun k => k x5) fun t7 =>
  gdK t5 false (fun k => pv (iaV none 5 t6 t7) k) fun t8 =>
  gdK t5 false (fun k => pv (faV 1 t8) k) fun t9 =>
  gdK t5 false (fun k => ld true 4 t9 k) fun t10 =>
  gdK t5 false (fun k => callv Tryz.prog (.func (.func 45) #[] #[]) #[t10] k E) fun t11 =>
  gdK t5 false (fun k => pv (unV .not t11) k) fun t12 =>
  pv (pickV t5 (.bool true) t12) fun t13 =>
  gdK t13 false (fun k => k x0) fun t14 =>
  gdK t13 false (fun k => k x5) fun t15 =>
  gdK t13 false (fun k => pv (iaV none 5 t14 t15) k) fun t16 =>
  gdK t13 false (fun k => pv (faV 1 t16) k) fun t17 =>
  gdK t13 false (fun k => pv (faV 0 t17) k) fun t18 =>
  gdK t13 false (fun k => ld false 1 t18 k) fun t19 =>
  gdK t13 false (fun k => pv (binV .none .eql t19 (.int .i64 0)) k) fun t20 =>
  pv (pickV t13 (.bool true) t20) fun t21 =>
  gdK t21 false (fun k => k x5) fun t22 =>
  gdK t21 false (fun k => pv (binV .none .gtr t22 (.int .i64 0)) k) fun t23 =>
  gdK t21 false (fun k => k t23) fun t24 =>
  gdK t24 true (fun k => k x0) fun t25 =>
  gdK t24 true (fun k => k x5) fun t26 =>
  gdK t24 true (fun k => pv (binV .none .sub t26 (.int .i64 1)) k) fun t27 =>
  gdK t24 true (fun k => pv (iaV none 5 t25 t27) k) fun t28 =>
  gdK t24 true (fun k => pv (faV 0 t28) k) fun t29 =>
  gdK t24 true (fun k => ld false 1 t29 k) fun t30 =>
  gdK t24 true (fun k => k x0) fun t31 =>
  gdK t24 true (fun k => k x5) fun t32 =>
  gdK t24 true (fun k => pv (iaV none 5 t31 t32) k) fun t33 =>
  gdK t24 true (fun k => pv (faV 0 t33) k) fun t34 =>
  gdK t24 true (fun k => ld false 1 t34 k) fun t35 =>
  gdK t24 true (fun k => callv Tryz.prog (.func (.func 26) #[] #[]) #[t30, t35] k E) fun t36 =>
  gdK t24 true (fun k => pv (binV .none .geq t36 (.int .i64 0)) k) fun t37 =>
  gdK t21 false (fun k => pv (pickV t24 t37 (.bool false)) k) fun t38 =>
  pv (pickV t21 (.bool true) t38) fun t39 =>
  cnd t39 (
    K (.bool false)) (
    den Tryz.prog (sel (bodyOf Tryz.f23) [1, 0, 1, 0, 0, 1, 1]) (thenD k1 (blk 0 (thenD (den Tryz.prog (sel (bodyOf Tryz.f23) [1, 1]) (bodyQ Tryz.prog Tryz.f23.results.toList K E)) (bodyQ Tryz.prog Tryz.f23.results.toList K E)))) #[x0, x1, x2, x3, x4, x5, x6, x7, x8, x9, x10, x11, x12, x13, x14, x15, x16, x17, x18, x19, x20, x21, x22, x23, x24, x25, x26, x27, x28, x29, x30, x31, x0, x5, t1, t2, t3, t4, x1, t5, t5, t6, t7, t8, t9, t10, t11, t12, t13, t13, t14, t15, t16, t17, t18, t19, t20, t21, t21, t22, t23, t24, t25, t26, t27, t28, t29, t30, t31, t32, t33, t34, t35, t36, t37, t38, t39]) := by kernel_rfl
theorem t23_1_0_1_0_0_1_1 (K : Kont) (E : PanK) (k1 : Env → Hp → Prop) (x0 x1 x2 x3 x4 x5 x6 x7 x8 x9 x10 x11 x12 x13 x14 x15 x16 x17 x18 x19 x20 x21 x22 x23 x24 x25 x26 x27 x28 x29 x30 x31 x32 x33 x34 x35 x36 x37 x38 x39 x40 x41 x42 x43 x44 x45 x46 x47 x48 x49 x50 x51 x52 x53 x54 x55 x56 x57 x58 x59 x60 x61 x62 x63 x64 x65 x66 x67 x68 x69 x70 x71 x72 x73 x74 x75 x76 : Value)  : den Tryz.prog (sel (bodyOf Tryz.f23) [1, 0, 1, 0, 0, 1, 1]) (thenD k1 (blk 0 (thenD (den Tryz.prog (sel (bodyOf Tryz.f23) [1, 1]) (bodyQ Tryz.prog Tryz.f23.results.toList K E)) (bodyQ Tryz.prog Tryz.f23.results.toList K E)))) #[x0, x1, x2, x3, x4, x5, x6, x7, x8, x9, x10, x11, x12, x13, x14, x15, x16, x17, x18, x19, x20, x21, x22, x23, x24, x25, x26, x27, x28, x29, x30, x31, x32, x33, x34, x35, x36, x37, x38, x39, x40, x41, x42, x43, x44, x45, x46, x47, x48, x49, x50, x51, x52, x53, x54, x55, x56, x57, x58, x59, x60, x61, x62, x63, x64, x65, x66, x67, x68, x69, x70, x71, x72, x73, x74, x75, x76] =
  pv (binV .none .add x5 (.int .i64 1)) fun t1 =>
  k1 (m23_1_0_1_0_0 x0 x1 x2 x3 t1 (jf #[x0, x1, x2, x3, x4, t1, x6, x7, x8, x9, x10, x5, t1, x13, x14, x15, x16, x17, x18, x19, x20, x21, x22, x23, x24, x25, x26, x27, x28, x29, x30, x31, x32, x33, x34, x35, x36, x37, x38, x39, x40, x41, x42, x43, x44, x45, x46, x47, x48, x49, x50, x51, x52, x53, x54, x55, x56, x57, x58, x59, x60, x61, x62, x63, x64, x65, x66, x67, x68, x69, x70, x71, x72, x73, x74, x75, x76])) := by kernel_rfl
theorem l23_1_0_1_0_0 {K : Kont} {E : PanK} {σ : Type} {x0 x1 x2 x3 v5 y4 y6 y7 y8 y9 y10 y11 y12 y13 y14 y15 y16 y17 y18 y19 y20 y21 y22 y23 y24 y25 y26 y27 y28 y29 y30 y31 y32 y33 y34 y35 y36 y37 y38 y39 y40 y41 y42 y43 y44 y45 y46 y47 y48 y49 y50 y51 y52 y53 y54 y55 y56 y57 y58 y59 y60 y61 y62 y63 y64 y65 y66 y67 y68 y69 y70 y71 y72 y73 y74 y75 y76 : Value} {h : Hp} (f5 : σ → Value) (I : σ → Hp → Prop) (μ : σ → Nat) (s0 : σ) (e5 : v5 = f5 s0) (h0 : h.wf → ∃ h', h.wk h' ∧ I s0 h')
  (round : ∀ (k1 : Env → Hp → Prop) (s : σ) (j : Nat → Value) (h : Hp), I s h → h.wf → (∀ s' j' h', μ s' < μ s → (h'.wf → ∃ h'', h'.wk h'' ∧ I s' h'') → k1 (m23_1_0_1_0_0 x0 x1 x2 x3 (f5 s') j') h') → (
  pv (lenV x0) fun t1 =>
  pv (binV .none .lss (f5 s) t1) fun t2 =>
  cnd t2 (
    lp (fun k2 => den Tryz.prog (sel (bodyOf Tryz.f23) [1, 0, 1, 0, 0, 1, 0, 0, 0, 1, 0, 0]) (thenD k2 (blk 2 (thenD (den Tryz.prog (sel (bodyOf Tryz.f23) [1, 0, 1, 0, 0, 1, 0, 0, 1]) (blk 1 (thenD (den Tryz.prog (sel (bodyOf Tryz.f23) [1, 0, 1, 0, 0, 1, 1]) (thenD k1 (blk 0 (thenD (den Tryz.prog (sel (bodyOf Tryz.f23) [1, 1]) (bodyQ Tryz.prog Tryz.f23.results.toList K E)) (bodyQ Tryz.prog Tryz.f23.results.toList K E))))) (thenD k1 (blk 0 (thenD (den Tryz.prog (sel (bodyOf Tryz.f23) [1, 1]) (bodyQ Tryz.prog Tryz.f23.results.toList K E)) (bodyQ Tryz.prog Tryz.f23.results.toList K E))))))) (blk 1 (thenD (den Tryz.prog (sel (bodyOf Tryz.f23) [1, 0, 1, 0, 0, 1, 1]) (thenD k1 (blk 0 (thenD (den Tryz.prog (sel (bodyOf Tryz.f23) [1, 1]) (bodyQ Tryz.prog Tryz.f23.results.toList K E)) (bodyQ Tryz.prog Tryz.f23.results.toList K E))))) (thenD k1 (blk 0 (thenD (den Tryz.prog (sel (bodyOf Tryz.f23) [1, 1]) (bodyQ Tryz.prog Tryz.f23.results.toList K E)) (bodyQ Tryz.prog Tryz.f23.results.toList K E)))))))))) #[x0, x1, x2, x3, (j 4), (f5 s), (.int .i64 0), (f5 s), x0, t1, t2, (j 11), (j 12), (j 13), (j 14), (j 15), (j 16), (j 17), (j 18), (j 19), (j 20), (j 21), (j 22), (j 23), (j 24), (j 25), (j 26), (j 27), (j 28), (j 29), (j 30), (j 31), (j 32), (j 33), (j 34), (j 35), (j 36), (j 37), (j 38), (j 39), (j 40), (j 41), (j 42), (j 43), (j 44), (j 45), (j 46), (j 47), (j 48), (j 49), (j 50), (j 51), (j 52), (j 53), (j 54), (j 55), (j 56), (j 57), (j 58), (j 59), (j 60), (j 61), (j 62), (j 63), (j 64), (j 65), (j 66), (j 67), (j 68), (j 69), (j 70), (j 71), (j 72), (j 73), (j 74), (j 75), (j 76)]) (
    den Tryz.prog (sel (bodyOf Tryz.f23) [1, 1]) (bodyQ Tryz.prog Tryz.f23.results.toList K E) #[x0, x1, x2, x3, (j 4), (f5 s), (j 6), (f5 s), x0, t1, t2, (j 11), (j 12), (j 13), (j 14), (j 15), (j 16), (j 17), (j 18), (j 19), (j 20), (j 21), (j 22), (j 23), (j 24), (j 25), (j 26), (j 27), (j 28), (j 29), (j 30), (j 31), (j 32), (j 33), (j 34), (j 35), (j 36), (j 37), (j 38), (j 39), (j 40), (j 41), (j 42), (j 43), (j 44), (j 45), (j 46), (j 47), (j 48), (j 49), (j 50), (j 51), (j 52), (j 53), (j 54), (j 55), (j 56), (j 57), (j 58), (j 59), (j 60), (j 61), (j 62), (j 63), (j 64), (j 65), (j 66), (j 67), (j 68), (j 69), (j 70), (j 71), (j 72), (j 73), (j 74), (j 75), (j 76)])) h) :
  lp (fun k1 => den Tryz.prog (sel (bodyOf Tryz.f23) [1, 0, 1, 0, 0]) (thenD k1 (blk 0 (thenD (den Tryz.prog (sel (bodyOf Tryz.f23) [1, 1]) (bodyQ Tryz.prog Tryz.f23.results.toList K E)) (bodyQ Tryz.prog Tryz.f23.results.toList K E))))) #[x0, x1, x2, x3, y4, v5, y6, y7, y8, y9, y10, y11, y12, y13, y14, y15, y16, y17, y18, y19, y20, y21, y22, y23, y24, y25, y26, y27, y28, y29, y30, y31, y32, y33, y34, y35, y36, y37, y38, y39, y40, y41, y42, y43, y44, y45, y46, y47, y48, y49, y50, y51, y52, y53, y54, y55, y56, y57, y58, y59, y60, y61, y62, y63, y64, y65, y66, y67, y68, y69, y70, y71, y72, y73, y74, y75, y76] h := by
  subst e5
  have e : (#[x0, x1, x2, x3, y4, (f5 s0), y6, y7, y8, y9, y10, y11, y12, y13, y14, y15, y16, y17, y18, y19, y20, y21, y22, y23, y24, y25, y26, y27, y28, y29, y30, y31, y32, y33, y34, y35, y36, y37, y38, y39, y40, y41, y42, y43, y44, y45, y46, y47, y48, y49, y50, y51, y52, y53, y54, y55, y56, y57, y58, y59, y60, y61, y62, y63, y64, y65, y66, y67, y68, y69, y70, y71, y72, y73, y74, y75, y76] : Env) = m23_1_0_1_0_0 x0 x1 x2 x3 (f5 s0) (jf #[x0, x1, x2, x3, y4, (f5 s0), y6, y7, y8, y9, y10, y11, y12, y13, y14, y15, y16, y17, y18, y19, y20, y21, y22, y23, y24, y25, y26, y27, y28, y29, y30, y31, y32, y33, y34, y35, y36, y37, y38, y39, y40, y41, y42, y43, y44, y45, y46, y47, y48, y49, y50, y51, y52, y53, y54, y55, y56, y57, y58, y59, y60, y61, y62, y63, y64, y65, y66, y67, y68, y69, y70, y71, y72, y73, y74, y75, y76]) := by kernel_rfl
  rw [e]
  exact loop_r (fun s j => m23_1_0_1_0_0 x0 x1 x2 x3 (f5 s) j) I μ (fun k s j h hI hw next => by rw [t23_1_0_1_0_0]; exact round k s j h hI hw next) s0 (jf #[x0, x1, x2, x3, y4, (f5 s0), y6, y7, y8, y9, y10, y11, y12, y13, y14, y15, y16, y17, y18, y19, y20, y21, y22, y23, y24, y25, y26, y27, y28, y29, y30, y31, y32, y33, y34, y35, y36, y37, y38, y39, y40, y41, y42, y43, y44, y45, y46, y47, y48, y49, y50, y51, y52, y53, y54, y55, y56, y57, y58, y59, y60, y61, y62, y63, y64, y65, y66, y67, y68, y69, y70, y71, y72, y73, y74, y75, y76]) h0
theorem l23_1_0_1_0_0_1_0_0_0_1_0_0 {K : Kont} {E : PanK} {k1 : Env → Hp → Prop} {σ : Type} {x0 x1 x2 x3 x5 x7 x8 x9 x10 x11 x12 x32 x33 x34 x35 x36 x37 x38 x39 x40 x41 x42 x43 x44 x45 x46 x47 x48 x49 x50 x51 x52 x53 x54 x55 x56 x57 x58 x59 x60 x61 x62 x63 x64 x65 x66 x67 x68 x69 x70 x71 x72 x73 x74 x75 x76 v6 y4 y13 y14 y15 y16 y17 y18 y19 y20 y21 y22 y23 y24 y25 y26 y27 y28 y29 y30 y31 : Value} {h : Hp} (f6 : σ → Value) (I : σ → Hp → Prop) (μ : σ → Nat) (s0 : σ) (e6 : v6 = f6 s0) (h0 : h.wf → ∃ h', h.wk h' ∧ I s0 h')
  (round : ∀ (k2 : Env → Hp → Prop) (s : σ) (j : Nat → Value) (h : Hp), I s h → h.wf → (∀ s' j' h', μ s' < μ s → (h'.wf → ∃ h'', h'.wk h'' ∧ I s' h'') → k2 (m23_1_0_1_0_0_1_0_0_0_1_0_0 x0 x1 x2 x3 x5 x7 x8 x9 x10 x11 x12 x32 x33 x34 x35 x36 x37 x38 x39 x40 x41 x42 x43 x44 x45 x46 x47 x48 x49 x50 x51 x52 x53 x54 x55 x56 x57 x58 x59 x60 x61 x62 x63 x64 x65 x66 x67 x68 x69 x70 x71 x72 x73 x74 x75 x76 (f6 s') j') h') → (
  pv (iaV none 5 x0 x5) fun t1 =>
  pv (faV 0 t1) fun t2 =>
  ld false 1 t2 fun t3 =>
  pv (lenV t3) fun t4 =>
  pv (binV .none .lss (f6 s) t4) fun t5 =>
  cnd t5 (
    pv (iaV none 5 x0 x5) fun t6 =>
    pv (faV 0 t6) fun t7 =>
    ld false 1 t7 fun t8 =>
    pv (iaV none 1 t8 (f6 s)) fun t9 =>
    ld false 1 t9 fun t10 =>
    pv (binV .none .lss t10 (.int .i64 0)) fun t11 =>
    cnd t11 (
      K (.bool false)) (
      pv (binV .none .add (f6 s) (.int .i64 1)) fun t12 =>
      k2 (m23_1_0_1_0_0_1_0_0_0_1_0_0 x0 x1 x2 x3 x5 x7 x8 x9 x10 x11 x12 x32 x33 x34 x35 x36 x37 x38 x39 x40 x41 x42 x43 x44 x45 x46 x47 x48 x49 x50 x51 x52 x53 x54 x55 x56 x57 x58 x59 x60 x61 x62 x63 x64 x65 x66 x67 x68 x69 x70 x71 x72 x73 x74 x75 x76 t12 (jf #[x0, x1, x2, x3, (j 4), x5, t12, x7, x8, x9, x10, x11, x12, (f6 s), x0, x5, t1, t2, t3, t4, t5, (f6 s), t12, x0, x5, t6, t7, t8, (f6 s), t9, t10, t11, x32, x33, x34, x35, x36, x37, x38, x39, x40, x41, x42, x43, x44, x45, x46, x47, x48, x49, x50, x51, x52, x53, x54, x55, x56, x57, x58, x59, x60, x61, x62, x63, x64, x65, x66, x67, x68, x69, x70, x71, x72, x73, x74, x75, x76])))) (
    den Tryz.prog (sel (bodyOf Tryz.f23) [1, 0, 1, 0, 0, 1, 0, 0, 1]) (blk 1 (thenD (den Tryz.prog (sel (bodyOf Tryz.f23) [1, 0, 1, 0, 0, 1, 1]) (thenD k1 (blk 0 (thenD (den Tryz.prog (sel (bodyOf Tryz.f23) [1, 1]) (bodyQ Tryz.prog Tryz.f23.results.toList K E)) (bodyQ Tryz.prog Tryz.f23.results.toList K E))))) (thenD k1 (blk 0 (thenD (den Tryz.prog (sel (bodyOf Tryz.f23) [1, 1]) (bodyQ Tryz.prog Tryz.f23.results.toList K E)) (bodyQ Tryz.prog Tryz.f23.results.toList K E)))))) #[x0, x1, x2, x3, (j 4), x5, (f6 s), x7, x8, x9, x10, x11, x12, (f6 s), x0, x5, t1, t2, t3, t4, t5, (j 21), (j 22), (j 23), (j 24), (j 25), (j 26), (j 27), (j 28), (j 29), (j 30), (j 31), x32, x33, x34, x35, x36, x37, x38, x39, x40, x41, x42, x43, x44, x45, x46, x47, x48, x49, x50, x51, x52, x53, x54, x55, x56, x57, x58, x59, x60, x61, x62, x63, x64, x65, x66, x67, x68, x69, x70, x71, x72, x73, x74, x75, x76])) h) :
  lp (fun k2 => den Tryz.prog (sel (bodyOf Tryz.f23) [1, 0, 1, 0, 0, 1, 0, 0, 0, 1, 0, 0]) (thenD k2 (blk 2 (thenD (den Tryz.prog (sel (bodyOf Tryz.f23) [1, 0, 1, 0, 0, 1, 0, 0, 1]) (blk 1 (thenD (den Tryz.prog (sel (bodyOf Tryz.f23) [1, 0, 1, 0, 0, 1, 1]) (thenD k1 (blk 0 (thenD (den Tryz.prog (sel (bodyOf Tryz.f23) [1, 1]) (bodyQ Tryz.prog Tryz.f23.results.toList K E)) (bodyQ Tryz.prog Tryz.f23.results.toList K E))))) (thenD k1 (blk 0 (thenD (den Tryz.prog (sel (bodyOf Tryz.f23) [1, 1]) (bodyQ Tryz.prog Tryz.f23.results.toList K E)) (bodyQ Tryz.prog Tryz.f23.results.toList K E))))))) (blk 1 (thenD (den Tryz.prog (sel (bodyOf Tryz.f23) [1, 0, 1, 0, 0, 1, 1]) (thenD k1 (blk 0 (thenD (den Tryz.prog (sel (bodyOf Tryz.f23) [1, 1]) (bodyQ Tryz.prog Tryz.f23.results.toList K E)) (bodyQ Tryz.prog Tryz.f23.results.toList K E))))) (thenD k1 (blk 0 (thenD (den Tryz.prog (sel (bodyOf Tryz.f23) [1, 1]) (bodyQ Tryz.prog Tryz.f23.results.toList K E)) (bodyQ Tryz.prog Tryz.f23.results.toList K E)))))))))) #[x0, x1, x2, x3, y4, x5, v6, x7, x8, x9, x10, x11, x12, y13, y14, y15, y16, y17, y18, y19, y20, y21, y22, y23, y24, y25, y26, y27, y28, y29, y30, y31, x32, x33, x34, x35, x36, x37, x38, x39, x40, x41, x42, x43, x44, x45, x46, x47, x48, x49, x50, x51, x52, x53, x54, x55, x56, x57, x58, x59, x60, x61, x62, x63, x64, x65, x66, x67, x68, x69, x70, x71, x72, x73, x74, x75, x76] h := by
  subst e6
  have e : (#[x0, x1, x2, x3, y4, x5, (f6 s0), x7, x8, x9, x10, x11, x12, y13, y14, y15, y16, y17, y18, y19, y20, y21, y22, y23, y24, y25, y26, y27, y28, y29, y30, y31, x32, x33, x34, x35, x36, x37, x38, x39, x40, x41, x42, x43, x44, x45, x46, x47, x48, x49, x50, x51, x52, x53, x54, x55, x56, x57, x58, x59, x60, x61, x62, x63, x64, x65, x66, x67, x68, x69, x70, x71, x72, x73, x74, x75, x76] : Env) = m23_1_0_1_0_0_1_0_0_0_1_0_0 x0 x1 x2 x3 x5 x7 x8 x9 x10 x11 x12 x32 x33 x34 x35 x36 x37 x38 x39 x40 x41 x42 x43 x44 x45 x46 x47 x48 x49 x50 x51 x52 x53 x54 x55 x56 x57 x58 x59 x60 x61 x62 x63 x64 x65 x66 x67 x68 x69 x70 x71 x72 x73 x74 x75 x76 (f6 s0) (jf #[x0, x1, x2, x3, y4, x5, (f6 s0), x7, x8, x9, x10, x11, x12, y13, y14, y15, y16, y17, y18, y19, y20, y21, y22, y23, y24, y25, y26, y27, y28, y29, y30, y31, x32, x33, x34, x35, x36, x37, x38, x39, x40, x41, x42, x43, x44, x45, x46, x47, x48, x49, x50, x51, x52, x53, x54, x55, x56, x57, x58, x59, x60, x61, x62, x63, x64, x65, x66, x67, x68, x69, x70, x71, x72, x73, x74, x75, x76]) := by kernel_rfl
  rw [e]
  exact loop_r (fun s j => m23_1_0_1_0_0_1_0_0_0_1_0_0 x0 x1 x2 x3 x5 x7 x8 x9 x10 x11 x12 x32 x33 x34 x35 x36 x37 x38 x39 x40 x41 x42 x43 x44 x45 x46 x47 x48 x49 x50 x51 x52 x53 x54 x55 x56 x57 x58 x59 x60 x61 x62 x63 x64 x65 x66 x67 x68 x69 x70 x71 x72 x73 x74 x75 x76 (f6 s) j) I μ (fun k s j h hI hw next => by rw [t23_1_0_1_0_0_1_0_0_0_1_0_0]; exact round k s j h hI hw next) s0 (jf #[x0, x1, x2, x3, y4, x5, (f6 s0), x7, x8, x9, x10, x11, x12, y13, y14, y15, y16, y17, y18, y19, y20, y21, y22, y23, y24, y25, y26, y27, y28, y29, y30, y31, x32, x33, x34, x35, x36, x37, x38, x39, x40, x41, x42, x43, x44, x45, x46, x47, x48, x49, x50, x51, x52, x53, x54, x55, x56, x57, x58, x59, x60, x61, x62, x63, x64, x65, x66, x67, x68, x69, x70, x71, x72, x73, x74, x75, x76]) h0

theorem t24 (K : Kont) (E : PanK) (x0 x1 x2 x3 : Value)  : den Tryz.prog (sel (bodyOf Tryz.f24) []) (bodyQ Tryz.prog Tryz.f24.results.toList K E) #[x0, x1, x2, x3, undef, undef, undef, undef, undef, undef, undef, undef, undef, undef, undef, undef, undef, undef, undef, undef, undef, undef, undef, undef, undef, undef, undef, undef, undef, undef, undef, undef, undef, undef, undef, undef, undef, undef, undef, undef, undef, undef, undef, undef, undef, undef, undef, undef, undef] =
  callv Tryz.prog (.func (.func 42) #[] #[]) #[x0] (fun t1 =>
  pv (unV .not t1) fun t2 =>
  cnd t2 (
    K (.tuple #[(.slice none 0 0), (.int .i64 30)])) (
    callv Tryz.prog (.func (.func 46) #[] #[]) #[x0, x2, x3] (fun t3 =>
    pv (unV .not t3) fun t4 =>
    cnd t4 (
      K (.tuple #[(.slice none 0 0), (.int .i64 40)])) (
      pv (lenV x0) fun t5 =>
      callv Tryz.prog (.func (.func 23) #[] #[]) #[x1, t5] (fun t6 =>
      pv (unV .not t6) fun t7 =>
      cnd t7 (
        K (.tuple #[(.slice none 0 0), (.int .i64 1)])) (
        lp (fun k1 => den Tryz.prog (sel (bodyOf Tryz.f24) [1, 1, 1, 1, 1, 0, 1, 0, 0]) (thenD k1 (blk 0 (thenD (den Tryz.prog (sel (bodyOf Tryz.f24) [1, 1, 1, 1, 1, 1]) (bodyQ Tryz.prog Tryz.f24.results.toList K E)) (bodyQ Tryz.prog Tryz.f24.results.toList K E))))) #[x0, x1, x2, x3, undef, undef, undef, undef, (.slice none 0 0), (.int .i64 0), (.slice none 0 0), (.int .i64 0), x0, t1, t2, x0, x2, x3, t3, t4, x1, x0, t5, t6, t7, undef, undef, undef, undef, undef, undef, undef, undef, undef, undef, undef, undef, undef, undef, undef, undef, undef, undef, undef, undef, undef, undef, undef, undef])) E)) E)) E := by kernel_rfl
def m24_1_1_1_1_1_0_1_0_0 (x0 x1 x2 x3 x4 x5 x6 x7 x8 x9 x12 x13 x14 x15 x16 x17 x18 x19 x20 x21 x22 x23 x24 x48 : Value) (v10 v11 : Value) (j : Nat → Value) : Env := #[x0, x1, x2, x3, x4, x5, x6, x7, x8, x9, v10, v11, x12, x13, x14, x15, x16, x17, x18, x19, x20, x21, x22, x23, x24, (j 25), (j 26), (j 27), (j 28), (j 29), (j 30), (j 31), (j 32), (j 33), (j 34), (j 35), (j 36), (j 37), (j 38), (j 39), (j 40), (j 41), (j 42), (j 43), (j 44), (j 45), (j 46), (j 47), x48]
theorem t24_1_1_1_1_1_0_1_0_0 (K : Kont) (E : PanK) (k1 : Env → Hp → Prop) (x0 x1 x2 x3 x4 x5 x6 x7 x8 x9 x12 x13 x14 x15 x16 x17 x18 x19 x20 x21 x22 x23 x24 x48 v10 v11 : Value) (j : Nat → Value) : den Tryz.prog (sel (bodyOf Tryz.f24) [1, 1, 1, 1, 1, 0, 1, 0, 0]) (thenD k1 (blk 0 (thenD (den Tryz.prog (sel (bodyOf Tryz.f24) [1, 1, 1, 1, 1, 1]) (bodyQ Tryz.prog Tryz.f24.results.toList K E)) (bodyQ Tryz.prog Tryz.f24.results.toList K E)))) (m24_1_1_1_1_1_0_1_0_0 x0 x1 x2 x3 x4 x5 x6 x7 x8 x9 x12 x13 x14 x15 x16 x17 x18 x19 x20 x21 x22 x23 x24 x48 v10 v11 j) =
  pv (lenV x1) fun t1 =>
  pv (binV .none .lss v11 t1) fun t2 =>
  cnd t2 (
    pv (iaV none 5 x1 v11) fun t3 =>
    pv (faV 0 t3) fun t4 =>
    ld false 1 t4 fun t5 =>
    pv (iaV none 5 x1 v11) fun t6 =>
    pv (faV 1 t6) fun t7 =>
    ld true 4 t7 fun t8 =>
    callv Tryz.prog (.func (.func 47) #[] #[]) #[x0, x2, x3, t5] (fun t9 h10 => (ldV h10 true 4 t7 t8) ∧ (
      pv (bdC #[(.slice none 0 0), (.int .i64 0), (.int .i64 0), (.int .i64 0), (.int .i64 0)] [(0, 1), (1, 4)] #[(0, t9), (1, t8)]) fun t11 =>
      callv Tryz.prog (.func (.func 13) #[] #[]) #[v10, t11] (fun t12 =>
      pv (binV .none .add v11 (.int .i64 1)) fun t13 =>
      k1 (m24_1_1_1_1_1_0_1_0_0 x0 x1 x2 x3 x4 x5 x6 x7 x8 x9 x12 x13 x14 x15 x16 x17 x18 x19 x20 x21 x22 x23 x24 x48 t12 t13 (jf #[x0, x1, x2, x3, x4, x5, x6, x7, x8, x9, t12, t13, x12, x13, x14, x15, x16, x17, x18, x19, x20, x21, x22, x23, x24, v11, x1, t1, t2, v11, t13, v10, x0, x2, x3, x1, v11, t3, t4, t5, t9, x1, v11, t6, t7, t8, t11, t12, x48]))) E) h10) E) (
    den Tryz.prog (sel (bodyOf Tryz.f24) [1, 1, 1, 1, 1, 1]) (bodyQ Tryz.prog Tryz.f24.results.toList K E) #[x0, x1, x2, x3, x4, x5, x6, x7, x8, x9, v10, v11, x12, x13, x14, x15, x16, x17, x18, x19, x20, x21, x22, x23, x24, v11, x1, t1, t2, (j 29), (j 30), (j 31), (j 32), (j 33), (j 34), (j 35), (j 36), (j 37), (j 38), (j 39), (j 40), (j 41), (j 42), (j 43), (j 44), (j 45), (j 46), (j 47), x48]) := by kernel_rfl
theorem t24_1_1_1_1_1_1 (K : Kont) (E : PanK) (x0 x1 x2 x3 x4 x5 x6 x7 x8 x9 x10 x11 x12 x13 x14 x15 x16 x17 x18 x19 x20 x21 x22 x23 x24 x25 x26 x27 x28 x29 x30 x31 x32 x33 x34 x35 x36 x37 x38 x39 x40 x41 x42 x43 x44 x45 x46 x47 x48 : Value)  : den Tryz.prog (sel (bodyOf Tryz.f24) [1, 1, 1, 1, 1, 1]) (bodyQ Tryz.prog Tryz.f24.results.toList K E) #[x0, x1, x2, x3, x4, x5, x6, x7, x8, x9, x10, x11, x12, x13, x14, x15, x16, x17, x18, x19, x20, x21, x22, x23, x24, x25, x26, x27, x28, x29, x30, x31, x32, x33, x34, x35, x36, x37, x38, x39, x40, x41, x42, x43, x44, x45, x46, x47, x48] =
  K (.tuple #[x10, (.int .i64 0)]) := by kernel_rfl
theorem l24_1_1_1_1_1_0_1_0_0 {K : Kont} {E : PanK} {σ : Type} {x0 x1 x2 x3 x4 x5 x6 x7 x8 x9 x12 x13 x14 x15 x16 x17 x18 x19 x20 x21 x22 x23 x24 x48 v10 v11 y25 y26 y27 y28 y29 y30 y31 y32 y33 y34 y35 y36 y37 y38 y39 y40 y41 y42 y43 y44 y45 y46 y47 : Value} {h : Hp} (f10 f11 : σ → Value) (I : σ → Hp → Prop) (μ : σ → Nat) (s0 : σ) (e10 : v10 = f10 s0) (e11 : v11 = f11 s0) (h0 : h.wf → ∃ h', h.wk h' ∧ I s0 h')
  (round : ∀ (k1 : Env → Hp → Prop) (s : σ) (j : Nat → Value) (h : Hp), I s h → h.wf → (∀ s' j' h', μ s' < μ s → (h'.wf → ∃ h'', h'.wk h'' ∧ I s' h'') → k1 (m24_1_1_1_1_1_0_1_0_0 x0 x1 x2 x3 x4 x5 x6 x7 x8 x9 x12 x13 x14 x15 x16 x17 x18 x19 x20 x21 x22 x23 x24 x48 (f10 s') (f11 s') j') h') → (
  pv (lenV x1) fun t1 =>
  pv (binV .none .lss (f11 s) t1) fun t2 =>
  cnd t2 (
    pv (iaV none 5 x1 (f11 s)) fun t3 =>
    pv (faV 0 t3) fun t4 =>
    ld false 1 t4 fun t5 =>
    pv (iaV none 5 x1 (f11 s)) fun t6 =>
    pv (faV 1 t6) fun t7 =>
    ld true 4 t7 fun t8 =>
    callv Tryz.prog (.func (.func 47) #[] #[]) #[x0, x2, x3, t5] (fun t9 h10 => (ldV h10 true 4 t7 t8) ∧ (
      pv (bdC #[(.slice none 0 0), (.int .i64 0), (.int .i64 0), (.int .i64 0), (.int .i64 0)] [(0, 1), (1, 4)] #[(0, t9), (1, t8)]) fun t11 =>
      callv Tryz.prog (.func (.func 13) #[] #[]) #[(f10 s), t11] (fun t12 =>
      pv (binV .none .add (f11 s) (.int .i64 1)) fun t13 =>
      k1 (m24_1_1_1_1_1_0_1_0_0 x0 x1 x2 x3 x4 x5 x6 x7 x8 x9 x12 x13 x14 x15 x16 x17 x18 x19 x20 x21 x22 x23 x24 x48 t12 t13 (jf #[x0, x1, x2, x3, x4, x5, x6, x7, x8, x9, t12, t13, x12, x13, x14, x15, x16, x17, x18, x19, x20, x21, x22, x23, x24, (f11 s), x1, t1, t2, (f11 s), t13, (f10 s), x0, x2, x3, x1, (f11 s), t3, t4, t5, t9, x1, (f11 s), t6, t7, t8, t11, t12, x48]))) E) h10) E) (
    den Tryz.prog (sel (bodyOf Tryz.f24) [1, 1, 1, 1, 1, 1]) (bodyQ Tryz.prog Tryz.f24.results.toList K E) #[x0, x1, x2, x3, x4, x5, x6, x7, x8, x9, (f10 s), (f11 s), x12, x13, x14, x15, x16, x17, x18, x19, x20, x21, x22, x23, x24, (f11 s), x1, t1, t2, (j 29), (j 30), (j 31), (j 32), (j 33), (j 34), (j 35), (j 36), (j 37), (j 38), (j 39), (j 40), (j 41), (j 42), (j 43), (j 44), (j 45), (j 46), (j 47), x48])) h) :
  lp (fun k1 => den Tryz.prog (sel (bodyOf Tryz.f24) [1, 1, 1, 1, 1, 0, 1, 0, 0]) (thenD k1 (blk 0 (thenD (den Tryz.prog (sel (bodyOf Tryz.f24) [1, 1, 1, 1, 1, 1]) (bodyQ Tryz.prog Tryz.f24.results.toList K E)) (bodyQ Tryz.prog Tryz.f24.results.toList K E))))) #[x0, x1, x2, x3, x4, x5, x6, x7, x8, x9, v10, v11, x12, x13, x14, x15, x16, x17, x18, x19, x20, x21, x22, x23, x24, y25, y26, y27, y28, y29, y30, y31, y32, y33, y34, y35, y36, y37, y38, y39, y40, y41, y42, y43, y44, y45, y46, y47, x48] h := by
  subst e10
  subst e11
  have e : (#[x0, x1, x2, x3, x4, x5, x6, x7, x8, x9, (f10 s0), (f11 s0), x12, x13, x14, x15, x16, x17, x18, x19, x20, x21, x22, x23, x24, y25, y26, y27, y28, y29, y30, y31, y32, y33, y34, y35, y36, y37, y38, y39, y40, y41, y42, y43, y44, y45, y46, y47, x48] : Env) = m24_1_1_1_1_1_0_1_0_0 x0 x1 x2 x3 x4 x5 x6 x7 x8 x9 x12 x13 x14 x15 x16 x17 x18 x19 x20 x21 x22 x23 x24 x48 (f10 s0) (f11 s0) (jf #[x0, x1, x2, x3, x4, x5, x6, x7, x8, x9, (f10 s0), (f11 s0), x12, x13, x14, x15, x16, x17, x18, x19, x20, x21, x22, x23, x24, y25, y26, y27, y28, y29, y30, y31, y32, y33, y34, y35, y36, y37, y38, y39, y40, y41, y42, y43, y44, y45, y46, y47, x48]) := by kernel_rfl
  rw [e]
  exact loop_r (fun s j => m24_1_1_1_1_1_0_1_0_0 x0 x1 x2 x3 x4 x5 x6 x7 x8 x9 x12 x13 x14 x15 x16 x17 x18 x19 x20 x21 x22 x23 x24 x48 (f10 s) (f11 s) j) I μ (fun k s j h hI hw next => by rw [t24_1_1_1_1_1_0_1_0_0]; exact round k s j h hI hw next) s0 (jf #[x0, x1, x2, x3, x4, x5, x6, x7, x8, x9, (f10 s0), (f11 s0), x12, x13, x14, x15, x16, x17, x18, x19, x20, x21, x22, x23, x24, y25, y26, y27, y28, y29, y30, y31, y32, y33, y34, y35, y36, y37, y38, y39, y40, y41, y42, y43, y44, y45, y46, y47, x48]) h0

theorem t25 (K : Kont) (E : PanK) (x0 x1 x2 : Value)  : den Tryz.prog (sel (bodyOf Tryz.f25) []) (bodyQ Tryz.prog Tryz.f25.results.toList K E) #[x0, x1, x2, undef, undef, undef, undef, undef, undef, undef, undef, undef, undef, undef, undef, undef, undef, undef, undef, undef, undef, undef, undef, undef, undef, undef, undef, undef, undef, undef, undef, undef, undef, undef, undef, undef, undef, undef, undef, undef, undef, undef] =
  lp (fun k1 => den Tryz.prog (sel (bodyOf Tryz.f25) [1, 1, 0, 1, 0, 0]) (thenD k1 (blk 0 (thenD (den Tryz.prog (sel (bodyOf Tryz.f25) [1, 1, 1]) (bodyQ Tryz.prog Tryz.f25.results.toList K E)) (bodyQ Tryz.prog Tryz.f25.results.toList K E))))) #[x0, x1, x2, undef, undef, undef, (.slice none 0 0), (.slice none 0 0), (.int .i64 0), undef, undef, undef, undef, undef, undef, undef, undef, undef, undef, undef, undef, undef, undef, undef, undef, undef, undef, undef, undef, undef, undef, undef, undef, undef, undef, undef, undef, undef, undef, undef, undef, undef] := by kernel_rfl
def m25_1_1_0_1_0_0 (x0 x1 x2 x3 x4 x5 x6 x41 : Value) (v7 v8 : Value) (j : Nat → Value) : Env := #[x0, x1, x2, x3, x4, x5, x6, v7, v8, (j 9), (j 10), (j 11), (j 12), (j 13), (j 14), (j 15), (j 16), (j 17), (j 18), (j 19), (j 20), (j 21), (j 22), (j 23), (j 24), (j 25), (j 26), (j 27), (j 28), (j 29), (j 30), (j 31), (j 32), (j 33), (j 34), (j 35), (j 36), (j 37), (j 38), (j 39), (j 40), x41]
theorem t25_1_1_0_1_0_0 (K : Kont) (E : PanK) (k1 : Env → Hp → Prop) (x0 x1 x2 x3 x4 x5 x6 x41 v7 v8 : Value) (j : Nat → Value) : den Tryz.prog (sel (bodyOf Tryz.f25) [1, 1, 0, 1, 0, 0]) (thenD k1 (blk 0 (thenD (den Tryz.prog (sel (bodyOf Tryz.f25) [1, 1, 1]) (bodyQ Tryz.prog Tryz.f25.results.toList K E)) (bodyQ Tryz.prog Tryz.f25.results.toList K E)))) (m25_1_1_0_1_0_0 x0 x1 x2 x3 x4 x5 x6 x41 v7 v8 j) =
  pv (lenV x0) fun t1 =>
  pv (binV .none .lss v8 t1) fun t2 =>
  cnd t2 (
    pv (iaV none 5 x0 v8) fun t3 =>
    pv (faV 0 t3) fun t4 =>
    ld false 1 t4 fun t5 =>
    callv Tryz.prog (.func (.func 48) #[] #[]) #[x1, x2, t5] (fun t6 =>
    cnd t6 (
      pv (iaV none 5 x0 v8) fun t7 =>
      pv (faV 0 t7) fun t8 =>
      ld false 1 t8 fun t9 =>
      appX 3 1 8 (.slice none 0 0) t9 fun t10 =>
      pv (iaV none 5 x0 v8) fun t11 =>
      pv (faV 1 t11) fun t12 =>
      ld true 4 t12 fun t13 =>
      pv (bdC #[(.slice none 0 0), (.int .i64 0), (.int .i64 0), (.int .i64 0), (.int .i64 0)] [(0, 1), (1, 4)] #[(0, t10), (1, t13)]) fun t14 =>
      nws 51 1 (bsC #[(.slice none 0 0), (.int .i64 0), (.int .i64 0), (.int .i64 0), (.int .i64 0)] 5 1 #[(0, t14)]) fun t15 =>
      appX 51 5 56 v7 t15 fun t16 =>
      den Tryz.prog (sel (bodyOf Tryz.f25) [1, 1, 0, 1, 0, 0, 1, 1]) (thenD k1 (blk 0 (thenD (den Tryz.prog (sel (bodyOf Tryz.f25) [1, 1, 1]) (bodyQ Tryz.prog Tryz.f25.results.toList K E)) (bodyQ Tryz.prog Tryz.f25.results.toList K E)))) #[x0, x1, x2, x3, x4, x5, x6, t16, v8, t10, v8, x0, t1, t2, (j 14), (j 15), x1, x2, x0, v8, t3, t4, t5, t6, (.slice none 0 0), x0, v8, t7, t8, t9, t10, v7, t10, x0, v8, t11, t12, t13, t14, t15, t16, x41]) (
      den Tryz.prog (sel (bodyOf Tryz.f25) [1, 1, 0, 1, 0, 0, 1, 1]) (thenD k1 (blk 0 (thenD (den Tryz.prog (sel (bodyOf Tryz.f25) [1, 1, 1]) (bodyQ Tryz.prog Tryz.f25.results.toList K E)) (bodyQ Tryz.prog Tryz.f25.results.toList K E)))) #[x0, x1, x2, x3, x4, x5, x6, v7, v8, (j 9), v8, x0, t1, t2, (j 14), (j 15), x1, x2, x0, v8, t3, t4, t5, t6, (j 24), (j 25), (j 26), (j 27), (j 28), (j 29), (j 30), (j 31), (j 32), (j 33), (j 34), (j 35), (j 36), (j 37), (j 38), (j 39), (j 40), x41])) E) (
    den Tryz.prog (sel (bodyOf Tryz.f25) [1, 1, 1]) (bodyQ Tryz.prog Tryz.f25.results.toList K E) #[x0, x1, x2, x3, x4, x5, x6, v7, v8, (j 9), v8, x0, t1, t2, (j 14), (j 15), (j 16), (j 17), (j 18), (j 19), (j 20), (j 21), (j 22), (j 23), (j 24), (j 25), (j 26), (j 27), (j 28), (j 29), (j 30), (j 31), (j 32), (j 33), (j 34), (j 35), (j 36), (j 37), (j 38), (j 39), (j 40), x41]) := by kernel_rfl
theorem t25_1_1_1 (K : Kont) (E : PanK) (x0 x1 x2 x3 x4 x5 x6 x7 x8 x9 x10 x11 x12 x13 x14 x15 x16 x17 x18 x19 x20 x21 x22 x23 x24 x25 x26 x27 x28 x29 x30 x31 x32 x33 x34 x35 x36 x37 x38 x39 x40 x41 : Value)  : den Tryz.prog (sel (bodyOf Tryz.f25) [1, 1, 1]) (bodyQ Tryz.prog Tryz.f25.results.toList K E) #[x0, x1, x2, x3, x4, x5, x6, x7, x8, x9, x10, x11, x12, x13, x14, x15, x16, x17, x18, x19, x20, x21, x22, x23, x24, x25, x26, x27, x28, x29, x30, x31, x32, x33, x34, x35, x36, x37, x38, x39, x40, x41] =
  K x7 := by kernel_rfl
theorem t25_1_1_0_1_0_0_1_1 (K : Kont) (E : PanK) (k1 : Env → Hp → Prop) (x0 x1 x2 x3 x4 x5 x6 x7 x8 x9 x10 x11 x12 x13 x14 x15 x16 x17 x18 x19 x20 x21 x22 x23 x24 x25 x26 x27 x28 x29 x30 x31 x32 x33 x34 x35 x36 x37 x38 x39 x40 x41 : Value)  : den Tryz.prog (sel (bodyOf Tryz.f25) [1, 1, 0, 1, 0, 0, 1, 1]) (thenD k1 (blk 0 (thenD (den Tryz.prog (sel (bodyOf Tryz.f25) [1, 1, 1]) (bodyQ Tryz.prog Tryz.f25.results.toList K E)) (bodyQ Tryz.prog Tryz.f25.results.toList K E)))) #[x0, x1, x2, x3, x4, x5, x6, x7, x8, x9, x10, x11, x12, x13, x14, x15, x16, x17, x18, x19, x20, x21, x22, x23, x24, x25, x26, x27, x28, x29, x30, x31, x32, x33, x34, x35, x36, x37, x38, x39, x40, x41] =
  pv (binV .none .add x8 (.int .i64 1)) fun t1 =>
  k1 (m25_1_1_0_1_0_0 x0 x1 x2 x3 x4 x5 x6 x41 x7 t1 (jf #[x0, x1, x2, x3, x4, x5, x6, x7, t1, x9, x10, x11, x12, x13, x8, t1, x16, x17, x18, x19, x20, x21, x22, x23, x24, x25, x26, x27, x28, x29, x30, x31, x32, x33, x34, x35, x36, x37, x38, x39, x40, x41])) := by kernel_rfl
theorem l25_1_1_0_1_0_0 {K : Kont} {E : PanK} {σ : Type} {x0 x1 x2 x3 x4 x5 x6 x41 v7 v8 y9 y10 y11 y12 y13 y14 y15 y16 y17 y18 y19 y20 y21 y22 y23 y24 y25 y26 y27 y28 y29 y30 y31 y32 y33 y34 y35 y36 y37 y38 y39 y40 : Value} {h : Hp} (f7 f8 : σ → Value) (I : σ → Hp → Prop) (μ : σ → Nat) (s0 : σ) (e7 : v7 = f7 s0) (e8 : v8 = f8 s0) (h0 : h.wf → ∃ h', h.wk h' ∧ I s0 h')
  (round : ∀ (k1 : Env → Hp → Prop) (s : σ) (j : Nat → Value) (h : Hp), I s h → h.wf → (∀ s' j' h', μ s' < μ s → (h'.wf → ∃ h'', h'.wk h'' ∧ I s' h'') → k1 (m25_1_1_0_1_0_0 x0 x1 x2 x3 x4 x5 x6 x41 (f7 s') (f8 s') j') h') → (
  pv (lenV x0) fun t1 =>
  pv (binV .none .lss (f8 s) t1) fun t2 =>
  cnd t2 (
    pv (iaV none 5 x0 (f8 s)) fun t3 =>
    pv (faV 0 t3) fun t4 =>
    ld false 1 t4 fun t5 =>
    callv Tryz.prog (.func (.func 48) #[] #[]) #[x1, x2, t5] (fun t6 =>
    cnd t6 (
      pv (iaV none 5 x0 (f8 s)) fun t7 =>
      pv (faV 0 t7) fun t8 =>
      ld false 1 t8 fun t9 =>
      appX 3 1 8 (.slice none 0 0) t9 fun t10 =>
      pv (iaV none 5 x0 (f8 s)) fun t11 =>
      pv (faV 1 t11) fun t12 =>
      ld true 4 t12 fun t13 =>
      pv (bdC #[(.slice none 0 0), (.int .i64 0), (.int .i64 0), (.int .i64 0), (.int .i64 0)] [(0, 1), (1, 4)] #[(0, t10), (1, t13)]) fun t14 =>
      nws 51 1 (bsC #[(.slice none 0 0), (.int .i64 0), (.int .i64 0), (.int .i64 0), (.int .i64 0)] 5 1 #[(0, t14)]) fun t15 =>
      appX 51 5 56 (f7 s) t15 fun t16 =>
      den Tryz.prog (sel (bodyOf Tryz.f25) [1, 1, 0, 1, 0, 0, 1, 1]) (thenD k1 (blk 0 (thenD (den Tryz.prog (sel (bodyOf Tryz.f25) [1, 1, 1]) (bodyQ Tryz.prog Tryz.f25.results.toList K E)) (bodyQ Tryz.prog Tryz.f25.results.toList K E)))) #[x0, x1, x2, x3, x4, x5, x6, t16, (f8 s), t10, (f8 s), x0, t1, t2, (j 14), (j 15), x1, x2, x0, (f8 s), t3, t4, t5, t6, (.slice none 0 0), x0, (f8 s), t7, t8, t9, t10, (f7 s), t10, x0, (f8 s), t11, t12, t13, t14, t15, t16, x41]) (
      den Tryz.prog (sel (bodyOf Tryz.f25) [1, 1, 0, 1, 0, 0, 1, 1]) (thenD k1 (blk 0 (thenD (den Tryz.prog (sel (bodyOf Tryz.f25) [1, 1, 1]) (bodyQ Tryz.prog Tryz.f25.results.toList K E)) (bodyQ Tryz.prog Tryz.f25.results.toList K E)))) #[x0, x1, x2, x3, x4, x5, x6, (f7 s), (f8 s), (j 9), (f8 s), x0, t1, t2, (j 14), (j 15), x1, x2, x0, (f8 s), t3, t4, t5, t6, (j 24), (j 25), (j 26), (j 27), (j 28), (j 29), (j 30), (j 31), (j 32), (j 33), (j 34), (j 35), (j 36), (j 37), (j 38), (j 39), (j 40), x41])) E) (
    den Tryz.prog (sel (bodyOf Tryz.f25) [1, 1, 1]) (bodyQ Tryz.prog Tryz.f25.results.toList K E) #[x0, x1, x2, x3, x4, x5, x6, (f7 s), (f8 s), (j 9), (f8 s), x0, t1, t2, (j 14), (j 15), (j 16), (j 17), (j 18), (j 19), (j 20), (j 21), (j 22), (j 23), (j 24), (j 25), (j 26), (j 27), (j 28), (j 29), (j 30), (j 31), (j 32), (j 33), (j 34), (j 35), (j 36), (j 37), (j 38), (j 39), (j 40), x41])) h) :
  lp (fun k1 => den Tryz.prog (sel (bodyOf Tryz.f25) [1, 1, 0, 1, 0, 0]) (thenD k1 (blk 0 (thenD (den Tryz.prog (sel (bodyOf Tryz.f25) [1, 1, 1]) (bodyQ Tryz.prog Tryz.f25.results.toList K E)) (bodyQ Tryz.prog Tryz.f25.results.toList K E))))) #[x0, x1, x2, x3, x4, x5, x6, v7, v8, y9, y10, y11, y12, y13, y14, y15, y16, y17, y18, y19, y20, y21, y22, y23, y24, y25, y26, y27, y28, y29, y30, y31, y32, y33, y34, y35, y36, y37, y38, y39, y40, x41] h := by
  subst e7
  subst e8
  have e : (#[x0, x1, x2, x3, x4, x5, x6, (f7 s0), (f8 s0), y9, y10, y11, y12, y13, y14, y15, y16, y17, y18, y19, y20, y21, y22, y23, y24, y25, y26, y27, y28, y29, y30, y31, y32, y33, y34, y35, y36, y37, y38, y39, y40, x41] : Env) = m25_1_1_0_1_0_0 x0 x1 x2 x3 x4 x5 x6 x41 (f7 s0) (f8 s0) (jf #[x0, x1, x2, x3, x4, x5, x6, (f7 s0), (f8 s0), y9, y10, y11, y12, y13, y14, y15, y16, y17, y18, y19, y20, y21, y22, y23, y24, y25, y26, y27, y28, y29, y30, y31, y32, y33, y34, y35, y36, y37, y38, y39, y40, x41]) := by kernel_rfl
  rw [e]
  exact loop_r (fun s j => m25_1_1_0_1_0_0 x0 x1 x2 x3 x4 x5 x6 x41 (f7 s) (f8 s) j) I μ (fun k s j h hI hw next => by rw [t25_1_1_0_1_0_0]; exact round k s j h hI hw next) s0 (jf #[x0, x1, x2, x3, x4, x5, x6, (f7 s0), (f8 s0), y9, y10, y11, y12, y13, y14, y15, y16, y17, y18, y19, y20, y21, y22, y23, y24, y25, y26, y27, y28, y29, y30, y31, y32, y33, y34, y35, y36, y37, y38, y39, y40, x41]) h0

theorem t26 (K : Kont) (E : PanK) (x0 x1 : Value)  : den Tryz.prog (sel (bodyOf Tryz.f26) []) (bodyQ Tryz.prog Tryz.f26.results.toList K E) #[x0, x1, undef, undef, undef, undef, undef, undef, undef, undef, undef, undef, undef, undef, undef, undef, undef, undef, undef, undef, undef, undef, undef, undef, undef, undef, undef, undef, undef, undef, undef, undef, undef, undef, undef, undef, undef, undef, undef, undef, undef, undef, undef, undef, undef, undef] =
  lp (fun k1 => den Tryz.prog (sel (bodyOf Tryz.f26) [1, 0, 1, 0, 0]) (thenD k1 (blk 0 (thenD (den Tryz.prog (sel (bodyOf Tryz.f26) [1, 1]) (bodyQ Tryz.prog Tryz.f26.results.toList K E)) (bodyQ Tryz.prog Tryz.f26.results.toList K E))))) #[x0, x1, undef, undef, (.int .i64 0), (.int .i64 0), undef, undef, undef, undef, undef, undef, undef, undef, undef, undef, undef, undef, undef, undef, undef, undef, undef, undef, undef, undef, undef, undef, undef, undef, undef, undef, undef, undef, undef, undef, undef, undef, undef, undef, undef, undef, undef, undef, undef, undef] := by kernel_rfl
def m26_1_0_1_0_0 (x0 x1 x2 x3 x36 x37 x38 x39 x40 x41 x42 x43 x44 x45 : Value) (v5 : Value) (j : Nat → Value) : Env := #[x0, x1, x2, x3, (j 4), v5, (j 6), (j 7), (j 8), (j 9), (j 10), (j 11), (j 12), (j 13), (j 14), (j 15), (j 16), (j 17), (j 18), (j 19), (j 20), (j 21), (j 22), (j 23), (j 24), (j 25), (j 26), (j 27), (j 28), (j 29), (j 30), (j 31), (j 32), (j 33), (j 34), (j 35), x36, x37, x38, x39, x40, x41, x42, x43, x44, x45]
theorem t26_1_0_1_0_0 (K : Kont) (E : PanK) (k1 : Env → Hp → Prop) (x0 x1 x2 x3 x36 x37 x38 x39 x40 x41 x42 x43 x44 x45 v5 : Value) (j : Nat → Value) : den Tryz.prog (sel (bodyOf Tryz.f26) [1, 0, 1, 0, 0]) (thenD k1 (blk 0 (thenD (den Tryz.prog (sel (bodyOf Tryz.f26) [1, 1]) (bodyQ Tryz.prog Tryz.f26.results.toList K E)) (bodyQ Tryz.prog Tryz.f26.results.toList K E)))) (m26_1_0_1_0_0 x0 x1 x2 x3 x36 x37 x38 x39 x40 x41 x42 x43 x44 x45 v5 j) =
  pv (lenV x0) fun t1 =>
  pv (binV .none .lss v5 t1) fun t2 =>
  gdK t2 true (fun k => k v5) fun t3 =>
  gdK t2 true (fun k => k x1) fun t4 =>
  gdK t2 true (fun k => pv (lenV t4) k) fun t5 =>
  gdK t2 true (fun k => pv (binV .none .lss t3 t5) k) fun t6 =>
  pv (pickV t2 t6 (.bool false)) fun t7 =>
  cnd t7 (
    pv (iaV none 1 x0 v5) fun t8 =>
    ld false 1 t8 fun t9 =>
    pv (iaV none 1 x1 v5) fun t10 =>
    ld false 1 t10 fun t11 =>
    pv (binV .none .lss t9 t11) fun t12 =>
    cnd t12 (
      K (.int .i64 (-1))) (
      pv (iaV none 1 x0 v5) fun t13 =>
      ld false 1 t13 fun t14 =>
      pv (iaV none 1 x1 v5) fun t15 =>
      ld false 1 t15 fun t16 =>
      pv (binV .none .gtr t14 t16) fun t17 =>
      cnd t17 (
        K (.int .i64 1)) (
        pv (binV .none .add v5 (.int .i64 1)) fun t18 =>
        k1 (m26_1_0_1_0_0 x0 x1 x2 x3 x36 x37 x38 x39 x40 x41 x42 x43 x44 x45 t18 (jf #[x0, x1, x2, x3, (j 4), t18, v5, x0, t1, t2, t2, t3, t4, t5, t6, t7, v5, t18, x0, v5, t8, t9, x1, v5, t10, t11, t12, x0, v5, t13, t14, x1, v5, t15, t16, t17, x36, x37, x38, x39, x40, x41, x42, x43, x44, x45]))))) (
    den Tryz.prog (sel (bodyOf Tryz.f26) [1, 1]) (bodyQ Tryz.prog Tryz.f26.results.toList K E) #[x0, x1, x2, x3, (j 4), v5, v5, x0, t1, t2, t2, t3, t4, t5, t6, t7, (j 16), (j 17), (j 18), (j 19), (j 20), (j 21), (j 22), (j 23), (j 24), (j 25), (j 26), (j 27), (j 28), (j 29), (j 30), (j 31), (j 32), (j 33), (j 34), (j 35), x36, x37, x38, x39, x40, x41, x42, x43, x44, x45]) := by kernel_rfl
theorem t26_1_1 (K : Kont) (E : PanK) (x0 x1 x2 x3 x4 x5 x6 x7 x8 x9 x10 x11 x12 x13 x14 x15 x16 x17 x18 x19 x20 x21 x22 x23 x24 x25 x26 x27 x28 x29 x30 x31 x32 x33 x34 x35 x36 x37 x38 x39 x40 x41 x42 x43 x44 x45 : Value)  : den Tryz.prog (sel (bodyOf Tryz.f26) [1, 1]) (bodyQ Tryz.prog Tryz.f26.results.toList K E) #[x0, x1, x2, x3, x4, x5, x6, x7, x8, x9, x10, x11, x12, x13, x14, x15, x16, x17, x18, x19, x20, x21, x22, x23, x24, x25, x26, x27, x28, x29, x30, x31, x32, x33, x34, x35, x36, x37, x38, x39, x40, x41, x42, x43, x44, x45] =
  pv (lenV x0) fun t1 =>
  pv (lenV x1) fun t2 =>
  pv (binV .none .lss t1 t2) fun t3 =>
  cnd t3 (
    K (.int .i64 (-1))) (
    pv (lenV x0) fun t4 =>
    pv (lenV x1) fun t5 =>
    pv (binV .none .gtr t4 t5) fun t6 =>
    cnd t6 (
      K (.int .i64 1)) (
      K (.int .i64 0))) := by kernel_rfl
theorem l26_1_0_1_0_0 {K : Kont} {E : PanK} {σ : Type} {x0 x1 x2 x3 x36 x37 x38 x39 x40 x41 x42 x43 x44 x45 v5 y4 y6 y7 y8 y9 y10 y11 y12 y13 y14 y15 y16 y17 y18 y19 y20 y21 y22 y23 y24 y25 y26 y27 y28 y29 y30 y31 y32 y33 y34 y35 : Value} {h : Hp} (f5 : σ → Value) (I : σ → Hp → Prop) (μ : σ → Nat) (s0 : σ) (e5 : v5 = f5 s0) (h0 : h.wf → ∃ h', h.wk h' ∧ I s0 h')
  (round : ∀ (k1 : Env → Hp → Prop) (s : σ) (j : Nat → Value) (h : Hp), I s h → h.wf → (∀ s' j' h', μ s' < μ s → (h'.wf → ∃ h'', h'.wk h'' ∧ I s' h'') → k1 (m26_1_0_1_0_0 x0 x1 x2 x3 x36 x37 x38 x39 x40 x41 x42 x43 x44 x45 (f5 s') j') h') → (
  pv (lenV x0) fun t1 =>
  pv (binV .none .lss (f5 s) t1) fun t2 =>
  gdK t2 true (fun k => k (f5 s)) fun t3 =>
  gdK t2 true (fun k => k x1) fun t4 =>
  gdK t2 true (fun k => pv (lenV t4) k) fun t5 =>
  gdK t2 true (fun k => pv (binV .none .lss t3 t5) k) fun t6 =>
  pv (pickV t2 t6 (.bool false)) fun t7 =>
  cnd t7 (
    pv (iaV none 1 x0 (f5 s)) fun t8 =>
    ld false 1 t8 fun t9 =>
    pv (iaV none 1 x1 (f5 s)) fun t10 =>
    ld false 1 t10 fun t11 =>
    pv (binV .none .lss t9 t11) fun t12 =>
    cnd t12 (
      K (.int .i64 (-1))) (
      pv (iaV none 1 x0 (f5 s)) fun t13 =>
      ld false 1 t13 fun t14 =>
      pv (iaV none 1 x1 (f5 s)) fun t15 =>
      ld false 1 t15 fun t16 =>
      pv (binV .none .gtr t14 t16) fun t17 =>
      cnd t17 (
        K (.int .i64 1)) (
        pv (binV .none .add (f5 s) (.int .i64 1)) fun t18 =>
        k1 (m26_1_0_1_0_0 x0 x1 x2 x3 x36 x37 x38 x39 x40 x41 x42 x43 x44 x45 t18 (jf #[x0, x1, x2, x3, (j 4), t18, (f5 s), x0, t1, t2, t2, t3, t4, t5, t6, t7, (f5 s), t18, x0, (f5 s), t8, t9, x1, (f5 s), t10, t11, t12, x0, (f5 s), t13, t14, x1, (f5 s), t15, t16, t17, x36, x37, x38, x39, x40, x41, x42, x43, x44, x45]))))) (
    den Tryz.prog (sel (bodyOf Tryz.f26) [1, 1]) (bodyQ Tryz.prog Tryz.f26.results.toList K E) #[x0, x1, x2, x3, (j 4), (f5 s), (f5 s), x0, t1, t2, t2, t3, t4, t5, t6, t7, (j 16), (j 17), (j 18), (j 19), (j 20), (j 21), (j 22), (j 23), (j 24), (j 25), (j 26), (j 27), (j 28), (j 29), (j 30), (j 31), (j 32), (j 33), (j 34), (j 35), x36, x37, x38, x39, x40, x41, x42, x43, x44, x45])) h) :
  lp (fun k1 => den Tryz.prog (sel (bodyOf Tryz.f26) [1, 0, 1, 0, 0]) (thenD k1 (blk 0 (thenD (den Tryz.prog (sel (bodyOf Tryz.f26) [1, 1]) (bodyQ Tryz.prog Tryz.f26.results.toList K E)) (bodyQ Tryz.prog Tryz.f26.results.toList K E))))) #[x0, x1, x2, x3, y4, v5, y6, y7, y8, y9, y10, y11, y12, y13, y14, y15, y16, y17, y18, y19, y20, y21, y22, y23, y24, y25, y26, y27, y28, y29, y30, y31, y32, y33, y34, y35, x36, x37, x38, x39, x40, x41, x42, x43, x44, x45] h := by
  subst e5
  have e : (#[x0, x1, x2, x3, y4, (f5 s0), y6, y7, y8, y9, y10, y11, y12, y13, y14, y15, y16, y17, y18, y19, y20, y21, y22, y23, y24, y25, y26, y27, y28, y29, y30, y31, y32, y33, y34, y35, x36, x37, x38, x39, x40, x41, x42, x43, x44, x45] : Env) = m26_1_0_1_0_0 x0 x1 x2 x3 x36 x37 x38 x39 x40 x41 x42 x43 x44 x45 (f5 s0) (jf #[x0, x1, x2, x3, y4, (f5 s0), y6, y7, y8, y9, y10, y11, y12, y13, y14, y15, y16, y17, y18, y19, y20, y21, y22, y23, y24, y25, y26, y27, y28, y29, y30, y31, y32, y33, y34, y35, x36, x37, x38, x39, x40, x41, x42, x43, x44, x45]) := by kernel_rfl
  rw [e]
  exact loop_r (fun s j => m26_1_0_1_0_0 x0 x1 x2 x3 x36 x37 x38 x39 x40 x41 x42 x43 x44 x45 (f5 s) j) I μ (fun k s j h hI hw next => by rw [t26_1_0_1_0_0]; exact round k s j h hI hw next) s0 (jf #[x0, x1, x2, x3, y4, (f5 s0), y6, y7, y8, y9, y10, y11, y12, y13, y14, y15, y16, y17, y18, y19, y20, y21, y22, y23, y24, y25, y26, y27, y28, y29, y30, y31, y32, y33, y34, y35, x36, x37, x38, x39, x40, x41, x42, x43, x44, x45]) h0

theorem t27 (K : Kont) (E : PanK) (x0 x1 : Value)  : den Tryz.prog (sel (bodyOf Tryz.f27) []) (bodyQ Tryz.prog Tryz.f27.results.toList K E) #[x0, x1, undef, undef, undef, undef, undef, undef, undef, undef, undef, undef, undef] =
  nw 47 (Value.cells x0).toList fun t1 =>
  pv (binV .none .geq x1 (.int .i64 0)) fun t2 =>
  gdK t2 true (fun k => k x1) fun t3 =>
  gdK t2 true (fun k => ld true 2 t1 k) fun t4 =>
  gdK t2 true (fun k => callv Tryz.prog (.func (.func 28) #[] #[]) #[t4] k E) fun t5 =>
  gdK t2 true (fun k => pv (binV .none .lss t3 t5) k) fun t6 =>
  pv (pickV t2 t6 (.bool false)) fun t7 =>
  K t7 := by kernel_rfl

theorem t28 (K : Kont) (E : PanK) (x0 : Value)  : den Tryz.prog (sel (bodyOf Tryz.f28) []) (bodyQ Tryz.prog Tryz.f28.results.toList K E) #[x0, undef, undef, undef, undef, undef, undef] =
  nw 47 (Value.cells x0).toList fun t1 =>
  pv (faV 1 t1) fun t2 =>
  ld false 1 t2 fun t3 =>
  pv (lenV t3) fun t4 =>
  pv (binV .none .add t4 (.int .i64 2)) fun t5 =>
  K t5 := by kernel_rfl

theorem t29 (K : Kont) (E : PanK) (x0 : Value)  : den Tryz.prog (sel (bodyOf Tryz.f29) []) (bodyQ Tryz.prog Tryz.f29.results.toList K E) #[x0, undef, undef, undef, undef, undef, undef, undef, undef, undef, undef, undef, undef, undef, undef, undef] =
  pv (lenV x0) fun t1 =>
  pv (binV .none .gtr t1 (.int .i64 0)) fun t2 =>
  gdK t2 true (fun k => k x0) fun t3 =>
  gdK t2 true (fun k => pv (lenV t3) k) fun t4 =>
  gdK t2 true (fun k => pv (binV .none .leq t4 (.int .i64 4)) k) fun t5 =>
  pv (pickV t2 t5 (.bool false)) fun t6 =>
  gdK t6 true (fun k => k x0) fun t7 =>
  gdK t6 true (fun k => callv Tryz.prog (.func (.func 49) #[] #[]) #[t7, (.func (.func 50) #[] #[])] k E) fun t8 =>
  gdK t6 true (fun k => pv (unV .not t8) k) fun t9 =>
  pv (pickV t6 t9 (.bool false)) fun t10 =>
  K t10 := by kernel_rfl

theorem t30 (K : Kont) (E : PanK) (x0 x1 x2 : Value)  : den Tryz.prog (sel (bodyOf Tryz.f30) []) (bodyQ Tryz.prog Tryz.f30.results.toList K E) #[x0, x1, x2, undef, undef, undef, undef, undef, undef, undef, undef, undef, undef, undef, undef, undef, undef, undef, undef, undef, undef, undef, undef, undef, undef, undef, undef, undef, undef, undef, undef, undef] =
  pv (lenV x0) fun t1 =>
  pv (lenV x1) fun t2 =>
  pv (binV .none .neq t1 t2) fun t3 =>
  cnd t3 (
    K (.bool false)) (
    pv (lenV x0) fun t4 =>
    lp (fun k1 => den Tryz.prog (sel (bodyOf Tryz.f30) [1, 1, 0, 1, 0, 0]) (thenD k1 (blk 0 (thenD (den Tryz.prog (sel (bodyOf Tryz.f30) [1, 1, 1]) (bodyQ Tryz.prog Tryz.f30.results.toList K E)) (bodyQ Tryz.prog Tryz.f30.results.toList K E))))) #[x0, x1, x2, undef, undef, undef, (.bool false), undef, undef, undef, x0, t1, x1, t2, t3, x0, t4, (.int .i64 0), undef, undef, undef, undef, undef, undef, undef, undef, undef, undef, undef, undef, undef, undef]) := by kernel_rfl
def m30_1_1_0_1_0_0 (x0 x1 x2 x3 x4 x5 x10 x11 x12 x13 x14 x15 x16 : Value) (v17 : Value) (j : Nat → Value) : Env := #[x0, x1, x2, x3, x4, x5, (j 6), (j 7), (j 8), (j 9), x10, x11, x12, x13, x14, x15, x16, v17, (j 18), (j 19), (j 20), (j 21), (j 22), (j 23), (j 24), (j 25), (j 26), (j 27), (j 28), (j 29), (j 30), (j 31)]
theorem t30_1_1_0_1_0_0 (K : Kont) (E : PanK) (k1 : Env → Hp → Prop) (x0 x1 x2 x3 x4 x5 x10 x11 x12 x13 x14 x15 x16 v17 : Value) (j : Nat → Value) : den Tryz.prog (sel (bodyOf Tryz.f30) [1, 1, 0, 1, 0, 0]) (thenD k1 (blk 0 (thenD (den Tryz.prog (sel (bodyOf Tryz.f30) [1, 1, 1]) (bodyQ Tryz.prog Tryz.f30.results.toList K E)) (bodyQ Tryz.prog Tryz.f30.results.toList K E)))) (m30_1_1_0_1_0_0 x0 x1 x2 x3 x4 x5 x10 x11 x12 x13 x14 x15 x16 v17 j) =
  pv (binV .none .lss v17 x16) fun t1 =>
  cnd t1 (
    pv (iaV none 2 x15 v17) fun t2 =>
    ld true 2 t2 fun t3 =>
    nw 47 [(.int .i64 0), (.slice none 0 0)] fun t4 =>
    st 2 t4 t3 fun _ =>
    pv (iaV none 1 x1 v17) fun t5 =>
    ld false 1 t5 fun t6 =>
    ld true 2 t4 fun t7 =>
    callv Tryz.prog x2 #[t7, t6] (fun t8 =>
    pv (unV .not t8) fun t9 =>
    cnd t9 (
      K (.bool false)) (
      pv (binV .none .add v17 (.int .i64 1)) fun t10 =>
      k1 (m30_1_1_0_1_0_0 x0 x1 x2 x3 x4 x5 x10 x11 x12 x13 x14 x15 x16 t10 (jf #[x0, x1, x2, x3, x4, x5, (j 6), v17, t4, t6, x10, x11, x12, x13, x14, x15, x16, t10, t1, v17, t2, t3, x1, v17, t5, t6, x2, t7, t6, t8, t9, t10])))) E) (
    den Tryz.prog (sel (bodyOf Tryz.f30) [1, 1, 1]) (bodyQ Tryz.prog Tryz.f30.results.toList K E) #[x0, x1, x2, x3, x4, x5, (j 6), (j 7), (j 8), (j 9), x10, x11, x12, x13, x14, x15, x16, v17, t1, (j 19), (j 20), (j 21), (j 22), (j 23), (j 24), (j 25), (j 26), (j 27), (j 28), (j 29), (j 30), (j 31)]) := by kernel_rfl
theorem t30_1_1_1 (K : Kont) (E : PanK) (x0 x1 x2 x3 x4 x5 x6 x7 x8 x9 x10 x11 x12 x13 x14 x15 x16 x17 x18 x19 x20 x21 x22 x23 x24 x25 x26 x27 x28 x29 x30 x31 : Value)  : den Tryz.prog (sel (bodyOf Tryz.f30) [1, 1, 1]) (bodyQ Tryz.prog Tryz.f30.results.toList K E) #[x0, x1, x2, x3, x4, x5, x6, x7, x8, x9, x10, x11, x12, x13, x14, x15, x16, x17, x18, x19, x20, x21, x22, x23, x24, x25, x26, x27, x28, x29, x30, x31] =
  K (.bool true) := by kernel_rfl
theorem l30_1_1_0_1_0_0 {K : Kont} {E : PanK} {σ : Type} {x0 x1 x2 x3 x4 x5 x10 x11 x12 x13 x14 x15 x16 v17 y6 y7 y8 y9 y18 y19 y20 y21 y22 y23 y24 y25 y26 y27 y28 y29 y30 y31 : Value} {h : Hp} (f17 : σ → Value) (I : σ → Hp → Prop) (μ : σ → Nat) (s0 : σ) (e17 : v17 = f17 s0) (h0 : h.wf → ∃ h', h.wk h' ∧ I s0 h')
  (round : ∀ (k1 : Env → Hp → Prop) (s : σ) (j : Nat → Value) (h : Hp), I s h → h.wf → (∀ s' j' h', μ s' < μ s → (h'.wf → ∃ h'', h'.wk h'' ∧ I s' h'') → k1 (m30_1_1_0_1_0_0 x0 x1 x2 x3 x4 x5 x10 x11 x12 x13 x14 x15 x16 (f17 s') j') h') → (
  pv (binV .none .lss (f17 s) x16) fun t1 =>
  cnd t1 (
    pv (iaV none 2 x15 (f17 s)) fun t2 =>
    ld true 2 t2 fun t3 =>
    nw 47 [(.int .i64 0), (.slice none 0 0)] fun t4 =>
    st 2 t4 t3 fun _ =>
    pv (iaV none 1 x1 (f17 s)) fun t5 =>
    ld false 1 t5 fun t6 =>
    ld true 2 t4 fun t7 =>
    callv Tryz.prog x2 #[t7, t6] (fun t8 =>
    pv (unV .not t8) fun t9 =>
    cnd t9 (
      K (.bool false)) (
      pv (binV .none .add (f17 s) (.int .i64 1)) fun t10 =>
      k1 (m30_1_1_0_1_0_0 x0 x1 x2 x3 x4 x5 x10 x11 x12 x13 x14 x15 x16 t10 (jf #[x0, x1, x2, x3, x4, x5, (j 6), (f17 s), t4, t6, x10, x11, x12, x13, x14, x15, x16, t10, t1, (f17 s), t2, t3, x1, (f17 s), t5, t6, x2, t7, t6, t8, t9, t10])))) E) (
    den Tryz.prog (sel (bodyOf Tryz.f30) [1, 1, 1]) (bodyQ Tryz.prog Tryz.f30.results.toList K E) #[x0, x1, x2, x3, x4, x5, (j 6), (j 7), (j 8), (j 9), x10, x11, x12, x13, x14, x15, x16, (f17 s), t1, (j 19), (j 20), (j 21), (j 22), (j 23), (j 24), (j 25), (j 26), (j 27), (j 28), (j 29), (j 30), (j 31)])) h) :
  lp (fun k1 => den Tryz.prog (sel (bodyOf Tryz.f30) [1, 1, 0, 1, 0, 0]) (thenD k1 (blk 0 (thenD (den Tryz.prog (sel (bodyOf Tryz.f30) [1, 1, 1]) (bodyQ Tryz.prog Tryz.f30.results.toList K E)) (bodyQ Tryz.prog Tryz.f30.results.toList K E))))) #[x0, x1, x2, x3, x4, x5, y6, y7, y8, y9, x10, x11, x12, x13, x14, x15, x16, v17, y18, y19, y20, y21, y22, y23, y24, y25, y26, y27, y28, y29, y30, y31] h := by
  subst e17
  have e : (#[x0, x1, x2, x3, x4, x5, y6, y7, y8, y9, x10, x11, x12, x13, x14, x15, x16, (f17 s0), y18, y19, y20, y21, y22, y23, y24, y25, y26, y27, y28, y29, y30, y31] : Env) = m30_1_1_0_1_0_0 x0 x1 x2 x3 x4 x5 x10 x11 x12 x13 x14 x15 x16 (f17 s0) (jf #[x0, x1, x2, x3, x4, x5, y6, y7, y8, y9, x10, x11, x12, x13, x14, x15, x16, (f17 s0), y18, y19, y20, y21, y22, y23, y24, y25, y26, y27, y28, y29, y30, y31]) := by kernel_rfl
  rw [e]
  exact loop_r (fun s j => m30_1_1_0_1_0_0 x0 x1 x2 x3 x4 x5 x10 x11 x12 x13 x14 x15 x16 (f17 s) j) I μ (fun k s j h hI hw next => by rw [t30_1_1_0_1_0_0]; exact round k s j h hI hw next) s0 (jf #[x0, x1, x2, x3, x4, x5, y6, y7, y8, y9, x10, x11, x12, x13, x14, x15, x16, (f17 s0), y18, y19, y20, y21, y22, y23, y24, y25, y26, y27, y28, y29, y30, y31]) h0

theorem t31 (K : Kont) (E : PanK) (x0 x1 x2 : Value)  : den Tryz.prog (sel (bodyOf Tryz.f31) []) (bodyQ Tryz.prog Tryz.f31.results.toList K E) #[x0, x1, x2, undef, undef, undef, undef, undef, undef, undef, undef, undef, undef, undef, undef, undef, undef, undef, undef] =
  nw 28 (Value.cells x0).toList fun t1 =>
  nw 34 (Value.cells x1).toList fun t2 =>
  nw 34 (Value.cells x2).toList fun t3 =>
  ld false 1 t2 fun t4 =>
  pv (lenV t4) fun t5 =>
  ld false 1 t1 fun t6 =>
  pv (lenV t6) fun t7 =>
  pv (binV .none .eql t5 t7) fun t8 =>
  gdK t8 true (fun k => k (.func (.func 53) #[] #[t2, t3, t1])) fun t9 =>
  gdK t8 true (fun k => ld false 1 t2 k) fun t10 =>
  gdK t8 true (fun k => ld false 1 t3 k) fun t11 =>
  gdK t8 true (fun k => nws 34 2 (bsC #[(.slice none 0 0)] 1 2 #[(0, t10), (1, t11)]) k) fun t12 =>
  gdK t8 true (fun k => callv Tryz.prog (.func (.func 52) #[] #[]) #[t9, t12] k E) fun t13 =>
  pv (pickV t8 t13 (.bool false)) fun t14 =>
  K t14 := by kernel_rfl

theorem t32 (K : Kont) (E : PanK) (x0 : Value)  : den Tryz.prog (sel (bodyOf Tryz.f32) []) (bodyQ Tryz.prog Tryz.f32.results.toList K E) #[x0, undef, undef, undef, undef, undef, undef] =
  appX 3 1 8 (.slice none 0 0) x0 fun t1 =>
  K t1 := by kernel_rfl

theorem t33 (K : Kont) (E : PanK) (x0 x1 : Value)  : den Tryz.prog (sel (bodyOf Tryz.f33) []) (bodyQ Tryz.prog Tryz.f33.results.toList K E) #[x0, x1, undef, undef, undef, undef, undef, undef, undef, undef, undef, undef, undef, undef, undef, undef, undef, undef, undef, undef, undef, undef, undef, undef, undef, undef, undef, undef, undef, undef, undef, undef, undef, undef] =
  nw 49 (Value.cells x0).toList fun t1 =>
  nw 49 (Value.cells x1).toList fun t2 =>
  nw 49 [(.int .i64 0), (.int .i64 0), (.int .i64 0), (.int .i64 0)] fun t3 =>
  pv (faV 0 t1) fun t4 =>
  ld false 1 t4 fun t5 =>
  pv (binV .none .eql t5 (.int .i64 0)) fun t6 =>
  cnd t6 (
    ld true 4 t2 fun t7 =>
    st 4 t3 t7 fun _ =>
    ld true 4 t3 fun t8 =>
    K t8) (
    pv (faV 0 t2) fun t9 =>
    ld false 1 t9 fun t10 =>
    pv (binV .none .eql t10 (.int .i64 0)) fun t11 =>
    cnd t11 (
      ld true 4 t1 fun t12 =>
      st 4 t3 t12 fun _ =>
      ld true 4 t3 fun t13 =>
      K t13) (
      pv (faV 0 t1) fun t14 =>
      ld false 1 t14 fun t15 =>
      pv (faV 0 t2) fun t16 =>
      ld false 1 t16 fun t17 =>
      pv (binV .none .add t15 t17) fun t18 =>
      pv (faV 1 t1) fun t19 =>
      ld false 1 t19 fun t20 =>
      pv (faV 1 t2) fun t21 =>
      ld false 1 t21 fun t22 =>
      pv (binV .none .add t20 t22) fun t23 =>
      pv (faV 2 t1) fun t24 =>
      ld false 1 t24 fun t25 =>
      pv (faV 2 t2) fun t26 =>
      ld false 1 t26 fun t27 =>
      pv (mm false t25 t27) fun t28 =>
      pv (faV 3 t1) fun t29 =>
      ld false 1 t29 fun t30 =>
      pv (faV 3 t2) fun t31 =>
      ld false 1 t31 fun t32 =>
      pv (mm true t30 t32) fun t33 =>
      pv (bdC #[(.int .i64 0), (.int .i64 0), (.int .i64 0), (.int .i64 0)] [(0, 1), (1, 1), (2, 1), (3, 1)] #[(0, t18), (1, t23), (2, t28), (3, t33)]) fun t34 =>
      st 4 t3 t34 fun _ =>
      ld true 4 t3 fun t35 =>
      K t35)) := by kernel_rfl

theorem t34 (K : Kont) (E : PanK) (x0 x1 : Value)  : den Tryz.prog (sel (bodyOf Tryz.f34) []) (bodyQ Tryz.prog Tryz.f34.results.toList K E) #[x0, x1, undef, undef, undef, undef, undef, undef, undef, undef, undef, undef, undef, undef, undef, undef, undef, undef, undef, undef, undef, undef, undef, undef, undef, undef, undef] =
  nw 51 (Value.cells x0).toList fun t1 =>
  pv (faV 0 t1) fun t2 =>
  ld false 1 t2 fun t3 =>
  pv (lenV t3) fun t4 =>
  pv (binV .none .eql t4 x1) fun t5 =>
  gdK t5 true (fun k => pv (faV 1 t1) k) fun t6 =>
  gdK t5 true (fun k => pv (faV 0 t6) k) fun t7 =>
  gdK t5 true (fun k => ld false 1 t7 k) fun t8 =>
  gdK t5 true (fun k => pv (binV .none .gtr t8 (.int .i64 0)) k) fun t9 =>
  pv (pickV t5 t9 (.bool false)) fun t10 =>
  gdK t10 true (fun k => pv (faV 1 t1) k) fun t11 =>
  gdK t10 true (fun k => ld true 4 t11 k) fun t12 =>
  gdK t10 true (fun k => callv Tryz.prog (.func (.func 54) #[] #[]) #[t12] k E) fun t13 =>
  pv (pickV t10 t13 (.bool false)) fun t14 =>
  gdK t14 true (fun k => pv (faV 0 t1) k) fun t15 =>
  gdK t14 true (fun k => ld false 1 t15 k) fun t16 =>
  gdK t14 true (fun k => callv Tryz.prog (.func (.func 55) #[] #[]) #[t16, (.func (.func 56) #[] #[])] k E) fun t17 =>
  gdK t14 true (fun k => pv (unV .not t17) k) fun t18 =>
  pv (pickV t14 t18 (.bool false)) fun t19 =>
  K t19 := by kernel_rfl

theorem t35 (K : Kont) (E : PanK) (x0 x1 : Value)  : den Tryz.prog (sel (bodyOf Tryz.f35) []) (bodyQ Tryz.prog Tryz.f35.results.toList K E) #[x0, x1, undef, undef, undef, undef, undef, undef, undef, undef] =
  nw 51 (Value.cells x0).toList fun t1 =>
  nw 51 (Value.cells x1).toList fun t2 =>
  pv (faV 0 t1) fun t3 =>
  ld false 1 t3 fun t4 =>
  pv (faV 0 t2) fun t5 =>
  ld false 1 t5 fun t6 =>
  callv Tryz.prog (.func (.func 57) #[] #[]) #[t4, t6] (fun t7 =>
  K t7) E := by kernel_rfl

theorem t36 (K : Kont) (E : PanK) (x0 x1 x2 : Value)  : den Tryz.prog (sel (bodyOf Tryz.f36) []) (bodyQ Tryz.prog Tryz.f36.results.toList K E) #[x0, x1, x2, undef, undef, undef, undef, undef, undef, undef, undef, undef, undef, undef, undef, undef, undef, undef, undef, undef, undef, undef, undef, undef, undef, undef, undef, undef, undef, undef, undef, undef, undef, undef, undef, undef, undef, undef, undef, undef, undef, undef, undef, undef, undef, undef, undef, undef, undef, undef, undef, undef, undef, undef] =
  pv (lenV x1) fun t1 =>
  pv (lenV x0) fun t2 =>
  pv (binV .none .neq t1 t2) fun t3 =>
  gdK t3 false (fun k => k x2) fun t4 =>
  gdK t3 false (fun k => pv (lenV t4) k) fun t5 =>
  gdK t3 false (fun k => k x0) fun t6 =>
  gdK t3 false (fun k => pv (lenV t6) k) fun t7 =>
  gdK t3 false (fun k => pv (binV .none .neq t5 t7) k) fun t8 =>
  pv (pickV t3 (.bool true) t8) fun t9 =>
  cnd t9 (
    K (.bool false)) (
    pv (lenV x0) fun t10 =>
    lp (fun k1 => den Tryz.prog (sel (bodyOf Tryz.f36) [1, 1, 0, 1, 0, 0]) (thenD k1 (blk 0 (thenD (den Tryz.prog (sel (bodyOf Tryz.f36) [1, 1, 1]) (bodyQ Tryz.prog Tryz.f36.results.toList K E)) (bodyQ Tryz.prog Tryz.f36.results.toList K E))))) #[x0, x1, x2, undef, undef, undef, (.bool false), undef, undef, x1, t1, x0, t2, t3, t3, t4, t5, t6, t7, t8, t9, x0, t10, (.int .i64 0), undef, undef, undef, undef, undef, undef, undef, undef, undef, undef, undef, undef, undef, undef, undef, undef, undef, undef, undef, undef, undef, undef, undef, undef, undef, undef, undef, undef, undef, undef]) := by kernel_rfl
def m36_1_1_0_1_0_0 (x0 x1 x2 x3 x4 x5 x9 x10 x11 x12 x13 x14 x15 x16 x17 x18 x19 x20 x21 x22 : Value) (v23 : Value) (j : Nat → Value) : Env := #[x0, x1, x2, x3, x4, x5, (j 6), (j 7), (j 8), x9, x10, x11, x12, x13, x14, x15, x16, x17, x18, x19, x20, x21, x22, v23, (j 24), (j 25), (j 26), (j 27), (j 28), (j 29), (j 30), (j 31), (j 32), (j 33), (j 34), (j 35), (j 36), (j 37), (j 38), (j 39), (j 40), (j 41), (j 42), (j 43), (j 44), (j 45), (j 46), (j 47), (j 48), (j 49), (j 50), (j 51), (j 52), (j 53)]
theorem t36_1_1_0_1_0_0 (K : Kont) (E : PanK) (k1 : Env → Hp → Prop) (x0 x1 x2 x3 x4 x5 x9 x10 x11 x12 x13 x14 x15 x16 x17 x18 x19 x20 x21 x22 v23 : Value) (j : Nat → Value) : den Tryz.prog (sel (bodyOf Tryz.f36) [1, 1, 0, 1, 0, 0]) (thenD k1 (blk 0 (thenD (den Tryz.prog (sel (bodyOf Tryz.f36) [1, 1, 1]) (bodyQ Tryz.prog Tryz.f36.results.toList K E)) (bodyQ Tryz.prog Tryz.f36.results.toList K E)))) (m36_1_1_0_1_0_0 x0 x1 x2 x3 x4 x5 x9 x10 x11 x12 x13 x14 x15 x16 x17 x18 x19 x20 x21 x22 v23 j) =
  pv (binV .none .lss v23 x22) fun t1 =>
  cnd t1 (
    pv (iaV none 2 x21 v23) fun t2 =>
    ld true 2 t2 fun t3 =>
    nw 47 [(.int .i64 0), (.slice none 0 0)] fun t4 =>
    st 2 t4 t3 fun _ =>
    pv (iaV none 1 x1 v23) fun t5 =>
    ld false 1 t5 fun t6 =>
    pv (binV .none .lss t6 (.int .i64 0)) fun t7 =>
    gdK t7 false (fun k => k x2) fun t8 =>
    gdK t7 false (fun k => k v23) fun t9 =>
    gdK t7 false (fun k => pv (iaV none 1 t8 t9) k) fun t10 =>
    gdK t7 false (fun k => ld false 1 t10 k) fun t11 =>
    gdK t7 false (fun k => k x1) fun t12 =>
    gdK t7 false (fun k => k v23) fun t13 =>
    gdK t7 false (fun k => pv (iaV none 1 t12 t13) k) fun t14 =>
    gdK t7 false (fun k => ld false 1 t14 k) fun t15 =>
    gdK t7 false (fun k => pv (binV .none .lss t11 t15) k) fun t16 =>
    pv (pickV t7 (.bool true) t16) fun t17 =>
    gdK t17 false (fun k => k x2) fun t18 =>
    gdK t17 false (fun k => k v23) fun t19 =>
    gdK t17 false (fun k => pv (iaV none 1 t18 t19) k) fun t20 =>
    gdK t17 false (fun k => ld false 1 t20 k) fun t21 =>
    gdK t17 false (fun k => ld true 2 t4 k) fun t22 =>
    gdK t17 false (fun k => callv Tryz.prog (.func (.func 28) #[] #[]) #[t22] k E) (fun t23 h24 => (isB t17 false = true → ldV h24 false 1 t20 t21) ∧ (
      gdK t17 false (fun k => pv (binV .none .geq t21 t23) k) fun t25 =>
      pv (pickV t17 (.bool true) t25) fun t26 =>
      cnd t26 (
        K (.bool false)) (
        pv (binV .none .add v23 (.int .i64 1)) fun t27 =>
        k1 (m36_1_1_0_1_0_0 x0 x1 x2 x3 x4 x5 x9 x10 x11 x12 x13 x14 x15 x16 x17 x18 x19 x20 x21 x22 t27 (jf #[x0, x1, x2, x3, x4, x5, (j 6), v23, t4, x9, x10, x11, x12, x13, x14, x15, x16, x17, x18, x19, x20, x21, x22, t27, t1, v23, t2, t3, x1, v23, t5, t6, t7, t7, t8, t9, t10, t11, t12, t13, t14, t15, t16, t17, t17, t18, t19, t20, t21, t22, t23, t25, t26, t27])))) h24)) (
    den Tryz.prog (sel (bodyOf Tryz.f36) [1, 1, 1]) (bodyQ Tryz.prog Tryz.f36.results.toList K E) #[x0, x1, x2, x3, x4, x5, (j 6), (j 7), (j 8), x9, x10, x11, x12, x13, x14, x15, x16, x17, x18, x19, x20, x21, x22, v23, t1, (j 25), (j 26), (j 27), (j 28), (j 29), (j 30), (j 31), (j 32), (j 33), (j 34), (j 35), (j 36), (j 37), (j 38), (j 39), (j 40), (j 41), (j 42), (j 43), (j 44), (j 45), (j 46), (j 47), (j 48), (j 49), (j 50), (j 51), (j 52), (j 53)]) := by kernel_rfl
theorem t36_1_1_1 (K : Kont) (E : PanK) (x0 x1 x2 x3 x4 x5 x6 x7 x8 x9 x10 x11 x12 x13 x14 x15 x16 x17 x18 x19 x20 x21 x22 x23 x24 x25 x26 x27 x28 x29 x30 x31 x32 x33 x34 x35 x36 x37 x38 x39 x40 x41 x42 x43 x44 x45 x46 x47 x48 x49 x50 x51 x52 x53 : Value)  : den Tryz.prog (sel (bodyOf Tryz.f36) [1, 1, 1]) (bodyQ Tryz.prog Tryz.f36.results.toList K E) #[x0, x1, x2, x3, x4, x5, x6, x7, x8, x9, x10, x11, x12, x13, x14, x15, x16, x17, x18, x19, x20, x21, x22, x23, x24, x25, x26, x27, x28, x29, x30, x31, x32, x33, x34, x35, x36, x37, x38, x39, x40, x41, x42, x43, x44, x45, x46, x47, x48, x49, x50, x51, x52, x53] =
  K (.bool true) := by kernel_rfl
theorem l36_1_1_0_1_0_0 {K : Kont} {E : PanK} {σ : Type} {x0 x1 x2 x3 x4 x5 x9 x10 x11 x12 x13 x14 x15 x16 x17 x18 x19 x20 x21 x22 v23 y6 y7 y8 y24 y25 y26 y27 y28 y29 y30 y31 y32 y33 y34 y35 y36 y37 y38 y39 y40 y41 y42 y43 y44 y45 y46 y47 y48 y49 y50 y51 y52 y53 : Value} {h : Hp} (f23 : σ → Value) (I : σ → Hp → Prop) (μ : σ → Nat) (s0 : σ) (e23 : v23 = f23 s0) (h0 : h.wf → ∃ h', h.wk h' ∧ I s0 h')
  (round : ∀ (k1 : Env → Hp → Prop) (s : σ) (j : Nat → Value) (h : Hp), I s h → h.wf → (∀ s' j' h', μ s' < μ s → (h'.wf → ∃ h'', h'.wk h'' ∧ I s' h'') → k1 (m36_1_1_0_1_0_0 x0 x1 x2 x3 x4 x5 x9 x10 x11 x12 x13 x14 x15 x16 x17 x18 x19 x20 x21 x22 (f23 s') j') h') → (
  pv (binV .none .lss (f23 s) x22) fun t1 =>
  cnd t1 (
    pv (iaV none 2 x21 (f23 s)) fun t2 =>
    ld true 2 t2 fun t3 =>
    nw 47 [(.int .i64 0), (.slice none 0 0)] fun t4 =>
    st 2 t4 t3 fun _ =>
    pv (iaV none 1 x1 (f23 s)) fun t5 =>
    ld false 1 t5 fun t6 =>
    pv (binV .none .lss t6 (.int .i64 0)) fun t7 =>
    gdK t7 false (fun k => k x2) fun t8 =>
    gdK t7 false (fun k => k (f23 s)) fun t9 =>
    gdK t7 false (fun k => pv (iaV none 1 t8 t9) k) fun t10 =>
    gdK t7 false (fun k => ld false 1 t10 k) fun t11 =>
    gdK t7 false (fun k => k x1) fun t12 =>
    gdK t7 false (fun k => k (f23 s)) fun t13 =>
    gdK t7 false (fun k => pv (iaV none 1 t12 t13) k) fun t14 =>
    gdK t7 false (fun k => ld false 1 t14 k) fun t15 =>
    gdK t7 false (fun k => pv (binV .none .lss t11 t15) k) fun t16 =>
    pv (pickV t7 (.bool true) t16) fun t17 =>
    gdK t17 false (fun k => k x2) fun t18 =>
    gdK t17 false (fun k => k (f23 s)) fun t19 =>
    gdK t17 false (fun k => pv (iaV none 1 t18 t19) k) fun t20 =>
    gdK t17 false (fun k => ld false 1 t20 k) fun t21 =>
    gdK t17 false (fun k => ld true 2 t4 k) fun t22 =>
    gdK t17 false (fun k => callv Tryz.prog (.func (.func 28) #[] #[]) #[t22] k E) (fun t23 h24 => (isB t17 false = true → ldV h24 false 1 t20 t21) ∧ (
      gdK t17 false (fun k => pv (binV .none .geq t21 t23) k) fun t25 =>
      pv (pickV t17 (.bool true) t25) fun t26 =>
      cnd t26 (
        K (.bool false)) (
        pv (binV .none .add (f23 s) (.int .i64 1)) fun t27 =>
        k1 (m36_1_1_0_1_0_0 x0 x1 x2 x3 x4 x5 x9 x10 x11 x12 x13 x14 x15 x16 x17 x18 x19 x20 x21 x22 t27 (jf #[x0, x1, x2, x3, x4, x5, (j 6), (f23 s), t4, x9, x10, x11, x12, x13, x14, x15, x16, x17, x18, x19, x20, x21, x22, t27, t1, (f23 s), t2, t3, x1, (f23 s), t5, t6, t7, t7, t8, t9, t10, t11, t12, t13, t14, t15, t16, t17, t17, t18, t19, t20, t21, t22, t23, t25, t26, t27])))) h24)) (
    den Tryz.prog (sel (bodyOf Tryz.f36) [1, 1, 1]) (bodyQ Tryz.prog Tryz.f36.results.toList K E) #[x0, x1, x2, x3, x4, x5, (j 6), (j 7), (j 8), x9, x10, x11, x12, x13, x14, x15, x16, x17, x18, x19, x20, x21, x22, (f23 s), t1, (j 25), (j 26), (j 27), (j 28), (j 29), (j 30), (j 31), (j 32), (j 33), (j 34), (j 35), (j 36), (j 37), (j 38), (j 39), (j 40), (j 41), (j 42), (j 43), (j 44), (j 45), (j 46), (j 47), (j 48), (j 49), (j 50), (j 51), (j 52), (j 53)])) h) :
  lp (fun k1 => den Tryz.prog (sel (bodyOf Tryz.f36) [1, 1, 0, 1, 0, 0]) (thenD k1 (blk 0 (thenD (den Tryz.prog (sel (bodyOf Tryz.f36) [1, 1, 1]) (bodyQ Tryz.prog Tryz.f36.results.toList K E)) (bodyQ Tryz.prog Tryz.f36.results.toList K E))))) #[x0, x1, x2, x3, x4, x5, y6, y7, y8, x9, x10, x11, x12, x13, x14, x15, x16, x17, x18, x19, x20, x21, x22, v23, y24, y25, y26, y27, y28, y29, y30, y31, y32, y33, y34, y35, y36, y37, y38, y39, y40, y41, y42, y43, y44, y45, y46, y47, y48, y49, y50, y51, y52, y53] h := by
  subst e23
  have e : (#[x0, x1, x2, x3, x4, x5, y6, y7, y8, x9, x10, x11, x12, x13, x14, x15, x16, x17, x18, x19, x20, x21, x22, (f23 s0), y24, y25, y26, y27, y28, y29, y30, y31, y32, y33, y34, y35, y36, y37, y38, y39, y40, y41, y42, y43, y44, y45, y46, y47, y48, y49, y50, y51, y52, y53] : Env) = m36_1_1_0_1_0_0 x0 x1 x2 x3 x4 x5 x9 x10 x11 x12 x13 x14 x15 x16 x17 x18 x19 x20 x21 x22 (f23 s0) (jf #[x0, x1, x2, x3, x4, x5, y6, y7, y8, x9, x10, x11, x12, x13, x14, x15, x16, x17, x18, x19, x20, x21, x22, (f23 s0), y24, y25, y26, y27, y28, y29, y30, y31, y32, y33, y34, y35, y36, y37, y38, y39, y40, y41, y42, y43, y44, y45, y46, y47, y48, y49, y50, y51, y52, y53]) := by kernel_rfl
  rw [e]
  exact loop_r (fun s j => m36_1_1_0_1_0_0 x0 x1 x2 x3 x4 x5 x9 x10 x11 x12 x13 x14 x15 x16 x17 x18 x19 x20 x21 x22 (f23 s) j) I μ (fun k s j h hI hw next => by rw [t36_1_1_0_1_0_0]; exact round k s j h hI hw next) s0 (jf #[x0, x1, x2, x3, x4, x5, y6, y7, y8, x9, x10, x11, x12, x13, x14, x15, x16, x17, x18, x19, x20, x21, x22, (f23 s0), y24, y25, y26, y27, y28, y29, y30, y31, y32, y33, y34, y35, y36, y37, y38, y39, y40, y41, y42, y43, y44, y45, y46, y47, y48, y49, y50, y51, y52, y53]) h0

theorem t37 (K : Kont) (E : PanK) (x0 x1 : Value)  : den Tryz.prog (sel (bodyOf Tryz.f37) []) (bodyQ Tryz.prog Tryz.f37.results.toList K E) #[x0, x1, undef, undef, undef, undef, undef, undef, undef, undef, undef, undef, undef, undef, undef, undef, undef, undef, undef, undef, undef, undef, undef, undef, undef, undef] =
  callv Tryz.prog (.func (.func 58) #[] #[]) #[] (fun t1 =>
  pv (lenV x0) fun t2 =>
  lp (fun k1 => den Tryz.prog (sel (bodyOf Tryz.f37) [1, 1, 0, 1, 0, 0]) (thenD k1 (blk 0 (thenD (den Tryz.prog (sel (bodyOf Tryz.f37) [1, 1, 1]) (bodyQ Tryz.prog Tryz.f37.results.toList K E)) (bodyQ Tryz.prog Tryz.f37.results.toList K E))))) #[x0, x1, undef, undef, (.slice none 0 0), t1, undef, undef, t1, x0, t2, (.int .i64 0), undef, undef, undef, undef, undef, undef, undef, undef, undef, undef, undef, undef, undef, undef]) E := by kernel_rfl
def m37_1_1_0_1_0_0 (x0 x1 x2 x3 x4 x5 x6 x8 x9 x10 x24 x25 : Value) (v11 : Value) (j : Nat → Value) : Env := #[x0, x1, x2, x3, x4, x5, x6, (j 7), x8, x9, x10, v11, (j 12), (j 13), (j 14), (j 15), (j 16), (j 17), (j 18), (j 19), (j 20), (j 21), (j 22), (j 23), x24, x25]
theorem t37_1_1_0_1_0_0 (K : Kont) (E : PanK) (k1 : Env → Hp → Prop) (x0 x1 x2 x3 x4 x5 x6 x8 x9 x10 x24 x25 v11 : Value) (j : Nat → Value) : den Tryz.prog (sel (bodyOf Tryz.f37) [1, 1, 0, 1, 0, 0]) (thenD k1 (blk 0 (thenD (den Tryz.prog (sel (bodyOf Tryz.f37) [1, 1, 1]) (bodyQ Tryz.prog Tryz.f37.results.toList K E)) (bodyQ Tryz.prog Tryz.f37.results.toList K E)))) (m37_1_1_0_1_0_0 x0 x1 x2 x3 x4 x5 x6 x8 x9 x10 x24 x25 v11 j) =
  pv (binV .none .lss v11 x10) fun t1 =>
  cnd t1 (
    pv (iaV none 5 x9 v11) fun t2 =>
    ld true 5 t2 fun t3 =>
    nw 51 [(.slice none 0 0), (.int .i64 0), (.int .i64 0), (.int .i64 0), (.int .i64 0)] fun t4 =>
    st 5 t4 t3 fun _ =>
    pv (faV 0 t4) fun t5 =>
    ld false 1 t5 fun t6 =>
    pv (faV 1 t4) fun t7 =>
    ld true 4 t7 fun t8 =>
    callv Tryz.prog x1 #[t6] (fun t9 h10 => (ldV h10 true 4 t7 t8) ∧ (
      callv Tryz.prog (.func (.func 59) #[] #[]) #[x5, t9, t8] (fun t11 =>
      pv (binV .none .add v11 (.int .i64 1)) fun t12 =>
      k1 (m37_1_1_0_1_0_0 x0 x1 x2 x3 x4 x5 x6 x8 x9 x10 x24 x25 t12 (jf #[x0, x1, x2, x3, x4, x5, x6, t4, x8, x9, x10, t12, t1, t2, t3, x5, x1, t5, t6, t9, t7, t8, t11, t12, x24, x25]))) E) h10) E) (
    den Tryz.prog (sel (bodyOf Tryz.f37) [1, 1, 1]) (bodyQ Tryz.prog Tryz.f37.results.toList K E) #[x0, x1, x2, x3, x4, x5, x6, (j 7), x8, x9, x10, v11, t1, (j 13), (j 14), (j 15), (j 16), (j 17), (j 18), (j 19), (j 20), (j 21), (j 22), (j 23), x24, x25]) := by kernel_rfl
theorem t37_1_1_1 (K : Kont) (E : PanK) (x0 x1 x2 x3 x4 x5 x6 x7 x8 x9 x10 x11 x12 x13 x14 x15 x16 x17 x18 x19 x20 x21 x22 x23 x24 x25 : Value)  : den Tryz.prog (sel (bodyOf Tryz.f37) [1, 1, 1]) (bodyQ Tryz.prog Tryz.f37.results.toList K E) #[x0, x1, x2, x3, x4, x5, x6, x7, x8, x9, x10, x11, x12, x13, x14, x15, x16, x17, x18, x19, x20, x21, x22, x23, x24, x25] =
  callv Tryz.prog (.func (.func 60) #[] #[]) #[x5] (fun t1 =>
  K t1) E := by kernel_rfl
theorem l37_1_1_0_1_0_0 {K : Kont} {E : PanK} {σ : Type} {x0 x1 x2 x3 x4 x5 x6 x8 x9 x10 x24 x25 v11 y7 y12 y13 y14 y15 y16 y17 y18 y19 y20 y21 y22 y23 : Value} {h : Hp} (f11 : σ → Value) (I : σ → Hp → Prop) (μ : σ → Nat) (s0 : σ) (e11 : v11 = f11 s0) (h0 : h.wf → ∃ h', h.wk h' ∧ I s0 h')
  (round : ∀ (k1 : Env → Hp → Prop) (s : σ) (j : Nat → Value) (h : Hp), I s h → h.wf → (∀ s' j' h', μ s' < μ s → (h'.wf → ∃ h'', h'.wk h'' ∧ I s' h'') → k1 (m37_1_1_0_1_0_0 x0 x1 x2 x3 x4 x5 x6 x8 x9 x10 x24 x25 (f11 s') j') h') → (
  pv (binV .none .lss (f11 s) x10) fun t1 =>
  cnd t1 (
    pv (iaV none 5 x9 (f11 s)) fun t2 =>
    ld true 5 t2 fun t3 =>
    nw 51 [(.slice none 0 0), (.int .i64 0), (.int .i64 0), (.int .i64 0), (.int .i64 0)] fun t4 =>
    st 5 t4 t3 fun _ =>
    pv (faV 0 t4) fun t5 =>
    ld false 1 t5 fun t6 =>
    pv (faV 1 t4) fun t7 =>
    ld true 4 t7 fun t8 =>
    callv Tryz.prog x1 #[t6] (fun t9 h10 => (ldV h10 true 4 t7 t8) ∧ (
      callv Tryz.prog (.func (.func 59) #[] #[]) #[x5, t9, t8] (fun t11 =>
      pv (binV .none .add (f11 s) (.int .i64 1)) fun t12 =>
      k1 (m37_1_1_0_1_0_0 x0 x1 x2 x3 x4 x5 x6 x8 x9 x10 x24 x25 t12 (jf #[x0, x1, x2, x3, x4, x5, x6, t4, x8, x9, x10, t12, t1, t2, t3, x5, x1, t5, t6, t9, t7, t8, t11, t12, x24, x25]))) E) h10) E) (
    den Tryz.prog (sel (bodyOf Tryz.f37) [1, 1, 1]) (bodyQ Tryz.prog Tryz.f37.results.toList K E) #[x0, x1, x2, x3, x4, x5, x6, (j 7), x8, x9, x10, (f11 s), t1, (j 13), (j 14), (j 15), (j 16), (j 17), (j 18), (j 19), (j 20), (j 21), (j 22), (j 23), x24, x25])) h) :
  lp (fun k1 => den Tryz.prog (sel (bodyOf Tryz.f37) [1, 1, 0, 1, 0, 0]) (thenD k1 (blk 0 (thenD (den Tryz.prog (sel (bodyOf Tryz.f37) [1, 1, 1]) (bodyQ Tryz.prog Tryz.f37.results.toList K E)) (bodyQ Tryz.prog Tryz.f37.results.toList K E))))) #[x0, x1, x2, x3, x4, x5, x6, y7, x8, x9, x10, v11, y12, y13, y14, y15, y16, y17, y18, y19, y20, y21, y22, y23, x24, x25] h := by
  subst e11
  have e : (#[x0, x1, x2, x3, x4, x5, x6, y7, x8, x9, x10, (f11 s0), y12, y13, y14, y15, y16, y17, y18, y19, y20, y21, y22, y23, x24, x25] : Env) = m37_1_1_0_1_0_0 x0 x1 x2 x3 x4 x5 x6 x8 x9 x10 x24 x25 (f11 s0) (jf #[x0, x1, x2, x3, x4, x5, x6, y7, x8, x9, x10, (f11 s0), y12, y13, y14, y15, y16, y17, y18, y19, y20, y21, y22, y23, x24, x25]) := by kernel_rfl
  rw [e]
  exact loop_r (fun s j => m37_1_1_0_1_0_0 x0 x1 x2 x3 x4 x5 x6 x8 x9 x10 x24 x25 (f11 s) j) I μ (fun k s j h hI hw next => by rw [t37_1_1_0_1_0_0]; exact round k s j h hI hw next) s0 (jf #[x0, x1, x2, x3, x4, x5, x6, y7, x8, x9, x10, (f11 s0), y12, y13, y14, y15, y16, y17, y18, y19, y20, y21, y22, y23, x24, x25]) h0

theorem t38 (K : Kont) (E : PanK) (x0 x1 x2 x3 : Value)  : den Tryz.prog (sel (bodyOf Tryz.f38) []) (bodyQ Tryz.prog Tryz.f38.results.toList K E) #[x0, x1, x2, x3, undef, undef, undef, undef, undef, undef, undef] =
  ld false 1 x1 fun t1 =>
  ld false 1 x2 fun t2 =>
  ld false 1 x3 fun t3 =>
  callv Tryz.prog (.func (.func 39) #[] #[]) #[t1, t2, t3, x0] (fun t4 =>
  K t4) E := by kernel_rfl

theorem t39 (K : Kont) (E : PanK) (x0 x1 x2 x3 : Value)  : den Tryz.prog (sel (bodyOf Tryz.f39) []) (bodyQ Tryz.prog Tryz.f39.results.toList K E) #[x0, x1, x2, x3, undef, undef, undef, undef, undef, undef, undef, undef, undef, undef, undef, undef, undef, undef, undef, undef, undef, undef, undef, undef, undef, undef, undef, undef, undef, undef, undef, undef, undef, undef, undef, undef, undef, undef, undef, undef, undef, undef, undef, undef, undef, undef, undef, undef, undef, undef, undef, undef, undef, undef, undef, undef, undef, undef, undef, undef, undef, undef, undef, undef, undef] =
  callv Tryz.prog (.func (.func 29) #[] #[]) #[x0] (fun t1 =>
  pv (unV .not t1) fun t2 =>
  gdK t2 false (fun k => k x1) fun t3 =>
  gdK t2 false (fun k => pv (lenV t3) k) fun t4 =>
  gdK t2 false (fun k => k x0) fun t5 =>
  gdK t2 false (fun k => pv (lenV t5) k) fun t6 =>
  gdK t2 false (fun k => pv (binV .none .neq t4 t6) k) fun t7 =>
  pv (pickV t2 (.bool true) t7) fun t8 =>
  gdK t8 false (fun k => k x2) fun t9 =>
  gdK t8 false (fun k => pv (lenV t9) k) fun t10 =>
  gdK t8 false (fun k => k x0) fun t11 =>
  gdK t8 false (fun k => pv (lenV t11) k) fun t12 =>
  gdK t8 false (fun k => pv (binV .none .neq t10 t12) k) fun t13 =>
  pv (pickV t8 (.bool true) t13) fun t14 =>
  gdK t14 false (fun k => k x3) fun t15 =>
  gdK t14 false (fun k => pv (lenV t15) k) fun t16 =>
  gdK t14 false (fun k => k x0) fun t17 =>
  gdK t14 false (fun k => pv (lenV t17) k) fun t18 =>
  gdK t14 false (fun k => pv (binV .none .neq t16 t18) k) fun t19 =>
  pv (pickV t14 (.bool true) t19) fun t20 =>
  cnd t20 (
    K (.slice none 0 0)) (
    pv (lenV x0) fun t21 =>
    mks 3 [(.int .i64 0)] 1 8 t21 t21 fun t22 =>
    pv (lenV x0) fun t23 =>
    lp (fun k1 => den Tryz.prog (sel (bodyOf Tryz.f39) [1, 1, 1, 0, 1, 0, 0]) (thenD k1 (blk 0 (thenD (den Tryz.prog (sel (bodyOf Tryz.f39) [1, 1, 1, 1]) (bodyQ Tryz.prog Tryz.f39.results.toList K E)) (bodyQ Tryz.prog Tryz.f39.results.toList K E))))) #[x0, x1, x2, x3, undef, undef, undef, undef, (.slice none 0 0), t22, undef, undef, x0, t1, t2, t2, t3, t4, t5, t6, t7, t8, t8, t9, t10, t11, t12, t13, t14, t14, t15, t16, t17, t18, t19, t20, x0, t21, t22, x0, t23, (.int .i64 0), undef, undef, undef, undef, undef, undef, undef, undef, undef, undef, undef, undef, undef, undef, undef, undef, undef, undef, undef, undef, undef, undef, undef])) E := by kernel_rfl
def m39_1_1_1_0_1_0_0 (x0 x1 x2 x3 x4 x5 x6 x7 x8 x9 x12 x13 x14 x15 x16 x17 x18 x19 x20 x21 x22 x23 x24 x25 x26 x27 x28 x29 x30 x31 x32 x33 x34 x35 x36 x37 x38 x39 x40 x64 : Value) (v41 : Value) (j : Nat → Value) : Env := #[x0, x1, x2, x3, x4, x5, x6, x7, x8, x9, (j 10), (j 11), x12, x13, x14, x15, x16, x17, x18, x19, x20, x21, x22, x23, x24, x25, x26, x27, x28, x29, x30, x31, x32, x33, x34, x35, x36, x37, x38, x39, x40, v41, (j 42), (j 43), (j 44), (j 45), (j 46), (j 47), (j 48), (j 49), (j 50), (j 51), (j 52), (j 53), (j 54), (j 55), (j 56), (j 57), (j 58), (j 59), (j 60), (j 61), (j 62), (j 63), x64]
theorem t39_1_1_1_0_1_0_0 (K : Kont) (E : PanK) (k1 : Env → Hp → Prop) (x0 x1 x2 x3 x4 x5 x6 x7 x8 x9 x12 x13 x14 x15 x16 x17 x18 x19 x20 x21 x22 x23 x24 x25 x26 x27 x28 x29 x30 x31 x32 x33 x34 x35 x36 x37 x38 x39 x40 x64 v41 : Value) (j : Nat → Value) : den Tryz.prog (sel (bodyOf Tryz.f39) [1, 1, 1, 0, 1, 0, 0]) (thenD k1 (blk 0 (thenD (den Tryz.prog (sel (bodyOf Tryz.f39) [1, 1, 1, 1]) (bodyQ Tryz.prog Tryz.f39.results.toList K E)) (bodyQ Tryz.prog Tryz.f39.results.toList K E)))) (m39_1_1_1_0_1_0_0 x0 x1 x2 x3 x4 x5 x6 x7 x8 x9 x12 x13 x14 x15 x16 x17 x18 x19 x20 x21 x22 x23 x24 x25 x26 x27 x28 x29 x30 x31 x32 x33 x34 x35 x36 x37 x38 x39 x40 x64 v41 j) =
  pv (binV .none .lss v41 x40) fun t1 =>
  cnd t1 (
    pv (iaV none 2 x39 v41) fun t2 =>
    ld true 2 t2 fun t3 =>
    nw 47 [(.int .i64 0), (.slice none 0 0)] fun t4 =>
    st 2 t4 t3 fun _ =>
    ld true 2 t4 fun t5 =>
    pv (iaV none 1 x1 v41) fun t6 =>
    ld false 1 t6 fun t7 =>
    pv (iaV none 1 x2 v41) fun t8 =>
    ld false 1 t8 fun t9 =>
    pv (iaV none 1 x3 v41) fun t10 =>
    ld false 1 t10 fun t11 =>
    callv Tryz.prog (.func (.func 61) #[] #[]) #[t5, t7, t9, t11] (fun t12 =>
    pv (iaV none 1 x9 v41) fun t13 =>
    st 1 t13 t12 fun _ =>
    pv (binV .none .add v41 (.int .i64 1)) fun t14 =>
    k1 (m39_1_1_1_0_1_0_0 x0 x1 x2 x3 x4 x5 x6 x7 x8 x9 x12 x13 x14 x15 x16 x17 x18 x19 x20 x21 x22 x23 x24 x25 x26 x27 x28 x29 x30 x31 x32 x33 x34 x35 x36 x37 x38 x39 x40 x64 t14 (jf #[x0, x1, x2, x3, x4, x5, x6, x7, x8, x9, v41, t4, x12, x13, x14, x15, x16, x17, x18, x19, x20, x21, x22, x23, x24, x25, x26, x27, x28, x29, x30, x31, x32, x33, x34, x35, x36, x37, x38, x39, x40, t14, t1, v41, t2, t3, x9, v41, t5, x1, v41, t6, t7, x2, v41, t8, t9, x3, v41, t10, t11, t12, t13, t14, x64]))) E) (
    den Tryz.prog (sel (bodyOf Tryz.f39) [1, 1, 1, 1]) (bodyQ Tryz.prog Tryz.f39.results.toList K E) #[x0, x1, x2, x3, x4, x5, x6, x7, x8, x9, (j 10), (j 11), x12, x13, x14, x15, x16, x17, x18, x19, x20, x21, x22, x23, x24, x25, x26, x27, x28, x29, x30, x31, x32, x33, x34, x35, x36, x37, x38, x39, x40, v41, t1, (j 43), (j 44), (j 45), (j 46), (j 47), (j 48), (j 49), (j 50), (j 51), (j 52), (j 53), (j 54), (j 55), (j 56), (j 57), (j 58), (j 59), (j 60), (j 61), (j 62), (j 63), x64]) := by kernel_rfl
theorem t39_1_1_1_1 (K : Kont) (E : PanK) (x0 x1 x2 x3 x4 x5 x6 x7 x8 x9 x10 x11 x12 x13 x14 x15 x16 x17 x18 x19 x20 x21 x22 x23 x24 x25 x26 x27 x28 x29 x30 x31 x32 x33 x34 x35 x36 x37 x38 x39 x40 x41 x42 x43 x44 x45 x46 x47 x48 x49 x50 x51 x52 x53 x54 x55 x56 x57 x58 x59 x60 x61 x62 x63 x64 : Value)  : den Tryz.prog (sel (bodyOf Tryz.f39) [1, 1, 1, 1]) (bodyQ Tryz.prog Tryz.f39.results.toList K E) #[x0, x1, x2, x3, x4, x5, x6, x7, x8, x9, x10, x11, x12, x13, x14, x15, x16, x17, x18, x19, x20, x21, x22, x23, x24, x25, x26, x27, x28, x29, x30, x31, x32, x33, x34, x35, x36, x37, x38, x39, x40, x41, x42, x43, x44, x45, x46, x47, x48, x49, x50, x51, x52, x53, x54, x55, x56, x57, x58, x59, x60, x61, x62, x63, x64] =
  K x9 := by kernel_rfl
theorem l39_1_1_1_0_1_0_0 {K : Kont} {E : PanK} {σ : Type} {x0 x1 x2 x3 x4 x5 x6 x7 x8 x9 x12 x13 x14 x15 x16 x17 x18 x19 x20 x21 x22 x23 x24 x25 x26 x27 x28 x29 x30 x31 x32 x33 x34 x35 x36 x37 x38 x39 x40 x64 v41 y10 y11 y42 y43 y44 y45 y46 y47 y48 y49 y50 y51 y52 y53 y54 y55 y56 y57 y58 y59 y60 y61 y62 y63 : Value} {h : Hp} (f41 : σ → Value) (I : σ → Hp → Prop) (μ : σ → Nat) (s0 : σ) (e41 : v41 = f41 s0) (h0 : h.wf → ∃ h', h.wk h' ∧ I s0 h')
  (round : ∀ (k1 : Env → Hp → Prop) (s : σ) (j : Nat → Value) (h : Hp), I s h → h.wf → (∀ s' j' h', μ s' < μ s → (h'.wf → ∃ h'', h'.wk h'' ∧ I s' h'') → k1 (m39_1_1_1_0_1_0_0 x0 x1 x2 x3 x4 x5 x6 x7 x8 x9 x12 x13 x14 x15 x16 x17 x18 x19 x20 x21 x22 x23 x24 x25 x26 x27 x28 x29 x30 x31 x32 x33 x34 x35 x36 x37 x38 x39 x40 x64 (f41 s') j') h') → (
  pv (binV .none .lss (f41 s) x40) fun t1 =>
  cnd t1 (
    pv (iaV none 2 x39 (f41 s)) fun t2 =>
    ld true 2 t2 fun t3 =>
    nw 47 [(.int .i64 0), (.slice none 0 0)] fun t4 =>
    st 2 t4 t3 fun _ =>
    ld true 2 t4 fun t5 =>
    pv (iaV none 1 x1 (f41 s)) fun t6 =>
    ld false 1 t6 fun t7 =>
    pv (iaV none 1 x2 (f41 s)) fun t8 =>
    ld false 1 t8 fun t9 =>
    pv (iaV none 1 x3 (f41 s)) fun t10 =>
    ld false 1 t10 fun t11 =>
    callv Tryz.prog (.func (.func 61) #[] #[]) #[t5, t7, t9, t11] (fun t12 =>
    pv (iaV none 1 x9 (f41 s)) fun t13 =>
    st 1 t13 t12 fun _ =>
    pv (binV .none .add (f41 s) (.int .i64 1)) fun t14 =>
    k1 (m39_1_1_1_0_1_0_0 x0 x1 x2 x3 x4 x5 x6 x7 x8 x9 x12 x13 x14 x15 x16 x17 x18 x19 x20 x21 x22 x23 x24 x25 x26 x27 x28 x29 x30 x31 x32 x33 x34 x35 x36 x37 x38 x39 x40 x64 t14 (jf #[x0, x1, x2, x3, x4, x5, x6, x7, x8, x9, (f41 s), t4, x12, x13, x14, x15, x16, x17, x18, x19, x20, x21, x22, x23, x24, x25, x26, x27, x28, x29, x30, x31, x32, x33, x34, x35, x36, x37, x38, x39, x40, t14, t1, (f41 s), t2, t3, x9, (f41 s), t5, x1, (f41 s), t6, t7, x2, (f41 s), t8, t9, x3, (f41 s), t10, t11, t12, t13, t14, x64]))) E) (
    den Tryz.prog (sel (bodyOf Tryz.f39) [1, 1, 1, 1]) (bodyQ Tryz.prog Tryz.f39.results.toList K E) #[x0, x1, x2, x3, x4, x5, x6, x7, x8, x9, (j 10), (j 11), x12, x13, x14, x15, x16, x17, x18, x19, x20, x21, x22, x23, x24, x25, x26, x27, x28, x29, x30, x31, x32, x33, x34, x35, x36, x37, x38, x39, x40, (f41 s), t1, (j 43), (j 44), (j 45), (j 46), (j 47), (j 48), (j 49), (j 50), (j 51), (j 52), (j 53), (j 54), (j 55), (j 56), (j 57), (j 58), (j 59), (j 60), (j 61), (j 62), (j 63), x64])) h) :
  lp (fun k1 => den Tryz.prog (sel (bodyOf Tryz.f39) [1, 1, 1, 0, 1, 0, 0]) (thenD k1 (blk 0 (thenD (den Tryz.prog (sel (bodyOf Tryz.f39) [1, 1, 1, 1]) (bodyQ Tryz.prog Tryz.f39.results.toList K E)) (bodyQ Tryz.prog Tryz.f39.results.toList K E))))) #[x0, x1, x2, x3, x4, x5, x6, x7, x8, x9, y10, y11, x12, x13, x14, x15, x16, x17, x18, x19, x20, x21, x22, x23, x24, x25, x26, x27, x28, x29, x30, x31, x32, x33, x34, x35, x36, x37, x38, x39, x40, v41, y42, y43, y44, y45, y46, y47, y48, y49, y50, y51, y52, y53, y54, y55, y56, y57, y58, y59, y60, y61, y62, y63, x64] h := by
  subst e41
  have e : (#[x0, x1, x2, x3, x4, x5, x6, x7, x8, x9, y10, y11, x12, x13, x14, x15, x16, x17, x18, x19, x20, x21, x22, x23, x24, x25, x26, x27, x28, x29, x30, x31, x32, x33, x34, x35, x36, x37, x38, x39, x40, (f41 s0), y42, y43, y44, y45, y46, y47, y48, y49, y50, y51, y52, y53, y54, y55, y56, y57, y58, y59, y60, y61, y62, y63, x64] : Env) = m39_1_1_1_0_1_0_0 x0 x1 x2 x3 x4 x5 x6 x7 x8 x9 x12 x13 x14 x15 x16 x17 x18 x19 x20 x21 x22 x23 x24 x25 x26 x27 x28 x29 x30 x31 x32 x33 x34 x35 x36 x37 x38 x39 x40 x64 (f41 s0) (jf #[x0, x1, x2, x3, x4, x5, x6, x7, x8, x9, y10, y11, x12, x13, x14, x15, x16, x17, x18, x19, x20, x21, x22, x23, x24, x25, x26, x27, x28, x29, x30, x31, x32, x33, x34, x35, x36, x37, x38, x39, x40, (f41 s0), y42, y43, y44, y45, y46, y47, y48, y49, y50, y51, y52, y53, y54, y55, y56, y57, y58, y59, y60, y61, y62, y63, x64]) := by kernel_rfl
  rw [e]
  exact loop_r (fun s j => m39_1_1_1_0_1_0_0 x0 x1 x2 x3 x4 x5 x6 x7 x8 x9 x12 x13 x14 x15 x16 x17 x18 x19 x20 x21 x22 x23 x24 x25 x26 x27 x28 x29 x30 x31 x32 x33 x34 x35 x36 x37 x38 x39 x40 x64 (f41 s) j) I μ (fun k s j h hI hw next => by rw [t39_1_1_1_0_1_0_0]; exact round k s j h hI hw next) s0 (jf #[x0, x1, x2, x3, x4, x5, x6, x7, x8, x9, y10, y11, x12, x13, x14, x15, x16, x17, x18, x19, x20, x21, x22, x23, x24, x25, x26, x27, x28, x29, x30, x31, x32, x33, x34, x35, x36, x37, x38, x39, x40, (f41 s0), y42, y43, y44, y45, y46, y47, y48, y49, y50, y51, y52, y53, y54, y55, y56, y57, y58, y59, y60, y61, y62, y63, x64]) h0

theorem t40 (K : Kont) (E : PanK) (x0 x1 x2 : Value)  : den Tryz.prog (sel (bodyOf Tryz.f40) []) (bodyQ Tryz.prog Tryz.f40.results.toList K E) #[x0, x1, x2, undef, undef, undef, undef, undef, undef, undef, undef, undef, undef] =
  nw 34 (Value.cells x0).toList fun t1 =>
  nw 34 (Value.cells x1).toList fun t2 =>
  nw 34 (Value.cells x2).toList fun t3 =>
  ld false 1 t1 fun t4 =>
  ld false 1 t2 fun t5 =>
  ld false 1 t3 fun t6 =>
  nws 34 3 (bsC #[(.slice none 0 0)] 1 3 #[(0, t4), (1, t5), (2, t6)]) fun t7 =>
  callv Tryz.prog (.func (.func 52) #[] #[]) #[(.func (.func 62) #[] #[t3, t1, t2]), t7] (fun t8 =>
  K t8) E := by kernel_rfl

theorem t41 (K : Kont) (E : PanK) (x0 : Value)  : den Tryz.prog (sel (bodyOf Tryz.f41) []) (bodyQ Tryz.prog Tryz.f41.results.toList K E) #[x0, undef, undef, undef, undef, undef, undef, undef] =
  pv (binV .slc .eql x0 (.slice none 0 0)) fun t1 =>
  cnd t1 (
    K (.slice none 0 0)) (
    nws 3 0 (bsC #[(.int .i64 0)] 1 0 #[]) fun t2 =>
    appX 3 1 8 t2 x0 fun t3 =>
    K t3) := by kernel_rfl

theorem t42 (K : Kont) (E : PanK) (x0 : Value)  : den Tryz.prog (sel (bodyOf Tryz.f42) []) (bodyQ Tryz.prog Tryz.f42.results.toList K E) #[x0, undef, undef, undef, undef, undef, undef, undef, undef, undef, undef, undef, undef, undef, undef, undef, undef, undef, undef, undef, undef, undef, undef, undef] =
  lp (fun k1 => den Tryz.prog (sel (bodyOf Tryz.f42) [1, 0, 1, 0, 0]) (thenD k1 (blk 0 (thenD (den Tryz.prog (sel (bodyOf Tryz.f42) [1, 1]) (bodyQ Tryz.prog Tryz.f42.results.toList K E)) (bodyQ Tryz.prog Tryz.f42.results.toList K E))))) #[x0, undef, (.bool false), (.int .i64 0), undef, undef, undef, undef, undef, undef, undef, undef, undef, undef, undef, undef, undef, undef, undef, undef, undef, undef, undef, undef] := by kernel_rfl
def m42_1_0_1_0_0 (x0 x1 x16 x17 x18 x19 x20 x21 x22 x23 : Value) (v3 : Value) (j : Nat → Value) : Env := #[x0, x1, (j 2), v3, (j 4), (j 5), (j 6), (j 7), (j 8), (j 9), (j 10), (j 11), (j 12), (j 13), (j 14), (j 15), x16, x17, x18, x19, x20, x21, x22, x23]
theorem t42_1_0_1_0_0 (K : Kont) (E : PanK) (k1 : Env → Hp → Prop) (x0 x1 x16 x17 x18 x19 x20 x21 x22 x23 v3 : Value) (j : Nat → Value) : den Tryz.prog (sel (bodyOf Tryz.f42) [1, 0, 1, 0, 0]) (thenD k1 (blk 0 (thenD (den Tryz.prog (sel (bodyOf Tryz.f42) [1, 1]) (bodyQ Tryz.prog Tryz.f42.results.toList K E)) (bodyQ Tryz.prog Tryz.f42.results.toList K E)))) (m42_1_0_1_0_0 x0 x1 x16 x17 x18 x19 x20 x21 x22 x23 v3 j) =
  pv (lenV x0) fun t1 =>
  pv (binV .none .lss v3 t1) fun t2 =>
  cnd t2 (
    pv (iaV none 2 x0 v3) fun t3 =>
    ld true 2 t3 fun t4 =>
    callv Tryz.prog (.func (.func 63) #[] #[]) #[t4] (fun t5 =>
    pv (unV .not t5) fun t6 =>
    cnd t6 (
      K (.bool false)) (
      pv (binV .none .add v3 (.int .i64 1)) fun t7 =>
      k1 (m42_1_0_1_0_0 x0 x1 x16 x17 x18 x19 x20 x21 x22 x23 t7 (jf #[x0, x1, (j 2), t7, v3, x0, t1, t2, v3, t7, x0, v3, t3, t4, t5, t6, x16, x17, x18, x19, x20, x21, x22, x23])))) E) (
    den Tryz.prog (sel (bodyOf Tryz.f42) [1, 1]) (bodyQ Tryz.prog Tryz.f42.results.toList K E) #[x0, x1, (j 2), v3, v3, x0, t1, t2, (j 8), (j 9), (j 10), (j 11), (j 12), (j 13), (j 14), (j 15), x16, x17, x18, x19, x20, x21, x22, x23]) := by kernel_rfl
theorem t42_1_1 (K : Kont) (E : PanK) (x0 x1 x2 x3 x4 x5 x6 x7 x8 x9 x10 x11 x12 x13 x14 x15 x16 x17 x18 x19 x20 x21 x22 x23 : Value)  : den Tryz.prog (sel (bodyOf Tryz.f42) [1, 1]) (bodyQ Tryz.prog Tryz.f42.results.toList K E) #[x0, x1, x2, x3, x4, x5, x6, x7, x8, x9, x10, x11, x12, x13, x14, x15, x16, x17, x18, x19, x20, x21, x22, x23] =
  pv (lenV x0) fun t1 =>
  pv (binV .none .geq t1 (.int .i64 1)) fun t2 =>
  gdK t2 true (fun k => k x0) fun t3 =>
  gdK t2 true (fun k => pv (lenV t3) k) fun t4 =>
  gdK t2 true (fun k => pv (binV .none .leq t4 (.int .i64 4)) k) fun t5 =>
  pv (pickV t2 t5 (.bool false)) fun t6 =>
  K t6 := by kernel_rfl
theorem l42_1_0_1_0_0 {K : Kont} {E : PanK} {σ : Type} {x0 x1 x16 x17 x18 x19 x20 x21 x22 x23 v3 y2 y4 y5 y6 y7 y8 y9 y10 y11 y12 y13 y14 y15 : Value} {h : Hp} (f3 : σ → Value) (I : σ → Hp → Prop) (μ : σ → Nat) (s0 : σ) (e3 : v3 = f3 s0) (h0 : h.wf → ∃ h', h.wk h' ∧ I s0 h')
  (round : ∀ (k1 : Env → Hp → Prop) (s : σ) (j : Nat → Value) (h : Hp), I s h → h.wf → (∀ s' j' h', μ s' < μ s → (h'.wf → ∃ h'', h'.wk h'' ∧ I s' h'') → k1 (m42_1_0_1_0_0 x0 x1 x16 x17 x18 x19 x20 x21 x22 x23 (f3 s') j') h') → (
  pv (lenV x0) fun t1 =>
  pv (binV .none .lss (f3 s) t1) fun t2 =>
  cnd t2 (
    pv (iaV none 2 x0 (f3 s)) fun t3 =>
    ld true 2 t3 fun t4 =>
    callv Tryz.prog (.func (.func 63) #[] #[]) #[t4] (fun t5 =>
    pv (unV .not t5) fun t6 =>
    cnd t6 (
      K (.bool false)) (
      pv (binV .none .add (f3 s) (.int .i64 1)) fun t7 =>
      k1 (m42_1_0_1_0_0 x0 x1 x16 x17 x18 x19 x20 x21 x22 x23 t7 (jf #[x0, x1, (j 2), t7, (f3 s), x0, t1, t2, (f3 s), t7, x0, (f3 s), t3, t4, t5, t6, x16, x17, x18, x19, x20, x21, x22, x23])))) E) (
    den Tryz.prog (sel (bodyOf Tryz.f42) [1, 1]) (bodyQ Tryz.prog Tryz.f42.results.toList K E) #[x0, x1, (j 2), (f3 s), (f3 s), x0, t1, t2, (j 8), (j 9), (j 10), (j 11), (j 12), (j 13), (j 14), (j 15), x16, x17, x18, x19, x20, x21, x22, x23])) h) :
  lp (fun k1 => den Tryz.prog (sel (bodyOf Tryz.f42) [1, 0, 1, 0, 0]) (thenD k1 (blk 0 (thenD (den Tryz.prog (sel (bodyOf Tryz.f42) [1, 1]) (bodyQ Tryz.prog Tryz.f42.results.toList K E)) (bodyQ Tryz.prog Tryz.f42.results.toList K E))))) #[x0, x1, y2, v3, y4, y5, y6, y7, y8, y9, y10, y11, y12, y13, y14, y15, x16, x17, x18, x19, x20, x21, x22, x23] h := by
  subst e3
  have e : (#[x0, x1, y2, (f3 s0), y4, y5, y6, y7, y8, y9, y10, y11, y12, y13, y14, y15, x16, x17, x18, x19, x20, x21, x22, x23] : Env) = m42_1_0_1_0_0 x0 x1 x16 x17 x18 x19 x20 x21 x22 x23 (f3 s0) (jf #[x0, x1, y2, (f3 s0), y4, y5, y6, y7, y8, y9, y10, y11, y12, y13, y14, y15, x16, x17, x18, x19, x20, x21, x22, x23]) := by kernel_rfl
  rw [e]
  exact loop_r (fun s j => m42_1_0_1_0_0 x0 x1 x16 x17 x18 x19 x20 x21 x22 x23 (f3 s) j) I μ (fun k s j h hI hw next => by rw [t42_1_0_1_0_0]; exact round k s j h hI hw next) s0 (jf #[x0, x1, y2, (f3 s0), y4, y5, y6, y7, y8, y9, y10, y11, y12, y13, y14, y15, x16, x17, x18, x19, x20, x21, x22, x23]) h0

end Go.Proofs.YthpacapdaembpaaGreatDoor.T
