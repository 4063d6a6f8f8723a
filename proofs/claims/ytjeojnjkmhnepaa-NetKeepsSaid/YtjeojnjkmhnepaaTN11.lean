import Derived.Test.YtjeojnjkmhnepaaProg
import Derived.Test.YtjeojnjkmhnepaaK16
open Go Go.RowKit Go.Proofs.Ytjeojnjkmhnepaa.K
set_option linter.unusedVariables false
set_option maxRecDepth 100000
namespace Go.Proofs.Ytjeojnjkmhnepaa.T
theorem t11 (K : Kont) (E : PanK) (x0 : Value)  : den Try.prog (sel (bodyOf Try.f11) []) (bodyQ Try.prog Try.f11.results.toList K E) #[x0, undef, undef, undef, undef, undef, undef, undef, undef, undef, undef, undef, undef, undef, undef, undef, undef, undef, undef, undef, undef, undef, undef, undef, undef, undef, undef, undef, undef, undef, undef, undef, undef, undef, undef, undef, undef, undef, undef, undef, undef, undef, undef, undef, undef, undef, undef, undef, undef, undef, undef, undef, undef, undef, undef, undef, undef, undef, undef, undef, undef, undef, undef, undef, undef, undef, undef, undef, undef, undef, undef, undef, undef, undef, undef, undef, undef, undef, undef, undef, undef, undef, undef, undef, undef, undef, undef, undef, undef] =
  callv Try.prog (.func (.func 37) #[] #[]) #[x0] (fun t1 =>
  gdK t1 false (fun k => callv Try.prog (.func (.func 31) #[] #[]) #[] k E) fun t2 =>
  gdK t1 false (fun k => pv (unV .not t2) k) fun t3 =>
  pv (pickV t1 (.bool true) t3) fun t4 =>
  cnd t4 (
    callv Try.prog (.func (.func 31) #[] #[]) #[] (fun t5 =>
    K t5) E) (
    callv Try.prog (.func (.func 30) #[] #[]) #[] (fun t6 =>
    pv (binV .ptr .eql t6 (.pointer none)) fun t7 =>
    cnd t7 (
      K (.bool false)) (
      lp (fun k1 => den Try.prog (sel (bodyOf Try.f11) [1, 1, 1, 1, 1, 0, 1, 0, 0]) (thenD k1 (blk 0 (thenD (den Try.prog (sel (bodyOf Try.f11) [1, 1, 1, 1, 1, 1]) (bodyQ Try.prog Try.f11.results.toList K E)) (bodyQ Try.prog Try.f11.results.toList K E))))) #[x0, undef, (.bool false), t6, (.slice none 0 0), (.int .i64 0), undef, undef, undef, undef, undef, undef, x0, t1, t1, t2, t3, t4, undef, t6, t6, t7, undef, undef, undef, undef, undef, undef, undef, undef, undef, undef, undef, undef, undef, undef, undef, undef, undef, undef, undef, undef, undef, undef, undef, undef, undef, undef, undef, undef, undef, undef, undef, undef, undef, undef, undef, undef, undef, undef, undef, undef, undef, undef, undef, undef, undef, undef, undef, undef, undef, undef, undef, undef, undef, undef, undef, undef, undef, undef, undef, undef, undef, undef, undef, undef, undef, undef, undef])) E)) E := by kernel_rfl
def m11_1_1_1_1_1_0_1_0_0 (x0 x1 x2 x3 x7 x8 x9 x10 x11 x12 x13 x14 x15 x16 x17 x18 x19 x20 x21 x51 x52 x53 x54 x55 x56 x57 x58 x59 x60 x61 x62 x63 x64 x65 x66 x67 x68 x69 x70 x71 x72 x73 x74 x75 x76 x77 x78 x79 x80 x81 x82 x83 x84 x85 x86 x87 x88 : Value) (v4 v5 : Value) (j : Nat → Value) : Env := #[x0, x1, x2, x3, v4, v5, (j 6), x7, x8, x9, x10, x11, x12, x13, x14, x15, x16, x17, x18, x19, x20, x21, (j 22), (j 23), (j 24), (j 25), (j 26), (j 27), (j 28), (j 29), (j 30), (j 31), (j 32), (j 33), (j 34), (j 35), (j 36), (j 37), (j 38), (j 39), (j 40), (j 41), (j 42), (j 43), (j 44), (j 45), (j 46), (j 47), (j 48), (j 49), (j 50), x51, x52, x53, x54, x55, x56, x57, x58, x59, x60, x61, x62, x63, x64, x65, x66, x67, x68, x69, x70, x71, x72, x73, x74, x75, x76, x77, x78, x79, x80, x81, x82, x83, x84, x85, x86, x87, x88]
theorem t11_1_1_1_1_1_0_1_0_0 (K : Kont) (E : PanK) (k1 : Env → Hp → Prop) (x0 x1 x2 x3 x7 x8 x9 x10 x11 x12 x13 x14 x15 x16 x17 x18 x19 x20 x21 x51 x52 x53 x54 x55 x56 x57 x58 x59 x60 x61 x62 x63 x64 x65 x66 x67 x68 x69 x70 x71 x72 x73 x74 x75 x76 x77 x78 x79 x80 x81 x82 x83 x84 x85 x86 x87 x88 v4 v5 : Value) (j : Nat → Value) : den Try.prog (sel (bodyOf Try.f11) [1, 1, 1, 1, 1, 0, 1, 0, 0]) (thenD k1 (blk 0 (thenD (den Try.prog (sel (bodyOf Try.f11) [1, 1, 1, 1, 1, 1]) (bodyQ Try.prog Try.f11.results.toList K E)) (bodyQ Try.prog Try.f11.results.toList K E)))) (m11_1_1_1_1_1_0_1_0_0 x0 x1 x2 x3 x7 x8 x9 x10 x11 x12 x13 x14 x15 x16 x17 x18 x19 x20 x21 x51 x52 x53 x54 x55 x56 x57 x58 x59 x60 x61 x62 x63 x64 x65 x66 x67 x68 x69 x70 x71 x72 x73 x74 x75 x76 x77 x78 x79 x80 x81 x82 x83 x84 x85 x86 x87 x88 v4 v5 j) =
  pv (lenV x0) fun t1 =>
  pv (binV .none .lss v5 t1) fun t2 =>
  cnd t2 (
    pv (iaV none 5 x0 v5) fun t3 =>
    pv (faV 1 t3) fun t4 =>
    ld false 1 t4 fun t5 =>
    pv (iaV none 5 x0 v5) fun t6 =>
    pv (faV 2 t6) fun t7 =>
    ld false 1 t7 fun t8 =>
    pv (iaV none 5 x0 v5) fun t9 =>
    pv (faV 3 t9) fun t10 =>
    ld false 1 t10 fun t11 =>
    pv (bdC #[(.int .i64 0), (.int .i64 0), (.slice none 0 0)] [(0, 1), (1, 1), (2, 1)] #[(0, t5), (1, t8), (2, t11)]) fun t12 =>
    nw 61 [(.int .i64 0), (.int .i64 0), (.slice none 0 0)] (fun t13 h14 => (ldV h14 false 1 t10 t11) ∧ (ldV h14 false 1 t7 t8) ∧ (ldV h14 false 1 t4 t5) ∧ (
      st 3 t13 t12 fun _ =>
      ld true 3 t13 fun t15 =>
      callv Try.prog (.func (.func 32) #[] #[]) #[x3, t15] (fun t16 =>
      cnd t16 (
        ld true 3 t13 fun t17 =>
        nws 61 1 (bsC #[(.int .i64 0), (.int .i64 0), (.slice none 0 0)] 3 1 #[(0, t17)]) fun t18 =>
        appX 61 3 40 v4 t18 fun t19 =>
        den Try.prog (sel (bodyOf Try.f11) [1, 1, 1, 1, 1, 0, 1, 0, 0, 1, 1]) (thenD k1 (blk 0 (thenD (den Try.prog (sel (bodyOf Try.f11) [1, 1, 1, 1, 1, 1]) (bodyQ Try.prog Try.f11.results.toList K E)) (bodyQ Try.prog Try.f11.results.toList K E)))) #[x0, x1, x2, x3, t19, v5, t13, x7, x8, x9, x10, x11, x12, x13, x14, x15, x16, x17, x18, x19, x20, x21, v5, x0, t1, t2, (j 26), (j 27), x0, v5, t3, t4, t5, x0, v5, t6, t7, t8, x0, v5, t9, t10, t11, t12, x3, t15, t16, v4, t17, t18, t19, x51, x52, x53, x54, x55, x56, x57, x58, x59, x60, x61, x62, x63, x64, x65, x66, x67, x68, x69, x70, x71, x72, x73, x74, x75, x76, x77, x78, x79, x80, x81, x82, x83, x84, x85, x86, x87, x88]) (
        den Try.prog (sel (bodyOf Try.f11) [1, 1, 1, 1, 1, 0, 1, 0, 0, 1, 1]) (thenD k1 (blk 0 (thenD (den Try.prog (sel (bodyOf Try.f11) [1, 1, 1, 1, 1, 1]) (bodyQ Try.prog Try.f11.results.toList K E)) (bodyQ Try.prog Try.f11.results.toList K E)))) #[x0, x1, x2, x3, v4, v5, t13, x7, x8, x9, x10, x11, x12, x13, x14, x15, x16, x17, x18, x19, x20, x21, v5, x0, t1, t2, (j 26), (j 27), x0, v5, t3, t4, t5, x0, v5, t6, t7, t8, x0, v5, t9, t10, t11, t12, x3, t15, t16, (j 47), (j 48), (j 49), (j 50), x51, x52, x53, x54, x55, x56, x57, x58, x59, x60, x61, x62, x63, x64, x65, x66, x67, x68, x69, x70, x71, x72, x73, x74, x75, x76, x77, x78, x79, x80, x81, x82, x83, x84, x85, x86, x87, x88])) E) h14)) (
    den Try.prog (sel (bodyOf Try.f11) [1, 1, 1, 1, 1, 1]) (bodyQ Try.prog Try.f11.results.toList K E) #[x0, x1, x2, x3, v4, v5, (j 6), x7, x8, x9, x10, x11, x12, x13, x14, x15, x16, x17, x18, x19, x20, x21, v5, x0, t1, t2, (j 26), (j 27), (j 28), (j 29), (j 30), (j 31), (j 32), (j 33), (j 34), (j 35), (j 36), (j 37), (j 38), (j 39), (j 40), (j 41), (j 42), (j 43), (j 44), (j 45), (j 46), (j 47), (j 48), (j 49), (j 50), x51, x52, x53, x54, x55, x56, x57, x58, x59, x60, x61, x62, x63, x64, x65, x66, x67, x68, x69, x70, x71, x72, x73, x74, x75, x76, x77, x78, x79, x80, x81, x82, x83, x84, x85, x86, x87, x88]) := by kernel_rfl
theorem t11_1_1_1_1_1_1 (K : Kont) (E : PanK) (x0 x1 x2 x3 x4 x5 x6 x7 x8 x9 x10 x11 x12 x13 x14 x15 x16 x17 x18 x19 x20 x21 x22 x23 x24 x25 x26 x27 x28 x29 x30 x31 x32 x33 x34 x35 x36 x37 x38 x39 x40 x41 x42 x43 x44 x45 x46 x47 x48 x49 x50 x51 x52 x53 x54 x55 x56 x57 x58 x59 x60 x61 x62 x63 x64 x65 x66 x67 x68 x69 x70 x71 x72 x73 x74 x75 x76 x77 x78 x79 x80 x81 x82 x83 x84 x85 x86 x87 x88 : Value)  : den Try.prog (sel (bodyOf Try.f11) [1, 1, 1, 1, 1, 1]) (bodyQ Try.prog Try.f11.results.toList K E) #[x0, x1, x2, x3, x4, x5, x6, x7, x8, x9, x10, x11, x12, x13, x14, x15, x16, x17, x18, x19, x20, x21, x22, x23, x24, x25, x26, x27, x28, x29, x30, x31, x32, x33, x34, x35, x36, x37, x38, x39, x40, x41, x42, x43, x44, x45, x46, x47, x48, x49, x50, x51, x52, x53, x54, x55, x56, x57, x58, x59, x60, x61, x62, x63, x64, x65, x66, x67, x68, x69, x70, x71, x72, x73, x74, x75, x76, x77, x78, x79, x80, x81, x82, x83, x84, x85, x86, x87, x88] =
  lp (fun k1 => den Try.prog (sel (bodyOf Try.f11) [1, 1, 1, 1, 1, 1, 0, 1, 0, 0]) (thenD k1 (blk 2 (thenD (den Try.prog (sel (bodyOf Try.f11) [1, 1, 1, 1, 1, 1, 1]) (bodyQ Try.prog Try.f11.results.toList K E)) (bodyQ Try.prog Try.f11.results.toList K E))))) #[x0, x1, x2, x3, x4, x5, x6, (.int .i64 0), x8, x9, x10, x11, x12, x13, x14, x15, x16, x17, x18, x19, x20, x21, x22, x23, x24, x25, x26, x27, x28, x29, x30, x31, x32, x33, x34, x35, x36, x37, x38, x39, x40, x41, x42, x43, x44, x45, x46, x47, x48, x49, x50, x51, x52, x53, x54, x55, x56, x57, x58, x59, x60, x61, x62, x63, x64, x65, x66, x67, x68, x69, x70, x71, x72, x73, x74, x75, x76, x77, x78, x79, x80, x81, x82, x83, x84, x85, x86, x87, x88] := by kernel_rfl
theorem t11_1_1_1_1_1_0_1_0_0_1_1 (K : Kont) (E : PanK) (k1 : Env → Hp → Prop) (x0 x1 x2 x3 x4 x5 x6 x7 x8 x9 x10 x11 x12 x13 x14 x15 x16 x17 x18 x19 x20 x21 x22 x23 x24 x25 x26 x27 x28 x29 x30 x31 x32 x33 x34 x35 x36 x37 x38 x39 x40 x41 x42 x43 x44 x45 x46 x47 x48 x49 x50 x51 x52 x53 x54 x55 x56 x57 x58 x59 x60 x61 x62 x63 x64 x65 x66 x67 x68 x69 x70 x71 x72 x73 x74 x75 x76 x77 x78 x79 x80 x81 x82 x83 x84 x85 x86 x87 x88 : Value)  : den Try.prog (sel (bodyOf Try.f11) [1, 1, 1, 1, 1, 0, 1, 0, 0, 1, 1]) (thenD k1 (blk 0 (thenD (den Try.prog (sel (bodyOf Try.f11) [1, 1, 1, 1, 1, 1]) (bodyQ Try.prog Try.f11.results.toList K E)) (bodyQ Try.prog Try.f11.results.toList K E)))) #[x0, x1, x2, x3, x4, x5, x6, x7, x8, x9, x10, x11, x12, x13, x14, x15, x16, x17, x18, x19, x20, x21, x22, x23, x24, x25, x26, x27, x28, x29, x30, x31, x32, x33, x34, x35, x36, x37, x38, x39, x40, x41, x42, x43, x44, x45, x46, x47, x48, x49, x50, x51, x52, x53, x54, x55, x56, x57, x58, x59, x60, x61, x62, x63, x64, x65, x66, x67, x68, x69, x70, x71, x72, x73, x74, x75, x76, x77, x78, x79, x80, x81, x82, x83, x84, x85, x86, x87, x88] =
  pv (binV .none .add x5 (.int .i64 1)) fun t1 =>
  k1 (m11_1_1_1_1_1_0_1_0_0 x0 x1 x2 x3 x7 x8 x9 x10 x11 x12 x13 x14 x15 x16 x17 x18 x19 x20 x21 x51 x52 x53 x54 x55 x56 x57 x58 x59 x60 x61 x62 x63 x64 x65 x66 x67 x68 x69 x70 x71 x72 x73 x74 x75 x76 x77 x78 x79 x80 x81 x82 x83 x84 x85 x86 x87 x88 x4 t1 (jf #[x0, x1, x2, x3, x4, t1, x6, x7, x8, x9, x10, x11, x12, x13, x14, x15, x16, x17, x18, x19, x20, x21, x22, x23, x24, x25, x5, t1, x28, x29, x30, x31, x32, x33, x34, x35, x36, x37, x38, x39, x40, x41, x42, x43, x44, x45, x46, x47, x48, x49, x50, x51, x52, x53, x54, x55, x56, x57, x58, x59, x60, x61, x62, x63, x64, x65, x66, x67, x68, x69, x70, x71, x72, x73, x74, x75, x76, x77, x78, x79, x80, x81, x82, x83, x84, x85, x86, x87, x88])) := by kernel_rfl
def m11_1_1_1_1_1_1_0_1_0_0 (x0 x1 x3 x4 x5 x6 x10 x11 x12 x13 x14 x15 x16 x17 x18 x19 x20 x21 x22 x23 x24 x25 x26 x27 x28 x29 x30 x31 x32 x33 x34 x35 x36 x37 x38 x39 x40 x41 x42 x43 x44 x45 x46 x47 x48 x49 x50 x75 x76 x77 x78 x79 x80 x81 x82 x83 x84 x85 x86 x87 x88 : Value) (v7 : Value) (j : Nat → Value) : Env := #[x0, x1, (j 2), x3, x4, x5, x6, v7, (j 8), (j 9), x10, x11, x12, x13, x14, x15, x16, x17, x18, x19, x20, x21, x22, x23, x24, x25, x26, x27, x28, x29, x30, x31, x32, x33, x34, x35, x36, x37, x38, x39, x40, x41, x42, x43, x44, x45, x46, x47, x48, x49, x50, (j 51), (j 52), (j 53), (j 54), (j 55), (j 56), (j 57), (j 58), (j 59), (j 60), (j 61), (j 62), (j 63), (j 64), (j 65), (j 66), (j 67), (j 68), (j 69), (j 70), (j 71), (j 72), (j 73), (j 74), x75, x76, x77, x78, x79, x80, x81, x82, x83, x84, x85, x86, x87, x88]
theorem t11_1_1_1_1_1_1_0_1_0_0 (K : Kont) (E : PanK) (k1 : Env → Hp → Prop) (x0 x1 x3 x4 x5 x6 x10 x11 x12 x13 x14 x15 x16 x17 x18 x19 x20 x21 x22 x23 x24 x25 x26 x27 x28 x29 x30 x31 x32 x33 x34 x35 x36 x37 x38 x39 x40 x41 x42 x43 x44 x45 x46 x47 x48 x49 x50 x75 x76 x77 x78 x79 x80 x81 x82 x83 x84 x85 x86 x87 x88 v7 : Value) (j : Nat → Value) : den Try.prog (sel (bodyOf Try.f11) [1, 1, 1, 1, 1, 1, 0, 1, 0, 0]) (thenD k1 (blk 2 (thenD (den Try.prog (sel (bodyOf Try.f11) [1, 1, 1, 1, 1, 1, 1]) (bodyQ Try.prog Try.f11.results.toList K E)) (bodyQ Try.prog Try.f11.results.toList K E)))) (m11_1_1_1_1_1_1_0_1_0_0 x0 x1 x3 x4 x5 x6 x10 x11 x12 x13 x14 x15 x16 x17 x18 x19 x20 x21 x22 x23 x24 x25 x26 x27 x28 x29 x30 x31 x32 x33 x34 x35 x36 x37 x38 x39 x40 x41 x42 x43 x44 x45 x46 x47 x48 x49 x50 x75 x76 x77 x78 x79 x80 x81 x82 x83 x84 x85 x86 x87 x88 v7 j) =
  pv (lenV x4) fun t1 =>
  pv (binV .none .lss v7 t1) fun t2 =>
  cnd t2 (
    callv Try.prog (.func (.func 34) #[] #[]) #[x3, (.int .i64 0)] (fun t3 =>
    pv (exV 0 t3) fun t4 =>
    pv (exV 1 t3) fun t5 =>
    nw 61 [(.int .i64 0), (.int .i64 0), (.slice none 0 0)] fun t6 =>
    st 3 t6 t4 fun _ =>
    pv (unV .not t5) fun t7 =>
    gdK t7 false (fun k => ld true 3 t6 k) fun t8 =>
    gdK t7 false (fun k => k x4) fun t9 =>
    gdK t7 false (fun k => k v7) fun t10 =>
    gdK t7 false (fun k => k v7) fun t11 =>
    gdK t7 false (fun k => pv (binV .none .add t11 (.int .i64 1)) k) fun t12 =>
    gdK t7 false (fun k => pv (slV 3 t9 (some t10) (some t12) none) k) fun t13 =>
    gdK t7 false (fun k => nws 61 1 (bsC #[(.int .i64 0), (.int .i64 0), (.slice none 0 0)] 3 1 #[(0, t8)]) k) fun t14 =>
    gdK t7 false (fun k => callv Try.prog (.func (.func 40) #[] #[]) #[t14, t13] k E) fun t15 =>
    gdK t7 false (fun k => pv (unV .not t15) k) fun t16 =>
    pv (pickV t7 (.bool true) t16) fun t17 =>
    cnd t17 (
      K (.bool false)) (
      pv (binV .none .add v7 (.int .i64 1)) fun t18 =>
      k1 (m11_1_1_1_1_1_1_0_1_0_0 x0 x1 x3 x4 x5 x6 x10 x11 x12 x13 x14 x15 x16 x17 x18 x19 x20 x21 x22 x23 x24 x25 x26 x27 x28 x29 x30 x31 x32 x33 x34 x35 x36 x37 x38 x39 x40 x41 x42 x43 x44 x45 x46 x47 x48 x49 x50 x75 x76 x77 x78 x79 x80 x81 x82 x83 x84 x85 x86 x87 x88 t18 (jf #[x0, x1, (j 2), x3, x4, x5, x6, t18, t6, t5, x10, x11, x12, x13, x14, x15, x16, x17, x18, x19, x20, x21, x22, x23, x24, x25, x26, x27, x28, x29, x30, x31, x32, x33, x34, x35, x36, x37, x38, x39, x40, x41, x42, x43, x44, x45, x46, x47, x48, x49, x50, v7, x4, t1, t2, v7, t18, t3, x3, t3, t4, t5, t5, t7, t7, t8, t14, t9, t10, t11, t12, t13, t15, t16, t17, x75, x76, x77, x78, x79, x80, x81, x82, x83, x84, x85, x86, x87, x88])))) E) (
    den Try.prog (sel (bodyOf Try.f11) [1, 1, 1, 1, 1, 1, 1]) (bodyQ Try.prog Try.f11.results.toList K E) #[x0, x1, (j 2), x3, x4, x5, x6, v7, (j 8), (j 9), x10, x11, x12, x13, x14, x15, x16, x17, x18, x19, x20, x21, x22, x23, x24, x25, x26, x27, x28, x29, x30, x31, x32, x33, x34, x35, x36, x37, x38, x39, x40, x41, x42, x43, x44, x45, x46, x47, x48, x49, x50, v7, x4, t1, t2, (j 55), (j 56), (j 57), (j 58), (j 59), (j 60), (j 61), (j 62), (j 63), (j 64), (j 65), (j 66), (j 67), (j 68), (j 69), (j 70), (j 71), (j 72), (j 73), (j 74), x75, x76, x77, x78, x79, x80, x81, x82, x83, x84, x85, x86, x87, x88]) := by kernel_rfl
theorem t11_1_1_1_1_1_1_1 (K : Kont) (E : PanK) (x0 x1 x2 x3 x4 x5 x6 x7 x8 x9 x10 x11 x12 x13 x14 x15 x16 x17 x18 x19 x20 x21 x22 x23 x24 x25 x26 x27 x28 x29 x30 x31 x32 x33 x34 x35 x36 x37 x38 x39 x40 x41 x42 x43 x44 x45 x46 x47 x48 x49 x50 x51 x52 x53 x54 x55 x56 x57 x58 x59 x60 x61 x62 x63 x64 x65 x66 x67 x68 x69 x70 x71 x72 x73 x74 x75 x76 x77 x78 x79 x80 x81 x82 x83 x84 x85 x86 x87 x88 : Value)  : den Try.prog (sel (bodyOf Try.f11) [1, 1, 1, 1, 1, 1, 1]) (bodyQ Try.prog Try.f11.results.toList K E) #[x0, x1, x2, x3, x4, x5, x6, x7, x8, x9, x10, x11, x12, x13, x14, x15, x16, x17, x18, x19, x20, x21, x22, x23, x24, x25, x26, x27, x28, x29, x30, x31, x32, x33, x34, x35, x36, x37, x38, x39, x40, x41, x42, x43, x44, x45, x46, x47, x48, x49, x50, x51, x52, x53, x54, x55, x56, x57, x58, x59, x60, x61, x62, x63, x64, x65, x66, x67, x68, x69, x70, x71, x72, x73, x74, x75, x76, x77, x78, x79, x80, x81, x82, x83, x84, x85, x86, x87, x88] =
  callv Try.prog (.func (.func 34) #[] #[]) #[x3, (.int .i64 0)] (fun t1 =>
  pv (exV 0 t1) fun t2 =>
  pv (exV 1 t1) fun t3 =>
  nw 61 [(.int .i64 0), (.int .i64 0), (.slice none 0 0)] fun t4 =>
  st 3 t4 t2 fun _ =>
  pv (unV .not t3) fun t5 =>
  gdK t5 true (fun k => k x4) fun t6 =>
  gdK t5 true (fun k => pv (lenV t6) k) fun t7 =>
  gdK t5 true (fun k => k x0) fun t8 =>
  gdK t5 true (fun k => pv (lenV t8) k) fun t9 =>
  gdK t5 true (fun k => pv (binV .none .eql t7 t9) k) fun t10 =>
  pv (pickV t5 t10 (.bool false)) fun t11 =>
  K t11) E := by kernel_rfl
theorem l11_1_1_1_1_1_0_1_0_0 {K : Kont} {E : PanK} {σ : Type} {x0 x1 x2 x3 x7 x8 x9 x10 x11 x12 x13 x14 x15 x16 x17 x18 x19 x20 x21 x51 x52 x53 x54 x55 x56 x57 x58 x59 x60 x61 x62 x63 x64 x65 x66 x67 x68 x69 x70 x71 x72 x73 x74 x75 x76 x77 x78 x79 x80 x81 x82 x83 x84 x85 x86 x87 x88 v4 v5 y6 y22 y23 y24 y25 y26 y27 y28 y29 y30 y31 y32 y33 y34 y35 y36 y37 y38 y39 y40 y41 y42 y43 y44 y45 y46 y47 y48 y49 y50 : Value} {h : Hp} (f4 f5 : σ → Value) (I : σ → Hp → Prop) (μ : σ → Nat) (s0 : σ) (e4 : v4 = f4 s0) (e5 : v5 = f5 s0) (h0 : h.wf → ∃ h', h.wk h' ∧ I s0 h')
  (round : ∀ (k1 : Env → Hp → Prop) (s : σ) (j : Nat → Value) (h : Hp), I s h → h.wf → (∀ s' j' h', μ s' < μ s → (h'.wf → ∃ h'', h'.wk h'' ∧ I s' h'') → k1 (m11_1_1_1_1_1_0_1_0_0 x0 x1 x2 x3 x7 x8 x9 x10 x11 x12 x13 x14 x15 x16 x17 x18 x19 x20 x21 x51 x52 x53 x54 x55 x56 x57 x58 x59 x60 x61 x62 x63 x64 x65 x66 x67 x68 x69 x70 x71 x72 x73 x74 x75 x76 x77 x78 x79 x80 x81 x82 x83 x84 x85 x86 x87 x88 (f4 s') (f5 s') j') h') → (
  pv (lenV x0) fun t1 =>
  pv (binV .none .lss (f5 s) t1) fun t2 =>
  cnd t2 (
    pv (iaV none 5 x0 (f5 s)) fun t3 =>
    pv (faV 1 t3) fun t4 =>
    ld false 1 t4 fun t5 =>
    pv (iaV none 5 x0 (f5 s)) fun t6 =>
    pv (faV 2 t6) fun t7 =>
    ld false 1 t7 fun t8 =>
    pv (iaV none 5 x0 (f5 s)) fun t9 =>
    pv (faV 3 t9) fun t10 =>
    ld false 1 t10 fun t11 =>
    pv (bdC #[(.int .i64 0), (.int .i64 0), (.slice none 0 0)] [(0, 1), (1, 1), (2, 1)] #[(0, t5), (1, t8), (2, t11)]) fun t12 =>
    nw 61 [(.int .i64 0), (.int .i64 0), (.slice none 0 0)] (fun t13 h14 => (ldV h14 false 1 t10 t11) ∧ (ldV h14 false 1 t7 t8) ∧ (ldV h14 false 1 t4 t5) ∧ (
      st 3 t13 t12 fun _ =>
      ld true 3 t13 fun t15 =>
      callv Try.prog (.func (.func 32) #[] #[]) #[x3, t15] (fun t16 =>
      cnd t16 (
        ld true 3 t13 fun t17 =>
        nws 61 1 (bsC #[(.int .i64 0), (.int .i64 0), (.slice none 0 0)] 3 1 #[(0, t17)]) fun t18 =>
        appX 61 3 40 (f4 s) t18 fun t19 =>
        den Try.prog (sel (bodyOf Try.f11) [1, 1, 1, 1, 1, 0, 1, 0, 0, 1, 1]) (thenD k1 (blk 0 (thenD (den Try.prog (sel (bodyOf Try.f11) [1, 1, 1, 1, 1, 1]) (bodyQ Try.prog Try.f11.results.toList K E)) (bodyQ Try.prog Try.f11.results.toList K E)))) #[x0, x1, x2, x3, t19, (f5 s), t13, x7, x8, x9, x10, x11, x12, x13, x14, x15, x16, x17, x18, x19, x20, x21, (f5 s), x0, t1, t2, (j 26), (j 27), x0, (f5 s), t3, t4, t5, x0, (f5 s), t6, t7, t8, x0, (f5 s), t9, t10, t11, t12, x3, t15, t16, (f4 s), t17, t18, t19, x51, x52, x53, x54, x55, x56, x57, x58, x59, x60, x61, x62, x63, x64, x65, x66, x67, x68, x69, x70, x71, x72, x73, x74, x75, x76, x77, x78, x79, x80, x81, x82, x83, x84, x85, x86, x87, x88]) (
        den Try.prog (sel (bodyOf Try.f11) [1, 1, 1, 1, 1, 0, 1, 0, 0, 1, 1]) (thenD k1 (blk 0 (thenD (den Try.prog (sel (bodyOf Try.f11) [1, 1, 1, 1, 1, 1]) (bodyQ Try.prog Try.f11.results.toList K E)) (bodyQ Try.prog Try.f11.results.toList K E)))) #[x0, x1, x2, x3, (f4 s), (f5 s), t13, x7, x8, x9, x10, x11, x12, x13, x14, x15, x16, x17, x18, x19, x20, x21, (f5 s), x0, t1, t2, (j 26), (j 27), x0, (f5 s), t3, t4, t5, x0, (f5 s), t6, t7, t8, x0, (f5 s), t9, t10, t11, t12, x3, t15, t16, (j 47), (j 48), (j 49), (j 50), x51, x52, x53, x54, x55, x56, x57, x58, x59, x60, x61, x62, x63, x64, x65, x66, x67, x68, x69, x70, x71, x72, x73, x74, x75, x76, x77, x78, x79, x80, x81, x82, x83, x84, x85, x86, x87, x88])) E) h14)) (
    den Try.prog (sel (bodyOf Try.f11) [1, 1, 1, 1, 1, 1]) (bodyQ Try.prog Try.f11.results.toList K E) #[x0, x1, x2, x3, (f4 s), (f5 s), (j 6), x7, x8, x9, x10, x11, x12, x13, x14, x15, x16, x17, x18, x19, x20, x21, (f5 s), x0, t1, t2, (j 26), (j 27), (j 28), (j 29), (j 30), (j 31), (j 32), (j 33), (j 34), (j 35), (j 36), (j 37), (j 38), (j 39), (j 40), (j 41), (j 42), (j 43), (j 44), (j 45), (j 46), (j 47), (j 48), (j 49), (j 50), x51, x52, x53, x54, x55, x56, x57, x58, x59, x60, x61, x62, x63, x64, x65, x66, x67, x68, x69, x70, x71, x72, x73, x74, x75, x76, x77, x78, x79, x80, x81, x82, x83, x84, x85, x86, x87, x88])) h) :
  lp (fun k1 => den Try.prog (sel (bodyOf Try.f11) [1, 1, 1, 1, 1, 0, 1, 0, 0]) (thenD k1 (blk 0 (thenD (den Try.prog (sel (bodyOf Try.f11) [1, 1, 1, 1, 1, 1]) (bodyQ Try.prog Try.f11.results.toList K E)) (bodyQ Try.prog Try.f11.results.toList K E))))) #[x0, x1, x2, x3, v4, v5, y6, x7, x8, x9, x10, x11, x12, x13, x14, x15, x16, x17, x18, x19, x20, x21, y22, y23, y24, y25, y26, y27, y28, y29, y30, y31, y32, y33, y34, y35, y36, y37, y38, y39, y40, y41, y42, y43, y44, y45, y46, y47, y48, y49, y50, x51, x52, x53, x54, x55, x56, x57, x58, x59, x60, x61, x62, x63, x64, x65, x66, x67, x68, x69, x70, x71, x72, x73, x74, x75, x76, x77, x78, x79, x80, x81, x82, x83, x84, x85, x86, x87, x88] h := by
  subst e4
  subst e5
  have e : (#[x0, x1, x2, x3, (f4 s0), (f5 s0), y6, x7, x8, x9, x10, x11, x12, x13, x14, x15, x16, x17, x18, x19, x20, x21, y22, y23, y24, y25, y26, y27, y28, y29, y30, y31, y32, y33, y34, y35, y36, y37, y38, y39, y40, y41, y42, y43, y44, y45, y46, y47, y48, y49, y50, x51, x52, x53, x54, x55, x56, x57, x58, x59, x60, x61, x62, x63, x64, x65, x66, x67, x68, x69, x70, x71, x72, x73, x74, x75, x76, x77, x78, x79, x80, x81, x82, x83, x84, x85, x86, x87, x88] : Env) = m11_1_1_1_1_1_0_1_0_0 x0 x1 x2 x3 x7 x8 x9 x10 x11 x12 x13 x14 x15 x16 x17 x18 x19 x20 x21 x51 x52 x53 x54 x55 x56 x57 x58 x59 x60 x61 x62 x63 x64 x65 x66 x67 x68 x69 x70 x71 x72 x73 x74 x75 x76 x77 x78 x79 x80 x81 x82 x83 x84 x85 x86 x87 x88 (f4 s0) (f5 s0) (jf #[x0, x1, x2, x3, (f4 s0), (f5 s0), y6, x7, x8, x9, x10, x11, x12, x13, x14, x15, x16, x17, x18, x19, x20, x21, y22, y23, y24, y25, y26, y27, y28, y29, y30, y31, y32, y33, y34, y35, y36, y37, y38, y39, y40, y41, y42, y43, y44, y45, y46, y47, y48, y49, y50, x51, x52, x53, x54, x55, x56, x57, x58, x59, x60, x61, x62, x63, x64, x65, x66, x67, x68, x69, x70, x71, x72, x73, x74, x75, x76, x77, x78, x79, x80, x81, x82, x83, x84, x85, x86, x87, x88]) := by kernel_rfl
  rw [e]
  exact loop_r (fun s j => m11_1_1_1_1_1_0_1_0_0 x0 x1 x2 x3 x7 x8 x9 x10 x11 x12 x13 x14 x15 x16 x17 x18 x19 x20 x21 x51 x52 x53 x54 x55 x56 x57 x58 x59 x60 x61 x62 x63 x64 x65 x66 x67 x68 x69 x70 x71 x72 x73 x74 x75 x76 x77 x78 x79 x80 x81 x82 x83 x84 x85 x86 x87 x88 (f4 s) (f5 s) j) I μ (fun k s j h hI hw next => by rw [t11_1_1_1_1_1_0_1_0_0]; exact round k s j h hI hw next) s0 (jf #[x0, x1, x2, x3, (f4 s0), (f5 s0), y6, x7, x8, x9, x10, x11, x12, x13, x14, x15, x16, x17, x18, x19, x20, x21, y22, y23, y24, y25, y26, y27, y28, y29, y30, y31, y32, y33, y34, y35, y36, y37, y38, y39, y40, y41, y42, y43, y44, y45, y46, y47, y48, y49, y50, x51, x52, x53, x54, x55, x56, x57, x58, x59, x60, x61, x62, x63, x64, x65, x66, x67, x68, x69, x70, x71, x72, x73, x74, x75, x76, x77, x78, x79, x80, x81, x82, x83, x84, x85, x86, x87, x88]) h0
theorem l11_1_1_1_1_1_1_0_1_0_0 {K : Kont} {E : PanK} {σ : Type} {x0 x1 x3 x4 x5 x6 x10 x11 x12 x13 x14 x15 x16 x17 x18 x19 x20 x21 x22 x23 x24 x25 x26 x27 x28 x29 x30 x31 x32 x33 x34 x35 x36 x37 x38 x39 x40 x41 x42 x43 x44 x45 x46 x47 x48 x49 x50 x75 x76 x77 x78 x79 x80 x81 x82 x83 x84 x85 x86 x87 x88 v7 y2 y8 y9 y51 y52 y53 y54 y55 y56 y57 y58 y59 y60 y61 y62 y63 y64 y65 y66 y67 y68 y69 y70 y71 y72 y73 y74 : Value} {h : Hp} (f7 : σ → Value) (I : σ → Hp → Prop) (μ : σ → Nat) (s0 : σ) (e7 : v7 = f7 s0) (h0 : h.wf → ∃ h', h.wk h' ∧ I s0 h')
  (round : ∀ (k1 : Env → Hp → Prop) (s : σ) (j : Nat → Value) (h : Hp), I s h → h.wf → (∀ s' j' h', μ s' < μ s → (h'.wf → ∃ h'', h'.wk h'' ∧ I s' h'') → k1 (m11_1_1_1_1_1_1_0_1_0_0 x0 x1 x3 x4 x5 x6 x10 x11 x12 x13 x14 x15 x16 x17 x18 x19 x20 x21 x22 x23 x24 x25 x26 x27 x28 x29 x30 x31 x32 x33 x34 x35 x36 x37 x38 x39 x40 x41 x42 x43 x44 x45 x46 x47 x48 x49 x50 x75 x76 x77 x78 x79 x80 x81 x82 x83 x84 x85 x86 x87 x88 (f7 s') j') h') → (
  pv (lenV x4) fun t1 =>
  pv (binV .none .lss (f7 s) t1) fun t2 =>
  cnd t2 (
    callv Try.prog (.func (.func 34) #[] #[]) #[x3, (.int .i64 0)] (fun t3 =>
    pv (exV 0 t3) fun t4 =>
    pv (exV 1 t3) fun t5 =>
    nw 61 [(.int .i64 0), (.int .i64 0), (.slice none 0 0)] fun t6 =>
    st 3 t6 t4 fun _ =>
    pv (unV .not t5) fun t7 =>
    gdK t7 false (fun k => ld true 3 t6 k) fun t8 =>
    gdK t7 false (fun k => k x4) fun t9 =>
    gdK t7 false (fun k => k (f7 s)) fun t10 =>
    gdK t7 false (fun k => k (f7 s)) fun t11 =>
    gdK t7 false (fun k => pv (binV .none .add t11 (.int .i64 1)) k) fun t12 =>
    gdK t7 false (fun k => pv (slV 3 t9 (some t10) (some t12) none) k) fun t13 =>
    gdK t7 false (fun k => nws 61 1 (bsC #[(.int .i64 0), (.int .i64 0), (.slice none 0 0)] 3 1 #[(0, t8)]) k) fun t14 =>
    gdK t7 false (fun k => callv Try.prog (.func (.func 40) #[] #[]) #[t14, t13] k E) fun t15 =>
    gdK t7 false (fun k => pv (unV .not t15) k) fun t16 =>
    pv (pickV t7 (.bool true) t16) fun t17 =>
    cnd t17 (
      K (.bool false)) (
      pv (binV .none .add (f7 s) (.int .i64 1)) fun t18 =>
      k1 (m11_1_1_1_1_1_1_0_1_0_0 x0 x1 x3 x4 x5 x6 x10 x11 x12 x13 x14 x15 x16 x17 x18 x19 x20 x21 x22 x23 x24 x25 x26 x27 x28 x29 x30 x31 x32 x33 x34 x35 x36 x37 x38 x39 x40 x41 x42 x43 x44 x45 x46 x47 x48 x49 x50 x75 x76 x77 x78 x79 x80 x81 x82 x83 x84 x85 x86 x87 x88 t18 (jf #[x0, x1, (j 2), x3, x4, x5, x6, t18, t6, t5, x10, x11, x12, x13, x14, x15, x16, x17, x18, x19, x20, x21, x22, x23, x24, x25, x26, x27, x28, x29, x30, x31, x32, x33, x34, x35, x36, x37, x38, x39, x40, x41, x42, x43, x44, x45, x46, x47, x48, x49, x50, (f7 s), x4, t1, t2, (f7 s), t18, t3, x3, t3, t4, t5, t5, t7, t7, t8, t14, t9, t10, t11, t12, t13, t15, t16, t17, x75, x76, x77, x78, x79, x80, x81, x82, x83, x84, x85, x86, x87, x88])))) E) (
    den Try.prog (sel (bodyOf Try.f11) [1, 1, 1, 1, 1, 1, 1]) (bodyQ Try.prog Try.f11.results.toList K E) #[x0, x1, (j 2), x3, x4, x5, x6, (f7 s), (j 8), (j 9), x10, x11, x12, x13, x14, x15, x16, x17, x18, x19, x20, x21, x22, x23, x24, x25, x26, x27, x28, x29, x30, x31, x32, x33, x34, x35, x36, x37, x38, x39, x40, x41, x42, x43, x44, x45, x46, x47, x48, x49, x50, (f7 s), x4, t1, t2, (j 55), (j 56), (j 57), (j 58), (j 59), (j 60), (j 61), (j 62), (j 63), (j 64), (j 65), (j 66), (j 67), (j 68), (j 69), (j 70), (j 71), (j 72), (j 73), (j 74), x75, x76, x77, x78, x79, x80, x81, x82, x83, x84, x85, x86, x87, x88])) h) :
  lp (fun k1 => den Try.prog (sel (bodyOf Try.f11) [1, 1, 1, 1, 1, 1, 0, 1, 0, 0]) (thenD k1 (blk 2 (thenD (den Try.prog (sel (bodyOf Try.f11) [1, 1, 1, 1, 1, 1, 1]) (bodyQ Try.prog Try.f11.results.toList K E)) (bodyQ Try.prog Try.f11.results.toList K E))))) #[x0, x1, y2, x3, x4, x5, x6, v7, y8, y9, x10, x11, x12, x13, x14, x15, x16, x17, x18, x19, x20, x21, x22, x23, x24, x25, x26, x27, x28, x29, x30, x31, x32, x33, x34, x35, x36, x37, x38, x39, x40, x41, x42, x43, x44, x45, x46, x47, x48, x49, x50, y51, y52, y53, y54, y55, y56, y57, y58, y59, y60, y61, y62, y63, y64, y65, y66, y67, y68, y69, y70, y71, y72, y73, y74, x75, x76, x77, x78, x79, x80, x81, x82, x83, x84, x85, x86, x87, x88] h := by
  subst e7
  have e : (#[x0, x1, y2, x3, x4, x5, x6, (f7 s0), y8, y9, x10, x11, x12, x13, x14, x15, x16, x17, x18, x19, x20, x21, x22, x23, x24, x25, x26, x27, x28, x29, x30, x31, x32, x33, x34, x35, x36, x37, x38, x39, x40, x41, x42, x43, x44, x45, x46, x47, x48, x49, x50, y51, y52, y53, y54, y55, y56, y57, y58, y59, y60, y61, y62, y63, y64, y65, y66, y67, y68, y69, y70, y71, y72, y73, y74, x75, x76, x77, x78, x79, x80, x81, x82, x83, x84, x85, x86, x87, x88] : Env) = m11_1_1_1_1_1_1_0_1_0_0 x0 x1 x3 x4 x5 x6 x10 x11 x12 x13 x14 x15 x16 x17 x18 x19 x20 x21 x22 x23 x24 x25 x26 x27 x28 x29 x30 x31 x32 x33 x34 x35 x36 x37 x38 x39 x40 x41 x42 x43 x44 x45 x46 x47 x48 x49 x50 x75 x76 x77 x78 x79 x80 x81 x82 x83 x84 x85 x86 x87 x88 (f7 s0) (jf #[x0, x1, y2, x3, x4, x5, x6, (f7 s0), y8, y9, x10, x11, x12, x13, x14, x15, x16, x17, x18, x19, x20, x21, x22, x23, x24, x25, x26, x27, x28, x29, x30, x31, x32, x33, x34, x35, x36, x37, x38, x39, x40, x41, x42, x43, x44, x45, x46, x47, x48, x49, x50, y51, y52, y53, y54, y55, y56, y57, y58, y59, y60, y61, y62, y63, y64, y65, y66, y67, y68, y69, y70, y71, y72, y73, y74, x75, x76, x77, x78, x79, x80, x81, x82, x83, x84, x85, x86, x87, x88]) := by kernel_rfl
  rw [e]
  exact loop_r (fun s j => m11_1_1_1_1_1_1_0_1_0_0 x0 x1 x3 x4 x5 x6 x10 x11 x12 x13 x14 x15 x16 x17 x18 x19 x20 x21 x22 x23 x24 x25 x26 x27 x28 x29 x30 x31 x32 x33 x34 x35 x36 x37 x38 x39 x40 x41 x42 x43 x44 x45 x46 x47 x48 x49 x50 x75 x76 x77 x78 x79 x80 x81 x82 x83 x84 x85 x86 x87 x88 (f7 s) j) I μ (fun k s j h hI hw next => by rw [t11_1_1_1_1_1_1_0_1_0_0]; exact round k s j h hI hw next) s0 (jf #[x0, x1, y2, x3, x4, x5, x6, (f7 s0), y8, y9, x10, x11, x12, x13, x14, x15, x16, x17, x18, x19, x20, x21, x22, x23, x24, x25, x26, x27, x28, x29, x30, x31, x32, x33, x34, x35, x36, x37, x38, x39, x40, x41, x42, x43, x44, x45, x46, x47, x48, x49, x50, y51, y52, y53, y54, y55, y56, y57, y58, y59, y60, y61, y62, y63, y64, y65, y66, y67, y68, y69, y70, y71, y72, y73, y74, x75, x76, x77, x78, x79, x80, x81, x82, x83, x84, x85, x86, x87, x88]) h0

end Go.Proofs.Ytjeojnjkmhnepaa.T
