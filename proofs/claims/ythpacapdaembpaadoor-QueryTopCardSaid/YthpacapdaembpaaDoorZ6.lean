import Derived.Test.YthpacapdaembpaaDoorProg
import Derived.Test.YthpacapdaembpaaDoorZ1
import Derived.Test.YthpacapdaembpaaDoorZ5
import Derived.Test.YthpacapdaembpaaDoorZ4
open Go Go.RowKit Go.Proofs.YthpacapdaembpaaDoor.K
set_option linter.unusedVariables false
set_option maxRecDepth 100000
namespace Go.Proofs.YthpacapdaembpaaDoor.T
theorem t11 (K : Kont) (E : PanK) (x0 x1 x2 : Value)  : den Tryd.prog (sel (bodyOf Tryd.f11) []) (bodyQ Tryd.prog Tryd.f11.results.toList K E) #[x0, x1, x2, undef, undef, undef, undef, undef, undef, undef, undef, undef, undef, undef, undef, undef, undef, undef, undef, undef, undef, undef, undef, undef, undef, undef, undef, undef, undef, undef, undef, undef, undef, undef, undef, undef, undef, undef, undef, undef, undef, undef, undef, undef, undef, undef, undef, undef, undef, undef, undef, undef, undef] =
  nw 64 (Value.cells x2).toList fun t1 =>
  ld true 3 t1 fun t2 =>
  callv Tryd.prog (.func (.func 34) #[] #[]) #[x0, x1, t2] (fun t3 =>
  gdK t3 false (fun k => callv Tryd.prog (.func (.func 35) #[] #[]) #[] k E) fun t4 =>
  gdK t3 false (fun k => pv (unV .not t4) k) fun t5 =>
  pv (pickV t3 (.bool true) t5) fun t6 =>
  cnd t6 (
    callv Tryd.prog (.func (.func 35) #[] #[]) #[] (fun t7 =>
    K t7) E) (
    ld true 3 t1 fun t8 =>
    callv Tryd.prog (.func (.func 36) #[] #[]) #[x0, x1, t8] (fun t9 =>
    pv (exV 0 t9) fun t10 =>
    pv (exV 1 t9) fun t11 =>
    ld true 3 t1 fun t12 =>
    callv Tryd.prog (.func (.func 37) #[] #[]) #[x0, x1, t12] (fun t13 =>
    pv (exV 0 t13) fun t14 =>
    pv (exV 1 t13) fun t15 =>
    callv Tryd.prog (.func (.func 24) #[] #[]) #[t10, t14] (fun t16 =>
    gdK t16 true (fun k => k t11) fun t17 =>
    gdK t16 true (fun k => pv (cvV .i64 t17) k) fun t18 =>
    gdK t16 true (fun k => k t15) fun t19 =>
    gdK t16 true (fun k => pv (binV .none .eql t18 t19) k) fun t20 =>
    pv (pickV t16 t20 (.bool false)) fun t21 =>
    gdK t21 true (fun k => k x0) fun t22 =>
    gdK t21 true (fun k => ld true 3 t1 k) fun t23 =>
    gdK t21 true (fun k => k x0) fun t24 =>
    gdK t21 true (fun k => ld true 3 t1 k) fun t25 =>
    gdK t21 true (fun k => callv Tryd.prog (.func (.func 38) #[] #[]) #[t22, t23] k E) (fun t26 h27 => (isB t21 true = true → ldV h27 true 3 t1 t25) ∧ (
      gdK t21 true (fun k => pv (cvV .i64 t26) k) fun t28 =>
      gdK t21 true (fun k => callv Tryd.prog (.func (.func 39) #[] #[]) #[t24, t25] k E) fun t29 =>
      gdK t21 true (fun k => pv (binV .none .eql t28 t29) k) fun t30 =>
      pv (pickV t21 t30 (.bool false)) fun t31 =>
      K t31) h27)) E) E) E)) E := by kernel_rfl

theorem t12 (K : Kont) (E : PanK) (x0 x1 x2 x3 x4 : Value)  : den Tryd.prog (sel (bodyOf Tryd.f12) []) (bodyQ Tryd.prog Tryd.f12.results.toList K E) #[x0, x1, x2, x3, x4, undef, undef, undef, undef, undef, undef, undef, undef, undef, undef, undef, undef, undef, undef, undef, undef, undef, undef, undef, undef, undef, undef, undef, undef, undef, undef, undef, undef, undef, undef, undef, undef, undef, undef, undef, undef, undef, undef, undef, undef, undef, undef, undef, undef, undef, undef, undef, undef, undef, undef, undef, undef, undef, undef, undef, undef, undef, undef, undef, undef, undef, undef, undef, undef, undef, undef, undef, undef, undef, undef, undef, undef, undef, undef, undef, undef, undef, undef, undef, undef, undef, undef, undef, undef, undef, undef, undef, undef, undef, undef, undef, undef, undef, undef, undef, undef, undef, undef, undef, undef, undef, undef, undef, undef, undef, undef, undef, undef, undef, undef, undef, undef, undef, undef, undef, undef, undef, undef, undef, undef, undef, undef, undef, undef, undef, undef, undef, undef, undef, undef, undef, undef] =
  pv (lenV x1) fun t1 =>
  pv (binV .none .gtr t1 (.int .i64 200)) fun t2 =>
  gdK t2 false (fun k => callv Tryd.prog (.func (.func 35) #[] #[]) #[] k E) fun t3 =>
  gdK t2 false (fun k => pv (unV .not t3) k) fun t4 =>
  pv (pickV t2 (.bool true) t4) fun t5 =>
  cnd t5 (
    callv Tryd.prog (.func (.func 35) #[] #[]) #[] (fun t6 =>
    K t6) E) (
    callv Tryd.prog (.func (.func 19) #[] #[]) #[x0] (fun t7 =>
    callv Tryd.prog (.func (.func 21) #[] #[]) #[t7, x1, x2] (fun t8 =>
    callv Tryd.prog (.func (.func 40) #[] #[]) #[t7, (.slice none 0 0), x3, x4] (fun t9 =>
    nw 64 [(.slice none 0 0), (.slice none 0 0), (.slice none 0 0)] fun t10 =>
    st 3 t10 t9 fun _ =>
    lp (fun k1 => den Tryd.prog (sel (bodyOf Tryd.f12) [1, 1, 1, 1, 1, 0, 1, 0, 0]) (thenD k1 (blk 0 (thenD (den Tryd.prog (sel (bodyOf Tryd.f12) [1, 1, 1, 1, 1, 1]) (bodyQ Tryd.prog Tryd.f12.results.toList K E)) (bodyQ Tryd.prog Tryd.f12.results.toList K E))))) #[x0, x1, x2, x3, x4, undef, undef, undef, undef, undef, (.bool false), t7, t8, t10, (.int .i64 0), undef, undef, undef, undef, undef, undef, x1, t1, t2, t2, t3, t4, t5, undef, x0, t7, t7, x1, x2, t8, t7, x3, x4, t9, undef, undef, undef, undef, undef, undef, undef, undef, undef, undef, undef, undef, undef, undef, undef, undef, undef, undef, undef, undef, undef, undef, undef, undef, undef, undef, undef, undef, undef, undef, undef, undef, undef, undef, undef, undef, undef, undef, undef, undef, undef, undef, undef, undef, undef, undef, undef, undef, undef, undef, undef, undef, undef, undef, undef, undef, undef, undef, undef, undef, undef, undef, undef, undef, undef, undef, undef, undef, undef, undef, undef, undef, undef, undef, undef, undef, undef, undef, undef, undef, undef, undef, undef, undef, undef, undef, undef, undef, undef, undef, undef, undef, undef, undef, undef, undef, undef, undef]) E) E) E) := by kernel_rfl
def m12_1_1_1_1_1_0_1_0_0 (x0 x1 x2 x3 x4 x5 x6 x7 x8 x9 x10 x11 x12 x13 x15 x16 x17 x18 x19 x20 x21 x22 x23 x24 x25 x26 x27 x28 x29 x30 x31 x32 x33 x34 x35 x36 x37 x38 x56 x57 x58 x59 x60 x61 x62 x63 x64 x65 x66 x67 x68 x69 x70 x71 x72 x73 x74 x75 x76 x77 x78 x79 x80 x81 x82 x83 x84 x85 x86 x87 x88 x89 x90 x91 x92 x93 x94 x95 x96 x97 x98 x99 x100 x101 x102 x103 x104 x105 x106 x107 x108 x109 x110 x111 x112 x113 x114 x115 x116 x117 x118 x119 x120 x121 x122 x123 x124 x125 x126 x127 x128 x129 x130 x131 x132 x133 x134 x135 x136 : Value) (v14 : Value) (j : Nat → Value) : Env := #[x0, x1, x2, x3, x4, x5, x6, x7, x8, x9, x10, x11, x12, x13, v14, x15, x16, x17, x18, x19, x20, x21, x22, x23, x24, x25, x26, x27, x28, x29, x30, x31, x32, x33, x34, x35, x36, x37, x38, (j 39), (j 40), (j 41), (j 42), (j 43), (j 44), (j 45), (j 46), (j 47), (j 48), (j 49), (j 50), (j 51), (j 52), (j 53), (j 54), (j 55), x56, x57, x58, x59, x60, x61, x62, x63, x64, x65, x66, x67, x68, x69, x70, x71, x72, x73, x74, x75, x76, x77, x78, x79, x80, x81, x82, x83, x84, x85, x86, x87, x88, x89, x90, x91, x92, x93, x94, x95, x96, x97, x98, x99, x100, x101, x102, x103, x104, x105, x106, x107, x108, x109, x110, x111, x112, x113, x114, x115, x116, x117, x118, x119, x120, x121, x122, x123, x124, x125, x126, x127, x128, x129, x130, x131, x132, x133, x134, x135, x136]
theorem t12_1_1_1_1_1_0_1_0_0 (K : Kont) (E : PanK) (k1 : Env → Hp → Prop) (x0 x1 x2 x3 x4 x5 x6 x7 x8 x9 x10 x11 x12 x13 x15 x16 x17 x18 x19 x20 x21 x22 x23 x24 x25 x26 x27 x28 x29 x30 x31 x32 x33 x34 x35 x36 x37 x38 x56 x57 x58 x59 x60 x61 x62 x63 x64 x65 x66 x67 x68 x69 x70 x71 x72 x73 x74 x75 x76 x77 x78 x79 x80 x81 x82 x83 x84 x85 x86 x87 x88 x89 x90 x91 x92 x93 x94 x95 x96 x97 x98 x99 x100 x101 x102 x103 x104 x105 x106 x107 x108 x109 x110 x111 x112 x113 x114 x115 x116 x117 x118 x119 x120 x121 x122 x123 x124 x125 x126 x127 x128 x129 x130 x131 x132 x133 x134 x135 x136 v14 : Value) (j : Nat → Value) : den Tryd.prog (sel (bodyOf Tryd.f12) [1, 1, 1, 1, 1, 0, 1, 0, 0]) (thenD k1 (blk 0 (thenD (den Tryd.prog (sel (bodyOf Tryd.f12) [1, 1, 1, 1, 1, 1]) (bodyQ Tryd.prog Tryd.f12.results.toList K E)) (bodyQ Tryd.prog Tryd.f12.results.toList K E)))) (m12_1_1_1_1_1_0_1_0_0 x0 x1 x2 x3 x4 x5 x6 x7 x8 x9 x10 x11 x12 x13 x15 x16 x17 x18 x19 x20 x21 x22 x23 x24 x25 x26 x27 x28 x29 x30 x31 x32 x33 x34 x35 x36 x37 x38 x56 x57 x58 x59 x60 x61 x62 x63 x64 x65 x66 x67 x68 x69 x70 x71 x72 x73 x74 x75 x76 x77 x78 x79 x80 x81 x82 x83 x84 x85 x86 x87 x88 x89 x90 x91 x92 x93 x94 x95 x96 x97 x98 x99 x100 x101 x102 x103 x104 x105 x106 x107 x108 x109 x110 x111 x112 x113 x114 x115 x116 x117 x118 x119 x120 x121 x122 x123 x124 x125 x126 x127 x128 x129 x130 x131 x132 x133 x134 x135 x136 v14 j) =
  pv (lenV x11) fun t1 =>
  pv (binV .none .lss v14 t1) fun t2 =>
  cnd t2 (
    pv (faV 0 x13) fun t3 =>
    ld false 1 t3 fun t4 =>
    pv (iaV none 2 x11 v14) fun t5 =>
    pv (faV 1 t5) fun t6 =>
    ld false 1 t6 fun t7 =>
    pv (lenV t7) fun t8 =>
    pv (binV .none .add t8 (.int .i64 1)) fun t9 =>
    pv (iaV none 1 t4 v14) fun t10 =>
    st 1 t10 t9 fun _ =>
    pv (binV .none .add v14 (.int .i64 1)) fun t11 =>
    k1 (m12_1_1_1_1_1_0_1_0_0 x0 x1 x2 x3 x4 x5 x6 x7 x8 x9 x10 x11 x12 x13 x15 x16 x17 x18 x19 x20 x21 x22 x23 x24 x25 x26 x27 x28 x29 x30 x31 x32 x33 x34 x35 x36 x37 x38 x56 x57 x58 x59 x60 x61 x62 x63 x64 x65 x66 x67 x68 x69 x70 x71 x72 x73 x74 x75 x76 x77 x78 x79 x80 x81 x82 x83 x84 x85 x86 x87 x88 x89 x90 x91 x92 x93 x94 x95 x96 x97 x98 x99 x100 x101 x102 x103 x104 x105 x106 x107 x108 x109 x110 x111 x112 x113 x114 x115 x116 x117 x118 x119 x120 x121 x122 x123 x124 x125 x126 x127 x128 x129 x130 x131 x132 x133 x134 x135 x136 t11 (jf #[x0, x1, x2, x3, x4, x5, x6, x7, x8, x9, x10, x11, x12, x13, t11, x15, x16, x17, x18, x19, x20, x21, x22, x23, x24, x25, x26, x27, x28, x29, x30, x31, x32, x33, x34, x35, x36, x37, x38, v14, x11, t1, t2, v14, t11, t3, t4, v14, x11, v14, t5, t6, t7, t8, t9, t10, x56, x57, x58, x59, x60, x61, x62, x63, x64, x65, x66, x67, x68, x69, x70, x71, x72, x73, x74, x75, x76, x77, x78, x79, x80, x81, x82, x83, x84, x85, x86, x87, x88, x89, x90, x91, x92, x93, x94, x95, x96, x97, x98, x99, x100, x101, x102, x103, x104, x105, x106, x107, x108, x109, x110, x111, x112, x113, x114, x115, x116, x117, x118, x119, x120, x121, x122, x123, x124, x125, x126, x127, x128, x129, x130, x131, x132, x133, x134, x135, x136]))) (
    den Tryd.prog (sel (bodyOf Tryd.f12) [1, 1, 1, 1, 1, 1]) (bodyQ Tryd.prog Tryd.f12.results.toList K E) #[x0, x1, x2, x3, x4, x5, x6, x7, x8, x9, x10, x11, x12, x13, v14, x15, x16, x17, x18, x19, x20, x21, x22, x23, x24, x25, x26, x27, x28, x29, x30, x31, x32, x33, x34, x35, x36, x37, x38, v14, x11, t1, t2, (j 43), (j 44), (j 45), (j 46), (j 47), (j 48), (j 49), (j 50), (j 51), (j 52), (j 53), (j 54), (j 55), x56, x57, x58, x59, x60, x61, x62, x63, x64, x65, x66, x67, x68, x69, x70, x71, x72, x73, x74, x75, x76, x77, x78, x79, x80, x81, x82, x83, x84, x85, x86, x87, x88, x89, x90, x91, x92, x93, x94, x95, x96, x97, x98, x99, x100, x101, x102, x103, x104, x105, x106, x107, x108, x109, x110, x111, x112, x113, x114, x115, x116, x117, x118, x119, x120, x121, x122, x123, x124, x125, x126, x127, x128, x129, x130, x131, x132, x133, x134, x135, x136]) := by kernel_rfl
theorem t12_1_1_1_1_1_1 (K : Kont) (E : PanK) (x0 x1 x2 x3 x4 x5 x6 x7 x8 x9 x10 x11 x12 x13 x14 x15 x16 x17 x18 x19 x20 x21 x22 x23 x24 x25 x26 x27 x28 x29 x30 x31 x32 x33 x34 x35 x36 x37 x38 x39 x40 x41 x42 x43 x44 x45 x46 x47 x48 x49 x50 x51 x52 x53 x54 x55 x56 x57 x58 x59 x60 x61 x62 x63 x64 x65 x66 x67 x68 x69 x70 x71 x72 x73 x74 x75 x76 x77 x78 x79 x80 x81 x82 x83 x84 x85 x86 x87 x88 x89 x90 x91 x92 x93 x94 x95 x96 x97 x98 x99 x100 x101 x102 x103 x104 x105 x106 x107 x108 x109 x110 x111 x112 x113 x114 x115 x116 x117 x118 x119 x120 x121 x122 x123 x124 x125 x126 x127 x128 x129 x130 x131 x132 x133 x134 x135 x136 : Value)  : den Tryd.prog (sel (bodyOf Tryd.f12) [1, 1, 1, 1, 1, 1]) (bodyQ Tryd.prog Tryd.f12.results.toList K E) #[x0, x1, x2, x3, x4, x5, x6, x7, x8, x9, x10, x11, x12, x13, x14, x15, x16, x17, x18, x19, x20, x21, x22, x23, x24, x25, x26, x27, x28, x29, x30, x31, x32, x33, x34, x35, x36, x37, x38, x39, x40, x41, x42, x43, x44, x45, x46, x47, x48, x49, x50, x51, x52, x53, x54, x55, x56, x57, x58, x59, x60, x61, x62, x63, x64, x65, x66, x67, x68, x69, x70, x71, x72, x73, x74, x75, x76, x77, x78, x79, x80, x81, x82, x83, x84, x85, x86, x87, x88, x89, x90, x91, x92, x93, x94, x95, x96, x97, x98, x99, x100, x101, x102, x103, x104, x105, x106, x107, x108, x109, x110, x111, x112, x113, x114, x115, x116, x117, x118, x119, x120, x121, x122, x123, x124, x125, x126, x127, x128, x129, x130, x131, x132, x133, x134, x135, x136] =
  lp (fun k1 => den Tryd.prog (sel (bodyOf Tryd.f12) [1, 1, 1, 1, 1, 1, 1, 0, 1, 0, 0]) (thenD k1 (blk 2 (thenD (den Tryd.prog (sel (bodyOf Tryd.f12) [1, 1, 1, 1, 1, 1, 1, 1]) (bodyQ Tryd.prog Tryd.f12.results.toList K E)) (bodyQ Tryd.prog Tryd.f12.results.toList K E))))) #[x0, x1, x2, x3, x4, x5, x6, x7, x8, x9, x10, x11, x12, x13, x14, (.int .i64 0), (.int .i64 0), x17, x18, x19, x20, x21, x22, x23, x24, x25, x26, x27, x28, x29, x30, x31, x32, x33, x34, x35, x36, x37, x38, x39, x40, x41, x42, x43, x44, x45, x46, x47, x48, x49, x50, x51, x52, x53, x54, x55, x56, x57, x58, x59, x60, x61, x62, x63, x64, x65, x66, x67, x68, x69, x70, x71, x72, x73, x74, x75, x76, x77, x78, x79, x80, x81, x82, x83, x84, x85, x86, x87, x88, x89, x90, x91, x92, x93, x94, x95, x96, x97, x98, x99, x100, x101, x102, x103, x104, x105, x106, x107, x108, x109, x110, x111, x112, x113, x114, x115, x116, x117, x118, x119, x120, x121, x122, x123, x124, x125, x126, x127, x128, x129, x130, x131, x132, x133, x134, x135, x136] := by kernel_rfl
def m12_1_1_1_1_1_1_1_0_1_0_0 (x0 x1 x2 x3 x4 x5 x6 x7 x8 x9 x10 x11 x12 x13 x14 x19 x20 x21 x22 x23 x24 x25 x26 x27 x28 x29 x30 x31 x32 x33 x34 x35 x36 x37 x38 x39 x40 x41 x42 x43 x44 x45 x46 x47 x48 x49 x50 x51 x52 x53 x54 x55 x104 x105 x106 x107 x108 x109 x110 x111 x112 x113 x114 x115 x116 x117 x118 x119 x120 x121 x122 x123 x124 x125 x126 x127 x128 x129 x130 x131 x132 x133 x134 x135 x136 : Value) (v15 v16 : Value) (j : Nat → Value) : Env := #[x0, x1, x2, x3, x4, x5, x6, x7, x8, x9, x10, x11, x12, x13, x14, v15, v16, (j 17), (j 18), x19, x20, x21, x22, x23, x24, x25, x26, x27, x28, x29, x30, x31, x32, x33, x34, x35, x36, x37, x38, x39, x40, x41, x42, x43, x44, x45, x46, x47, x48, x49, x50, x51, x52, x53, x54, x55, (j 56), (j 57), (j 58), (j 59), (j 60), (j 61), (j 62), (j 63), (j 64), (j 65), (j 66), (j 67), (j 68), (j 69), (j 70), (j 71), (j 72), (j 73), (j 74), (j 75), (j 76), (j 77), (j 78), (j 79), (j 80), (j 81), (j 82), (j 83), (j 84), (j 85), (j 86), (j 87), (j 88), (j 89), (j 90), (j 91), (j 92), (j 93), (j 94), (j 95), (j 96), (j 97), (j 98), (j 99), (j 100), (j 101), (j 102), (j 103), x104, x105, x106, x107, x108, x109, x110, x111, x112, x113, x114, x115, x116, x117, x118, x119, x120, x121, x122, x123, x124, x125, x126, x127, x128, x129, x130, x131, x132, x133, x134, x135, x136]
theorem t12_1_1_1_1_1_1_1_0_1_0_0 (K : Kont) (E : PanK) (k1 : Env → Hp → Prop) (x0 x1 x2 x3 x4 x5 x6 x7 x8 x9 x10 x11 x12 x13 x14 x19 x20 x21 x22 x23 x24 x25 x26 x27 x28 x29 x30 x31 x32 x33 x34 x35 x36 x37 x38 x39 x40 x41 x42 x43 x44 x45 x46 x47 x48 x49 x50 x51 x52 x53 x54 x55 x104 x105 x106 x107 x108 x109 x110 x111 x112 x113 x114 x115 x116 x117 x118 x119 x120 x121 x122 x123 x124 x125 x126 x127 x128 x129 x130 x131 x132 x133 x134 x135 x136 v15 v16 : Value) (j : Nat → Value) : den Tryd.prog (sel (bodyOf Tryd.f12) [1, 1, 1, 1, 1, 1, 1, 0, 1, 0, 0]) (thenD k1 (blk 2 (thenD (den Tryd.prog (sel (bodyOf Tryd.f12) [1, 1, 1, 1, 1, 1, 1, 1]) (bodyQ Tryd.prog Tryd.f12.results.toList K E)) (bodyQ Tryd.prog Tryd.f12.results.toList K E)))) (m12_1_1_1_1_1_1_1_0_1_0_0 x0 x1 x2 x3 x4 x5 x6 x7 x8 x9 x10 x11 x12 x13 x14 x19 x20 x21 x22 x23 x24 x25 x26 x27 x28 x29 x30 x31 x32 x33 x34 x35 x36 x37 x38 x39 x40 x41 x42 x43 x44 x45 x46 x47 x48 x49 x50 x51 x52 x53 x54 x55 x104 x105 x106 x107 x108 x109 x110 x111 x112 x113 x114 x115 x116 x117 x118 x119 x120 x121 x122 x123 x124 x125 x126 x127 x128 x129 x130 x131 x132 x133 x134 x135 x136 v15 v16 j) =
  pv (lenV x12) fun t1 =>
  pv (binV .none .lss v16 t1) fun t2 =>
  cnd t2 (
    lp (fun k2 => den Tryd.prog (sel (bodyOf Tryd.f12) [1, 1, 1, 1, 1, 1, 1, 0, 1, 0, 0, 1, 0, 0, 1, 0, 1, 0, 0]) (thenD k2 (blk 4 (thenD (den Tryd.prog (sel (bodyOf Tryd.f12) [1, 1, 1, 1, 1, 1, 1, 0, 1, 0, 0, 1, 0, 0, 1, 1]) (blk 3 (thenD (den Tryd.prog (sel (bodyOf Tryd.f12) [1, 1, 1, 1, 1, 1, 1, 0, 1, 0, 0, 1, 1]) (thenD k1 (blk 2 (thenD (den Tryd.prog (sel (bodyOf Tryd.f12) [1, 1, 1, 1, 1, 1, 1, 1]) (bodyQ Tryd.prog Tryd.f12.results.toList K E)) (bodyQ Tryd.prog Tryd.f12.results.toList K E))))) (thenD k1 (blk 2 (thenD (den Tryd.prog (sel (bodyOf Tryd.f12) [1, 1, 1, 1, 1, 1, 1, 1]) (bodyQ Tryd.prog Tryd.f12.results.toList K E)) (bodyQ Tryd.prog Tryd.f12.results.toList K E))))))) (blk 3 (thenD (den Tryd.prog (sel (bodyOf Tryd.f12) [1, 1, 1, 1, 1, 1, 1, 0, 1, 0, 0, 1, 1]) (thenD k1 (blk 2 (thenD (den Tryd.prog (sel (bodyOf Tryd.f12) [1, 1, 1, 1, 1, 1, 1, 1]) (bodyQ Tryd.prog Tryd.f12.results.toList K E)) (bodyQ Tryd.prog Tryd.f12.results.toList K E))))) (thenD k1 (blk 2 (thenD (den Tryd.prog (sel (bodyOf Tryd.f12) [1, 1, 1, 1, 1, 1, 1, 1]) (bodyQ Tryd.prog Tryd.f12.results.toList K E)) (bodyQ Tryd.prog Tryd.f12.results.toList K E)))))))))) #[x0, x1, x2, x3, x4, x5, x6, x7, x8, x9, x10, x11, x12, x13, x14, v15, v16, (.bool true), (.int .i64 0), x19, x20, x21, x22, x23, x24, x25, x26, x27, x28, x29, x30, x31, x32, x33, x34, x35, x36, x37, x38, x39, x40, x41, x42, x43, x44, x45, x46, x47, x48, x49, x50, x51, x52, x53, x54, x55, v16, x12, t1, t2, (j 60), (j 61), (j 62), (j 63), (j 64), (j 65), (j 66), (j 67), (j 68), (j 69), (j 70), (j 71), (j 72), (j 73), (j 74), (j 75), (j 76), (j 77), (j 78), (j 79), (j 80), (j 81), (j 82), (j 83), (j 84), (j 85), (j 86), (j 87), (j 88), (j 89), (j 90), (j 91), (j 92), (j 93), (j 94), (j 95), (j 96), (j 97), (j 98), (j 99), (j 100), (j 101), (j 102), (j 103), x104, x105, x106, x107, x108, x109, x110, x111, x112, x113, x114, x115, x116, x117, x118, x119, x120, x121, x122, x123, x124, x125, x126, x127, x128, x129, x130, x131, x132, x133, x134, x135, x136]) (
    den Tryd.prog (sel (bodyOf Tryd.f12) [1, 1, 1, 1, 1, 1, 1, 1]) (bodyQ Tryd.prog Tryd.f12.results.toList K E) #[x0, x1, x2, x3, x4, x5, x6, x7, x8, x9, x10, x11, x12, x13, x14, v15, v16, (j 17), (j 18), x19, x20, x21, x22, x23, x24, x25, x26, x27, x28, x29, x30, x31, x32, x33, x34, x35, x36, x37, x38, x39, x40, x41, x42, x43, x44, x45, x46, x47, x48, x49, x50, x51, x52, x53, x54, x55, v16, x12, t1, t2, (j 60), (j 61), (j 62), (j 63), (j 64), (j 65), (j 66), (j 67), (j 68), (j 69), (j 70), (j 71), (j 72), (j 73), (j 74), (j 75), (j 76), (j 77), (j 78), (j 79), (j 80), (j 81), (j 82), (j 83), (j 84), (j 85), (j 86), (j 87), (j 88), (j 89), (j 90), (j 91), (j 92), (j 93), (j 94), (j 95), (j 96), (j 97), (j 98), (j 99), (j 100), (j 101), (j 102), (j 103), x104, x105, x106, x107, x108, x109, x110, x111, x112, x113, x114, x115, x116, x117, x118, x119, x120, x121, x122, x123, x124, x125, x126, x127, x128, x129, x130, x131, x132, x133, x134, x135, x136]) := by kernel_rfl
theorem t12_1_1_1_1_1_1_1_1 (K : Kont) (E : PanK) (x0 x1 x2 x3 x4 x5 x6 x7 x8 x9 x10 x11 x12 x13 x14 x15 x16 x17 x18 x19 x20 x21 x22 x23 x24 x25 x26 x27 x28 x29 x30 x31 x32 x33 x34 x35 x36 x37 x38 x39 x40 x41 x42 x43 x44 x45 x46 x47 x48 x49 x50 x51 x52 x53 x54 x55 x56 x57 x58 x59 x60 x61 x62 x63 x64 x65 x66 x67 x68 x69 x70 x71 x72 x73 x74 x75 x76 x77 x78 x79 x80 x81 x82 x83 x84 x85 x86 x87 x88 x89 x90 x91 x92 x93 x94 x95 x96 x97 x98 x99 x100 x101 x102 x103 x104 x105 x106 x107 x108 x109 x110 x111 x112 x113 x114 x115 x116 x117 x118 x119 x120 x121 x122 x123 x124 x125 x126 x127 x128 x129 x130 x131 x132 x133 x134 x135 x136 : Value)  : den Tryd.prog (sel (bodyOf Tryd.f12) [1, 1, 1, 1, 1, 1, 1, 1]) (bodyQ Tryd.prog Tryd.f12.results.toList K E) #[x0, x1, x2, x3, x4, x5, x6, x7, x8, x9, x10, x11, x12, x13, x14, x15, x16, x17, x18, x19, x20, x21, x22, x23, x24, x25, x26, x27, x28, x29, x30, x31, x32, x33, x34, x35, x36, x37, x38, x39, x40, x41, x42, x43, x44, x45, x46, x47, x48, x49, x50, x51, x52, x53, x54, x55, x56, x57, x58, x59, x60, x61, x62, x63, x64, x65, x66, x67, x68, x69, x70, x71, x72, x73, x74, x75, x76, x77, x78, x79, x80, x81, x82, x83, x84, x85, x86, x87, x88, x89, x90, x91, x92, x93, x94, x95, x96, x97, x98, x99, x100, x101, x102, x103, x104, x105, x106, x107, x108, x109, x110, x111, x112, x113, x114, x115, x116, x117, x118, x119, x120, x121, x122, x123, x124, x125, x126, x127, x128, x129, x130, x131, x132, x133, x134, x135, x136] =
  ld true 3 x13 fun t1 =>
  callv Tryd.prog (.func (.func 25) #[] #[]) #[x12] (fun t2 h3 => (ldV h3 true 3 x13 t1) ∧ (
    callv Tryd.prog (.func (.func 36) #[] #[]) #[x11, t2, t1] (fun t4 =>
    pv (exV 0 t4) fun t5 =>
    pv (exV 1 t4) fun t6 =>
    pv (binV .none .eql x15 (.int .i64 0)) fun t7 =>
    cnd t7 (
      pv (binV .none .eql t6 (.int .u16 0)) fun t8 =>
      gdK t8 true (fun k => k t5) fun t9 =>
      gdK t8 true (fun k => pv (lenV t9) k) fun t10 =>
      gdK t8 true (fun k => pv (binV .none .eql t10 (.int .i64 0)) k) fun t11 =>
      pv (pickV t8 t11 (.bool false)) fun t12 =>
      K t12) (
      pv (binV .none .eql t6 (.int .u16 0)) fun t13 =>
      gdK t13 true (fun k => k t5) fun t14 =>
      gdK t13 true (fun k => pv (lenV t14) k) fun t15 =>
      gdK t13 true (fun k => pv (binV .none .eql t15 (.int .i64 1)) k) fun t16 =>
      pv (pickV t13 t16 (.bool false)) fun t17 =>
      gdK t17 true (fun k => k t5) fun t18 =>
      gdK t17 true (fun k => pv (iaV none 5 t18 (.int .i64 0)) k) fun t19 =>
      gdK t17 true (fun k => pv (faV 1 t19) k) fun t20 =>
      gdK t17 true (fun k => pv (faV 0 t20) k) fun t21 =>
      gdK t17 true (fun k => ld false 1 t21 k) fun t22 =>
      gdK t17 true (fun k => k x15) fun t23 =>
      gdK t17 true (fun k => pv (binV .none .eql t22 t23) k) fun t24 =>
      pv (pickV t17 t24 (.bool false)) fun t25 =>
      K t25)) E) h3) E := by kernel_rfl
def m12_1_1_1_1_1_1_1_0_1_0_0_1_0_0_1_0_1_0_0 (x0 x1 x2 x3 x4 x5 x6 x7 x8 x9 x10 x11 x12 x13 x14 x15 x16 x19 x20 x21 x22 x23 x24 x25 x26 x27 x28 x29 x30 x31 x32 x33 x34 x35 x36 x37 x38 x39 x40 x41 x42 x43 x44 x45 x46 x47 x48 x49 x50 x51 x52 x53 x54 x55 x56 x57 x58 x59 x60 x61 x101 x102 x103 x104 x105 x106 x107 x108 x109 x110 x111 x112 x113 x114 x115 x116 x117 x118 x119 x120 x121 x122 x123 x124 x125 x126 x127 x128 x129 x130 x131 x132 x133 x134 x135 x136 : Value) (v17 v18 : Value) (j : Nat → Value) : Env := #[x0, x1, x2, x3, x4, x5, x6, x7, x8, x9, x10, x11, x12, x13, x14, x15, x16, v17, v18, x19, x20, x21, x22, x23, x24, x25, x26, x27, x28, x29, x30, x31, x32, x33, x34, x35, x36, x37, x38, x39, x40, x41, x42, x43, x44, x45, x46, x47, x48, x49, x50, x51, x52, x53, x54, x55, x56, x57, x58, x59, x60, x61, (j 62), (j 63), (j 64), (j 65), (j 66), (j 67), (j 68), (j 69), (j 70), (j 71), (j 72), (j 73), (j 74), (j 75), (j 76), (j 77), (j 78), (j 79), (j 80), (j 81), (j 82), (j 83), (j 84), (j 85), (j 86), (j 87), (j 88), (j 89), (j 90), (j 91), (j 92), (j 93), (j 94), (j 95), (j 96), (j 97), (j 98), (j 99), (j 100), x101, x102, x103, x104, x105, x106, x107, x108, x109, x110, x111, x112, x113, x114, x115, x116, x117, x118, x119, x120, x121, x122, x123, x124, x125, x126, x127, x128, x129, x130, x131, x132, x133, x134, x135, x136]
theorem t12_1_1_1_1_1_1_1_0_1_0_0_1_0_0_1_0_1_0_0 (K : Kont) (E : PanK) (k1 k2 : Env → Hp → Prop) (x0 x1 x2 x3 x4 x5 x6 x7 x8 x9 x10 x11 x12 x13 x14 x15 x16 x19 x20 x21 x22 x23 x24 x25 x26 x27 x28 x29 x30 x31 x32 x33 x34 x35 x36 x37 x38 x39 x40 x41 x42 x43 x44 x45 x46 x47 x48 x49 x50 x51 x52 x53 x54 x55 x56 x57 x58 x59 x60 x61 x101 x102 x103 x104 x105 x106 x107 x108 x109 x110 x111 x112 x113 x114 x115 x116 x117 x118 x119 x120 x121 x122 x123 x124 x125 x126 x127 x128 x129 x130 x131 x132 x133 x134 x135 x136 v17 v18 : Value) (j : Nat → Value) : den Tryd.prog (sel (bodyOf Tryd.f12) [1, 1, 1, 1, 1, 1, 1, 0, 1, 0, 0, 1, 0, 0, 1, 0, 1, 0, 0]) (thenD k2 (blk 4 (thenD (den Tryd.prog (sel (bodyOf Tryd.f12) [1, 1, 1, 1, 1, 1, 1, 0, 1, 0, 0, 1, 0, 0, 1, 1]) (blk 3 (thenD (den Tryd.prog (sel (bodyOf Tryd.f12) [1, 1, 1, 1, 1, 1, 1, 0, 1, 0, 0, 1, 1]) (thenD k1 (blk 2 (thenD (den Tryd.prog (sel (bodyOf Tryd.f12) [1, 1, 1, 1, 1, 1, 1, 1]) (bodyQ Tryd.prog Tryd.f12.results.toList K E)) (bodyQ Tryd.prog Tryd.f12.results.toList K E))))) (thenD k1 (blk 2 (thenD (den Tryd.prog (sel (bodyOf Tryd.f12) [1, 1, 1, 1, 1, 1, 1, 1]) (bodyQ Tryd.prog Tryd.f12.results.toList K E)) (bodyQ Tryd.prog Tryd.f12.results.toList K E))))))) (blk 3 (thenD (den Tryd.prog (sel (bodyOf Tryd.f12) [1, 1, 1, 1, 1, 1, 1, 0, 1, 0, 0, 1, 1]) (thenD k1 (blk 2 (thenD (den Tryd.prog (sel (bodyOf Tryd.f12) [1, 1, 1, 1, 1, 1, 1, 1]) (bodyQ Tryd.prog Tryd.f12.results.toList K E)) (bodyQ Tryd.prog Tryd.f12.results.toList K E))))) (thenD k1 (blk 2 (thenD (den Tryd.prog (sel (bodyOf Tryd.f12) [1, 1, 1, 1, 1, 1, 1, 1]) (bodyQ Tryd.prog Tryd.f12.results.toList K E)) (bodyQ Tryd.prog Tryd.f12.results.toList K E))))))))) (m12_1_1_1_1_1_1_1_0_1_0_0_1_0_0_1_0_1_0_0 x0 x1 x2 x3 x4 x5 x6 x7 x8 x9 x10 x11 x12 x13 x14 x15 x16 x19 x20 x21 x22 x23 x24 x25 x26 x27 x28 x29 x30 x31 x32 x33 x34 x35 x36 x37 x38 x39 x40 x41 x42 x43 x44 x45 x46 x47 x48 x49 x50 x51 x52 x53 x54 x55 x56 x57 x58 x59 x60 x61 x101 x102 x103 x104 x105 x106 x107 x108 x109 x110 x111 x112 x113 x114 x115 x116 x117 x118 x119 x120 x121 x122 x123 x124 x125 x126 x127 x128 x129 x130 x131 x132 x133 x134 x135 x136 v17 v18 j) =
  pv (lenV x11) fun t1 =>
  pv (binV .none .lss v18 t1) fun t2 =>
  cnd t2 (
    gdK v17 true (fun k => k x12) fun t3 =>
    gdK v17 true (fun k => k x16) fun t4 =>
    gdK v17 true (fun k => pv (iaV none 2 t3 t4) k) fun t5 =>
    gdK v17 true (fun k => pv (faV 0 t5) k) fun t6 =>
    gdK v17 true (fun k => ld false 1 t6 k) fun t7 =>
    gdK v17 true (fun k => k v18) fun t8 =>
    gdK v17 true (fun k => pv (iaV none 1 t7 t8) k) fun t9 =>
    gdK v17 true (fun k => ld false 1 t9 k) fun t10 =>
    gdK v17 true (fun k => pv (faV 1 x13) k) fun t11 =>
    gdK v17 true (fun k => ld false 1 t11 k) fun t12 =>
    gdK v17 true (fun k => k v18) fun t13 =>
    gdK v17 true (fun k => pv (iaV none 1 t12 t13) k) fun t14 =>
    gdK v17 true (fun k => ld false 1 t14 k) fun t15 =>
    gdK v17 true (fun k => pv (binV .none .geq t10 t15) k) fun t16 =>
    pv (pickV v17 t16 (.bool false)) fun t17 =>
    gdK t17 true (fun k => k x12) fun t18 =>
    gdK t17 true (fun k => k x16) fun t19 =>
    gdK t17 true (fun k => pv (iaV none 2 t18 t19) k) fun t20 =>
    gdK t17 true (fun k => pv (faV 0 t20) k) fun t21 =>
    gdK t17 true (fun k => ld false 1 t21 k) fun t22 =>
    gdK t17 true (fun k => k v18) fun t23 =>
    gdK t17 true (fun k => pv (iaV none 1 t22 t23) k) fun t24 =>
    gdK t17 true (fun k => ld false 1 t24 k) fun t25 =>
    gdK t17 true (fun k => pv (faV 2 x13) k) fun t26 =>
    gdK t17 true (fun k => ld false 1 t26 k) fun t27 =>
    gdK t17 true (fun k => k v18) fun t28 =>
    gdK t17 true (fun k => pv (iaV none 1 t27 t28) k) fun t29 =>
    gdK t17 true (fun k => ld false 1 t29 k) fun t30 =>
    gdK t17 true (fun k => pv (binV .none .lss t25 t30) k) fun t31 =>
    pv (pickV t17 t31 (.bool false)) fun t32 =>
    pv (binV .none .add v18 (.int .i64 1)) fun t33 =>
    k2 (m12_1_1_1_1_1_1_1_0_1_0_0_1_0_0_1_0_1_0_0 x0 x1 x2 x3 x4 x5 x6 x7 x8 x9 x10 x11 x12 x13 x14 x15 x16 x19 x20 x21 x22 x23 x24 x25 x26 x27 x28 x29 x30 x31 x32 x33 x34 x35 x36 x37 x38 x39 x40 x41 x42 x43 x44 x45 x46 x47 x48 x49 x50 x51 x52 x53 x54 x55 x56 x57 x58 x59 x60 x61 x101 x102 x103 x104 x105 x106 x107 x108 x109 x110 x111 x112 x113 x114 x115 x116 x117 x118 x119 x120 x121 x122 x123 x124 x125 x126 x127 x128 x129 x130 x131 x132 x133 x134 x135 x136 t32 t33 (jf #[x0, x1, x2, x3, x4, x5, x6, x7, x8, x9, x10, x11, x12, x13, x14, x15, x16, t32, t33, x19, x20, x21, x22, x23, x24, x25, x26, x27, x28, x29, x30, x31, x32, x33, x34, x35, x36, x37, x38, x39, x40, x41, x42, x43, x44, x45, x46, x47, x48, x49, x50, x51, x52, x53, x54, x55, x56, x57, x58, x59, x60, x61, v18, x11, t1, t2, v18, t33, v17, v17, t3, t4, t5, t6, t7, t8, t9, t10, t11, t12, t13, t14, t15, t16, t17, t17, t18, t19, t20, t21, t22, t23, t24, t25, t26, t27, t28, t29, t30, t31, t32, x101, x102, x103, x104, x105, x106, x107, x108, x109, x110, x111, x112, x113, x114, x115, x116, x117, x118, x119, x120, x121, x122, x123, x124, x125, x126, x127, x128, x129, x130, x131, x132, x133, x134, x135, x136]))) (
    den Tryd.prog (sel (bodyOf Tryd.f12) [1, 1, 1, 1, 1, 1, 1, 0, 1, 0, 0, 1, 0, 0, 1, 1]) (blk 3 (thenD (den Tryd.prog (sel (bodyOf Tryd.f12) [1, 1, 1, 1, 1, 1, 1, 0, 1, 0, 0, 1, 1]) (thenD k1 (blk 2 (thenD (den Tryd.prog (sel (bodyOf Tryd.f12) [1, 1, 1, 1, 1, 1, 1, 1]) (bodyQ Tryd.prog Tryd.f12.results.toList K E)) (bodyQ Tryd.prog Tryd.f12.results.toList K E))))) (thenD k1 (blk 2 (thenD (den Tryd.prog (sel (bodyOf Tryd.f12) [1, 1, 1, 1, 1, 1, 1, 1]) (bodyQ Tryd.prog Tryd.f12.results.toList K E)) (bodyQ Tryd.prog Tryd.f12.results.toList K E)))))) #[x0, x1, x2, x3, x4, x5, x6, x7, x8, x9, x10, x11, x12, x13, x14, x15, x16, v17, v18, x19, x20, x21, x22, x23, x24, x25, x26, x27, x28, x29, x30, x31, x32, x33, x34, x35, x36, x37, x38, x39, x40, x41, x42, x43, x44, x45, x46, x47, x48, x49, x50, x51, x52, x53, x54, x55, x56, x57, x58, x59, x60, x61, v18, x11, t1, t2, (j 66), (j 67), (j 68), (j 69), (j 70), (j 71), (j 72), (j 73), (j 74), (j 75), (j 76), (j 77), (j 78), (j 79), (j 80), (j 81), (j 82), (j 83), (j 84), (j 85), (j 86), (j 87), (j 88), (j 89), (j 90), (j 91), (j 92), (j 93), (j 94), (j 95), (j 96), (j 97), (j 98), (j 99), (j 100), x101, x102, x103, x104, x105, x106, x107, x108, x109, x110, x111, x112, x113, x114, x115, x116, x117, x118, x119, x120, x121, x122, x123, x124, x125, x126, x127, x128, x129, x130, x131, x132, x133, x134, x135, x136]) := by kernel_rfl
theorem t12_1_1_1_1_1_1_1_0_1_0_0_1_0_0_1_1 (K : Kont) (E : PanK) (k1 : Env → Hp → Prop) (x0 x1 x2 x3 x4 x5 x6 x7 x8 x9 x10 x11 x12 x13 x14 x15 x16 x17 x18 x19 x20 x21 x22 x23 x24 x25 x26 x27 x28 x29 x30 x31 x32 x33 x34 x35 x36 x37 x38 x39 x40 x41 x42 x43 x44 x45 x46 x47 x48 x49 x50 x51 x52 x53 x54 x55 x56 x57 x58 x59 x60 x61 x62 x63 x64 x65 x66 x67 x68 x69 x70 x71 x72 x73 x74 x75 x76 x77 x78 x79 x80 x81 x82 x83 x84 x85 x86 x87 x88 x89 x90 x91 x92 x93 x94 x95 x96 x97 x98 x99 x100 x101 x102 x103 x104 x105 x106 x107 x108 x109 x110 x111 x112 x113 x114 x115 x116 x117 x118 x119 x120 x121 x122 x123 x124 x125 x126 x127 x128 x129 x130 x131 x132 x133 x134 x135 x136 : Value)  : den Tryd.prog (sel (bodyOf Tryd.f12) [1, 1, 1, 1, 1, 1, 1, 0, 1, 0, 0, 1, 0, 0, 1, 1]) (blk 3 (thenD (den Tryd.prog (sel (bodyOf Tryd.f12) [1, 1, 1, 1, 1, 1, 1, 0, 1, 0, 0, 1, 1]) (thenD k1 (blk 2 (thenD (den Tryd.prog (sel (bodyOf Tryd.f12) [1, 1, 1, 1, 1, 1, 1, 1]) (bodyQ Tryd.prog Tryd.f12.results.toList K E)) (bodyQ Tryd.prog Tryd.f12.results.toList K E))))) (thenD k1 (blk 2 (thenD (den Tryd.prog (sel (bodyOf Tryd.f12) [1, 1, 1, 1, 1, 1, 1, 1]) (bodyQ Tryd.prog Tryd.f12.results.toList K E)) (bodyQ Tryd.prog Tryd.f12.results.toList K E)))))) #[x0, x1, x2, x3, x4, x5, x6, x7, x8, x9, x10, x11, x12, x13, x14, x15, x16, x17, x18, x19, x20, x21, x22, x23, x24, x25, x26, x27, x28, x29, x30, x31, x32, x33, x34, x35, x36, x37, x38, x39, x40, x41, x42, x43, x44, x45, x46, x47, x48, x49, x50, x51, x52, x53, x54, x55, x56, x57, x58, x59, x60, x61, x62, x63, x64, x65, x66, x67, x68, x69, x70, x71, x72, x73, x74, x75, x76, x77, x78, x79, x80, x81, x82, x83, x84, x85, x86, x87, x88, x89, x90, x91, x92, x93, x94, x95, x96, x97, x98, x99, x100, x101, x102, x103, x104, x105, x106, x107, x108, x109, x110, x111, x112, x113, x114, x115, x116, x117, x118, x119, x120, x121, x122, x123, x124, x125, x126, x127, x128, x129, x130, x131, x132, x133, x134, x135, x136] =
  cnd x17 (
    pv (binV .none .add x15 (.int .i64 1)) fun t1 =>
    den Tryd.prog (sel (bodyOf Tryd.f12) [1, 1, 1, 1, 1, 1, 1, 0, 1, 0, 0, 1, 1]) (thenD k1 (blk 2 (thenD (den Tryd.prog (sel (bodyOf Tryd.f12) [1, 1, 1, 1, 1, 1, 1, 1]) (bodyQ Tryd.prog Tryd.f12.results.toList K E)) (bodyQ Tryd.prog Tryd.f12.results.toList K E)))) #[x0, x1, x2, x3, x4, x5, x6, x7, x8, x9, x10, x11, x12, x13, x14, t1, x16, x17, x18, x19, x20, x21, x22, x23, x24, x25, x26, x27, x28, x29, x30, x31, x32, x33, x34, x35, x36, x37, x38, x39, x40, x41, x42, x43, x44, x45, x46, x47, x48, x49, x50, x51, x52, x53, x54, x55, x56, x57, x58, x59, x60, x61, x62, x63, x64, x65, x66, x67, x68, x69, x70, x71, x72, x73, x74, x75, x76, x77, x78, x79, x80, x81, x82, x83, x84, x85, x86, x87, x88, x89, x90, x91, x92, x93, x94, x95, x96, x97, x98, x99, x100, x17, x15, t1, x104, x105, x106, x107, x108, x109, x110, x111, x112, x113, x114, x115, x116, x117, x118, x119, x120, x121, x122, x123, x124, x125, x126, x127, x128, x129, x130, x131, x132, x133, x134, x135, x136]) (
    den Tryd.prog (sel (bodyOf Tryd.f12) [1, 1, 1, 1, 1, 1, 1, 0, 1, 0, 0, 1, 1]) (thenD k1 (blk 2 (thenD (den Tryd.prog (sel (bodyOf Tryd.f12) [1, 1, 1, 1, 1, 1, 1, 1]) (bodyQ Tryd.prog Tryd.f12.results.toList K E)) (bodyQ Tryd.prog Tryd.f12.results.toList K E)))) #[x0, x1, x2, x3, x4, x5, x6, x7, x8, x9, x10, x11, x12, x13, x14, x15, x16, x17, x18, x19, x20, x21, x22, x23, x24, x25, x26, x27, x28, x29, x30, x31, x32, x33, x34, x35, x36, x37, x38, x39, x40, x41, x42, x43, x44, x45, x46, x47, x48, x49, x50, x51, x52, x53, x54, x55, x56, x57, x58, x59, x60, x61, x62, x63, x64, x65, x66, x67, x68, x69, x70, x71, x72, x73, x74, x75, x76, x77, x78, x79, x80, x81, x82, x83, x84, x85, x86, x87, x88, x89, x90, x91, x92, x93, x94, x95, x96, x97, x98, x99, x100, x17, x102, x103, x104, x105, x106, x107, x108, x109, x110, x111, x112, x113, x114, x115, x116, x117, x118, x119, x120, x121, x122, x123, x124, x125, x126, x127, x128, x129, x130, x131, x132, x133, x134, x135, x136]) := by kernel_rfl
theorem t12_1_1_1_1_1_1_1_0_1_0_0_1_1 (K : Kont) (E : PanK) (k1 : Env → Hp → Prop) (x0 x1 x2 x3 x4 x5 x6 x7 x8 x9 x10 x11 x12 x13 x14 x15 x16 x17 x18 x19 x20 x21 x22 x23 x24 x25 x26 x27 x28 x29 x30 x31 x32 x33 x34 x35 x36 x37 x38 x39 x40 x41 x42 x43 x44 x45 x46 x47 x48 x49 x50 x51 x52 x53 x54 x55 x56 x57 x58 x59 x60 x61 x62 x63 x64 x65 x66 x67 x68 x69 x70 x71 x72 x73 x74 x75 x76 x77 x78 x79 x80 x81 x82 x83 x84 x85 x86 x87 x88 x89 x90 x91 x92 x93 x94 x95 x96 x97 x98 x99 x100 x101 x102 x103 x104 x105 x106 x107 x108 x109 x110 x111 x112 x113 x114 x115 x116 x117 x118 x119 x120 x121 x122 x123 x124 x125 x126 x127 x128 x129 x130 x131 x132 x133 x134 x135 x136 : Value)  : den Tryd.prog (sel (bodyOf Tryd.f12) [1, 1, 1, 1, 1, 1, 1, 0, 1, 0, 0, 1, 1]) (thenD k1 (blk 2 (thenD (den Tryd.prog (sel (bodyOf Tryd.f12) [1, 1, 1, 1, 1, 1, 1, 1]) (bodyQ Tryd.prog Tryd.f12.results.toList K E)) (bodyQ Tryd.prog Tryd.f12.results.toList K E)))) #[x0, x1, x2, x3, x4, x5, x6, x7, x8, x9, x10, x11, x12, x13, x14, x15, x16, x17, x18, x19, x20, x21, x22, x23, x24, x25, x26, x27, x28, x29, x30, x31, x32, x33, x34, x35, x36, x37, x38, x39, x40, x41, x42, x43, x44, x45, x46, x47, x48, x49, x50, x51, x52, x53, x54, x55, x56, x57, x58, x59, x60, x61, x62, x63, x64, x65, x66, x67, x68, x69, x70, x71, x72, x73, x74, x75, x76, x77, x78, x79, x80, x81, x82, x83, x84, x85, x86, x87, x88, x89, x90, x91, x92, x93, x94, x95, x96, x97, x98, x99, x100, x101, x102, x103, x104, x105, x106, x107, x108, x109, x110, x111, x112, x113, x114, x115, x116, x117, x118, x119, x120, x121, x122, x123, x124, x125, x126, x127, x128, x129, x130, x131, x132, x133, x134, x135, x136] =
  pv (binV .none .add x16 (.int .i64 1)) fun t1 =>
  k1 (m12_1_1_1_1_1_1_1_0_1_0_0 x0 x1 x2 x3 x4 x5 x6 x7 x8 x9 x10 x11 x12 x13 x14 x19 x20 x21 x22 x23 x24 x25 x26 x27 x28 x29 x30 x31 x32 x33 x34 x35 x36 x37 x38 x39 x40 x41 x42 x43 x44 x45 x46 x47 x48 x49 x50 x51 x52 x53 x54 x55 x104 x105 x106 x107 x108 x109 x110 x111 x112 x113 x114 x115 x116 x117 x118 x119 x120 x121 x122 x123 x124 x125 x126 x127 x128 x129 x130 x131 x132 x133 x134 x135 x136 x15 t1 (jf #[x0, x1, x2, x3, x4, x5, x6, x7, x8, x9, x10, x11, x12, x13, x14, x15, t1, x17, x18, x19, x20, x21, x22, x23, x24, x25, x26, x27, x28, x29, x30, x31, x32, x33, x34, x35, x36, x37, x38, x39, x40, x41, x42, x43, x44, x45, x46, x47, x48, x49, x50, x51, x52, x53, x54, x55, x56, x57, x58, x59, x16, t1, x62, x63, x64, x65, x66, x67, x68, x69, x70, x71, x72, x73, x74, x75, x76, x77, x78, x79, x80, x81, x82, x83, x84, x85, x86, x87, x88, x89, x90, x91, x92, x93, x94, x95, x96, x97, x98, x99, x100, x101, x102, x103, x104, x105, x106, x107, x108, x109, x110, x111, x112, x113, x114, x115, x116, x117, x118, x119, x120, x121, x122, x123, x124, x125, x126, x127, x128, x129, x130, x131, x132, x133, x134, x135, x136])) := by kernel_rfl
theorem l12_1_1_1_1_1_0_1_0_0 {K : Kont} {E : PanK} {σ : Type} {x0 x1 x2 x3 x4 x5 x6 x7 x8 x9 x10 x11 x12 x13 x15 x16 x17 x18 x19 x20 x21 x22 x23 x24 x25 x26 x27 x28 x29 x30 x31 x32 x33 x34 x35 x36 x37 x38 x56 x57 x58 x59 x60 x61 x62 x63 x64 x65 x66 x67 x68 x69 x70 x71 x72 x73 x74 x75 x76 x77 x78 x79 x80 x81 x82 x83 x84 x85 x86 x87 x88 x89 x90 x91 x92 x93 x94 x95 x96 x97 x98 x99 x100 x101 x102 x103 x104 x105 x106 x107 x108 x109 x110 x111 x112 x113 x114 x115 x116 x117 x118 x119 x120 x121 x122 x123 x124 x125 x126 x127 x128 x129 x130 x131 x132 x133 x134 x135 x136 v14 y39 y40 y41 y42 y43 y44 y45 y46 y47 y48 y49 y50 y51 y52 y53 y54 y55 : Value} {h : Hp} (f14 : σ → Value) (I : σ → Hp → Prop) (μ : σ → Nat) (s0 : σ) (e14 : v14 = f14 s0) (h0 : h.wf → ∃ h', h.wk h' ∧ I s0 h')
  (round : ∀ (k1 : Env → Hp → Prop) (s : σ) (j : Nat → Value) (h : Hp), I s h → h.wf → (∀ s' j' h', μ s' < μ s → (h'.wf → ∃ h'', h'.wk h'' ∧ I s' h'') → k1 (m12_1_1_1_1_1_0_1_0_0 x0 x1 x2 x3 x4 x5 x6 x7 x8 x9 x10 x11 x12 x13 x15 x16 x17 x18 x19 x20 x21 x22 x23 x24 x25 x26 x27 x28 x29 x30 x31 x32 x33 x34 x35 x36 x37 x38 x56 x57 x58 x59 x60 x61 x62 x63 x64 x65 x66 x67 x68 x69 x70 x71 x72 x73 x74 x75 x76 x77 x78 x79 x80 x81 x82 x83 x84 x85 x86 x87 x88 x89 x90 x91 x92 x93 x94 x95 x96 x97 x98 x99 x100 x101 x102 x103 x104 x105 x106 x107 x108 x109 x110 x111 x112 x113 x114 x115 x116 x117 x118 x119 x120 x121 x122 x123 x124 x125 x126 x127 x128 x129 x130 x131 x132 x133 x134 x135 x136 (f14 s') j') h') → (
  pv (lenV x11) fun t1 =>
  pv (binV .none .lss (f14 s) t1) fun t2 =>
  cnd t2 (
    pv (faV 0 x13) fun t3 =>
    ld false 1 t3 fun t4 =>
    pv (iaV none 2 x11 (f14 s)) fun t5 =>
    pv (faV 1 t5) fun t6 =>
    ld false 1 t6 fun t7 =>
    pv (lenV t7) fun t8 =>
    pv (binV .none .add t8 (.int .i64 1)) fun t9 =>
    pv (iaV none 1 t4 (f14 s)) fun t10 =>
    st 1 t10 t9 fun _ =>
    pv (binV .none .add (f14 s) (.int .i64 1)) fun t11 =>
    k1 (m12_1_1_1_1_1_0_1_0_0 x0 x1 x2 x3 x4 x5 x6 x7 x8 x9 x10 x11 x12 x13 x15 x16 x17 x18 x19 x20 x21 x22 x23 x24 x25 x26 x27 x28 x29 x30 x31 x32 x33 x34 x35 x36 x37 x38 x56 x57 x58 x59 x60 x61 x62 x63 x64 x65 x66 x67 x68 x69 x70 x71 x72 x73 x74 x75 x76 x77 x78 x79 x80 x81 x82 x83 x84 x85 x86 x87 x88 x89 x90 x91 x92 x93 x94 x95 x96 x97 x98 x99 x100 x101 x102 x103 x104 x105 x106 x107 x108 x109 x110 x111 x112 x113 x114 x115 x116 x117 x118 x119 x120 x121 x122 x123 x124 x125 x126 x127 x128 x129 x130 x131 x132 x133 x134 x135 x136 t11 (jf #[x0, x1, x2, x3, x4, x5, x6, x7, x8, x9, x10, x11, x12, x13, t11, x15, x16, x17, x18, x19, x20, x21, x22, x23, x24, x25, x26, x27, x28, x29, x30, x31, x32, x33, x34, x35, x36, x37, x38, (f14 s), x11, t1, t2, (f14 s), t11, t3, t4, (f14 s), x11, (f14 s), t5, t6, t7, t8, t9, t10, x56, x57, x58, x59, x60, x61, x62, x63, x64, x65, x66, x67, x68, x69, x70, x71, x72, x73, x74, x75, x76, x77, x78, x79, x80, x81, x82, x83, x84, x85, x86, x87, x88, x89, x90, x91, x92, x93, x94, x95, x96, x97, x98, x99, x100, x101, x102, x103, x104, x105, x106, x107, x108, x109, x110, x111, x112, x113, x114, x115, x116, x117, x118, x119, x120, x121, x122, x123, x124, x125, x126, x127, x128, x129, x130, x131, x132, x133, x134, x135, x136]))) (
    den Tryd.prog (sel (bodyOf Tryd.f12) [1, 1, 1, 1, 1, 1]) (bodyQ Tryd.prog Tryd.f12.results.toList K E) #[x0, x1, x2, x3, x4, x5, x6, x7, x8, x9, x10, x11, x12, x13, (f14 s), x15, x16, x17, x18, x19, x20, x21, x22, x23, x24, x25, x26, x27, x28, x29, x30, x31, x32, x33, x34, x35, x36, x37, x38, (f14 s), x11, t1, t2, (j 43), (j 44), (j 45), (j 46), (j 47), (j 48), (j 49), (j 50), (j 51), (j 52), (j 53), (j 54), (j 55), x56, x57, x58, x59, x60, x61, x62, x63, x64, x65, x66, x67, x68, x69, x70, x71, x72, x73, x74, x75, x76, x77, x78, x79, x80, x81, x82, x83, x84, x85, x86, x87, x88, x89, x90, x91, x92, x93, x94, x95, x96, x97, x98, x99, x100, x101, x102, x103, x104, x105, x106, x107, x108, x109, x110, x111, x112, x113, x114, x115, x116, x117, x118, x119, x120, x121, x122, x123, x124, x125, x126, x127, x128, x129, x130, x131, x132, x133, x134, x135, x136])) h) :
  lp (fun k1 => den Tryd.prog (sel (bodyOf Tryd.f12) [1, 1, 1, 1, 1, 0, 1, 0, 0]) (thenD k1 (blk 0 (thenD (den Tryd.prog (sel (bodyOf Tryd.f12) [1, 1, 1, 1, 1, 1]) (bodyQ Tryd.prog Tryd.f12.results.toList K E)) (bodyQ Tryd.prog Tryd.f12.results.toList K E))))) #[x0, x1, x2, x3, x4, x5, x6, x7, x8, x9, x10, x11, x12, x13, v14, x15, x16, x17, x18, x19, x20, x21, x22, x23, x24, x25, x26, x27, x28, x29, x30, x31, x32, x33, x34, x35, x36, x37, x38, y39, y40, y41, y42, y43, y44, y45, y46, y47, y48, y49, y50, y51, y52, y53, y54, y55, x56, x57, x58, x59, x60, x61, x62, x63, x64, x65, x66, x67, x68, x69, x70, x71, x72, x73, x74, x75, x76, x77, x78, x79, x80, x81, x82, x83, x84, x85, x86, x87, x88, x89, x90, x91, x92, x93, x94, x95, x96, x97, x98, x99, x100, x101, x102, x103, x104, x105, x106, x107, x108, x109, x110, x111, x112, x113, x114, x115, x116, x117, x118, x119, x120, x121, x122, x123, x124, x125, x126, x127, x128, x129, x130, x131, x132, x133, x134, x135, x136] h := by
  subst e14
  have e : (#[x0, x1, x2, x3, x4, x5, x6, x7, x8, x9, x10, x11, x12, x13, (f14 s0), x15, x16, x17, x18, x19, x20, x21, x22, x23, x24, x25, x26, x27, x28, x29, x30, x31, x32, x33, x34, x35, x36, x37, x38, y39, y40, y41, y42, y43, y44, y45, y46, y47, y48, y49, y50, y51, y52, y53, y54, y55, x56, x57, x58, x59, x60, x61, x62, x63, x64, x65, x66, x67, x68, x69, x70, x71, x72, x73, x74, x75, x76, x77, x78, x79, x80, x81, x82, x83, x84, x85, x86, x87, x88, x89, x90, x91, x92, x93, x94, x95, x96, x97, x98, x99, x100, x101, x102, x103, x104, x105, x106, x107, x108, x109, x110, x111, x112, x113, x114, x115, x116, x117, x118, x119, x120, x121, x122, x123, x124, x125, x126, x127, x128, x129, x130, x131, x132, x133, x134, x135, x136] : Env) = m12_1_1_1_1_1_0_1_0_0 x0 x1 x2 x3 x4 x5 x6 x7 x8 x9 x10 x11 x12 x13 x15 x16 x17 x18 x19 x20 x21 x22 x23 x24 x25 x26 x27 x28 x29 x30 x31 x32 x33 x34 x35 x36 x37 x38 x56 x57 x58 x59 x60 x61 x62 x63 x64 x65 x66 x67 x68 x69 x70 x71 x72 x73 x74 x75 x76 x77 x78 x79 x80 x81 x82 x83 x84 x85 x86 x87 x88 x89 x90 x91 x92 x93 x94 x95 x96 x97 x98 x99 x100 x101 x102 x103 x104 x105 x106 x107 x108 x109 x110 x111 x112 x113 x114 x115 x116 x117 x118 x119 x120 x121 x122 x123 x124 x125 x126 x127 x128 x129 x130 x131 x132 x133 x134 x135 x136 (f14 s0) (jf #[x0, x1, x2, x3, x4, x5, x6, x7, x8, x9, x10, x11, x12, x13, (f14 s0), x15, x16, x17, x18, x19, x20, x21, x22, x23, x24, x25, x26, x27, x28, x29, x30, x31, x32, x33, x34, x35, x36, x37, x38, y39, y40, y41, y42, y43, y44, y45, y46, y47, y48, y49, y50, y51, y52, y53, y54, y55, x56, x57, x58, x59, x60, x61, x62, x63, x64, x65, x66, x67, x68, x69, x70, x71, x72, x73, x74, x75, x76, x77, x78, x79, x80, x81, x82, x83, x84, x85, x86, x87, x88, x89, x90, x91, x92, x93, x94, x95, x96, x97, x98, x99, x100, x101, x102, x103, x104, x105, x106, x107, x108, x109, x110, x111, x112, x113, x114, x115, x116, x117, x118, x119, x120, x121, x122, x123, x124, x125, x126, x127, x128, x129, x130, x131, x132, x133, x134, x135, x136]) := by kernel_rfl
  rw [e]
  exact loop_r (fun s j => m12_1_1_1_1_1_0_1_0_0 x0 x1 x2 x3 x4 x5 x6 x7 x8 x9 x10 x11 x12 x13 x15 x16 x17 x18 x19 x20 x21 x22 x23 x24 x25 x26 x27 x28 x29 x30 x31 x32 x33 x34 x35 x36 x37 x38 x56 x57 x58 x59 x60 x61 x62 x63 x64 x65 x66 x67 x68 x69 x70 x71 x72 x73 x74 x75 x76 x77 x78 x79 x80 x81 x82 x83 x84 x85 x86 x87 x88 x89 x90 x91 x92 x93 x94 x95 x96 x97 x98 x99 x100 x101 x102 x103 x104 x105 x106 x107 x108 x109 x110 x111 x112 x113 x114 x115 x116 x117 x118 x119 x120 x121 x122 x123 x124 x125 x126 x127 x128 x129 x130 x131 x132 x133 x134 x135 x136 (f14 s) j) I μ (fun k s j h hI hw next => by rw [t12_1_1_1_1_1_0_1_0_0]; exact round k s j h hI hw next) s0 (jf #[x0, x1, x2, x3, x4, x5, x6, x7, x8, x9, x10, x11, x12, x13, (f14 s0), x15, x16, x17, x18, x19, x20, x21, x22, x23, x24, x25, x26, x27, x28, x29, x30, x31, x32, x33, x34, x35, x36, x37, x38, y39, y40, y41, y42, y43, y44, y45, y46, y47, y48, y49, y50, y51, y52, y53, y54, y55, x56, x57, x58, x59, x60, x61, x62, x63, x64, x65, x66, x67, x68, x69, x70, x71, x72, x73, x74, x75, x76, x77, x78, x79, x80, x81, x82, x83, x84, x85, x86, x87, x88, x89, x90, x91, x92, x93, x94, x95, x96, x97, x98, x99, x100, x101, x102, x103, x104, x105, x106, x107, x108, x109, x110, x111, x112, x113, x114, x115, x116, x117, x118, x119, x120, x121, x122, x123, x124, x125, x126, x127, x128, x129, x130, x131, x132, x133, x134, x135, x136]) h0
theorem l12_1_1_1_1_1_1_1_0_1_0_0 {K : Kont} {E : PanK} {σ : Type} {x0 x1 x2 x3 x4 x5 x6 x7 x8 x9 x10 x11 x12 x13 x14 x19 x20 x21 x22 x23 x24 x25 x26 x27 x28 x29 x30 x31 x32 x33 x34 x35 x36 x37 x38 x39 x40 x41 x42 x43 x44 x45 x46 x47 x48 x49 x50 x51 x52 x53 x54 x55 x104 x105 x106 x107 x108 x109 x110 x111 x112 x113 x114 x115 x116 x117 x118 x119 x120 x121 x122 x123 x124 x125 x126 x127 x128 x129 x130 x131 x132 x133 x134 x135 x136 v15 v16 y17 y18 y56 y57 y58 y59 y60 y61 y62 y63 y64 y65 y66 y67 y68 y69 y70 y71 y72 y73 y74 y75 y76 y77 y78 y79 y80 y81 y82 y83 y84 y85 y86 y87 y88 y89 y90 y91 y92 y93 y94 y95 y96 y97 y98 y99 y100 y101 y102 y103 : Value} {h : Hp} (f15 f16 : σ → Value) (I : σ → Hp → Prop) (μ : σ → Nat) (s0 : σ) (e15 : v15 = f15 s0) (e16 : v16 = f16 s0) (h0 : h.wf → ∃ h', h.wk h' ∧ I s0 h')
  (round : ∀ (k1 : Env → Hp → Prop) (s : σ) (j : Nat → Value) (h : Hp), I s h → h.wf → (∀ s' j' h', μ s' < μ s → (h'.wf → ∃ h'', h'.wk h'' ∧ I s' h'') → k1 (m12_1_1_1_1_1_1_1_0_1_0_0 x0 x1 x2 x3 x4 x5 x6 x7 x8 x9 x10 x11 x12 x13 x14 x19 x20 x21 x22 x23 x24 x25 x26 x27 x28 x29 x30 x31 x32 x33 x34 x35 x36 x37 x38 x39 x40 x41 x42 x43 x44 x45 x46 x47 x48 x49 x50 x51 x52 x53 x54 x55 x104 x105 x106 x107 x108 x109 x110 x111 x112 x113 x114 x115 x116 x117 x118 x119 x120 x121 x122 x123 x124 x125 x126 x127 x128 x129 x130 x131 x132 x133 x134 x135 x136 (f15 s') (f16 s') j') h') → (
  pv (lenV x12) fun t1 =>
  pv (binV .none .lss (f16 s) t1) fun t2 =>
  cnd t2 (
    lp (fun k2 => den Tryd.prog (sel (bodyOf Tryd.f12) [1, 1, 1, 1, 1, 1, 1, 0, 1, 0, 0, 1, 0, 0, 1, 0, 1, 0, 0]) (thenD k2 (blk 4 (thenD (den Tryd.prog (sel (bodyOf Tryd.f12) [1, 1, 1, 1, 1, 1, 1, 0, 1, 0, 0, 1, 0, 0, 1, 1]) (blk 3 (thenD (den Tryd.prog (sel (bodyOf Tryd.f12) [1, 1, 1, 1, 1, 1, 1, 0, 1, 0, 0, 1, 1]) (thenD k1 (blk 2 (thenD (den Tryd.prog (sel (bodyOf Tryd.f12) [1, 1, 1, 1, 1, 1, 1, 1]) (bodyQ Tryd.prog Tryd.f12.results.toList K E)) (bodyQ Tryd.prog Tryd.f12.results.toList K E))))) (thenD k1 (blk 2 (thenD (den Tryd.prog (sel (bodyOf Tryd.f12) [1, 1, 1, 1, 1, 1, 1, 1]) (bodyQ Tryd.prog Tryd.f12.results.toList K E)) (bodyQ Tryd.prog Tryd.f12.results.toList K E))))))) (blk 3 (thenD (den Tryd.prog (sel (bodyOf Tryd.f12) [1, 1, 1, 1, 1, 1, 1, 0, 1, 0, 0, 1, 1]) (thenD k1 (blk 2 (thenD (den Tryd.prog (sel (bodyOf Tryd.f12) [1, 1, 1, 1, 1, 1, 1, 1]) (bodyQ Tryd.prog Tryd.f12.results.toList K E)) (bodyQ Tryd.prog Tryd.f12.results.toList K E))))) (thenD k1 (blk 2 (thenD (den Tryd.prog (sel (bodyOf Tryd.f12) [1, 1, 1, 1, 1, 1, 1, 1]) (bodyQ Tryd.prog Tryd.f12.results.toList K E)) (bodyQ Tryd.prog Tryd.f12.results.toList K E)))))))))) #[x0, x1, x2, x3, x4, x5, x6, x7, x8, x9, x10, x11, x12, x13, x14, (f15 s), (f16 s), (.bool true), (.int .i64 0), x19, x20, x21, x22, x23, x24, x25, x26, x27, x28, x29, x30, x31, x32, x33, x34, x35, x36, x37, x38, x39, x40, x41, x42, x43, x44, x45, x46, x47, x48, x49, x50, x51, x52, x53, x54, x55, (f16 s), x12, t1, t2, (j 60), (j 61), (j 62), (j 63), (j 64), (j 65), (j 66), (j 67), (j 68), (j 69), (j 70), (j 71), (j 72), (j 73), (j 74), (j 75), (j 76), (j 77), (j 78), (j 79), (j 80), (j 81), (j 82), (j 83), (j 84), (j 85), (j 86), (j 87), (j 88), (j 89), (j 90), (j 91), (j 92), (j 93), (j 94), (j 95), (j 96), (j 97), (j 98), (j 99), (j 100), (j 101), (j 102), (j 103), x104, x105, x106, x107, x108, x109, x110, x111, x112, x113, x114, x115, x116, x117, x118, x119, x120, x121, x122, x123, x124, x125, x126, x127, x128, x129, x130, x131, x132, x133, x134, x135, x136]) (
    den Tryd.prog (sel (bodyOf Tryd.f12) [1, 1, 1, 1, 1, 1, 1, 1]) (bodyQ Tryd.prog Tryd.f12.results.toList K E) #[x0, x1, x2, x3, x4, x5, x6, x7, x8, x9, x10, x11, x12, x13, x14, (f15 s), (f16 s), (j 17), (j 18), x19, x20, x21, x22, x23, x24, x25, x26, x27, x28, x29, x30, x31, x32, x33, x34, x35, x36, x37, x38, x39, x40, x41, x42, x43, x44, x45, x46, x47, x48, x49, x50, x51, x52, x53, x54, x55, (f16 s), x12, t1, t2, (j 60), (j 61), (j 62), (j 63), (j 64), (j 65), (j 66), (j 67), (j 68), (j 69), (j 70), (j 71), (j 72), (j 73), (j 74), (j 75), (j 76), (j 77), (j 78), (j 79), (j 80), (j 81), (j 82), (j 83), (j 84), (j 85), (j 86), (j 87), (j 88), (j 89), (j 90), (j 91), (j 92), (j 93), (j 94), (j 95), (j 96), (j 97), (j 98), (j 99), (j 100), (j 101), (j 102), (j 103), x104, x105, x106, x107, x108, x109, x110, x111, x112, x113, x114, x115, x116, x117, x118, x119, x120, x121, x122, x123, x124, x125, x126, x127, x128, x129, x130, x131, x132, x133, x134, x135, x136])) h) :
  lp (fun k1 => den Tryd.prog (sel (bodyOf Tryd.f12) [1, 1, 1, 1, 1, 1, 1, 0, 1, 0, 0]) (thenD k1 (blk 2 (thenD (den Tryd.prog (sel (bodyOf Tryd.f12) [1, 1, 1, 1, 1, 1, 1, 1]) (bodyQ Tryd.prog Tryd.f12.results.toList K E)) (bodyQ Tryd.prog Tryd.f12.results.toList K E))))) #[x0, x1, x2, x3, x4, x5, x6, x7, x8, x9, x10, x11, x12, x13, x14, v15, v16, y17, y18, x19, x20, x21, x22, x23, x24, x25, x26, x27, x28, x29, x30, x31, x32, x33, x34, x35, x36, x37, x38, x39, x40, x41, x42, x43, x44, x45, x46, x47, x48, x49, x50, x51, x52, x53, x54, x55, y56, y57, y58, y59, y60, y61, y62, y63, y64, y65, y66, y67, y68, y69, y70, y71, y72, y73, y74, y75, y76, y77, y78, y79, y80, y81, y82, y83, y84, y85, y86, y87, y88, y89, y90, y91, y92, y93, y94, y95, y96, y97, y98, y99, y100, y101, y102, y103, x104, x105, x106, x107, x108, x109, x110, x111, x112, x113, x114, x115, x116, x117, x118, x119, x120, x121, x122, x123, x124, x125, x126, x127, x128, x129, x130, x131, x132, x133, x134, x135, x136] h := by
  subst e15
  subst e16
  have e : (#[x0, x1, x2, x3, x4, x5, x6, x7, x8, x9, x10, x11, x12, x13, x14, (f15 s0), (f16 s0), y17, y18, x19, x20, x21, x22, x23, x24, x25, x26, x27, x28, x29, x30, x31, x32, x33, x34, x35, x36, x37, x38, x39, x40, x41, x42, x43, x44, x45, x46, x47, x48, x49, x50, x51, x52, x53, x54, x55, y56, y57, y58, y59, y60, y61, y62, y63, y64, y65, y66, y67, y68, y69, y70, y71, y72, y73, y74, y75, y76, y77, y78, y79, y80, y81, y82, y83, y84, y85, y86, y87, y88, y89, y90, y91, y92, y93, y94, y95, y96, y97, y98, y99, y100, y101, y102, y103, x104, x105, x106, x107, x108, x109, x110, x111, x112, x113, x114, x115, x116, x117, x118, x119, x120, x121, x122, x123, x124, x125, x126, x127, x128, x129, x130, x131, x132, x133, x134, x135, x136] : Env) = m12_1_1_1_1_1_1_1_0_1_0_0 x0 x1 x2 x3 x4 x5 x6 x7 x8 x9 x10 x11 x12 x13 x14 x19 x20 x21 x22 x23 x24 x25 x26 x27 x28 x29 x30 x31 x32 x33 x34 x35 x36 x37 x38 x39 x40 x41 x42 x43 x44 x45 x46 x47 x48 x49 x50 x51 x52 x53 x54 x55 x104 x105 x106 x107 x108 x109 x110 x111 x112 x113 x114 x115 x116 x117 x118 x119 x120 x121 x122 x123 x124 x125 x126 x127 x128 x129 x130 x131 x132 x133 x134 x135 x136 (f15 s0) (f16 s0) (jf #[x0, x1, x2, x3, x4, x5, x6, x7, x8, x9, x10, x11, x12, x13, x14, (f15 s0), (f16 s0), y17, y18, x19, x20, x21, x22, x23, x24, x25, x26, x27, x28, x29, x30, x31, x32, x33, x34, x35, x36, x37, x38, x39, x40, x41, x42, x43, x44, x45, x46, x47, x48, x49, x50, x51, x52, x53, x54, x55, y56, y57, y58, y59, y60, y61, y62, y63, y64, y65, y66, y67, y68, y69, y70, y71, y72, y73, y74, y75, y76, y77, y78, y79, y80, y81, y82, y83, y84, y85, y86, y87, y88, y89, y90, y91, y92, y93, y94, y95, y96, y97, y98, y99, y100, y101, y102, y103, x104, x105, x106, x107, x108, x109, x110, x111, x112, x113, x114, x115, x116, x117, x118, x119, x120, x121, x122, x123, x124, x125, x126, x127, x128, x129, x130, x131, x132, x133, x134, x135, x136]) := by kernel_rfl
  rw [e]
  exact loop_r (fun s j => m12_1_1_1_1_1_1_1_0_1_0_0 x0 x1 x2 x3 x4 x5 x6 x7 x8 x9 x10 x11 x12 x13 x14 x19 x20 x21 x22 x23 x24 x25 x26 x27 x28 x29 x30 x31 x32 x33 x34 x35 x36 x37 x38 x39 x40 x41 x42 x43 x44 x45 x46 x47 x48 x49 x50 x51 x52 x53 x54 x55 x104 x105 x106 x107 x108 x109 x110 x111 x112 x113 x114 x115 x116 x117 x118 x119 x120 x121 x122 x123 x124 x125 x126 x127 x128 x129 x130 x131 x132 x133 x134 x135 x136 (f15 s) (f16 s) j) I μ (fun k s j h hI hw next => by rw [t12_1_1_1_1_1_1_1_0_1_0_0]; exact round k s j h hI hw next) s0 (jf #[x0, x1, x2, x3, x4, x5, x6, x7, x8, x9, x10, x11, x12, x13, x14, (f15 s0), (f16 s0), y17, y18, x19, x20, x21, x22, x23, x24, x25, x26, x27, x28, x29, x30, x31, x32, x33, x34, x35, x36, x37, x38, x39, x40, x41, x42, x43, x44, x45, x46, x47, x48, x49, x50, x51, x52, x53, x54, x55, y56, y57, y58, y59, y60, y61, y62, y63, y64, y65, y66, y67, y68, y69, y70, y71, y72, y73, y74, y75, y76, y77, y78, y79, y80, y81, y82, y83, y84, y85, y86, y87, y88, y89, y90, y91, y92, y93, y94, y95, y96, y97, y98, y99, y100, y101, y102, y103, x104, x105, x106, x107, x108, x109, x110, x111, x112, x113, x114, x115, x116, x117, x118, x119, x120, x121, x122, x123, x124, x125, x126, x127, x128, x129, x130, x131, x132, x133, x134, x135, x136]) h0
theorem l12_1_1_1_1_1_1_1_0_1_0_0_1_0_0_1_0_1_0_0 {K : Kont} {E : PanK} {k1 : Env → Hp → Prop} {σ : Type} {x0 x1 x2 x3 x4 x5 x6 x7 x8 x9 x10 x11 x12 x13 x14 x15 x16 x19 x20 x21 x22 x23 x24 x25 x26 x27 x28 x29 x30 x31 x32 x33 x34 x35 x36 x37 x38 x39 x40 x41 x42 x43 x44 x45 x46 x47 x48 x49 x50 x51 x52 x53 x54 x55 x56 x57 x58 x59 x60 x61 x101 x102 x103 x104 x105 x106 x107 x108 x109 x110 x111 x112 x113 x114 x115 x116 x117 x118 x119 x120 x121 x122 x123 x124 x125 x126 x127 x128 x129 x130 x131 x132 x133 x134 x135 x136 v17 v18 y62 y63 y64 y65 y66 y67 y68 y69 y70 y71 y72 y73 y74 y75 y76 y77 y78 y79 y80 y81 y82 y83 y84 y85 y86 y87 y88 y89 y90 y91 y92 y93 y94 y95 y96 y97 y98 y99 y100 : Value} {h : Hp} (f17 f18 : σ → Value) (I : σ → Hp → Prop) (μ : σ → Nat) (s0 : σ) (e17 : v17 = f17 s0) (e18 : v18 = f18 s0) (h0 : h.wf → ∃ h', h.wk h' ∧ I s0 h')
  (round : ∀ (k2 : Env → Hp → Prop) (s : σ) (j : Nat → Value) (h : Hp), I s h → h.wf → (∀ s' j' h', μ s' < μ s → (h'.wf → ∃ h'', h'.wk h'' ∧ I s' h'') → k2 (m12_1_1_1_1_1_1_1_0_1_0_0_1_0_0_1_0_1_0_0 x0 x1 x2 x3 x4 x5 x6 x7 x8 x9 x10 x11 x12 x13 x14 x15 x16 x19 x20 x21 x22 x23 x24 x25 x26 x27 x28 x29 x30 x31 x32 x33 x34 x35 x36 x37 x38 x39 x40 x41 x42 x43 x44 x45 x46 x47 x48 x49 x50 x51 x52 x53 x54 x55 x56 x57 x58 x59 x60 x61 x101 x102 x103 x104 x105 x106 x107 x108 x109 x110 x111 x112 x113 x114 x115 x116 x117 x118 x119 x120 x121 x122 x123 x124 x125 x126 x127 x128 x129 x130 x131 x132 x133 x134 x135 x136 (f17 s') (f18 s') j') h') → (
  pv (lenV x11) fun t1 =>
  pv (binV .none .lss (f18 s) t1) fun t2 =>
  cnd t2 (
    gdK (f17 s) true (fun k => k x12) fun t3 =>
    gdK (f17 s) true (fun k => k x16) fun t4 =>
    gdK (f17 s) true (fun k => pv (iaV none 2 t3 t4) k) fun t5 =>
    gdK (f17 s) true (fun k => pv (faV 0 t5) k) fun t6 =>
    gdK (f17 s) true (fun k => ld false 1 t6 k) fun t7 =>
    gdK (f17 s) true (fun k => k (f18 s)) fun t8 =>
    gdK (f17 s) true (fun k => pv (iaV none 1 t7 t8) k) fun t9 =>
    gdK (f17 s) true (fun k => ld false 1 t9 k) fun t10 =>
    gdK (f17 s) true (fun k => pv (faV 1 x13) k) fun t11 =>
    gdK (f17 s) true (fun k => ld false 1 t11 k) fun t12 =>
    gdK (f17 s) true (fun k => k (f18 s)) fun t13 =>
    gdK (f17 s) true (fun k => pv (iaV none 1 t12 t13) k) fun t14 =>
    gdK (f17 s) true (fun k => ld false 1 t14 k) fun t15 =>
    gdK (f17 s) true (fun k => pv (binV .none .geq t10 t15) k) fun t16 =>
    pv (pickV (f17 s) t16 (.bool false)) fun t17 =>
    gdK t17 true (fun k => k x12) fun t18 =>
    gdK t17 true (fun k => k x16) fun t19 =>
    gdK t17 true (fun k => pv (iaV none 2 t18 t19) k) fun t20 =>
    gdK t17 true (fun k => pv (faV 0 t20) k) fun t21 =>
    gdK t17 true (fun k => ld false 1 t21 k) fun t22 =>
    gdK t17 true (fun k => k (f18 s)) fun t23 =>
    gdK t17 true (fun k => pv (iaV none 1 t22 t23) k) fun t24 =>
    gdK t17 true (fun k => ld false 1 t24 k) fun t25 =>
    gdK t17 true (fun k => pv (faV 2 x13) k) fun t26 =>
    gdK t17 true (fun k => ld false 1 t26 k) fun t27 =>
    gdK t17 true (fun k => k (f18 s)) fun t28 =>
    gdK t17 true (fun k => pv (iaV none 1 t27 t28) k) fun t29 =>
    gdK t17 true (fun k => ld false 1 t29 k) fun t30 =>
    gdK t17 true (fun k => pv (binV .none .lss t25 t30) k) fun t31 =>
    pv (pickV t17 t31 (.bool false)) fun t32 =>
    pv (binV .none .add (f18 s) (.int .i64 1)) fun t33 =>
    k2 (m12_1_1_1_1_1_1_1_0_1_0_0_1_0_0_1_0_1_0_0 x0 x1 x2 x3 x4 x5 x6 x7 x8 x9 x10 x11 x12 x13 x14 x15 x16 x19 x20 x21 x22 x23 x24 x25 x26 x27 x28 x29 x30 x31 x32 x33 x34 x35 x36 x37 x38 x39 x40 x41 x42 x43 x44 x45 x46 x47 x48 x49 x50 x51 x52 x53 x54 x55 x56 x57 x58 x59 x60 x61 x101 x102 x103 x104 x105 x106 x107 x108 x109 x110 x111 x112 x113 x114 x115 x116 x117 x118 x119 x120 x121 x122 x123 x124 x125 x126 x127 x128 x129 x130 x131 x132 x133 x134 x135 x136 t32 t33 (jf #[x0, x1, x2, x3, x4, x5, x6, x7, x8, x9, x10, x11, x12, x13, x14, x15, x16, t32, t33, x19, x20, x21, x22, x23, x24, x25, x26, x27, x28, x29, x30, x31, x32, x33, x34, x35, x36, x37, x38, x39, x40, x41, x42, x43, x44, x45, x46, x47, x48, x49, x50, x51, x52, x53, x54, x55, x56, x57, x58, x59, x60, x61, (f18 s), x11, t1, t2, (f18 s), t33, (f17 s), (f17 s), t3, t4, t5, t6, t7, t8, t9, t10, t11, t12, t13, t14, t15, t16, t17, t17, t18, t19, t20, t21, t22, t23, t24, t25, t26, t27, t28, t29, t30, t31, t32, x101, x102, x103, x104, x105, x106, x107, x108, x109, x110, x111, x112, x113, x114, x115, x116, x117, x118, x119, x120, x121, x122, x123, x124, x125, x126, x127, x128, x129, x130, x131, x132, x133, x134, x135, x136]))) (
    den Tryd.prog (sel (bodyOf Tryd.f12) [1, 1, 1, 1, 1, 1, 1, 0, 1, 0, 0, 1, 0, 0, 1, 1]) (blk 3 (thenD (den Tryd.prog (sel (bodyOf Tryd.f12) [1, 1, 1, 1, 1, 1, 1, 0, 1, 0, 0, 1, 1]) (thenD k1 (blk 2 (thenD (den Tryd.prog (sel (bodyOf Tryd.f12) [1, 1, 1, 1, 1, 1, 1, 1]) (bodyQ Tryd.prog Tryd.f12.results.toList K E)) (bodyQ Tryd.prog Tryd.f12.results.toList K E))))) (thenD k1 (blk 2 (thenD (den Tryd.prog (sel (bodyOf Tryd.f12) [1, 1, 1, 1, 1, 1, 1, 1]) (bodyQ Tryd.prog Tryd.f12.results.toList K E)) (bodyQ Tryd.prog Tryd.f12.results.toList K E)))))) #[x0, x1, x2, x3, x4, x5, x6, x7, x8, x9, x10, x11, x12, x13, x14, x15, x16, (f17 s), (f18 s), x19, x20, x21, x22, x23, x24, x25, x26, x27, x28, x29, x30, x31, x32, x33, x34, x35, x36, x37, x38, x39, x40, x41, x42, x43, x44, x45, x46, x47, x48, x49, x50, x51, x52, x53, x54, x55, x56, x57, x58, x59, x60, x61, (f18 s), x11, t1, t2, (j 66), (j 67), (j 68), (j 69), (j 70), (j 71), (j 72), (j 73), (j 74), (j 75), (j 76), (j 77), (j 78), (j 79), (j 80), (j 81), (j 82), (j 83), (j 84), (j 85), (j 86), (j 87), (j 88), (j 89), (j 90), (j 91), (j 92), (j 93), (j 94), (j 95), (j 96), (j 97), (j 98), (j 99), (j 100), x101, x102, x103, x104, x105, x106, x107, x108, x109, x110, x111, x112, x113, x114, x115, x116, x117, x118, x119, x120, x121, x122, x123, x124, x125, x126, x127, x128, x129, x130, x131, x132, x133, x134, x135, x136])) h) :
  lp (fun k2 => den Tryd.prog (sel (bodyOf Tryd.f12) [1, 1, 1, 1, 1, 1, 1, 0, 1, 0, 0, 1, 0, 0, 1, 0, 1, 0, 0]) (thenD k2 (blk 4 (thenD (den Tryd.prog (sel (bodyOf Tryd.f12) [1, 1, 1, 1, 1, 1, 1, 0, 1, 0, 0, 1, 0, 0, 1, 1]) (blk 3 (thenD (den Tryd.prog (sel (bodyOf Tryd.f12) [1, 1, 1, 1, 1, 1, 1, 0, 1, 0, 0, 1, 1]) (thenD k1 (blk 2 (thenD (den Tryd.prog (sel (bodyOf Tryd.f12) [1, 1, 1, 1, 1, 1, 1, 1]) (bodyQ Tryd.prog Tryd.f12.results.toList K E)) (bodyQ Tryd.prog Tryd.f12.results.toList K E))))) (thenD k1 (blk 2 (thenD (den Tryd.prog (sel (bodyOf Tryd.f12) [1, 1, 1, 1, 1, 1, 1, 1]) (bodyQ Tryd.prog Tryd.f12.results.toList K E)) (bodyQ Tryd.prog Tryd.f12.results.toList K E))))))) (blk 3 (thenD (den Tryd.prog (sel (bodyOf Tryd.f12) [1, 1, 1, 1, 1, 1, 1, 0, 1, 0, 0, 1, 1]) (thenD k1 (blk 2 (thenD (den Tryd.prog (sel (bodyOf Tryd.f12) [1, 1, 1, 1, 1, 1, 1, 1]) (bodyQ Tryd.prog Tryd.f12.results.toList K E)) (bodyQ Tryd.prog Tryd.f12.results.toList K E))))) (thenD k1 (blk 2 (thenD (den Tryd.prog (sel (bodyOf Tryd.f12) [1, 1, 1, 1, 1, 1, 1, 1]) (bodyQ Tryd.prog Tryd.f12.results.toList K E)) (bodyQ Tryd.prog Tryd.f12.results.toList K E)))))))))) #[x0, x1, x2, x3, x4, x5, x6, x7, x8, x9, x10, x11, x12, x13, x14, x15, x16, v17, v18, x19, x20, x21, x22, x23, x24, x25, x26, x27, x28, x29, x30, x31, x32, x33, x34, x35, x36, x37, x38, x39, x40, x41, x42, x43, x44, x45, x46, x47, x48, x49, x50, x51, x52, x53, x54, x55, x56, x57, x58, x59, x60, x61, y62, y63, y64, y65, y66, y67, y68, y69, y70, y71, y72, y73, y74, y75, y76, y77, y78, y79, y80, y81, y82, y83, y84, y85, y86, y87, y88, y89, y90, y91, y92, y93, y94, y95, y96, y97, y98, y99, y100, x101, x102, x103, x104, x105, x106, x107, x108, x109, x110, x111, x112, x113, x114, x115, x116, x117, x118, x119, x120, x121, x122, x123, x124, x125, x126, x127, x128, x129, x130, x131, x132, x133, x134, x135, x136] h := by
  subst e17
  subst e18
  have e : (#[x0, x1, x2, x3, x4, x5, x6, x7, x8, x9, x10, x11, x12, x13, x14, x15, x16, (f17 s0), (f18 s0), x19, x20, x21, x22, x23, x24, x25, x26, x27, x28, x29, x30, x31, x32, x33, x34, x35, x36, x37, x38, x39, x40, x41, x42, x43, x44, x45, x46, x47, x48, x49, x50, x51, x52, x53, x54, x55, x56, x57, x58, x59, x60, x61, y62, y63, y64, y65, y66, y67, y68, y69, y70, y71, y72, y73, y74, y75, y76, y77, y78, y79, y80, y81, y82, y83, y84, y85, y86, y87, y88, y89, y90, y91, y92, y93, y94, y95, y96, y97, y98, y99, y100, x101, x102, x103, x104, x105, x106, x107, x108, x109, x110, x111, x112, x113, x114, x115, x116, x117, x118, x119, x120, x121, x122, x123, x124, x125, x126, x127, x128, x129, x130, x131, x132, x133, x134, x135, x136] : Env) = m12_1_1_1_1_1_1_1_0_1_0_0_1_0_0_1_0_1_0_0 x0 x1 x2 x3 x4 x5 x6 x7 x8 x9 x10 x11 x12 x13 x14 x15 x16 x19 x20 x21 x22 x23 x24 x25 x26 x27 x28 x29 x30 x31 x32 x33 x34 x35 x36 x37 x38 x39 x40 x41 x42 x43 x44 x45 x46 x47 x48 x49 x50 x51 x52 x53 x54 x55 x56 x57 x58 x59 x60 x61 x101 x102 x103 x104 x105 x106 x107 x108 x109 x110 x111 x112 x113 x114 x115 x116 x117 x118 x119 x120 x121 x122 x123 x124 x125 x126 x127 x128 x129 x130 x131 x132 x133 x134 x135 x136 (f17 s0) (f18 s0) (jf #[x0, x1, x2, x3, x4, x5, x6, x7, x8, x9, x10, x11, x12, x13, x14, x15, x16, (f17 s0), (f18 s0), x19, x20, x21, x22, x23, x24, x25, x26, x27, x28, x29, x30, x31, x32, x33, x34, x35, x36, x37, x38, x39, x40, x41, x42, x43, x44, x45, x46, x47, x48, x49, x50, x51, x52, x53, x54, x55, x56, x57, x58, x59, x60, x61, y62, y63, y64, y65, y66, y67, y68, y69, y70, y71, y72, y73, y74, y75, y76, y77, y78, y79, y80, y81, y82, y83, y84, y85, y86, y87, y88, y89, y90, y91, y92, y93, y94, y95, y96, y97, y98, y99, y100, x101, x102, x103, x104, x105, x106, x107, x108, x109, x110, x111, x112, x113, x114, x115, x116, x117, x118, x119, x120, x121, x122, x123, x124, x125, x126, x127, x128, x129, x130, x131, x132, x133, x134, x135, x136]) := by kernel_rfl
  rw [e]
  exact loop_r (fun s j => m12_1_1_1_1_1_1_1_0_1_0_0_1_0_0_1_0_1_0_0 x0 x1 x2 x3 x4 x5 x6 x7 x8 x9 x10 x11 x12 x13 x14 x15 x16 x19 x20 x21 x22 x23 x24 x25 x26 x27 x28 x29 x30 x31 x32 x33 x34 x35 x36 x37 x38 x39 x40 x41 x42 x43 x44 x45 x46 x47 x48 x49 x50 x51 x52 x53 x54 x55 x56 x57 x58 x59 x60 x61 x101 x102 x103 x104 x105 x106 x107 x108 x109 x110 x111 x112 x113 x114 x115 x116 x117 x118 x119 x120 x121 x122 x123 x124 x125 x126 x127 x128 x129 x130 x131 x132 x133 x134 x135 x136 (f17 s) (f18 s) j) I μ (fun k s j h hI hw next => by rw [t12_1_1_1_1_1_1_1_0_1_0_0_1_0_0_1_0_1_0_0]; exact round k s j h hI hw next) s0 (jf #[x0, x1, x2, x3, x4, x5, x6, x7, x8, x9, x10, x11, x12, x13, x14, x15, x16, (f17 s0), (f18 s0), x19, x20, x21, x22, x23, x24, x25, x26, x27, x28, x29, x30, x31, x32, x33, x34, x35, x36, x37, x38, x39, x40, x41, x42, x43, x44, x45, x46, x47, x48, x49, x50, x51, x52, x53, x54, x55, x56, x57, x58, x59, x60, x61, y62, y63, y64, y65, y66, y67, y68, y69, y70, y71, y72, y73, y74, y75, y76, y77, y78, y79, y80, y81, y82, y83, y84, y85, y86, y87, y88, y89, y90, y91, y92, y93, y94, y95, y96, y97, y98, y99, y100, x101, x102, x103, x104, x105, x106, x107, x108, x109, x110, x111, x112, x113, x114, x115, x116, x117, x118, x119, x120, x121, x122, x123, x124, x125, x126, x127, x128, x129, x130, x131, x132, x133, x134, x135, x136]) h0

theorem t13 (K : Kont) (E : PanK) (x0 : Value)  : den Tryd.prog (sel (bodyOf Tryd.f13) []) (bodyQ Tryd.prog Tryd.f13.results.toList K E) #[x0, undef, undef, undef, undef, undef, undef, undef, undef, undef, undef, undef, undef, undef, undef, undef, undef, undef, undef, undef, undef, undef, undef, undef, undef, undef, undef, undef, undef, undef, undef, undef, undef, undef, undef, undef, undef, undef, undef, undef, undef, undef, undef, undef, undef, undef, undef, undef, undef, undef, undef, undef, undef, undef, undef, undef, undef, undef, undef, undef] =
  lp (fun k1 => den Tryd.prog (sel (bodyOf Tryd.f13) [1, 1, 0, 1, 0, 0]) (thenD k1 (blk 0 (thenD (den Tryd.prog (sel (bodyOf Tryd.f13) [1, 1, 1]) (bodyQ Tryd.prog Tryd.f13.results.toList K E)) (bodyQ Tryd.prog Tryd.f13.results.toList K E))))) #[x0, undef, (.bool false), (.int .i64 0), (.int .i64 0), undef, undef, undef, undef, undef, undef, undef, undef, undef, undef, undef, undef, undef, undef, undef, undef, undef, undef, undef, undef, undef, undef, undef, undef, undef, undef, undef, undef, undef, undef, undef, undef, undef, undef, undef, undef, undef, undef, undef, undef, undef, undef, undef, undef, undef, undef, undef, undef, undef, undef, undef, undef, undef, undef, undef] := by kernel_rfl
def m13_1_1_0_1_0_0 (x0 x1 x5 x6 x7 x8 x29 x30 x31 x32 x33 x34 x35 x36 x37 x38 x39 x40 x41 x42 x43 x44 x45 x46 x47 x48 x49 x50 x51 x52 x53 x54 x55 x56 x57 x58 x59 : Value) (v3 v4 : Value) (j : Nat → Value) : Env := #[x0, x1, (j 2), v3, v4, x5, x6, x7, x8, (j 9), (j 10), (j 11), (j 12), (j 13), (j 14), (j 15), (j 16), (j 17), (j 18), (j 19), (j 20), (j 21), (j 22), (j 23), (j 24), (j 25), (j 26), (j 27), (j 28), x29, x30, x31, x32, x33, x34, x35, x36, x37, x38, x39, x40, x41, x42, x43, x44, x45, x46, x47, x48, x49, x50, x51, x52, x53, x54, x55, x56, x57, x58, x59]
theorem t13_1_1_0_1_0_0 (K : Kont) (E : PanK) (k1 : Env → Hp → Prop) (x0 x1 x5 x6 x7 x8 x29 x30 x31 x32 x33 x34 x35 x36 x37 x38 x39 x40 x41 x42 x43 x44 x45 x46 x47 x48 x49 x50 x51 x52 x53 x54 x55 x56 x57 x58 x59 v3 v4 : Value) (j : Nat → Value) : den Tryd.prog (sel (bodyOf Tryd.f13) [1, 1, 0, 1, 0, 0]) (thenD k1 (blk 0 (thenD (den Tryd.prog (sel (bodyOf Tryd.f13) [1, 1, 1]) (bodyQ Tryd.prog Tryd.f13.results.toList K E)) (bodyQ Tryd.prog Tryd.f13.results.toList K E)))) (m13_1_1_0_1_0_0 x0 x1 x5 x6 x7 x8 x29 x30 x31 x32 x33 x34 x35 x36 x37 x38 x39 x40 x41 x42 x43 x44 x45 x46 x47 x48 x49 x50 x51 x52 x53 x54 x55 x56 x57 x58 x59 v3 v4 j) =
  pv (lenV x0) fun t1 =>
  pv (binV .none .lss v4 t1) fun t2 =>
  cnd t2 (
    pv (iaV none 1 x0 v4) fun t3 =>
    ld false 1 t3 fun t4 =>
    pv (bdC #[(.slice none 0 0), (.slice none 0 0), (.slice none 0 0)] [(0, 1), (1, 1), (2, 1)] #[]) fun t5 =>
    callv Tryd.prog (.func (.func 34) #[] #[]) #[(.slice none 0 0), t4, t5] (fun t6 =>
    cnd t6 (
      callv Tryd.prog (.func (.func 35) #[] #[]) #[] (fun t7 =>
      K t7) E) (
      pv (iaV none 1 x0 v4) fun t8 =>
      ld false 1 t8 fun t9 =>
      pv (lenV t9) fun t10 =>
      pv (binV .none .add v3 t10) fun t11 =>
      pv (binV .none .add v4 (.int .i64 1)) fun t12 =>
      k1 (m13_1_1_0_1_0_0 x0 x1 x5 x6 x7 x8 x29 x30 x31 x32 x33 x34 x35 x36 x37 x38 x39 x40 x41 x42 x43 x44 x45 x46 x47 x48 x49 x50 x51 x52 x53 x54 x55 x56 x57 x58 x59 t11 t12 (jf #[x0, x1, (j 2), t11, t12, x5, x6, x7, x8, v4, x0, t1, t2, v4, t12, x0, v4, t3, t4, t5, t6, (j 21), v3, x0, v4, t8, t9, t10, t11, x29, x30, x31, x32, x33, x34, x35, x36, x37, x38, x39, x40, x41, x42, x43, x44, x45, x46, x47, x48, x49, x50, x51, x52, x53, x54, x55, x56, x57, x58, x59])))) E) (
    den Tryd.prog (sel (bodyOf Tryd.f13) [1, 1, 1]) (bodyQ Tryd.prog Tryd.f13.results.toList K E) #[x0, x1, (j 2), v3, v4, x5, x6, x7, x8, v4, x0, t1, t2, (j 13), (j 14), (j 15), (j 16), (j 17), (j 18), (j 19), (j 20), (j 21), (j 22), (j 23), (j 24), (j 25), (j 26), (j 27), (j 28), x29, x30, x31, x32, x33, x34, x35, x36, x37, x38, x39, x40, x41, x42, x43, x44, x45, x46, x47, x48, x49, x50, x51, x52, x53, x54, x55, x56, x57, x58, x59]) := by kernel_rfl
theorem t13_1_1_1 (K : Kont) (E : PanK) (x0 x1 x2 x3 x4 x5 x6 x7 x8 x9 x10 x11 x12 x13 x14 x15 x16 x17 x18 x19 x20 x21 x22 x23 x24 x25 x26 x27 x28 x29 x30 x31 x32 x33 x34 x35 x36 x37 x38 x39 x40 x41 x42 x43 x44 x45 x46 x47 x48 x49 x50 x51 x52 x53 x54 x55 x56 x57 x58 x59 : Value)  : den Tryd.prog (sel (bodyOf Tryd.f13) [1, 1, 1]) (bodyQ Tryd.prog Tryd.f13.results.toList K E) #[x0, x1, x2, x3, x4, x5, x6, x7, x8, x9, x10, x11, x12, x13, x14, x15, x16, x17, x18, x19, x20, x21, x22, x23, x24, x25, x26, x27, x28, x29, x30, x31, x32, x33, x34, x35, x36, x37, x38, x39, x40, x41, x42, x43, x44, x45, x46, x47, x48, x49, x50, x51, x52, x53, x54, x55, x56, x57, x58, x59] =
  pv (lenV x0) fun t1 =>
  pv (binV .none .gtr t1 (.int .i64 20)) fun t2 =>
  gdK t2 false (fun k => k x3) fun t3 =>
  gdK t2 false (fun k => pv (binV .none .gtr t3 (.int .i64 700)) k) fun t4 =>
  pv (pickV t2 (.bool true) t4) fun t5 =>
  gdK t5 false (fun k => callv Tryd.prog (.func (.func 35) #[] #[]) #[] k E) fun t6 =>
  gdK t5 false (fun k => pv (unV .not t6) k) fun t7 =>
  pv (pickV t5 (.bool true) t7) fun t8 =>
  cnd t8 (
    callv Tryd.prog (.func (.func 35) #[] #[]) #[] (fun t9 =>
    K t9) E) (
    callv Tryd.prog (.func (.func 41) #[] #[]) #[x0] (fun t10 =>
    pv (exV 0 t10) fun t11 =>
    pv (exV 1 t10) fun t12 =>
    callv Tryd.prog (.func (.func 42) #[] #[]) #[x0] (fun t13 =>
    pv (exV 0 t13) fun t14 =>
    pv (exV 1 t13) fun t15 =>
    callv Tryd.prog (.func (.func 24) #[] #[]) #[t11, t14] (fun t16 =>
    gdK t16 true (fun k => k t12) fun t17 =>
    gdK t16 true (fun k => pv (cvV .i64 t17) k) fun t18 =>
    gdK t16 true (fun k => k t15) fun t19 =>
    gdK t16 true (fun k => pv (binV .none .eql t18 t19) k) fun t20 =>
    pv (pickV t16 t20 (.bool false)) fun t21 =>
    K t21) E) E) E) := by kernel_rfl
theorem l13_1_1_0_1_0_0 {K : Kont} {E : PanK} {σ : Type} {x0 x1 x5 x6 x7 x8 x29 x30 x31 x32 x33 x34 x35 x36 x37 x38 x39 x40 x41 x42 x43 x44 x45 x46 x47 x48 x49 x50 x51 x52 x53 x54 x55 x56 x57 x58 x59 v3 v4 y2 y9 y10 y11 y12 y13 y14 y15 y16 y17 y18 y19 y20 y21 y22 y23 y24 y25 y26 y27 y28 : Value} {h : Hp} (f3 f4 : σ → Value) (I : σ → Hp → Prop) (μ : σ → Nat) (s0 : σ) (e3 : v3 = f3 s0) (e4 : v4 = f4 s0) (h0 : h.wf → ∃ h', h.wk h' ∧ I s0 h')
  (round : ∀ (k1 : Env → Hp → Prop) (s : σ) (j : Nat → Value) (h : Hp), I s h → h.wf → (∀ s' j' h', μ s' < μ s → (h'.wf → ∃ h'', h'.wk h'' ∧ I s' h'') → k1 (m13_1_1_0_1_0_0 x0 x1 x5 x6 x7 x8 x29 x30 x31 x32 x33 x34 x35 x36 x37 x38 x39 x40 x41 x42 x43 x44 x45 x46 x47 x48 x49 x50 x51 x52 x53 x54 x55 x56 x57 x58 x59 (f3 s') (f4 s') j') h') → (
  pv (lenV x0) fun t1 =>
  pv (binV .none .lss (f4 s) t1) fun t2 =>
  cnd t2 (
    pv (iaV none 1 x0 (f4 s)) fun t3 =>
    ld false 1 t3 fun t4 =>
    pv (bdC #[(.slice none 0 0), (.slice none 0 0), (.slice none 0 0)] [(0, 1), (1, 1), (2, 1)] #[]) fun t5 =>
    callv Tryd.prog (.func (.func 34) #[] #[]) #[(.slice none 0 0), t4, t5] (fun t6 =>
    cnd t6 (
      callv Tryd.prog (.func (.func 35) #[] #[]) #[] (fun t7 =>
      K t7) E) (
      pv (iaV none 1 x0 (f4 s)) fun t8 =>
      ld false 1 t8 fun t9 =>
      pv (lenV t9) fun t10 =>
      pv (binV .none .add (f3 s) t10) fun t11 =>
      pv (binV .none .add (f4 s) (.int .i64 1)) fun t12 =>
      k1 (m13_1_1_0_1_0_0 x0 x1 x5 x6 x7 x8 x29 x30 x31 x32 x33 x34 x35 x36 x37 x38 x39 x40 x41 x42 x43 x44 x45 x46 x47 x48 x49 x50 x51 x52 x53 x54 x55 x56 x57 x58 x59 t11 t12 (jf #[x0, x1, (j 2), t11, t12, x5, x6, x7, x8, (f4 s), x0, t1, t2, (f4 s), t12, x0, (f4 s), t3, t4, t5, t6, (j 21), (f3 s), x0, (f4 s), t8, t9, t10, t11, x29, x30, x31, x32, x33, x34, x35, x36, x37, x38, x39, x40, x41, x42, x43, x44, x45, x46, x47, x48, x49, x50, x51, x52, x53, x54, x55, x56, x57, x58, x59])))) E) (
    den Tryd.prog (sel (bodyOf Tryd.f13) [1, 1, 1]) (bodyQ Tryd.prog Tryd.f13.results.toList K E) #[x0, x1, (j 2), (f3 s), (f4 s), x5, x6, x7, x8, (f4 s), x0, t1, t2, (j 13), (j 14), (j 15), (j 16), (j 17), (j 18), (j 19), (j 20), (j 21), (j 22), (j 23), (j 24), (j 25), (j 26), (j 27), (j 28), x29, x30, x31, x32, x33, x34, x35, x36, x37, x38, x39, x40, x41, x42, x43, x44, x45, x46, x47, x48, x49, x50, x51, x52, x53, x54, x55, x56, x57, x58, x59])) h) :
  lp (fun k1 => den Tryd.prog (sel (bodyOf Tryd.f13) [1, 1, 0, 1, 0, 0]) (thenD k1 (blk 0 (thenD (den Tryd.prog (sel (bodyOf Tryd.f13) [1, 1, 1]) (bodyQ Tryd.prog Tryd.f13.results.toList K E)) (bodyQ Tryd.prog Tryd.f13.results.toList K E))))) #[x0, x1, y2, v3, v4, x5, x6, x7, x8, y9, y10, y11, y12, y13, y14, y15, y16, y17, y18, y19, y20, y21, y22, y23, y24, y25, y26, y27, y28, x29, x30, x31, x32, x33, x34, x35, x36, x37, x38, x39, x40, x41, x42, x43, x44, x45, x46, x47, x48, x49, x50, x51, x52, x53, x54, x55, x56, x57, x58, x59] h := by
  subst e3
  subst e4
  have e : (#[x0, x1, y2, (f3 s0), (f4 s0), x5, x6, x7, x8, y9, y10, y11, y12, y13, y14, y15, y16, y17, y18, y19, y20, y21, y22, y23, y24, y25, y26, y27, y28, x29, x30, x31, x32, x33, x34, x35, x36, x37, x38, x39, x40, x41, x42, x43, x44, x45, x46, x47, x48, x49, x50, x51, x52, x53, x54, x55, x56, x57, x58, x59] : Env) = m13_1_1_0_1_0_0 x0 x1 x5 x6 x7 x8 x29 x30 x31 x32 x33 x34 x35 x36 x37 x38 x39 x40 x41 x42 x43 x44 x45 x46 x47 x48 x49 x50 x51 x52 x53 x54 x55 x56 x57 x58 x59 (f3 s0) (f4 s0) (jf #[x0, x1, y2, (f3 s0), (f4 s0), x5, x6, x7, x8, y9, y10, y11, y12, y13, y14, y15, y16, y17, y18, y19, y20, y21, y22, y23, y24, y25, y26, y27, y28, x29, x30, x31, x32, x33, x34, x35, x36, x37, x38, x39, x40, x41, x42, x43, x44, x45, x46, x47, x48, x49, x50, x51, x52, x53, x54, x55, x56, x57, x58, x59]) := by kernel_rfl
  rw [e]
  exact loop_r (fun s j => m13_1_1_0_1_0_0 x0 x1 x5 x6 x7 x8 x29 x30 x31 x32 x33 x34 x35 x36 x37 x38 x39 x40 x41 x42 x43 x44 x45 x46 x47 x48 x49 x50 x51 x52 x53 x54 x55 x56 x57 x58 x59 (f3 s) (f4 s) j) I μ (fun k s j h hI hw next => by rw [t13_1_1_0_1_0_0]; exact round k s j h hI hw next) s0 (jf #[x0, x1, y2, (f3 s0), (f4 s0), x5, x6, x7, x8, y9, y10, y11, y12, y13, y14, y15, y16, y17, y18, y19, y20, y21, y22, y23, y24, y25, y26, y27, y28, x29, x30, x31, x32, x33, x34, x35, x36, x37, x38, x39, x40, x41, x42, x43, x44, x45, x46, x47, x48, x49, x50, x51, x52, x53, x54, x55, x56, x57, x58, x59]) h0

theorem t14 (K : Kont) (E : PanK) (x0 x1 x2 x3 x4 x5 x6 : Value)  : den Tryd.prog (sel (bodyOf Tryd.f14) []) (bodyQ Tryd.prog Tryd.f14.results.toList K E) #[x0, x1, x2, x3, x4, x5, x6, undef, undef, undef, undef, undef, undef, undef, undef, undef, undef, undef, undef, undef, undef, undef, undef, undef, undef, undef, undef, undef, undef, undef, undef, undef, undef, undef, undef, undef, undef, undef, undef, undef, undef, undef, undef, undef, undef, undef, undef, undef, undef, undef, undef, undef, undef, undef, undef, undef, undef, undef, undef, undef, undef, undef, undef, undef, undef, undef, undef, undef, undef, undef, undef, undef, undef, undef, undef, undef, undef, undef, undef, undef, undef, undef, undef, undef, undef, undef, undef, undef, undef, undef, undef, undef, undef, undef, undef, undef, undef, undef, undef, undef, undef, undef, undef, undef, undef, undef, undef, undef, undef, undef, undef, undef, undef, undef, undef, undef, undef, undef, undef, undef, undef, undef, undef, undef] =
  pv (lenV x1) fun t1 =>
  pv (binV .none .gtr t1 (.int .i64 150)) fun t2 =>
  gdK t2 false (fun k => k x2) fun t3 =>
  gdK t2 false (fun k => pv (lenV t3) k) fun t4 =>
  gdK t2 false (fun k => pv (binV .none .gtr t4 (.int .i64 150)) k) fun t5 =>
  pv (pickV t2 (.bool true) t5) fun t6 =>
  gdK t6 false (fun k => callv Tryd.prog (.func (.func 35) #[] #[]) #[] k E) fun t7 =>
  gdK t6 false (fun k => pv (unV .not t7) k) fun t8 =>
  pv (pickV t6 (.bool true) t8) fun t9 =>
  cnd t9 (
    callv Tryd.prog (.func (.func 35) #[] #[]) #[] (fun t10 =>
    K t10) E) (
    callv Tryd.prog (.func (.func 19) #[] #[]) #[x0] (fun t11 =>
    callv Tryd.prog (.func (.func 21) #[] #[]) #[t11, x1, x3] (fun t12 =>
    callv Tryd.prog (.func (.func 25) #[] #[]) #[t12] (fun t13 =>
    callv Tryd.prog (.func (.func 21) #[] #[]) #[t11, x2, x3] (fun t14 =>
    callv Tryd.prog (.func (.func 25) #[] #[]) #[t14] (fun t15 =>
    callv Tryd.prog (.func (.func 40) #[] #[]) #[t11, x4, x5, x6] (fun t16 =>
    nw 64 [(.slice none 0 0), (.slice none 0 0), (.slice none 0 0)] fun t17 =>
    st 3 t17 t16 fun _ =>
    ld true 3 t17 fun t18 =>
    callv Tryd.prog (.func (.func 36) #[] #[]) #[t11, t13, t18] (fun t19 =>
    pv (exV 0 t19) fun t20 =>
    pv (exV 1 t19) fun t21 =>
    ld true 3 t17 fun t22 =>
    callv Tryd.prog (.func (.func 36) #[] #[]) #[t11, t15, t22] (fun t23 =>
    pv (exV 0 t23) fun t24 =>
    pv (exV 1 t23) fun t25 =>
    ld true 3 t17 fun t26 =>
    callv Tryd.prog (.func (.func 28) #[] #[]) #[t13, t15] (fun t27 h28 => (ldV h28 true 3 t17 t26) ∧ (
      callv Tryd.prog (.func (.func 36) #[] #[]) #[t11, t27, t26] (fun t29 =>
      pv (exV 0 t29) fun t30 =>
      pv (exV 1 t29) fun t31 =>
      nws 22 2 (bsC #[(.slice none 0 0)] 1 2 #[(0, t20), (1, t24)]) fun t32 =>
      callv Tryd.prog (.func (.func 41) #[] #[]) #[t32] (fun t33 =>
      pv (exV 0 t33) fun t34 =>
      pv (exV 1 t33) fun t35 =>
      nws 22 3 (bsC #[(.slice none 0 0)] 1 3 #[(0, t24), (1, (.slice none 0 0)), (2, t20)]) fun t36 =>
      callv Tryd.prog (.func (.func 41) #[] #[]) #[t36] (fun t37 =>
      pv (exV 0 t37) fun t38 =>
      pv (exV 1 t37) fun t39 =>
      pv (binV .none .eql t21 (.int .u16 0)) fun t40 =>
      gdK t40 true (fun k => k t25) fun t41 =>
      gdK t40 true (fun k => pv (binV .none .eql t41 (.int .u16 0)) k) fun t42 =>
      pv (pickV t40 t42 (.bool false)) fun t43 =>
      gdK t43 true (fun k => k t31) fun t44 =>
      gdK t43 true (fun k => pv (binV .none .eql t44 (.int .u16 0)) k) fun t45 =>
      pv (pickV t43 t45 (.bool false)) fun t46 =>
      gdK t46 true (fun k => k t35) fun t47 =>
      gdK t46 true (fun k => pv (binV .none .eql t47 (.int .u16 0)) k) fun t48 =>
      pv (pickV t46 t48 (.bool false)) fun t49 =>
      gdK t49 true (fun k => k t39) fun t50 =>
      gdK t49 true (fun k => pv (binV .none .eql t50 (.int .u16 0)) k) fun t51 =>
      pv (pickV t49 t51 (.bool false)) fun t52 =>
      gdK t52 true (fun k => k t34) fun t53 =>
      gdK t52 true (fun k => k t30) fun t54 =>
      gdK t52 true (fun k => callv Tryd.prog (.func (.func 24) #[] #[]) #[t53, t54] k E) fun t55 =>
      pv (pickV t52 t55 (.bool false)) fun t56 =>
      gdK t56 true (fun k => k t38) fun t57 =>
      gdK t56 true (fun k => k t30) fun t58 =>
      gdK t56 true (fun k => callv Tryd.prog (.func (.func 24) #[] #[]) #[t57, t58] k E) fun t59 =>
      pv (pickV t56 t59 (.bool false)) fun t60 =>
      K t60) E) E) E) h28) E) E) E) E) E) E) E) E) E) := by kernel_rfl

theorem t15 (K : Kont) (E : PanK) (x0 x1 x2 x3 x4 x5 x6 : Value)  : den Tryd.prog (sel (bodyOf Tryd.f15) []) (bodyQ Tryd.prog Tryd.f15.results.toList K E) #[x0, x1, x2, x3, x4, x5, x6, undef, undef, undef, undef, undef, undef, undef, undef, undef, undef, undef, undef, undef, undef, undef, undef, undef, undef, undef, undef, undef, undef, undef, undef, undef, undef, undef, undef, undef, undef, undef, undef, undef, undef, undef, undef, undef, undef, undef, undef, undef, undef, undef, undef, undef, undef, undef, undef, undef, undef, undef, undef, undef, undef, undef, undef, undef, undef, undef, undef, undef, undef, undef, undef, undef, undef, undef, undef, undef, undef, undef, undef, undef, undef, undef, undef, undef, undef, undef, undef, undef, undef, undef, undef, undef, undef, undef, undef, undef, undef, undef, undef, undef, undef, undef, undef, undef, undef, undef, undef, undef, undef, undef, undef, undef, undef, undef, undef, undef, undef, undef, undef, undef, undef, undef, undef, undef, undef, undef, undef, undef, undef, undef, undef, undef] =
  pv (lenV x1) fun t1 =>
  pv (binV .none .gtr t1 (.int .i64 200)) fun t2 =>
  gdK t2 false (fun k => callv Tryd.prog (.func (.func 35) #[] #[]) #[] k E) fun t3 =>
  gdK t2 false (fun k => pv (unV .not t3) k) fun t4 =>
  pv (pickV t2 (.bool true) t4) fun t5 =>
  cnd t5 (
    callv Tryd.prog (.func (.func 35) #[] #[]) #[] (fun t6 =>
    K t6) E) (
    callv Tryd.prog (.func (.func 19) #[] #[]) #[x0] (fun t7 =>
    callv Tryd.prog (.func (.func 21) #[] #[]) #[t7, x1, x2] (fun t8 =>
    callv Tryd.prog (.func (.func 25) #[] #[]) #[t8] (fun t9 =>
    callv Tryd.prog (.func (.func 40) #[] #[]) #[t7, x3, x4, x5] (fun t10 =>
    nw 64 [(.slice none 0 0), (.slice none 0 0), (.slice none 0 0)] fun t11 =>
    st 3 t11 t10 fun _ =>
    pv (faV 1 t11) fun t12 =>
    ld false 1 t12 fun t13 =>
    pv (iaV none 1 t13 (.int .i64 0)) fun t14 =>
    ld false 1 t14 fun t15 =>
    pv (cvV .i64 x6) fun t16 =>
    pv (faV 2 t11) fun t17 =>
    ld false 1 t17 fun t18 =>
    pv (iaV none 1 t18 (.int .i64 0)) fun t19 =>
    ld false 1 t19 fun t20 =>
    pv (faV 1 t11) fun t21 =>
    ld false 1 t21 fun t22 =>
    pv (iaV none 1 t22 (.int .i64 0)) fun t23 =>
    ld false 1 t23 fun t24 =>
    pv (binV .none .sub t20 t24) fun t25 =>
    pv (binV .none .add t25 (.int .i64 1)) fun t26 =>
    pv (binV .none .rem t16 t26) fun t27 =>
    pv (binV .none .add t15 t27) fun t28 =>
    pv (faV 0 t11) fun t29 =>
    ld false 1 t29 fun t30 =>
    pv (faV 1 t11) fun t31 =>
    ld false 1 t31 fun t32 =>
    pv (faV 2 t11) fun t33 =>
    ld false 1 t33 fun t34 =>
    bth (
      callv Tryd.prog (.func (.func 43) #[] #[]) #[t34, t28] (fun t35 h36 => (ldV h36 false 1 t31 t32) ∧ (ldV h36 false 1 t29 t30) ∧ (
        pv (bdC #[(.slice none 0 0), (.slice none 0 0), (.slice none 0 0)] [(0, 1), (1, 1), (2, 1)] #[(0, t30), (1, t32), (2, t35)]) fun t37 =>
        nw 64 [(.slice none 0 0), (.slice none 0 0), (.slice none 0 0)] (fun t38 h39 => (ldV h39 false 1 t31 t32) ∧ (ldV h39 false 1 t29 t30) ∧ (
          st 3 t38 t37 fun _ =>
          pv (faV 0 t11) fun t40 =>
          ld false 1 t40 fun t41 =>
          pv (faV 1 t11) fun t42 =>
          ld false 1 t42 fun t43 =>
          pv (faV 2 t11) fun t44 =>
          ld false 1 t44 fun t45 =>
          bth (
            callv Tryd.prog (.func (.func 43) #[] #[]) #[t43, t28] (fun t46 h47 => (ldV h47 false 1 t44 t45) ∧ (ldV h47 false 1 t40 t41) ∧ (
              pv (bdC #[(.slice none 0 0), (.slice none 0 0), (.slice none 0 0)] [(0, 1), (1, 1), (2, 1)] #[(0, t41), (1, t46), (2, t45)]) fun t48 =>
              nw 64 [(.slice none 0 0), (.slice none 0 0), (.slice none 0 0)] (fun t49 h50 => (ldV h50 false 1 t44 t45) ∧ (ldV h50 false 1 t40 t41) ∧ (
                st 3 t49 t48 fun _ =>
                ld true 3 t38 fun t51 =>
                callv Tryd.prog (.func (.func 36) #[] #[]) #[t7, t9, t51] (fun t52 =>
                pv (exV 0 t52) fun t53 =>
                pv (exV 1 t52) fun t54 =>
                ld true 3 t49 fun t55 =>
                callv Tryd.prog (.func (.func 36) #[] #[]) #[t7, t9, t55] (fun t56 =>
                pv (exV 0 t56) fun t57 =>
                pv (exV 1 t56) fun t58 =>
                ld true 3 t11 fun t59 =>
                callv Tryd.prog (.func (.func 36) #[] #[]) #[t7, t9, t59] (fun t60 =>
                pv (exV 0 t60) fun t61 =>
                pv (exV 1 t60) fun t62 =>
                nws 22 2 (bsC #[(.slice none 0 0)] 1 2 #[(0, t53), (1, t57)]) fun t63 =>
                callv Tryd.prog (.func (.func 41) #[] #[]) #[t63] (fun t64 =>
                pv (exV 0 t64) fun t65 =>
                pv (exV 1 t64) fun t66 =>
                pv (binV .none .eql t54 (.int .u16 0)) fun t67 =>
                gdK t67 true (fun k => k t58) fun t68 =>
                gdK t67 true (fun k => pv (binV .none .eql t68 (.int .u16 0)) k) fun t69 =>
                pv (pickV t67 t69 (.bool false)) fun t70 =>
                gdK t70 true (fun k => k t62) fun t71 =>
                gdK t70 true (fun k => pv (binV .none .eql t71 (.int .u16 0)) k) fun t72 =>
                pv (pickV t70 t72 (.bool false)) fun t73 =>
                gdK t73 true (fun k => k t66) fun t74 =>
                gdK t73 true (fun k => pv (binV .none .eql t74 (.int .u16 0)) k) fun t75 =>
                pv (pickV t73 t75 (.bool false)) fun t76 =>
                gdK t76 true (fun k => k t65) fun t77 =>
                gdK t76 true (fun k => k t61) fun t78 =>
                gdK t76 true (fun k => callv Tryd.prog (.func (.func 24) #[] #[]) #[t77, t78] k E) fun t79 =>
                pv (pickV t76 t79 (.bool false)) fun t80 =>
                K t80) E) E) E) E) h50)) h47) E) (
            nw 64 [(.slice none 0 0), (.slice none 0 0), (.slice none 0 0)] (fun t81 h82 => (ldV h82 false 1 t44 t45) ∧ (ldV h82 false 1 t42 t43) ∧ (ldV h82 false 1 t40 t41) ∧ (
              callv Tryd.prog (.func (.func 43) #[] #[]) #[t43, t28] (fun t83 h84 => (ldV h84 false 1 t44 t45) ∧ (ldV h84 false 1 t40 t41) ∧ (
                pv (bdC #[(.slice none 0 0), (.slice none 0 0), (.slice none 0 0)] [(0, 1), (1, 1), (2, 1)] #[(0, t41), (1, t83), (2, t45)]) fun t85 =>
                st 3 t81 t85 fun _ =>
                ld true 3 t38 fun t86 =>
                callv Tryd.prog (.func (.func 36) #[] #[]) #[t7, t9, t86] (fun t87 =>
                pv (exV 0 t87) fun t88 =>
                pv (exV 1 t87) fun t89 =>
                ld true 3 t81 fun t90 =>
                callv Tryd.prog (.func (.func 36) #[] #[]) #[t7, t9, t90] (fun t91 =>
                pv (exV 0 t91) fun t92 =>
                pv (exV 1 t91) fun t93 =>
                ld true 3 t11 fun t94 =>
                callv Tryd.prog (.func (.func 36) #[] #[]) #[t7, t9, t94] (fun t95 =>
                pv (exV 0 t95) fun t96 =>
                pv (exV 1 t95) fun t97 =>
                nws 22 2 (bsC #[(.slice none 0 0)] 1 2 #[(0, t88), (1, t92)]) fun t98 =>
                callv Tryd.prog (.func (.func 41) #[] #[]) #[t98] (fun t99 =>
                pv (exV 0 t99) fun t100 =>
                pv (exV 1 t99) fun t101 =>
                pv (binV .none .eql t89 (.int .u16 0)) fun t102 =>
                gdK t102 true (fun k => k t93) fun t103 =>
                gdK t102 true (fun k => pv (binV .none .eql t103 (.int .u16 0)) k) fun t104 =>
                pv (pickV t102 t104 (.bool false)) fun t105 =>
                gdK t105 true (fun k => k t97) fun t106 =>
                gdK t105 true (fun k => pv (binV .none .eql t106 (.int .u16 0)) k) fun t107 =>
                pv (pickV t105 t107 (.bool false)) fun t108 =>
                gdK t108 true (fun k => k t101) fun t109 =>
                gdK t108 true (fun k => pv (binV .none .eql t109 (.int .u16 0)) k) fun t110 =>
                pv (pickV t108 t110 (.bool false)) fun t111 =>
                gdK t111 true (fun k => k t100) fun t112 =>
                gdK t111 true (fun k => k t96) fun t113 =>
                gdK t111 true (fun k => callv Tryd.prog (.func (.func 24) #[] #[]) #[t112, t113] k E) fun t114 =>
                pv (pickV t111 t114 (.bool false)) fun t115 =>
                K t115) E) E) E) E) h84) E) h82))) h39)) h36) E) (
      nw 64 [(.slice none 0 0), (.slice none 0 0), (.slice none 0 0)] (fun t116 h117 => (ldV h117 false 1 t33 t34) ∧ (ldV h117 false 1 t31 t32) ∧ (ldV h117 false 1 t29 t30) ∧ (
        callv Tryd.prog (.func (.func 43) #[] #[]) #[t34, t28] (fun t118 h119 => (ldV h119 false 1 t31 t32) ∧ (ldV h119 false 1 t29 t30) ∧ (
          pv (bdC #[(.slice none 0 0), (.slice none 0 0), (.slice none 0 0)] [(0, 1), (1, 1), (2, 1)] #[(0, t30), (1, t32), (2, t118)]) fun t120 =>
          st 3 t116 t120 fun _ =>
          pv (faV 0 t11) fun t121 =>
          ld false 1 t121 fun t122 =>
          pv (faV 1 t11) fun t123 =>
          ld false 1 t123 fun t124 =>
          pv (faV 2 t11) fun t125 =>
          ld false 1 t125 fun t126 =>
          bth (
            callv Tryd.prog (.func (.func 43) #[] #[]) #[t124, t28] (fun t127 h128 => (ldV h128 false 1 t125 t126) ∧ (ldV h128 false 1 t121 t122) ∧ (
              pv (bdC #[(.slice none 0 0), (.slice none 0 0), (.slice none 0 0)] [(0, 1), (1, 1), (2, 1)] #[(0, t122), (1, t127), (2, t126)]) fun t129 =>
              nw 64 [(.slice none 0 0), (.slice none 0 0), (.slice none 0 0)] (fun t130 h131 => (ldV h131 false 1 t125 t126) ∧ (ldV h131 false 1 t121 t122) ∧ (
                st 3 t130 t129 fun _ =>
                ld true 3 t116 fun t132 =>
                callv Tryd.prog (.func (.func 36) #[] #[]) #[t7, t9, t132] (fun t133 =>
                pv (exV 0 t133) fun t134 =>
                pv (exV 1 t133) fun t135 =>
                ld true 3 t130 fun t136 =>
                callv Tryd.prog (.func (.func 36) #[] #[]) #[t7, t9, t136] (fun t137 =>
                pv (exV 0 t137) fun t138 =>
                pv (exV 1 t137) fun t139 =>
                ld true 3 t11 fun t140 =>
                callv Tryd.prog (.func (.func 36) #[] #[]) #[t7, t9, t140] (fun t141 =>
                pv (exV 0 t141) fun t142 =>
                pv (exV 1 t141) fun t143 =>
                nws 22 2 (bsC #[(.slice none 0 0)] 1 2 #[(0, t134), (1, t138)]) fun t144 =>
                callv Tryd.prog (.func (.func 41) #[] #[]) #[t144] (fun t145 =>
                pv (exV 0 t145) fun t146 =>
                pv (exV 1 t145) fun t147 =>
                pv (binV .none .eql t135 (.int .u16 0)) fun t148 =>
                gdK t148 true (fun k => k t139) fun t149 =>
                gdK t148 true (fun k => pv (binV .none .eql t149 (.int .u16 0)) k) fun t150 =>
                pv (pickV t148 t150 (.bool false)) fun t151 =>
                gdK t151 true (fun k => k t143) fun t152 =>
                gdK t151 true (fun k => pv (binV .none .eql t152 (.int .u16 0)) k) fun t153 =>
                pv (pickV t151 t153 (.bool false)) fun t154 =>
                gdK t154 true (fun k => k t147) fun t155 =>
                gdK t154 true (fun k => pv (binV .none .eql t155 (.int .u16 0)) k) fun t156 =>
                pv (pickV t154 t156 (.bool false)) fun t157 =>
                gdK t157 true (fun k => k t146) fun t158 =>
                gdK t157 true (fun k => k t142) fun t159 =>
                gdK t157 true (fun k => callv Tryd.prog (.func (.func 24) #[] #[]) #[t158, t159] k E) fun t160 =>
                pv (pickV t157 t160 (.bool false)) fun t161 =>
                K t161) E) E) E) E) h131)) h128) E) (
            nw 64 [(.slice none 0 0), (.slice none 0 0), (.slice none 0 0)] (fun t162 h163 => (ldV h163 false 1 t125 t126) ∧ (ldV h163 false 1 t123 t124) ∧ (ldV h163 false 1 t121 t122) ∧ (
              callv Tryd.prog (.func (.func 43) #[] #[]) #[t124, t28] (fun t164 h165 => (ldV h165 false 1 t125 t126) ∧ (ldV h165 false 1 t121 t122) ∧ (
                pv (bdC #[(.slice none 0 0), (.slice none 0 0), (.slice none 0 0)] [(0, 1), (1, 1), (2, 1)] #[(0, t122), (1, t164), (2, t126)]) fun t166 =>
                st 3 t162 t166 fun _ =>
                ld true 3 t116 fun t167 =>
                callv Tryd.prog (.func (.func 36) #[] #[]) #[t7, t9, t167] (fun t168 =>
                pv (exV 0 t168) fun t169 =>
                pv (exV 1 t168) fun t170 =>
                ld true 3 t162 fun t171 =>
                callv Tryd.prog (.func (.func 36) #[] #[]) #[t7, t9, t171] (fun t172 =>
                pv (exV 0 t172) fun t173 =>
                pv (exV 1 t172) fun t174 =>
                ld true 3 t11 fun t175 =>
                callv Tryd.prog (.func (.func 36) #[] #[]) #[t7, t9, t175] (fun t176 =>
                pv (exV 0 t176) fun t177 =>
                pv (exV 1 t176) fun t178 =>
                nws 22 2 (bsC #[(.slice none 0 0)] 1 2 #[(0, t169), (1, t173)]) fun t179 =>
                callv Tryd.prog (.func (.func 41) #[] #[]) #[t179] (fun t180 =>
                pv (exV 0 t180) fun t181 =>
                pv (exV 1 t180) fun t182 =>
                pv (binV .none .eql t170 (.int .u16 0)) fun t183 =>
                gdK t183 true (fun k => k t174) fun t184 =>
                gdK t183 true (fun k => pv (binV .none .eql t184 (.int .u16 0)) k) fun t185 =>
                pv (pickV t183 t185 (.bool false)) fun t186 =>
                gdK t186 true (fun k => k t178) fun t187 =>
                gdK t186 true (fun k => pv (binV .none .eql t187 (.int .u16 0)) k) fun t188 =>
                pv (pickV t186 t188 (.bool false)) fun t189 =>
                gdK t189 true (fun k => k t182) fun t190 =>
                gdK t189 true (fun k => pv (binV .none .eql t190 (.int .u16 0)) k) fun t191 =>
                pv (pickV t189 t191 (.bool false)) fun t192 =>
                gdK t192 true (fun k => k t181) fun t193 =>
                gdK t192 true (fun k => k t177) fun t194 =>
                gdK t192 true (fun k => callv Tryd.prog (.func (.func 24) #[] #[]) #[t193, t194] k E) fun t195 =>
                pv (pickV t192 t195 (.bool false)) fun t196 =>
                K t196) E) E) E) E) h165) E) h163))) h119) E) h117))) E) E) E) E) := by kernel_rfl

theorem t16 (K : Kont) (E : PanK) (x0 x1 x2 x3 x4 x5 : Value)  : den Tryd.prog (sel (bodyOf Tryd.f16) []) (bodyQ Tryd.prog Tryd.f16.results.toList K E) #[x0, x1, x2, x3, x4, x5, undef, undef, undef, undef, undef, undef, undef, undef, undef, undef, undef, undef, undef, undef, undef, undef, undef, undef, undef, undef, undef, undef, undef, undef, undef, undef, undef, undef, undef, undef, undef, undef, undef, undef, undef, undef, undef, undef, undef, undef, undef, undef, undef, undef, undef, undef, undef, undef, undef, undef, undef, undef, undef, undef, undef, undef, undef, undef, undef, undef, undef, undef, undef, undef, undef, undef, undef, undef, undef, undef, undef, undef, undef, undef, undef, undef, undef, undef, undef, undef, undef, undef, undef, undef, undef, undef, undef, undef, undef, undef, undef, undef, undef, undef, undef, undef, undef, undef, undef, undef, undef, undef, undef] =
  pv (lenV x1) fun t1 =>
  pv (binV .none .gtr t1 (.int .i64 200)) fun t2 =>
  gdK t2 false (fun k => callv Tryd.prog (.func (.func 35) #[] #[]) #[] k E) fun t3 =>
  gdK t2 false (fun k => pv (unV .not t3) k) fun t4 =>
  pv (pickV t2 (.bool true) t4) fun t5 =>
  cnd t5 (
    callv Tryd.prog (.func (.func 35) #[] #[]) #[] (fun t6 =>
    K t6) E) (
    callv Tryd.prog (.func (.func 19) #[] #[]) #[x0] (fun t7 =>
    callv Tryd.prog (.func (.func 21) #[] #[]) #[t7, x1, x2] (fun t8 =>
    callv Tryd.prog (.func (.func 25) #[] #[]) #[t8] (fun t9 =>
    callv Tryd.prog (.func (.func 40) #[] #[]) #[t7, x3, x4, x5] (fun t10 =>
    nw 64 [(.slice none 0 0), (.slice none 0 0), (.slice none 0 0)] fun t11 =>
    st 3 t11 t10 fun _ =>
    ld true 3 t11 fun t12 =>
    callv Tryd.prog (.func (.func 36) #[] #[]) #[t7, (.slice none 0 0), t12] (fun t13 =>
    pv (exV 0 t13) fun t14 =>
    pv (exV 1 t13) fun t15 =>
    pv (faV 0 t11) fun t16 =>
    ld false 1 t16 fun t17 =>
    pv (faV 1 t11) fun t18 =>
    ld false 1 t18 fun t19 =>
    pv (faV 1 t11) fun t20 =>
    ld false 1 t20 fun t21 =>
    pv (bdC #[(.slice none 0 0), (.slice none 0 0), (.slice none 0 0)] [(0, 1), (1, 1), (2, 1)] #[(0, t17), (1, t19), (2, t21)]) fun t22 =>
    callv Tryd.prog (.func (.func 36) #[] #[]) #[t7, t9, t22] (fun t23 =>
    pv (exV 0 t23) fun t24 =>
    pv (exV 1 t23) fun t25 =>
    pv (faV 0 t11) fun t26 =>
    ld false 1 t26 fun t27 =>
    pv (faV 2 t11) fun t28 =>
    ld false 1 t28 fun t29 =>
    pv (faV 1 t11) fun t30 =>
    ld false 1 t30 fun t31 =>
    pv (bdC #[(.slice none 0 0), (.slice none 0 0), (.slice none 0 0)] [(0, 1), (1, 1), (2, 1)] #[(0, t27), (1, t29), (2, t31)]) fun t32 =>
    callv Tryd.prog (.func (.func 36) #[] #[]) #[t7, t9, t32] (fun t33 =>
    pv (exV 0 t33) fun t34 =>
    pv (exV 1 t33) fun t35 =>
    callv Tryd.prog (.func (.func 41) #[] #[]) #[(.slice none 0 0)] (fun t36 =>
    pv (exV 0 t36) fun t37 =>
    pv (exV 1 t36) fun t38 =>
    pv (binV .none .eql t15 (.int .u16 0)) fun t39 =>
    gdK t39 true (fun k => k t14) fun t40 =>
    gdK t39 true (fun k => pv (lenV t40) k) fun t41 =>
    gdK t39 true (fun k => pv (binV .none .eql t41 (.int .i64 0)) k) fun t42 =>
    pv (pickV t39 t42 (.bool false)) fun t43 =>
    gdK t43 true (fun k => k t25) fun t44 =>
    gdK t43 true (fun k => pv (binV .none .eql t44 (.int .u16 0)) k) fun t45 =>
    pv (pickV t43 t45 (.bool false)) fun t46 =>
    gdK t46 true (fun k => k t24) fun t47 =>
    gdK t46 true (fun k => pv (lenV t47) k) fun t48 =>
    gdK t46 true (fun k => pv (binV .none .eql t48 (.int .i64 0)) k) fun t49 =>
    pv (pickV t46 t49 (.bool false)) fun t50 =>
    gdK t50 true (fun k => k t35) fun t51 =>
    gdK t50 true (fun k => pv (binV .none .eql t51 (.int .u16 60)) k) fun t52 =>
    pv (pickV t50 t52 (.bool false)) fun t53 =>
    gdK t53 true (fun k => k t38) fun t54 =>
    gdK t53 true (fun k => pv (binV .none .eql t54 (.int .u16 0)) k) fun t55 =>
    pv (pickV t53 t55 (.bool false)) fun t56 =>
    gdK t56 true (fun k => k t37) fun t57 =>
    gdK t56 true (fun k => pv (lenV t57) k) fun t58 =>
    gdK t56 true (fun k => pv (binV .none .eql t58 (.int .i64 0)) k) fun t59 =>
    pv (pickV t56 t59 (.bool false)) fun t60 =>
    K t60) E) E) E) E) E) E) E) E) := by kernel_rfl

end Go.Proofs.YthpacapdaembpaaDoor.T
open Go Go.RowKit Go.Proofs.YthpacapdaembpaaDoor.K Go.Proofs.YthpacapdaembpaaDoor.T
set_option linter.unusedVariables false
set_option linter.unusedSimpArgs false
namespace Go.Proofs.YthpacapdaembpaaDoor.A
variable {F F' : Nat → Option (List Value)} {M M' : Nat → Option Chunk} {N N' : Nat} {K : Kont} {E : PanK}
set_option maxRecDepth 10000 in
/-- QueryChecks -/
theorem queryChecks_c {u vt : Value} {cs : List Value} {l : List Dm} {t : List Rw} {m lo hi : List Int} (hu : dimsD F u l) (hl : l.length ≤ 140737488351232) (ht : tblD F vt t) (htl : t.length ≤ 140737488351232) (hq : queryD F cs m lo hi) (hmi : ∀ x ∈ m, i64 x) (hti : ∀ r ∈ t, ∀ x ∈ r.1, i64 x) (k : ∀ h, K (.bool true) h) :
    call Tryd.prog 11 #[u, vt, .agg cs.toArray] K E ⟨F, M, N⟩ := by
  refine call_text mixed Tryd.func11 (by kernel_rfl) (t11 _ E _ _ _) (fun hw => ?_)
  have hm : clean M N := hw.m
  have hq' := hq
  obtain ⟨a, b, c, rfl, ha, hb, hc, hml, hlol, hhil⟩ := hq'
  refine nw_r (cs := [a, b, c]) (fun b1 hb1 => ?_)
  refine ldMa (vs := [a, b, c]) ?_
  refine heavyq_c hu ht hq hl htl (fun r N2 hN2 hw2 hr => ?_)
  cases r with
  | true => try simp only [gdTT, gdFF, gdTF, gdFT, pvS, pickT, pickF, faP, lenS, capS, nilP, exA, exB, exC, notB, cndT, cndF, Bool.not_true, Bool.not_false, Nat.zero_add, Nat.add_zero]; exact knownq_c (fun F' N' _ _ _ hc => ⟨_, wk_refl hc, fun _ => k _⟩)
  | false =>
  obtain ⟨h1, h2⟩ := hr rfl
  have hkl : checkE l m lo hi = 0 → ∀ r ∈ t, r.1.length ≤ 10000000000 := fun h r hr => by
    have := h2 (checkE_small h)
    have := wt_mem (List.mem_map_of_mem (f := (·.1)) hr)
    omega
  try simp only [gdTT, gdFF, gdTF, gdFT, pvS, pickT, pickF, faP, lenS, capS, nilP, exA, exB, exC, notB, cndT, cndF, Bool.not_true, Bool.not_false, Nat.zero_add, Nat.add_zero]
  refine knownq_c (fun F3 N3 hF3 hN3 hw3 => ?_)
  try simp only [gdTT, gdFF, gdTF, gdFT, pvS, pickT, pickF, faP, lenS, capS, nilP, exA, exB, exC, notB, cndT, cndF, Bool.not_true, Bool.not_false, Nat.zero_add, Nat.add_zero]
  refine ldMa (vs := [a, b, c]) ?_
  refine run_c (hu.mono hF3) hl (ht.mono hF3) (by omega) (hq.mono hF3) hmi hti hkl (fun v4 F4 N4 hw4 hF4 hN4 hr4 => ?_)
  try simp only [gdTT, gdFF, gdTF, gdFT, pvS, pickT, pickF, faP, lenS, capS, nilP, exA, exB, exC, notB, cndT, cndF, Bool.not_true, Bool.not_false, Nat.zero_add, Nat.add_zero]
  refine ldMa (vs := [a, b, c]) ?_
  have F34 := hF3.trans hF4
  refine rrun_c (hu.mono F34) hl (ht.mono F34) (by omega) (hq.mono F34) hmi hti hkl (fun v5 F5 N5 hw5 hF5 hN5 hr5 => ?_)
  try simp only [gdTT, gdFF, gdTF, gdFT, pvS, pickT, pickF, faP, lenS, capS, nilP, exA, exB, exC, notB, cndT, cndF, Bool.not_true, Bool.not_false, Nat.zero_add, Nat.add_zero]
  refine same_c (hr4.mono hF5) hr5 (by have := runT_len l t m lo hi; omega) ?_
  rw [decide_eq_true rfl]
  try simp only [gdTT, gdFF, gdTF, gdFT, pvS, pickT, pickF, faP, lenS, capS, nilP, exA, exB, exC, notB, cndT, cndF, Bool.not_true, Bool.not_false, Nat.zero_add, Nat.add_zero]
  have e1 := runE_le l t m lo hi
  refine cv_i64 (by omega) (eql_t rfl ?_)
  try simp only [gdTT, gdFF, gdTF, gdFT, pvS, pickT, pickF, faP, lenS, capS, nilP, exA, exB, exC, notB, cndT, cndF, Bool.not_true, Bool.not_false, Nat.zero_add, Nat.add_zero]
  refine ldMa (vs := [a, b, c]) ?_
  refine ldMa (vs := [a, b, c]) ?_
  have F35 := F34.trans hF5
  refine check_c (hu.mono F35) hl (hq.mono F35) (fun F6 N6 hw6 hF6 hN6 => ?_)
  refine ⟨fun _ => ldV_a (row_M (upd_same _ _ _)) (by exact Nat.le_of_ble_eq_true rfl) rfl, ?_⟩
  have e2 := checkE_le l m lo hi
  refine cv_i64 (by omega) ?_
  refine rcheck_c (hu.mono (F35.trans hF6)) hl (hq.mono (F35.trans hF6)) (fun N7 hw7 hN7 => ?_)
  refine eql_t rfl ?_
  try simp only [gdTT, gdFF, gdTF, gdFT, pvS, pickT, pickF, faP, lenS, capS, nilP, exA, exB, exC, notB, cndT, cndF, Bool.not_true, Bool.not_false, Nat.zero_add, Nat.add_zero]
  exact fun hc => ⟨_, wk_refl hc, fun _ => k _⟩
end Go.Proofs.YthpacapdaembpaaDoor.A
open Go Go.RowKit Go.Proofs.YthpacapdaembpaaDoor.K Go.Proofs.YthpacapdaembpaaDoor.T
set_option linter.unusedVariables false
set_option linter.unusedSimpArgs false
namespace Go.Proofs.YthpacapdaembpaaDoor.A
variable {F F' : Nat → Option (List Value)} {M M' : Nat → Option Chunk} {N N' : Nat} {K : Kont} {E : PanK}
abbrev rQuery : (Nat → Option (List Value)) → List Value → List Int × List Int × List Int → Prop := rP (rS 1 (rI .i64)) (rP (rS 1 (rI .i64)) (rS 1 (rI .i64)))
theorem query_of {cs : List Value} {y : List Int × List Int × List Int} (h : rQuery F cs y) : queryD F cs y.1 y.2.1 y.2.2 ∧ ∀ x ∈ y.1, i64 x := by
  obtain ⟨c1, c2, e, ha, c3, c4, e2, hb, hc⟩ := h
  obtain ⟨a, rfl, h1, h2, h3⟩ := keyI ha
  obtain ⟨b, rfl, h4, h5, h6⟩ := keyI hb
  obtain ⟨c, rfl, h7, h8, h9⟩ := keyI hc
  exact ⟨⟨a, b, c, by rw [e, e2]; rfl, h1, h4, h7, h3, h6, h9⟩, h2⟩
theorem QueryChecks_true (v0 v1 : Value) (a2 : Array Value) {y0 : List (Int × List Int)} {y1 : List (List Int × Int × Int × Int × Int)} {y2 : List Int × List Int × List Int} (W : World) (h0 : rS 2 rDim (F0 W) [v0] y0) (h1 : rS 5 rRow (F0 W) [v1] y1) (h2 : rQuery (F0 W) a2.toList y2) :
    Calls Tryd.prog 11 #[v0, v1, .agg a2] W fun e w' => e = .returned (.bool true) ∧ Below W.heap.size W w' :=
  have a := dims_of h0
  have b := table_of h1
  have c := query_of h2
  fin_true (queryChecks_c a.1 a.2.1 b.1 b.2.1 c.1 c.2 b.2.2 fun _ => rfl)
end Go.Proofs.YthpacapdaembpaaDoor.A
open Go Go.RowKit Go.Proofs.YthpacapdaembpaaDoor.K Go.Proofs.YthpacapdaembpaaDoor.T
set_option linter.unusedVariables false
set_option linter.unusedSimpArgs false
namespace Go.Proofs.YthpacapdaembpaaDoor.A
variable {F F' : Nat → Option (List Value)} {M M' : Nat → Option Chunk} {N N' : Nat} {K : Kont} {E : PanK}
theorem tab_id {t : List Rw} (h : srt t) : tab t = t := by
  have key : ∀ i, i ≤ t.length → tab (t.take i) = t.take i := by
    intro i
    induction i with
    | zero => intro _; rfl
    | succ i ih =>
      intro hi
      have h1 : i < t.length := by omega
      rw [List.take_add_one, List.getElem?_eq_getElem h1, Option.toList_some, tab_snoc, ih (by omega)]
      have h2 : ∀ x ∈ t.take i, kcmp x.1 t[i].1 < 0 := fun x hx => by
        obtain ⟨j, hj, rfl⟩ := List.mem_iff_getElem.1 hx
        rw [List.length_take] at hj
        rw [List.getElem_take]
        exact List.pairwise_iff_getElem.1 h j i (by omega) h1 (by omega)
      have h3 := layR_take (t.take i) t[i].1 t[i].2 i (by rw [List.take_take, Nat.min_self]; exact h2)
      rw [h3, List.take_take, Nat.min_self, List.drop_eq_nil_of_le (by rw [List.length_take]; omega)]
      rfl
  have := key t.length (Nat.le_refl _)
  rw [List.take_length] at this; exact this
theorem tab_tab (a b : List Rw) : tab (tab a ++ b) = tab (a ++ b) := by
  have h := tab_id (tab_srt a)
  unfold tab at h ⊢
  rw [List.foldl_append, List.foldl_append, h]
theorem fold_keys : ∀ (l t : List Rw) (r : Rw), r ∈ l.foldl (fun t r => layR t r.1 r.2) t → (∃ x ∈ l, x.1 = r.1) ∨ r ∈ t
  | [], t, r, h => .inr h
  | x :: l, t, r, h => by
    rcases fold_keys l _ r h with ⟨y, hy, e⟩ | h
    · exact .inl ⟨y, List.mem_cons_of_mem _ hy, e⟩
    · rcases layR_keys t x.1 x.2 r h with h | h
      · exact .inl ⟨x, List.mem_cons_self, h.symm⟩
      · exact .inr h
theorem tab_keys (l : List Rw) (r : Rw) (h : r ∈ tab l) : ∃ x ∈ l, x.1 = r.1 := (fold_keys l [] r h).elim id (fun h => by cases h)
/-- The table of many. -/
def joinE (ts : List (List Rw)) : Nat := if (tab ts.flatten).length > 500 then 61 else 0
def joinT (ts : List (List Rw)) : List Rw := if (tab ts.flatten).length > 500 then [] else tab ts.flatten
theorem joinT_len (ts : List (List Rw)) : (joinT ts).length ≤ 500 := by unfold joinT; split; simp; omega
/-- query.Join -/
theorem join_c {v : Value} {ts : List (List Rw)} (hv : tblsD F v ts) (hl : ts.flatten.length ≤ 1000000000) (htl : ts.length ≤ 1000000000) (hk : ∀ r ∈ ts.flatten, okK r.1)
    (k : ∀ v' F' N', (Hp.mk F' M N').wf → subF F F' → N ≤ N' → tblD F' v' (joinT ts) → K (.tuple #[v', .int .u16 ((joinE ts : Nat) : Int)]) ⟨F', M, N'⟩) :
    callv Tryd.prog (.func (.func 41) #[] #[]) #[v] K E ⟨F, M, N⟩ := by
  refine callv_of_text mixed Tryd.func41 (by kernel_rfl) (t41 _ E _) (fun hw => ?_)
  refine concat_c hv hl htl (fun v1 F1 N1 hw1 hF1 hN1 h1 => ?_)
  refine tmerge_c (b := []) h1 tblD.nil (by simpa using hl) (by simpa using hk) (fun v2 F2 N2 hw2 hF2 hN2 h2 => ?_)
  rw [List.append_nil] at h2
  unfold joinE joinT at k
  refine short_c h2 ?_
  split
  · rename_i h
    rw [if_pos h, if_pos h] at k
    try simp only [gdTT, gdFF, gdTF, gdFT, pvS, pickT, pickF, faP, lenS, capS, nilP, exA, exB, exC, notB, cndT, cndF, Bool.not_true, Bool.not_false, Nat.zero_add, Nat.add_zero]
    exact fun hc => ⟨_, wk_refl hc, fun hw' => k _ _ _ hw' (hF1.trans hF2) (by omega) tblD.nil⟩
  · rename_i h
    rw [if_neg h, if_neg h] at k
    try simp only [gdTT, gdFF, gdTF, gdFT, pvS, pickT, pickF, faP, lenS, capS, nilP, exA, exB, exC, notB, cndT, cndF, Bool.not_true, Bool.not_false, Nat.zero_add, Nat.add_zero]
    exact fun hc => ⟨_, wk_refl hc, fun hw' => k _ _ _ hw' (hF1.trans hF2) (by omega) h2⟩
/-- Join, of the reference -/
theorem rjoin_c {v : Value} {ts : List (List Rw)} (hv : tblsD F v ts) (hl : ts.flatten.length ≤ 100000000) (htl : ts.length ≤ 1000000000) (hk : ∀ r ∈ ts.flatten, r.1.length ≤ 10000000000)
    (k : ∀ v' F' N', (Hp.mk F' M N').wf → subF F F' → N ≤ N' → tblD F' v' (joinT ts) → K (.tuple #[v', .int .i64 ((joinE ts : Nat) : Int)]) ⟨F', M, N'⟩) :
    callv Tryd.prog (.func (.func 42) #[] #[]) #[v] K E ⟨F, M, N⟩ := by
  refine callv_of_text mixed Tryd.func42 (by kernel_rfl) (t42 _ E _) (fun hw => ?_)
  have hlv : lenV v = some (.int .i64 (ts.length : Nat)) := by obtain ⟨rows, h1, _⟩ := hv; obtain ⟨a, c, rfl, _⟩ := h1.form; rfl
  have hfl : ∀ i, (ts.take i).flatten.length ≤ ts.flatten.length := fun i => by
    have h := congrArg List.flatten (List.take_append_drop i ts)
    rw [List.flatten_append] at h
    have := congrArg List.length h
    rw [List.length_append] at this
    omega
  refine l42_1_1_0_1_0_0 (σ := Nat × Value) (fun s => s.2) (fun s => .int .i64 (s.1 : Nat)) (fun s h => ∃ F' N', h = ⟨F', M, N'⟩ ∧ subF F F' ∧ N ≤ N' ∧ s.1 ≤ ts.length ∧ tblD F' s.2 (tab (ts.take s.1).flatten)) (fun s => ts.length - s.1) (0, .slice none 0 0) rfl rfl
    (fun hw1 => ⟨_, wk_refl hw1, F, N, rfl, subF.refl _, Nat.le_refl _, Nat.zero_le _, tblD.nil⟩) (fun k1 s j h1 hI hw1 next => ?_)
  obtain ⟨F1, N1, rfl, hF1, hN1, hi, ht⟩ := hI
  have hln := tab_len (ts.take s.1).flatten
  refine pv_r hlv ?_
  refine lss_r (fun hlt => ?_) (fun hge => ?_)
  · have h1 : s.1 < ts.length := by omega
    try simp only [gdTT, gdFF, gdTF, gdFT, pvS, pickT, pickF, faP, lenS, capS, nilP, exA, exB, exC, notB, cndT, cndF, Bool.not_true, Bool.not_false, Nat.zero_add, Nat.add_zero]
    refine tbl_r (hv.mono hF1) h1 fun p u hu hul => ?_
    have h2 := hfl s.1
    have h3 := hfl (s.1 + 1)
    have e := flat_take ts h1
    rw [e, List.length_append] at h3
    refine rMerge_c ht hu (by omega) (fun r hr => ?_) (fun w F2 N2 hw2 hF2 hN2 h4 => ?_)
    · rcases List.mem_append.1 hr with hr | hr
      · obtain ⟨x, hx, e2⟩ := tab_keys _ r hr
        rw [← e2]
        exact hk x (by obtain ⟨y, hy, hxy⟩ := List.mem_flatten.1 hx; exact List.mem_flatten.2 ⟨y, List.mem_of_mem_take hy, hxy⟩)
      · exact hk r (List.mem_flatten.2 ⟨_, List.getElem_mem h1, hr⟩)
    · refine inc_r (by omega) ?_
      refine next (s.1 + 1, w) _ _ (by simp only; omega) (fun hw3 => ⟨_, wk_refl hw3, F2, N2, rfl, hF1.trans hF2, by omega, h1, ?_⟩)
      simp only
      rw [e, ← tab_tab]; exact h4
  · try simp only [gdTT, gdFF, gdTF, gdFT, pvS, pickT, pickF, faP, lenS, capS, nilP, exA, exB, exC, notB, cndT, cndF, Bool.not_true, Bool.not_false, Nat.zero_add, Nat.add_zero]
    rw [t42_1_1_1]
    rw [List.take_of_length_le (by omega)] at ht
    refine pv_r (v := .int .i64 ((tab ts.flatten).length : Nat)) (by obtain ⟨a, c, h⟩ := ht.form; rw [h]; rfl) ?_
    unfold joinE joinT at k
    refine gtr_r (fun h500 => ?_) (fun h500 => ?_)
    · rw [if_pos (by omega), if_pos (by omega)] at k
      try simp only [gdTT, gdFF, gdTF, gdFT, pvS, pickT, pickF, faP, lenS, capS, nilP, exA, exB, exC, notB, cndT, cndF, Bool.not_true, Bool.not_false, Nat.zero_add, Nat.add_zero]
      exact fun hc => ⟨_, wk_refl hc, fun hw' => k _ _ _ hw' hF1 hN1 tblD.nil⟩
    · rw [if_neg (by omega), if_neg (by omega)] at k
      try simp only [gdTT, gdFF, gdTF, gdFT, pvS, pickT, pickF, faP, lenS, capS, nilP, exA, exB, exC, notB, cndT, cndF, Bool.not_true, Bool.not_false, Nat.zero_add, Nat.add_zero]
      exact fun hc => ⟨_, wk_refl hc, fun hw' => k _ _ _ hw' hF1 hN1 ht⟩
set_option maxRecDepth 10000 in
/-- QueryJoins -/
theorem queryJoins_c {v : Value} {ts : List (List Rw)} (hv : tblsD F v ts) (htl : ts.length ≤ 140737488351232) (hti : ∀ t ∈ ts, ∀ r ∈ t, ∀ x ∈ r.1, i64 x) (k : ∀ h, K (.bool true) h) :
    call Tryd.prog 13 #[v] K E ⟨F, M, N⟩ := by
  refine call_text mixed Tryd.func13 (by kernel_rfl) (t13 _ E _) (fun hw => ?_)
  have hlv : lenV v = some (.int .i64 (ts.length : Nat)) := by obtain ⟨rows, h1, _⟩ := hv; obtain ⟨a, c, rfl, _⟩ := h1.form; rfl
  have kn : ∀ {F : Nat → Option (List Value)} {M : Nat → Option Chunk} {N : Nat}, callv Tryd.prog (.func (.func 35) #[] #[]) #[] (fun v h => h.wf → ∃ h', h.wk h' ∧ (h'.wf → K v h')) E ⟨F, M, N⟩ := knownq_c (fun F' N' _ _ _ hc => ⟨_, wk_refl hc, fun _ => k _⟩)
  refine l13_1_1_0_1_0_0 (σ := Nat) (fun i => .int .i64 ((ts.take i).flatten.length : Nat)) (fun i => .int .i64 (i : Nat)) (fun i h => ∃ N', h = ⟨F, M, N'⟩ ∧ N ≤ N' ∧ i ≤ ts.length ∧ (ts.take i).flatten.length ≤ 300 * i ∧ ∀ t ∈ ts.take i, wt (t.map (·.1)) ≤ 2000) (fun i => ts.length - i) 0 rfl rfl
    (fun hw1 => ⟨_, wk_refl hw1, N, rfl, Nat.le_refl _, Nat.zero_le _, by simp, by simp⟩) (fun k1 i j h1 hI hw1 next => ?_)
  obtain ⟨N1, rfl, hN1, hi, h3, h4⟩ := hI
  refine pv_r hlv ?_
  refine lss_r (fun hlt => ?_) (fun hge => ?_)
  · have h1 : i < ts.length := by omega
    try simp only [gdTT, gdFF, gdTF, gdFT, pvS, pickT, pickF, faP, lenS, capS, nilP, exA, exB, exC, notB, cndT, cndF, Bool.not_true, Bool.not_false, Nat.zero_add, Nat.add_zero]
    refine tbl_r hv h1 fun p u hu hul => ?_
    refine pv_r (v := .agg #[.slice none 0 0, .slice none 0 0, .slice none 0 0]) (by kernel_rfl) ?_
    have hq0 : queryD F [.slice none 0 0, .slice none 0 0, .slice none 0 0] [] [] [] := ⟨_, _, _, rfl, sF.nil _ _ _, sF.nil _ _ _, sF.nil _ _ _, by decide, by decide, by decide⟩
    have hd0 : dimsD F (.slice none 0 0) [] := ⟨[], sF.nil _ _ _, rowsF.nil _ _⟩
    refine heavyq_c hd0 hu hq0 (by decide) hul (fun r N2 hN2 hw2 hr => ?_)
    cases r with
    | true => try simp only [gdTT, gdFF, gdTF, gdFT, pvS, pickT, pickF, faP, lenS, capS, nilP, exA, exB, exC, notB, cndT, cndF, Bool.not_true, Bool.not_false, Nat.zero_add, Nat.add_zero]; exact kn
    | false =>
    obtain ⟨h5, h6⟩ := hr rfl
    have h7 := h6 ⟨by decide, by simp, by decide, by decide, by decide⟩
    try simp only [gdTT, gdFF, gdTF, gdFT, pvS, pickT, pickF, faP, lenS, capS, nilP, exA, exB, exC, notB, cndT, cndF, Bool.not_true, Bool.not_false, Nat.zero_add, Nat.add_zero]
    refine tbl_r hv h1 fun p u hu hul => ?_
    obtain ⟨a, c, rfl⟩ := hu.form
    have e := flat_take ts h1
    try simp only [gdTT, gdFF, gdTF, gdFT, pvS, pickT, pickF, faP, lenS, capS, nilP, exA, exB, exC, notB, cndT, cndF, Bool.not_true, Bool.not_false, Nat.zero_add, Nat.add_zero]
    refine add_n (by omega) ?_
    refine inc_r (by omega) ?_
    rw [← List.length_append, ← e]
    refine next (i + 1) _ _ (by omega) (fun hw3 => ⟨_, wk_refl hw3, N2, rfl, by omega, h1, ?_, fun t ht => ?_⟩)
    · rw [e, List.length_append]; omega
    · rw [List.take_add_one, List.getElem?_eq_getElem h1, Option.toList_some] at ht
      rcases List.mem_append.1 ht with ht | ht
      · exact h4 t ht
      · simp at ht; rw [ht]; exact h7
  · try simp only [gdTT, gdFF, gdTF, gdFT, pvS, pickT, pickF, faP, lenS, capS, nilP, exA, exB, exC, notB, cndT, cndF, Bool.not_true, Bool.not_false, Nat.zero_add, Nat.add_zero]
    rw [t13_1_1_1]
    rw [List.take_of_length_le (by omega)] at h3 h4
    rw [List.take_of_length_le (by omega)]
    refine pv_r hlv ?_
    refine gtr_r (fun h5 => ?_) (fun h5 => ?_)
    · try simp only [gdTT, gdFF, gdTF, gdFT, pvS, pickT, pickF, faP, lenS, capS, nilP, exA, exB, exC, notB, cndT, cndF, Bool.not_true, Bool.not_false, Nat.zero_add, Nat.add_zero]; exact kn
    try simp only [gdTT, gdFF, gdTF, gdFT, pvS, pickT, pickF, faP, lenS, capS, nilP, exA, exB, exC, notB, cndT, cndF, Bool.not_true, Bool.not_false, Nat.zero_add, Nat.add_zero]
    refine gtr_r (fun h6 => ?_) (fun h6 => ?_)
    · try simp only [gdTT, gdFF, gdTF, gdFT, pvS, pickT, pickF, faP, lenS, capS, nilP, exA, exB, exC, notB, cndT, cndF, Bool.not_true, Bool.not_false, Nat.zero_add, Nat.add_zero]; exact kn
    try simp only [gdTT, gdFF, gdTF, gdFT, pvS, pickT, pickF, faP, lenS, capS, nilP, exA, exB, exC, notB, cndT, cndF, Bool.not_true, Bool.not_false, Nat.zero_add, Nat.add_zero]
    refine knownq_c (fun F2 N2 hF2 hN2 hw2 => ?_)
    try simp only [gdTT, gdFF, gdTF, gdFT, pvS, pickT, pickF, faP, lenS, capS, nilP, exA, exB, exC, notB, cndT, cndF, Bool.not_true, Bool.not_false, Nat.zero_add, Nat.add_zero]
    have hok : ∀ r ∈ ts.flatten, okK r.1 := fun r hr => by
      obtain ⟨t, ht, hr⟩ := List.mem_flatten.1 hr
      have := h4 t ht
      have := wt_mem (List.mem_map_of_mem (f := (·.1)) hr)
      exact ⟨by omega, hti t ht r hr⟩
    refine join_c (hv.mono hF2) (by omega) (by omega) hok (fun v3 F3 N3 hw3 hF3 hN3 h7 => ?_)
    try simp only [gdTT, gdFF, gdTF, gdFT, pvS, pickT, pickF, faP, lenS, capS, nilP, exA, exB, exC, notB, cndT, cndF, Bool.not_true, Bool.not_false, Nat.zero_add, Nat.add_zero]
    refine rjoin_c ((hv.mono hF2).mono hF3) (by omega) (by omega) (fun r hr => by have := (hok r hr).1; omega) (fun v4 F4 N4 hw4 hF4 hN4 h8 => ?_)
    try simp only [gdTT, gdFF, gdTF, gdFT, pvS, pickT, pickF, faP, lenS, capS, nilP, exA, exB, exC, notB, cndT, cndF, Bool.not_true, Bool.not_false, Nat.zero_add, Nat.add_zero]
    refine same_c (h7.mono hF4) h8 (by have := joinT_len ts; omega) ?_
    rw [decide_eq_true rfl]
    try simp only [gdTT, gdFF, gdTF, gdFT, pvS, pickT, pickF, faP, lenS, capS, nilP, exA, exB, exC, notB, cndT, cndF, Bool.not_true, Bool.not_false, Nat.zero_add, Nat.add_zero]
    refine cv_i64 (by unfold joinE; split <;> omega) (eql_t rfl ?_)
    try simp only [gdTT, gdFF, gdTF, gdFT, pvS, pickT, pickF, faP, lenS, capS, nilP, exA, exB, exC, notB, cndT, cndF, Bool.not_true, Bool.not_false, Nat.zero_add, Nat.add_zero]
    exact fun hc => ⟨_, wk_refl hc, fun _ => k _⟩
end Go.Proofs.YthpacapdaembpaaDoor.A
open Go Go.RowKit Go.Proofs.YthpacapdaembpaaDoor.K Go.Proofs.YthpacapdaembpaaDoor.T
set_option linter.unusedVariables false
set_option linter.unusedSimpArgs false
namespace Go.Proofs.YthpacapdaembpaaDoor.A
variable {F F' : Nat → Option (List Value)} {M M' : Nat → Option Chunk} {N N' : Nat} {K : Kont} {E : PanK}
theorem tables_of {v : Value} {y : List (List (List Int × Int × Int × Int × Int))} (h : rS 1 (rS 5 rRow) F [v] y) : tblsD F v (y.map fun t => t.map toRw) ∧ (y.map fun t => t.map toRw).length ≤ 140737488351232 ∧ ∀ t ∈ y.map (fun t => t.map toRw), ∀ r ∈ t, ∀ x ∈ r.1, i64 x := by
  obtain ⟨v', rows, e, hv, hr, hl⟩ := h
  injection e with e _
  subst e
  have hr' : rowsF (fun r t => (∃ u, r = [u] ∧ tblD F u (t.map toRw) ∧ (t.map toRw).length ≤ 140737488351232) ∧ ∀ r ∈ t.map toRw, ∀ x ∈ r.1, i64 x) 1 rows y := hr.mono fun r t h => by
    have h' := h
    obtain ⟨u, _, rfl, _⟩ := h'
    obtain ⟨h1, h2, h3⟩ := table_of h
    exact ⟨⟨u, rfl, h1, h2⟩, h3⟩
  refine ⟨⟨rows, by rw [List.length_map]; exact hv, rowsF_map (R := fun r t => ∃ u, r = [u] ∧ tblD F u t ∧ t.length ≤ 140737488351232) (fun t => t.map toRw) (hr'.mono fun _ _ h => h.1)⟩, by rw [List.length_map]; exact hl, fun t ht => ?_⟩
  obtain ⟨x, hx, rfl⟩ := List.mem_map.1 ht
  obtain ⟨c, hc⟩ := rowsF_all hr' x hx
  exact hc.2
theorem QueryJoins_true (v0 : Value) {y0 : List (List (List Int × Int × Int × Int × Int))} (W : World) (h0 : rS 1 (rS 5 rRow) (F0 W) [v0] y0) :
    Calls Tryd.prog 13 #[v0] W fun e w' => e = .returned (.bool true) ∧ Below W.heap.size W w' :=
  have a := tables_of h0
  fin_true (queryJoins_c a.1 a.2.1 a.2.2 fun _ => rfl)
end Go.Proofs.YthpacapdaembpaaDoor.A
open Go Go.RowKit Go.Proofs.YthpacapdaembpaaDoor.K Go.Proofs.YthpacapdaembpaaDoor.T
set_option linter.unusedVariables false
set_option linter.unusedSimpArgs false
namespace Go.Proofs.YthpacapdaembpaaDoor.A
variable {F F' : Nat → Option (List Value)} {M M' : Nat → Option Chunk} {N N' : Nat} {K : Kont} {E : PanK}
theorem mm_max {x y : Int} {k : IntKind} : mm true (.int k x) (.int k y) = some (.int k (max x y)) := by
  simp only [mm, if_true]
  congr 2
  split <;> omega
end Go.Proofs.YthpacapdaembpaaDoor.A
open Go Go.RowKit Go.Proofs.YthpacapdaembpaaDoor.K Go.Proofs.YthpacapdaembpaaDoor.T
set_option linter.unusedVariables false
set_option linter.unusedSimpArgs false
namespace Go.Proofs.YthpacapdaembpaaDoor.A
variable {F F' : Nat → Option (List Value)} {M M' : Nat → Option Chunk} {N N' : Nat} {K : Kont} {E : PanK}
theorem mm_min {x y : Int} {k : IntKind} : mm false (.int k x) (.int k y) = some (.int k (min x y)) := by
  simp only [mm, Bool.false_eq_true, if_false]
  congr 2
  split <;> omega
/-- A number of an own list. -/
theorem get_r {B : Nat} {v : Value} {l : List Int} {K : Value → Kont} (h : own M B 3 1 v l.length (ic l)) {i : Nat} (hi : i < l.length) (k : ∀ p, K p (.int .i64 l[i]) ⟨F, M, N⟩) : pv (iaV none 1 v (.int .i64 (i : Nat))) (fun p => ld false 1 p (K p)) ⟨F, M, N⟩ := by
  rcases h.2 with ⟨rfl, h0⟩ | ⟨b, c, rest, rfl, h1, h2, h3, h4⟩
  · omega
  · refine iaN_r hi (ld_r (ldV_c (row_M h4) ?_) (k _))
    rw [Nat.zero_add, Nat.mul_one, List.getElem?_append_left (by simpa [ic] using hi)]
    simp [ic, List.getElem?_eq_getElem hi]
/-- A number of an own list is set. -/
theorem put_r {B : Nat} {v : Value} {l : List Int} {K : Value → Kont} {x : Int} (h : own M B 3 1 v l.length (ic l)) {i : Nat} (hi : i < l.length)
    (k : ∀ p M', own M' B 3 1 v (l.set i x).length (ic (l.set i x)) → (∀ q, v.ownBlock ≠ some q → M' q = M q) → (∀ n, clean M n → clean M' n) → K p undef ⟨F, M', N⟩) : pv (iaV none 1 v (.int .i64 (i : Nat))) (fun p => st 1 p (.int .i64 x) (K p)) ⟨F, M, N⟩ := by
  rcases h.2 with ⟨rfl, h0⟩ | ⟨b, c, rest, rfl, h1, h2, h3, h4⟩
  · omega
  · refine iaN_r hi ?_
    have hl : i < (ic l).length := by simpa [ic] using hi
    refine st_r (cs' := ic (l.set i x) ++ rest) h4 rfl (List.all_eq_true.1 rfl) (by rw [List.length_append]; omega) ?_ (k _ _ ⟨by simp [ic], .inr ⟨b, c, rest, by rw [List.length_set], by rw [List.length_set]; exact h1, h2, h3, upd_same _ _ _⟩⟩ (fun q hq => upd_ne _ _ (fun e => hq (by rw [e]; rfl))) (fun n hc => hc.set (hc.lt h4) _))
    rw [show (Value.int .i64 x).cells.toList = [Value.int .i64 x] from rfl, Nat.zero_add, Nat.mul_one, splice_app (by simp; omega)]
    congr 1
    unfold ic
    rw [List.map_set]
    unfold splice
    rw [List.set_eq_take_append_cons_drop, if_pos (by simpa using hi)]
    simp
theorem half_get {α : Type} {x a : List α} {i : Nat} (hx : i < x.length) (ha : i < a.length) (h : i < (x.take i ++ a.drop i).length) : (x.take i ++ a.drop i)[i] = a[i] := by
  rw [List.getElem_append_right (by rw [List.length_take]; omega)]
  simp [List.length_take, Nat.min_eq_left (Nat.le_of_lt hx)]
theorem half_set {α : Type} {x a : List α} {i : Nat} (hx : i < x.length) (ha : i < a.length) : (x.take i ++ a.drop i).set i x[i] = x.take (i + 1) ++ a.drop (i + 1) := by
  rw [List.set_append, if_neg (by rw [List.length_take]; omega), List.length_take, Nat.min_eq_left (by omega), Nat.sub_self, List.drop_eq_getElem_cons ha, List.set_cons_zero, List.take_add_one, List.getElem?_eq_getElem hx, Option.toList_some, List.append_assoc]
  rfl
set_option maxRecDepth 10000 in
/-- Key, a list of the caller's own. -/
theorem key_o {u v : Value} {l : List Dm} {c : List Int} (hu : dimsD F u l) (hv : sF F 1 v c.length (ick .u16 c)) (hl : l.length ≤ 1000000) (hs : ∀ d ∈ l, 0 < d.1 ∧ d.1 ≤ 1000000) (hc : ∀ x ∈ c, 0 ≤ x ∧ x < 65536) (hcl : c.length ≤ 140737488351232)
    (k : ∀ v' M' N', own M' N 3 1 v' (keyOf l c).length (ic (keyOf l c)) → (∀ q, q < N → M' q = M q) → N ≤ N' → clean M' N' → (Hp.mk F M' N').wf → K v' ⟨F, M', N'⟩) :
    callv Tryd.prog (.func (.func 48) #[] #[]) #[u, v] K E ⟨F, M, N⟩ := by
  refine callv_of_text mixed Tryd.func48 (by kernel_rfl) (t48 _ E _ _) (fun hw => ?_)
  have hm : clean M N := hw.m
  obtain ⟨rows, hu1, hu2⟩ := hu
  have hlu : lenV u = some (.int .i64 (l.length : Nat)) := by obtain ⟨a, c, rfl, _⟩ := hu1.form; rfl
  have hlv : lenV v = some (.int .i64 (c.length : Nat)) := by obtain ⟨a, c, rfl, _⟩ := hv.form; rfl
  refine l48_1_1_0_1_0_0 (σ := Nat × Value) (fun s => s.2) (fun s => .int .i64 (s.1 : Nat))
    (fun s h => ∃ M' N', h = ⟨F, M', N'⟩ ∧ N ≤ N' ∧ (∀ q, q < N → M' q = M q) ∧ clean M' N' ∧ s.1 ≤ l.length ∧ own M' N 3 1 s.2 s.1 (ic (keyOf (l.take s.1) c))) (fun s => l.length - s.1) (0, .slice none 0 0) rfl rfl
    (fun hw2 => ⟨_, wk_refl hw2, M, N, rfl, Nat.le_refl _, fun _ _ => rfl, hm, Nat.zero_le _, own.nil⟩) (fun k1 s j h1 hI hw2 next => ?_)
  obtain ⟨M2, N2, rfl, hN2, hM2, hm2, hi, ho2⟩ := hI
  simp only [hlu, hlv]
  try simp only [gdTT, gdFF, gdTF, gdFT, pvS, pickT, pickF, faP, lenS, capS, nilP, exA, exB, exC, notB, cndT, cndF, Bool.not_true, Bool.not_false, Nat.zero_add, Nat.add_zero]
  refine lss_r (fun hlt => ?_) (fun hge => ?_)
  · have h1 : s.1 < l.length := by omega
    obtain ⟨d1, d2⟩ := hs l[s.1] (List.getElem_mem _)
    try simp only [gdTT, gdFF, gdTF, gdFT, pvS, pickT, pickF, faP, lenS, capS, nilP, exA, exB, exC, notB, cndT, cndF, Bool.not_true, Bool.not_false, Nat.zero_add, Nat.add_zero]
    -- what is behind the choice
    have nat : ∀ x : Int, 0 ≤ x → x < 65536 → x = c.getD s.1 0 → ∃ n : Nat, x = n ∧ n < 65536 ∧ (c.getD s.1 0) % l[s.1].1 = ((n % l[s.1].1.toNat : Nat) : Int) := fun x h0 h1 e => ⟨x.toNat, by omega, by omega, by
      rw [← e, Int.natCast_emod, Int.toNat_of_nonneg h0, Int.toNat_of_nonneg (by omega)]⟩
    refine lss_r (fun hlt2 => ?_) (fun hge2 => ?_)
    have h2 : s.1 < c.length := by omega
    try simp only [gdTT, gdFF, gdTF, gdFT, pvS, pickT, pickF, faP, lenS, capS, nilP, exA, exB, exC, notB, cndT, cndF, Bool.not_true, Bool.not_false, Nat.zero_add, Nat.add_zero]
    refine ixk_r hv h2 fun p => ?_
    obtain ⟨x0, x1⟩ := hc c[s.1] (List.getElem_mem _)
    obtain ⟨n, hn, hn1, hn2⟩ := nat c[s.1] x0 x1 (by simp [List.getD_eq_getElem?_getD, h2])
    rw [hn]
    refine cv_i64 (a := n) (by omega) ?_
    rotate_left
    try simp only [gdTT, gdFF, gdTF, gdFT, pvS, pickT, pickF, faP, lenS, capS, nilP, exA, exB, exC, notB, cndT, cndF, Bool.not_true, Bool.not_false, Nat.zero_add, Nat.add_zero]
    have hg : c.getD s.1 0 = 0 := by rw [List.getD_eq_getElem?_getD, List.getElem?_eq_none (by omega)]; rfl
    obtain ⟨n, hn0, hn2⟩ : ∃ n : Nat, (.int .i64 0 : Value) = .int .i64 (n : Nat) ∧ (c.getD s.1 0) % l[s.1].1 = ((n % l[s.1].1.toNat : Nat) : Int) := ⟨0, rfl, by rw [hg]; simp⟩
    rw [hn0]
    all_goals
      rw [t48_1_1_0_1_0_0_1_0_0_1_1]
      refine fld_r hu1 hu2 (by decide) h1 (off := 0) (by decide) fun p q r x hR _ hx => ?_
      obtain ⟨kv, rfl, hkv', hkl⟩ := hR
      simp at hx
      subst hx
      rw [show l[s.1].1 = ((l[s.1].1.toNat : Nat) : Int) by omega]
      refine rem_n (by omega) ?_
      refine push_r (new := [.int .i64 ((n % l[s.1].1.toNat : Nat) : Int)]) ho2 hm2 hN2 (by kernel_rfl) rfl (List.all_eq_true.1 rfl) (by omega) (by unfold maxLen; omega) (fun p v' M3 N3 h4 h5 h6 h7 => ?_)
      rw [t48_1_1_0_1_0_0_1_1]
      refine inc_r (by omega) ?_
      refine next (s.1 + 1, v') _ _ (by simp only; omega) (fun hw3 => ⟨_, wk_refl hw3, M3, N3, rfl, by omega, fun q hq => ?_, h7, h1, ?_⟩)
      · exact ((h5 q (fun e => by have := (ho2.ge q e).1; omega) (by omega)).1).trans (hM2 q hq)
      · simp only
        rw [keyOf_take l c h1, hn2]
        simpa [ic] using h4
  · try simp only [gdTT, gdFF, gdTF, gdFT, pvS, pickT, pickF, faP, lenS, capS, nilP, exA, exB, exC, notB, cndT, cndF, Bool.not_true, Bool.not_false, Nat.zero_add, Nat.add_zero]
    rw [t48_1_1_1]
    rw [List.take_of_length_le (by omega)] at ho2
    rw [show s.1 = l.length by omega] at ho2
    exact fun hc' => ⟨_, wk_refl hc', fun hw' => k _ _ _ (by rw [keyOf_len]; exact ho2) hM2 hN2 hm2 hw'⟩
/-- A box, as choices say. -/
def boxLo (l : List Dm) (a b : List Int) : List Int := List.zipWith min (keyOf l a) (keyOf l b)
def boxHi (l : List Dm) (a b : List Int) : List Int := List.zipWith (fun x y => max x y + 1) (keyOf l a) (keyOf l b)
theorem boxLo_len (l : List Dm) (a b : List Int) : (boxLo l a b).length = l.length := by simp [boxLo, keyOf_len]
theorem boxHi_len (l : List Dm) (a b : List Int) : (boxHi l a b).length = l.length := by simp [boxHi, keyOf_len]
theorem keyOf_at {l : List Dm} {c : List Int} (hs : ∀ d ∈ l, 0 < d.1 ∧ d.1 ≤ 1000000) {i : Nat} (hi : i < (keyOf l c).length) (hl : i < l.length) : 0 ≤ (keyOf l c)[i] ∧ (keyOf l c)[i] < l[i].1 := by
  obtain ⟨d1, d2⟩ := hs _ (List.getElem_mem hl)
  have e : (keyOf l c)[i] = (c.getD i 0) % l[i].1 := by simp [keyOf]
  rw [e]
  exact ⟨Int.emod_nonneg _ (by omega), Int.emod_lt_of_pos _ d1⟩
set_option maxRecDepth 10000 in
/-- Box, of stratumlaw05 -/
theorem box_c {u v w : Value} {l : List Dm} {a b : List Int} (hu : dimsD F u l) (hv : sF F 1 v a.length (ick .u16 a)) (hw' : sF F 1 w b.length (ick .u16 b)) (hl : l.length ≤ 1000000) (hs : ∀ d ∈ l, 0 < d.1 ∧ d.1 ≤ 1000000) (hac : ∀ x ∈ a, 0 ≤ x ∧ x < 65536) (hbc : ∀ x ∈ b, 0 ≤ x ∧ x < 65536) (hal : a.length ≤ 140737488351232) (hbl : b.length ≤ 140737488351232)
    (k : ∀ x y F' N', (Hp.mk F' M N').wf → subF F F' → N ≤ N' → sF F' 1 x (boxLo l a b).length (ic (boxLo l a b)) → sF F' 1 y (boxHi l a b).length (ic (boxHi l a b)) → K (.tuple #[x, y]) ⟨F', M, N'⟩) :
    callv Tryd.prog (.func (.func 73) #[] #[]) #[u, v, w] K E ⟨F, M, N⟩ := by
  refine callv_of_text mixed Tryd.func73 (by kernel_rfl) (t73 _ E _ _ _) (fun hw => ?_)
  have hm : clean M N := hw.m
  have hlu : lenV u = some (.int .i64 (l.length : Nat)) := by obtain ⟨a, c, h⟩ := hu.form; rw [h]; rfl
  refine key_o hu hv hl hs hac hal (fun x M1 N1 ho1 hM1 hN1 hm1 hw1 => ?_)
  refine key_o hu hw' hl hs hbc hbl (fun y M2 N2 ho2 hM2 hN2 hm2 hw2 => ?_)
  have hx1 : ∀ q, x.ownBlock = some q → N ≤ q ∧ q < N1 := fun q e => ⟨(ho1.ge q e).1, ho1.lt hm1 q e⟩
  have hy1 : ∀ q, y.ownBlock = some q → N1 ≤ q := fun q e => (ho2.ge q e).1
  have hox : own M2 N 3 1 x (keyOf l a).length (ic (keyOf l a)) := ho1.keep (fun q e => hM2 q (hx1 q e).2) (Nat.le_refl _)
  have hoy : own M2 N 3 1 y (keyOf l b).length (ic (keyOf l b)) := ho2.keep (fun q e => rfl) hN1
  have hA := keyOf_len l a
  have hB := keyOf_len l b
  have hL := boxLo_len l a b
  have hH := boxHi_len l a b
  have bA : ∀ i (h : i < (keyOf l a).length), 0 ≤ (keyOf l a)[i] ∧ (keyOf l a)[i] ≤ 1000000 := fun i h => by
    have := keyOf_at hs h (by omega); have := hs _ (List.getElem_mem (show i < l.length by omega)); omega
  have bB : ∀ i (h : i < (keyOf l b).length), 0 ≤ (keyOf l b)[i] ∧ (keyOf l b)[i] ≤ 1000000 := fun i h => by
    have := keyOf_at hs h (by omega); have := hs _ (List.getElem_mem (show i < l.length by omega)); omega
  have eL : ∀ i (h : i < (boxLo l a b).length) (h1 : i < (keyOf l a).length) (h2 : i < (keyOf l b).length), (boxLo l a b)[i] = min (keyOf l a)[i] (keyOf l b)[i] := fun i h h1 h2 => by simp [boxLo]
  have eH : ∀ i (h : i < (boxHi l a b).length) (h1 : i < (keyOf l a).length) (h2 : i < (keyOf l b).length), (boxHi l a b)[i] = max (keyOf l a)[i] (keyOf l b)[i] + 1 := fun i h h1 h2 => by simp [boxHi]
  generalize keyOf l a = A at *
  generalize keyOf l b = B at *
  generalize boxLo l a b = L at *
  generalize boxHi l a b = H at *
  refine l73_1_1_1_0_1_0_0 (σ := Nat) (fun i => .int .i64 (i : Nat)) (fun i h => ∃ M', h = ⟨F, M', N2⟩ ∧ i ≤ l.length ∧ (∀ q, q < N → M' q = M q) ∧ clean M' N2 ∧ own M' N 3 1 x (L.take i ++ A.drop i).length (ic (L.take i ++ A.drop i)) ∧ own M' N 3 1 y (H.take i ++ B.drop i).length (ic (H.take i ++ B.drop i))) (fun i => l.length - i) 0 rfl
    (fun hw3 => ⟨_, wk_refl hw3, M2, rfl, Nat.zero_le _, fun q hq => (hM2 q (by omega)).trans (hM1 q hq), hm2, hox, hoy⟩) (fun k1 i j h1 hI hw3 next => ?_)
  obtain ⟨M3, rfl, hi, hM3, hm3, h3, h4⟩ := hI
  refine pv_r hlu ?_
  refine lss_r (fun hlt => ?_) (fun hge => ?_)
  · have i1 : i < l.length := by omega
    have i2 : i < (L.take i ++ A.drop i).length := by simp; omega
    have i3 : i < (H.take i ++ B.drop i).length := by simp; omega
    have gA : (L.take i ++ A.drop i)[i] = A[i] := half_get (by omega) (by omega) i2
    have gB : (H.take i ++ B.drop i)[i] = B[i] := half_get (by omega) (by omega) i3
    have cA := bA i (by omega)
    have cB := bB i (by omega)
    have dL := eL i (by omega) (by omega) (by omega)
    have dH := eH i (by omega) (by omega) (by omega)
    try simp only [gdTT, gdFF, gdTF, gdFT, pvS, pickT, pickF, faP, lenS, capS, nilP, exA, exB, exC, notB, cndT, cndF, Bool.not_true, Bool.not_false, Nat.zero_add, Nat.add_zero]
    refine get_r h3 i2 fun p => get_r h4 i3 fun p => ?_
    refine pv_r (mm_min) ?_
    refine get_r h3 i2 fun p => get_r h4 i3 fun p => ?_
    refine pv_r (mm_max) ?_
    rw [gA, gB]
    refine add_r (by omega) (by omega) ?_
    rw [← dL, ← dH]
    refine put_r h4 i3 fun p M4 g1 g2 g3 => ?_
    have h3' : own M4 N 3 1 x (L.take i ++ A.drop i).length (ic (L.take i ++ A.drop i)) := h3.keep (fun q e => g2 q (fun e2 => by have := hy1 q e2; have := hx1 q e; omega)) (Nat.le_refl _)
    refine put_r h3' i2 fun p M5 k1' k2 k3 => ?_
    refine inc_r (by omega) ?_
    rw [half_set (by omega) (by omega)] at g1 k1'
    refine next (i + 1) _ _ (by omega) (fun hw4 => ⟨_, wk_refl hw4, M5, rfl, i1, fun q hq => ?_, k3 _ (g3 _ hm3), k1', g1.keep (fun q e => k2 q (fun e2 => by have := hy1 q e; have := hx1 q e2; omega)) (Nat.le_refl _)⟩)
    exact (k2 q (fun e => by have := hx1 q e; omega)).trans ((g2 q (fun e => by have := hy1 q e; omega)).trans (hM3 q hq))
  · try simp only [gdTT, gdFF, gdTF, gdFT, pvS, pickT, pickF, faP, lenS, capS, nilP, exA, exB, exC, notB, cndT, cndF, Bool.not_true, Bool.not_false, Nat.zero_add, Nat.add_zero]
    rw [t73_1_1_1_1]
    rw [List.take_of_length_le (by omega), List.drop_eq_nil_of_le (by omega), List.append_nil] at h3 h4
    exact fun hc => ⟨_, frz_wf hm hM3 hc, fun hw4 => k _ _ _ _ hw4 (subF_frzAll hc) (by omega) (h3.rd.frz hc (fun b hb => .inl (h3.ge b hb).1)) (h4.rd.frz hc (fun b hb => .inl (h4.ge b hb).1))⟩
theorem boxed {l : List Dm} {a b : List Int} (hs : ∀ d ∈ l, 0 < d.1 ∧ d.1 ≤ 1000000) : boxOK l (boxLo l a b) (boxHi l a b) = true := by
  have hL := boxLo_len l a b
  have hH := boxHi_len l a b
  unfold boxOK
  rw [decide_eq_true ⟨hL, hH⟩, Bool.true_and, List.all_eq_true]
  intro i hi
  have i1 : i < l.length := by rw [← hL]; exact List.mem_range.1 hi
  have i2 : i < (keyOf l a).length := by rw [keyOf_len]; exact i1
  have i3 : i < (keyOf l b).length := by rw [keyOf_len]; exact i1
  have h1 := keyOf_at hs i2 i1
  have h2 := keyOf_at hs i3 i1
  rw [getD_at (by omega), getD_at (by omega), getD_at i1]
  have eL : (boxLo l a b)[i] = min (keyOf l a)[i] (keyOf l b)[i] := by simp [boxLo]
  have eH : (boxHi l a b)[i] = max (keyOf l a)[i] (keyOf l b)[i] + 1 := by simp [boxHi]
  rw [eL, eH]
  exact decide_eq_true ⟨by omega, by omega, by omega⟩
set_option maxRecDepth 10000 in
/-- Ask -/
theorem ask_c {u w va vb : Value} {l : List Dm} {c a b : List Int} (hu : dimsD F u l) (hw' : sF F 1 w c.length (ick .u8 c)) (hv : sF F 1 va a.length (ick .u16 a)) (hvb : sF F 1 vb b.length (ick .u16 b)) (hl : l.length ≤ 1000000) (hs : ∀ d ∈ l, 0 < d.1 ∧ d.1 ≤ 1000000) (hdv : ∀ d ∈ l, d.2.length ≤ 1000000) (hcc : ∀ x ∈ c, 0 ≤ x ∧ x < 256) (hac : ∀ x ∈ a, 0 ≤ x ∧ x < 65536) (hbc : ∀ x ∈ b, 0 ≤ x ∧ x < 65536) (hcl : c.length ≤ 140737488351232) (hal : a.length ≤ 140737488351232) (hbl : b.length ≤ 140737488351232)
    (k : ∀ cs F' N', (Hp.mk F' M N').wf → subF F F' → N ≤ N' → queryD F' cs (levOf l c []) (boxLo l a b) (boxHi l a b) → K (.agg cs.toArray) ⟨F', M, N'⟩) :
    callv Tryd.prog (.func (.func 40) #[] #[]) #[u, w, va, vb] K E ⟨F, M, N⟩ := by
  refine callv_of_text mixed Tryd.func40 (by kernel_rfl) (t40 _ E _ _ _ _) (fun hw => ?_)
  have hm : clean M N := hw.m
  refine nw_r (fun b1 hb1 => ?_)
  refine box_c hu hv hvb hl hs hac hbc hal hbl (fun x y F2 N2 hw2 hF2 hN2 hx hy => ?_)
  try simp only [gdTT, gdFF, gdTF, gdFT, pvS, pickT, pickF, faP, lenS, capS, nilP, exA, exB, exC, notB, cndT, cndF, Bool.not_true, Bool.not_false, Nat.zero_add, Nat.add_zero]
  refine lgen_c (m := []) (hu.mono hF2) (hw'.mono hF2) (sF.nil _ _ _) hl hdv hcc (nil_ok l) hcl (by simp) (fun z F3 N3 hw3 hF3 hN3 hz => ?_)
  have hx3 := hx.mono hF3
  have hy3 := hy.mono hF3
  obtain ⟨a1, c1, e1, _⟩ := hx3.form
  obtain ⟨a2, c2, e2, _⟩ := hy3.form
  obtain ⟨a3, c3, e3, _⟩ := hz.form
  refine pv_r (v := .agg #[z, x, y]) (by rw [e1, e2, e3]; kernel_rfl) ?_
  refine stM (cs' := [z, x, y]) ?_ (upd_same _ _ _) rfl rfl (by rw [e1, e2, e3]; exact List.all_eq_true.1 rfl) (by exact Nat.le_of_ble_eq_true rfl)
  rw [upd_upd]
  refine ldMa (vs := [z, x, y]) ?_
  have h1 := boxLo_len l a b
  have h2 := boxHi_len l a b
  have h3 := levOf_len l c []
  exact fun hc => ⟨⟨F3, M, N3⟩, wk_drop hc (subM_drop (subM_refl _) (hm _ hb1)), fun hw4 => k [z, x, y] _ _ hw4 (hF2.trans hF3) (by omega) ⟨z, x, y, rfl, hz, hx3, hy3, by omega, by omega, by omega⟩⟩
end Go.Proofs.YthpacapdaembpaaDoor.A
open Go Go.RowKit Go.Proofs.YthpacapdaembpaaDoor.K Go.Proofs.YthpacapdaembpaaDoor.T
set_option linter.unusedVariables false
set_option linter.unusedSimpArgs false
namespace Go.Proofs.YthpacapdaembpaaDoor.A
variable {F F' : Nat → Option (List Value)} {M M' : Nat → Option Chunk} {N N' : Nat} {K : Kont} {E : PanK}
theorem look_filter (p : List Int → Bool) (k : List Int) : ∀ t : List Rw, look (t.filter fun r => p r.1) k = if p k = true then look t k else none
  | [] => by simp [look]
  | (k', c) :: t => by
    have ih := look_filter p k t
    rw [List.filter_cons]
    by_cases hk : k' = k
    · subst hk
      by_cases hp : p k' = true
      · rw [if_pos hp, if_pos hp]; simp [look]
      · rw [if_neg hp, ih, if_neg hp, if_neg hp]
    · have e : look ((k', c) :: t) k = look t k := by simp [look, hk]
      rw [e]
      split
      · rw [← ih]; simp [look, hk]
      · exact ih
theorem vals_filter (p : List Int → Bool) (k : List Int) : ∀ ls : List KV, valsAt (ls.filter fun x => p x.1) k = if p k = true then valsAt ls k else []
  | [] => by simp [valsAt]
  | x :: ls => by
    have ih := vals_filter p k ls
    rw [List.filter_cons, valsAt_cons]
    by_cases hk : x.1 = k
    · by_cases hp : p x.1 = true
      · have hp' : p k = true := by rw [← hk]; exact hp
        rw [if_pos hp, valsAt_cons, ih, if_pos hp', if_pos hp']
      · rw [if_neg hp, ih, ← hk, if_neg hp, if_neg hp]
    · rw [if_neg hk, List.nil_append]
      split
      · rw [valsAt_cons, if_neg hk, List.nil_append, ih]
      · exact ih
theorem sizeL_filter (p : KV → Bool) : ∀ ls : List KV, sizeL (ls.filter p) ≤ sizeL ls
  | [] => by simp
  | x :: ls => by
    have ih := sizeL_filter p ls
    rw [List.filter_cons]
    split
    · simp only [sizeL, List.map_cons, List.sum_cons] at ih ⊢; omega
    · simp only [sizeL, List.map_cons, List.sum_cons] at ih ⊢; omega
/-- The numbers in a box. -/
def boxedL (lo hi : List Int) (ls : List KV) : List KV := ls.filter fun x => withinF lo hi x.1
theorem goodT.cut {l : List Dm} {t : List Rw} {ls : List KV} (h : goodT l t ls) (lo hi : List Int) : goodT l (cutF lo hi t) (boxedL lo hi ls) := by
  refine ⟨fun k => ?_, List.Pairwise.filter _ h.srt, fun x hx => h.key x (List.mem_filter.1 hx).1, fun x hx => h.val x (List.mem_filter.1 hx).1⟩
  have e1 : look (cutF lo hi t) k = if withinF lo hi k = true then look t k else none := look_filter (withinF lo hi) k t
  have e2 : valsAt (boxedL lo hi ls) k = if withinF lo hi k = true then valsAt ls k else [] := vals_filter (withinF lo hi) k ls
  rw [e1, e2]
  have h0 := h.has k
  by_cases hp : withinF lo hi k = true
  · rw [if_pos hp, if_pos hp]; exact h0
  · rw [if_neg hp, if_neg hp]
/-- What a query tells. -/
def told (l : List Dm) (m lo hi : List Int) (ls : List KV) : List KV := reK (atF l (zeros l.length) m) (boxedL lo hi ls)
theorem lvOK_of {l : List Dm} {m : List Int} (hl : m.length = l.length) (h : okLev l m) : lvOK l m = true := by
  unfold lvOK
  rw [decide_eq_true hl, Bool.true_and, List.all_eq_true]
  intro i hi
  have i1 := List.mem_range.1 hi
  unfold lvP
  rw [getD_at i1]
  have := h i i1
  exact decide_eq_true ⟨by omega, by omega⟩
theorem checkE_of {l : List Dm} {m lo hi : List Int} (hd : okDims l = true) (hl : m.length = l.length) (h : okLev l m) (hb : boxOK l lo hi = true) : checkE l m lo hi = 0 := by
  unfold checkE
  rw [hd, lvOK_of hl h, hb]; rfl
theorem told_size (l : List Dm) (m lo hi : List Int) (ls : List KV) : sizeL (told l m lo hi ls) ≤ sizeL ls := by
  unfold told
  rw [reK_size]; exact sizeL_filter _ ls
theorem goodT.run {l : List Dm} {t : List Rw} {ls : List KV} (h : goodT l t ls) {m lo hi : List Int} (hd : okDims l = true) (hl : m.length = l.length) (hm : okLev l m) (hb : boxOK l lo hi = true) (h1 : t.length ≤ 500) (h2 : sizeL ls ≤ 1000) :
    runE l t m lo hi = 0 ∧ goodT l (runT l t m lo hi) (told l m lo hi ls) := by
  have hc := h.cut lo hi
  have h3 := cutF_len lo hi t
  have h4 := sizeL_filter (fun x => withinF lo hi x.1) ls
  have h6 : sizeL (boxedL lo hi ls) ≤ 1000 := Nat.le_trans h4 h2
  obtain ⟨h5, hg⟩ := hc.rolled hd (zeros_up hl hm) (small2 (by omega) h6)
  have h7 : (runRows l t m lo hi).length ≤ 500 := by unfold runRows; have := rollT_len l (cutF lo hi t) (zeros l.length) m; omega
  have e : runE l t m lo hi = 0 := by
    unfold runE
    rw [if_pos (checkE_of hd hl hm hb), if_neg (by rw [h.sound]; decide), if_neg (by omega)]
  refine ⟨e, ?_⟩
  unfold runT
  rw [if_pos e]; exact hg
theorem goodT.none (l : List Dm) : goodT l [] [] := ⟨fun k => by simp [look, valsAt], .nil, by simp, by simp⟩
theorem within_none {lo key : List Int} (h : 0 < lo.length) : withinF lo lo key = false := by
  unfold withinF
  rw [Bool.and_eq_false_iff]
  refine .inr (all_range_no h (decide_eq_false ?_))
  omega
theorem cut_none {lo : List Int} (h : 0 < lo.length) (t : List Rw) : cutF lo lo t = [] := by
  unfold cutF
  rw [List.filter_eq_nil_iff]
  intro r _
  rw [within_none h]; simp
theorem box_low {l : List Dm} {lo hi : List Int} (h : boxOK l lo hi = true) : boxOK l lo lo = true := by
  unfold boxOK at h ⊢
  rw [Bool.and_eq_true] at h
  obtain ⟨h1, h2⟩ := h
  have h3 := of_decide_eq_true h1
  rw [decide_eq_true ⟨h3.1, h3.1⟩, Bool.true_and, List.all_eq_true]
  intro i hi
  have := of_decide_eq_true (List.all_eq_true.1 h2 i hi)
  exact decide_eq_true ⟨by omega, by omega, by omega⟩
theorem run_none {l : List Dm} {t : List Rw} {ls : List KV} (h : goodT l t ls) {m lo hi : List Int} (hd : okDims l = true) (hl : m.length = l.length) (hm : okLev l m) (hb : boxOK l lo hi = true) (h0 : 0 < lo.length) (h1 : t.length ≤ 500) (h2 : sizeL ls ≤ 1000) : runE l t m lo lo = 0 ∧ runT l t m lo lo = [] := by
  obtain ⟨e, _⟩ := h.run hd hl hm (box_low hb) h1 h2
  refine ⟨e, ?_⟩
  unfold runT runRows
  rw [if_pos e, cut_none h0]
  have := rollT_len l [] (zeros l.length) m
  exact List.eq_nil_of_length_eq_zero (by simpa using this)
theorem box_turned {l : List Dm} {a b : List Int} (h0 : 0 < l.length) : boxOK l (boxHi l a b) (boxLo l a b) = false := by
  have hL := boxLo_len l a b
  have hH := boxHi_len l a b
  have i2 : 0 < (keyOf l a).length := by rw [keyOf_len]; exact h0
  have i3 : 0 < (keyOf l b).length := by rw [keyOf_len]; exact h0
  unfold boxOK
  rw [Bool.and_eq_false_iff]
  refine .inr (all_range_no (i := 0) (by omega) (decide_eq_false ?_))
  rw [getD_at (l := boxHi l a b) (by omega), getD_at (l := boxLo l a b) (by omega)]
  have eL : (boxLo l a b)[0]'(by omega) = min (keyOf l a)[0] (keyOf l b)[0] := by simp [boxLo]
  have eH : (boxHi l a b)[0]'(by omega) = max (keyOf l a)[0] (keyOf l b)[0] + 1 := by simp [boxHi]
  rw [eL, eH]
  omega
end Go.Proofs.YthpacapdaembpaaDoor.A
open Go Go.RowKit Go.Proofs.YthpacapdaembpaaDoor.K Go.Proofs.YthpacapdaembpaaDoor.T
set_option linter.unusedVariables false
set_option linter.unusedSimpArgs false
namespace Go.Proofs.YthpacapdaembpaaDoor.A
variable {F F' : Nat → Option (List Value)} {M M' : Nat → Option Chunk} {N N' : Nat} {K : Kont} {E : PanK}
theorem query_mk {a b c : Value} {m lo hi : List Int} (h1 : sF F 1 a m.length (ic m)) (h2 : sF F 1 b lo.length (ic lo)) (h3 : sF F 1 c hi.length (ic hi)) (k1 : m.length ≤ 1000) (k2 : lo.length ≤ 1000) (k3 : hi.length ≤ 1000) : queryD F [a, b, c] m lo hi := ⟨a, b, c, rfl, h1, h2, h3, by omega, by omega, by omega⟩
set_option maxRecDepth 10000 in
/-- QueryEmpty -/
theorem queryEmpty_c {um uk uv uc ua ub : Value} {m : List (Int × List Int)} {ks : List (List Int)} {v c a b : List Int} (hm : cutsD F um m) (hml : m.length ≤ 140737488351232) (hmc : ∀ c ∈ m, (0 ≤ c.1 ∧ c.1 < 65536) ∧ ∀ x ∈ c.2, 0 ≤ x ∧ x < 256)
    (hk : kksD .u16 F uk ks) (hkl : ks.length ≤ 140737488351232) (hkc : ∀ k ∈ ks, ∀ x ∈ k, 0 ≤ x ∧ x < 65536) (hv : sF F 1 uv v.length (ic v)) (hvl : v.length ≤ 140737488351232) (hvc : ∀ x ∈ v, i64 x)
    (hc : sF F 1 uc c.length (ick .u8 c)) (hcl : c.length ≤ 140737488351232) (hcc : ∀ x ∈ c, 0 ≤ x ∧ x < 256)
    (ha : sF F 1 ua a.length (ick .u16 a)) (hal : a.length ≤ 140737488351232) (hac : ∀ x ∈ a, 0 ≤ x ∧ x < 65536)
    (hb : sF F 1 ub b.length (ick .u16 b)) (hbl : b.length ≤ 140737488351232) (hbc : ∀ x ∈ b, 0 ≤ x ∧ x < 65536) (k : ∀ h, K (.bool true) h) :
    call Tryd.prog 16 #[um, uk, uv, uc, ua, ub] K E ⟨F, M, N⟩ := by
  refine call_text mixed Tryd.func16 (by kernel_rfl) (t16 _ E _ _ _ _ _ _) (fun hw => ?_)
  have kn : ∀ {M : Nat → Option Chunk} {F : Nat → Option (List Value)} {N : Nat}, callv Tryd.prog (.func (.func 35) #[] #[]) #[] (fun v h => h.wf → ∃ h', h.wk h' ∧ (h'.wf → K v h')) E ⟨F, M, N⟩ := knownq_c (fun F' N' _ _ _ hc => ⟨_, wk_refl hc, fun _ => k _⟩)
  have hlk : lenV uk = some (.int .i64 (ks.length : Nat)) := by obtain ⟨rows, h1, _⟩ := hk; obtain ⟨a, c, rfl, _⟩ := h1.form; rfl
  refine pv_r hlk ?_
  refine gtr_r (fun h1 => ?_) (fun h1 => ?_)
  · try simp only [gdTT, gdFF, gdTF, gdFT, pvS, pickT, pickF, faP, lenS, capS, nilP, exA, exB, exC, notB, cndT, cndF, Bool.not_true, Bool.not_false, Nat.zero_add, Nat.add_zero]; exact kn
  try simp only [gdTT, gdFF, gdTF, gdFT, pvS, pickT, pickF, faP, lenS, capS, nilP, exA, exB, exC, notB, cndT, cndF, Bool.not_true, Bool.not_false, Nat.zero_add, Nat.add_zero]
  refine knownq_c (fun F1 N1 hF1 hN1 hw1 => ?_)
  try simp only [gdTT, gdFF, gdTF, gdFT, pvS, pickT, pickF, faP, lenS, capS, nilP, exA, exB, exC, notB, cndT, cndF, Bool.not_true, Bool.not_false, Nat.zero_add, Nat.add_zero]
  have hgd := dimsOf_good m (fun c hc => (hmc c hc).1)
  have hok := dimsOf_ok (m := m) (fun c hc => (hmc c hc).1)
  refine dof_c (hm.mono hF1) hml hmc (fun ul F2 N2 hw2 hF2 hN2 hd => ?_)
  refine facts_c hd ((hk.mono hF1).mono hF2) ((hv.mono hF1).mono hF2) (by have := hgd.2.1; omega) (fun d hd => by have := hgd.2.2 d hd; omega) hkc hkl hvl (fun uf F3 N3 hw3 hF3 hN3 hf => ?_)
  have hgt := goodT.facts (ks := ks) hgd hvc
  have hlt := tab_len ((factsOf (dimsOf m) ks v).map fr1)
  rw [List.length_map, factsOf_len] at hlt
  have hsz := sizeL_facts (factsOf (dimsOf m) ks v)
  rw [factsOf_len] at hsz
  refine rmake_c hf (by rw [factsOf_len]; omega) (fun f hf => (facts_okK hgd f hf).1) (fun ut F4 N4 hw4 hF4 hN4 ht => ?_)
  generalize hT : tab ((factsOf (dimsOf m) ks v).map fr1) = T at *
  generalize hL : (factsOf (dimsOf m) ks v).map kvF = L at *
  have hd4 := (hd.mono hF3).mono hF4
  generalize dimsOf m = l at *
  have hl4 := hgd.2.1
  have hl0 := hgd.1
  have hdv : ∀ d ∈ l, d.2.length ≤ 1000000 := fun d hd => by have := okDim_div (okDims_all hok d hd); omega
  have hds : ∀ d ∈ l, 0 < d.1 ∧ d.1 ≤ 1000000 := fun d hd => by have := hgd.2.2 d hd; omega
  have F14 := (hF2.trans hF3).trans hF4
  refine ask_c hd4 ((hc.mono hF1).mono F14) ((ha.mono hF1).mono F14) ((hb.mono hF1).mono F14) (by omega) hds hdv hcc hac hbc hcl hal hbl (fun cs F5 N5 hw5 hF5 hN5 hq => ?_)
  have htok := (levOf_ok (c := c) (nil_ok l)).1
  have htl := levOf_len l c []
  have hti := okLev_i64 htl htok hdv
  have hbx := boxed (a := a) (b := b) hds
  have hloL := boxLo_len l a b
  have hhiL := boxHi_len l a b
  have hturn := box_turned (a := a) (b := b) hl0
  generalize levOf l c [] = lv at *
  generalize boxLo l a b = lo at *
  generalize boxHi l a b = hi at *
  have hq' := hq
  obtain ⟨x, y, z, rfl, hx, hy, hz, _⟩ := hq'
  obtain ⟨a1, c1, e1, _⟩ := hx.form
  obtain ⟨a2, c2, e2, _⟩ := hy.form
  obtain ⟨a3, c3, e3, _⟩ := hz.form
  refine nw_r (fun b11 hb11 => ?_)
  refine stM (cs' := [x, y, z]) ?_ (upd_same _ _ _) rfl rfl (by rw [e1, e2, e3]; exact List.all_eq_true.1 rfl) (by exact Nat.le_of_ble_eq_true rfl)
  rw [upd_upd]
  refine ldMa (vs := [x, y, z]) ?_
  have hg0 := goodT.none l
  obtain ⟨r1, hr1⟩ := hg0.run hok htl htok hbx (by simp) (by simp [sizeL])
  have hl1 := runT_len l [] lv lo hi
  have hd5 := hd4.mono hF5
  have ht5 := ht.mono hF5
  refine run_c hd5 (by omega) tblD.nil (by simp) hq hti (by simp) (fun _ => by simp) (fun v6 F6 N6 hw6 hF6 hN6 h6 => ?_)
  rw [r1]
  try simp only [gdTT, gdFF, gdTF, gdFT, pvS, pickT, pickF, faP, lenS, capS, nilP, exA, exB, exC, notB, cndT, cndF, Bool.not_true, Bool.not_false, Nat.zero_add, Nat.add_zero]
  refine ldM (v := x) ?_
  try simp only [gdTT, gdFF, gdTF, gdFT, pvS, pickT, pickF, faP, lenS, capS, nilP, exA, exB, exC, notB, cndT, cndF, Bool.not_true, Bool.not_false, Nat.zero_add, Nat.add_zero]
  refine ldM (v := y) ?_
  try simp only [gdTT, gdFF, gdTF, gdFT, pvS, pickT, pickF, faP, lenS, capS, nilP, exA, exB, exC, notB, cndT, cndF, Bool.not_true, Bool.not_false, Nat.zero_add, Nat.add_zero]
  refine ldM (v := y) ?_
  refine pv_r (v := .agg #[x, y, y]) (by rw [e1, e2]; kernel_rfl) ?_
  obtain ⟨r2, r2'⟩ := run_none hgt hok htl htok hbx (by omega) (by omega) (by omega)
  have hkT : ∀ r ∈ T, r.1.length ≤ 10000000000 := fun r hr => (hgt.okK (by omega) r hr).1
  refine run_c (hd5.mono hF6) (by omega) (ht5.mono hF6) (by omega) ((query_mk hx hy hy (by omega) (by omega) (by omega)).mono hF6) hti hgt.i64 (fun _ => hkT) (fun v7 F7 N7 hw7 hF7 hN7 h7 => ?_)
  rw [r2]
  rw [r2'] at h7
  try simp only [gdTT, gdFF, gdTF, gdFT, pvS, pickT, pickF, faP, lenS, capS, nilP, exA, exB, exC, notB, cndT, cndF, Bool.not_true, Bool.not_false, Nat.zero_add, Nat.add_zero]
  refine ldM (v := x) ?_
  try simp only [gdTT, gdFF, gdTF, gdFT, pvS, pickT, pickF, faP, lenS, capS, nilP, exA, exB, exC, notB, cndT, cndF, Bool.not_true, Bool.not_false, Nat.zero_add, Nat.add_zero]
  refine ldM (v := z) ?_
  try simp only [gdTT, gdFF, gdTF, gdFT, pvS, pickT, pickF, faP, lenS, capS, nilP, exA, exB, exC, notB, cndT, cndF, Bool.not_true, Bool.not_false, Nat.zero_add, Nat.add_zero]
  refine ldM (v := y) ?_
  refine pv_r (v := .agg #[x, z, y]) (by rw [e1, e2, e3]; kernel_rfl) ?_
  have F57 := hF6.trans hF7
  have r3 : runE l T lv hi lo = 60 := by
    have : checkE l lv hi lo = 60 := by unfold checkE; rw [hok, lvOK_of htl htok, hturn]; rfl
    unfold runE; rw [if_neg (by omega)]; exact this
  refine run_c (hd5.mono F57) (by omega) (ht5.mono F57) (by omega) ((query_mk hx hz hy (by omega) (by omega) (by omega)).mono F57) hti hgt.i64 (fun _ => hkT) (fun v8 F8 N8 hw8 hF8 hN8 h8 => ?_)
  rw [r3]
  try simp only [gdTT, gdFF, gdTF, gdFT, pvS, pickT, pickF, faP, lenS, capS, nilP, exA, exB, exC, notB, cndT, cndF, Bool.not_true, Bool.not_false, Nat.zero_add, Nat.add_zero]
  have h0 : tblsD F8 (.slice none 0 0) [] := ⟨[], sF.nil _ _ _, rowsF.nil _ _⟩
  refine join_c h0 (by simp) (by simp) (by simp) (fun v9 F9 N9 hw9 hF9 hN9 h9 => ?_)
  rw [show joinE [] = 0 by rfl]
  rw [show joinT [] = [] by rfl] at h9
  have len0 : ∀ {F : Nat → Option (List Value)} {v : Value} {t : List Rw}, tblD F v t → t.length ≤ 0 → lenV v = some (.int .i64 0) := fun h h0 => by
    obtain ⟨a, c, rfl⟩ := h.form
    rw [show _ = 0 from Nat.le_zero.1 h0]; rfl
  try simp only [gdTT, gdFF, gdTF, gdFT, pvS, pickT, pickF, faP, lenS, capS, nilP, exA, exB, exC, notB, cndT, cndF, Bool.not_true, Bool.not_false, Nat.zero_add, Nat.add_zero]
  refine eql_t rfl ?_
  try simp only [gdTT, gdFF, gdTF, gdFT, pvS, pickT, pickF, faP, lenS, capS, nilP, exA, exB, exC, notB, cndT, cndF, Bool.not_true, Bool.not_false, Nat.zero_add, Nat.add_zero]
  refine pv_r (len0 h6 (by simpa using hl1)) (eql_t rfl ?_)
  try simp only [gdTT, gdFF, gdTF, gdFT, pvS, pickT, pickF, faP, lenS, capS, nilP, exA, exB, exC, notB, cndT, cndF, Bool.not_true, Bool.not_false, Nat.zero_add, Nat.add_zero]
  refine eql_t rfl ?_
  try simp only [gdTT, gdFF, gdTF, gdFT, pvS, pickT, pickF, faP, lenS, capS, nilP, exA, exB, exC, notB, cndT, cndF, Bool.not_true, Bool.not_false, Nat.zero_add, Nat.add_zero]
  refine pv_r (len0 h7 (by simp)) (eql_t rfl ?_)
  try simp only [gdTT, gdFF, gdTF, gdFT, pvS, pickT, pickF, faP, lenS, capS, nilP, exA, exB, exC, notB, cndT, cndF, Bool.not_true, Bool.not_false, Nat.zero_add, Nat.add_zero]
  refine eql_t rfl ?_
  try simp only [gdTT, gdFF, gdTF, gdFT, pvS, pickT, pickF, faP, lenS, capS, nilP, exA, exB, exC, notB, cndT, cndF, Bool.not_true, Bool.not_false, Nat.zero_add, Nat.add_zero]
  refine eql_t rfl ?_
  try simp only [gdTT, gdFF, gdTF, gdFT, pvS, pickT, pickF, faP, lenS, capS, nilP, exA, exB, exC, notB, cndT, cndF, Bool.not_true, Bool.not_false, Nat.zero_add, Nat.add_zero]
  refine pv_r (len0 h9 (by simp)) (eql_t rfl ?_)
  try simp only [gdTT, gdFF, gdTF, gdFT, pvS, pickT, pickF, faP, lenS, capS, nilP, exA, exB, exC, notB, cndT, cndF, Bool.not_true, Bool.not_false, Nat.zero_add, Nat.add_zero]
  exact fun hc => ⟨_, wk_refl hc, fun _ => k _⟩
end Go.Proofs.YthpacapdaembpaaDoor.A
open Go Go.RowKit Go.Proofs.YthpacapdaembpaaDoor.K Go.Proofs.YthpacapdaembpaaDoor.T
set_option linter.unusedVariables false
set_option linter.unusedSimpArgs false
namespace Go.Proofs.YthpacapdaembpaaDoor.A
variable {F F' : Nat → Option (List Value)} {M M' : Nat → Option Chunk} {N N' : Nat} {K : Kont} {E : PanK}
theorem QueryEmpty_true (v0 v1 v2 v3 v4 v5 : Value) {y0 : List (Int × List Int)} {y1 : List (List Int)} {y2 y3 y4 y5 : List Int} (W : World) (h0 : rS 2 rCut (F0 W) [v0] y0) (h1 : rS 1 (rS 1 (rI .u16)) (F0 W) [v1] y1) (h2 : rS 1 (rI .i64) (F0 W) [v2] y2) (h3 : rS 1 (rI .u8) (F0 W) [v3] y3) (h4 : rS 1 (rI .u16) (F0 W) [v4] y4) (h5 : rS 1 (rI .u16) (F0 W) [v5] y5) :
    Calls Tryd.prog 16 #[v0, v1, v2, v3, v4, v5] W fun e w' => e = .returned (.bool true) ∧ Below W.heap.size W w' :=
  have b := cuts_of h0
  have c := lists_of h1
  have d := list_of h2
  have e := list_of h3
  have f := list_of h4
  have g := list_of h5
  fin_true (queryEmpty_c b.1 b.2.1 b.2.2 c.1 c.2.1 (fun l hl x hx => wf_u16 (c.2.2 l hl x hx)) d.1 d.2.2 (fun x hx => wf_i64 (d.2.1 x hx)) e.1 e.2.2 (fun x hx => wf_u8 (e.2.1 x hx)) f.1 f.2.2 (fun x hx => wf_u16 (f.2.1 x hx)) g.1 g.2.2 (fun x hx => wf_u16 (g.2.1 x hx)) fun _ => rfl)
end Go.Proofs.YthpacapdaembpaaDoor.A
open Go Go.RowKit Go.Proofs.YthpacapdaembpaaDoor.K Go.Proofs.YthpacapdaembpaaDoor.T
set_option linter.unusedVariables false
set_option linter.unusedSimpArgs false
namespace Go.Proofs.YthpacapdaembpaaDoor.A
variable {F F' : Nat → Option (List Value)} {M M' : Nat → Option Chunk} {N N' : Nat} {K : Kont} {E : PanK}
theorem vals_swap (a b : List KV) (q : List Int) : (valsAt (a ++ b) q).Perm (valsAt (b ++ a) q) := by
  rw [valsAt_app, valsAt_app]; exact List.perm_append_comm
theorem told_app (l : List Dm) (m lo hi : List Int) (a b : List KV) : told l m lo hi (a ++ b) = told l m lo hi a ++ told l m lo hi b := by
  unfold told boxedL
  rw [List.filter_append, reK_app]
/-- Tables handed over in a new row. -/
theorem tbls_lit {cells : List Value} {ts : List (List Rw)} {b n : Nat} (hF : F b = some cells) (hn : ts.length = n) (hl : cells.length = n) (hr : rowsF (fun r t => ∃ u, r = [u] ∧ tblD F u t ∧ t.length ≤ 140737488351232) 1 (cells.map fun x => [x]) ts) : tblsD F (.slice (some ⟨b, 0, none⟩) n n) ts := by
  subst hn
  refine ⟨_, sF_lit (cells := (cells.map fun x => [x]).flatten) ?_ ?_ (Nat.le_refl _), hr⟩
  · rw [hF]
    congr 1
    clear hF hl hr
    induction cells with
    | nil => rfl
    | cons x xs ih => simp only [List.map_cons, List.flatten_cons]; rw [← ih]; rfl
  · have := flatten_len (sz := 1) (cells.map fun x => [x]) (by simp)
    rw [this, List.length_map, hl]
theorem tbl_row {u : Value} {t : List Rw} (h : tblD F u t) (hl : t.length ≤ 1000) : ([u].length = 1 ∧ ∀ c ∈ [u], c.oneCell' = true) ∧ ∃ w, [u] = [w] ∧ tblD F w t ∧ t.length ≤ 140737488351232 := by
  obtain ⟨a, c, rfl⟩ := h.form
  exact ⟨⟨rfl, List.all_eq_true.1 rfl⟩, _, rfl, h, by omega⟩
theorem join_two {l : List Dm} {t u w : List Rw} {ls ms ns : List KV} (h : goodT l t ls) (k : goodT l u ms) (g : goodT l w ns) (h1 : t.length ≤ 500) (h2 : u.length ≤ 500) (h3 : sizeL ls ≤ 1000) (h4 : sizeL ms ≤ 1000) (h5 : w.length ≤ 500) (hp : ∀ q, (valsAt (ls ++ ms) q).Perm (valsAt ns q)) {ts : List (List Rw)} (e : ts.flatten = t ++ u) : joinE ts = 0 ∧ joinT ts = w := by
  have hm := h.merge k (small4 (by omega) (by omega) (by omega) (by omega))
  have e2 := hm.ext g hp
  unfold joinE joinT
  rw [e, e2, if_neg (by omega), if_neg (by omega)]
  exact ⟨rfl, rfl⟩
set_option maxRecDepth 10000 in
/-- QueryParts -/
theorem queryParts_c {um uk uk2 uv uc ua ub : Value} {m : List (Int × List Int)} {ks ks2 : List (List Int)} {v c a b : List Int} (hm : cutsD F um m) (hml : m.length ≤ 140737488351232) (hmc : ∀ c ∈ m, (0 ≤ c.1 ∧ c.1 < 65536) ∧ ∀ x ∈ c.2, 0 ≤ x ∧ x < 256)
    (hk : kksD .u16 F uk ks) (hkl : ks.length ≤ 140737488351232) (hkc : ∀ k ∈ ks, ∀ x ∈ k, 0 ≤ x ∧ x < 65536)
    (hk2 : kksD .u16 F uk2 ks2) (hkl2 : ks2.length ≤ 140737488351232) (hkc2 : ∀ k ∈ ks2, ∀ x ∈ k, 0 ≤ x ∧ x < 65536) (hv : sF F 1 uv v.length (ic v)) (hvl : v.length ≤ 140737488351232) (hvc : ∀ x ∈ v, i64 x)
    (hc : sF F 1 uc c.length (ick .u8 c)) (hcl : c.length ≤ 140737488351232) (hcc : ∀ x ∈ c, 0 ≤ x ∧ x < 256)
    (ha : sF F 1 ua a.length (ick .u16 a)) (hal : a.length ≤ 140737488351232) (hac : ∀ x ∈ a, 0 ≤ x ∧ x < 65536)
    (hb : sF F 1 ub b.length (ick .u16 b)) (hbl : b.length ≤ 140737488351232) (hbc : ∀ x ∈ b, 0 ≤ x ∧ x < 65536) (k : ∀ h, K (.bool true) h) :
    call Tryd.prog 14 #[um, uk, uk2, uv, uc, ua, ub] K E ⟨F, M, N⟩ := by
  refine call_text mixed Tryd.func14 (by kernel_rfl) (t14 _ E _ _ _ _ _ _ _) (fun hw => ?_)
  have kn : ∀ {M : Nat → Option Chunk} {F : Nat → Option (List Value)} {N : Nat}, callv Tryd.prog (.func (.func 35) #[] #[]) #[] (fun v h => h.wf → ∃ h', h.wk h' ∧ (h'.wf → K v h')) E ⟨F, M, N⟩ := knownq_c (fun F' N' _ _ _ hc => ⟨_, wk_refl hc, fun _ => k _⟩)
  have hlk : lenV uk = some (.int .i64 (ks.length : Nat)) := by obtain ⟨rows, h1, _⟩ := hk; obtain ⟨a, c, rfl, _⟩ := h1.form; rfl
  have hlk2 : lenV uk2 = some (.int .i64 (ks2.length : Nat)) := by obtain ⟨rows, h1, _⟩ := hk2; obtain ⟨a, c, rfl, _⟩ := h1.form; rfl
  refine pv_r hlk ?_
  refine gtr_r (fun h1 => ?_) (fun h1 => ?_)
  · try simp only [gdTT, gdFF, gdTF, gdFT, pvS, pickT, pickF, faP, lenS, capS, nilP, exA, exB, exC, notB, cndT, cndF, Bool.not_true, Bool.not_false, Nat.zero_add, Nat.add_zero]; exact kn
  try simp only [gdTT, gdFF, gdTF, gdFT, pvS, pickT, pickF, faP, lenS, capS, nilP, exA, exB, exC, notB, cndT, cndF, Bool.not_true, Bool.not_false, Nat.zero_add, Nat.add_zero]
  refine pv_r hlk2 ?_
  refine gtr_r (fun h2 => ?_) (fun h2 => ?_)
  · try simp only [gdTT, gdFF, gdTF, gdFT, pvS, pickT, pickF, faP, lenS, capS, nilP, exA, exB, exC, notB, cndT, cndF, Bool.not_true, Bool.not_false, Nat.zero_add, Nat.add_zero]; exact kn
  try simp only [gdTT, gdFF, gdTF, gdFT, pvS, pickT, pickF, faP, lenS, capS, nilP, exA, exB, exC, notB, cndT, cndF, Bool.not_true, Bool.not_false, Nat.zero_add, Nat.add_zero]
  refine knownq_c (fun F1 N1 hF1 hN1 hw1 => ?_)
  try simp only [gdTT, gdFF, gdTF, gdFT, pvS, pickT, pickF, faP, lenS, capS, nilP, exA, exB, exC, notB, cndT, cndF, Bool.not_true, Bool.not_false, Nat.zero_add, Nat.add_zero]
  have hgd := dimsOf_good m (fun c hc => (hmc c hc).1)
  have hok := dimsOf_ok (m := m) (fun c hc => (hmc c hc).1)
  refine dof_c (hm.mono hF1) hml hmc (fun ul F2 N2 hw2 hF2 hN2 hd => ?_)
  generalize dimsOf m = l at *
  have hl4 := hgd.2.1
  have hl0 := hgd.1
  have hdv : ∀ d ∈ l, d.2.length ≤ 1000000 := fun d hd => by have := okDim_div (okDims_all hok d hd); omega
  have hds : ∀ d ∈ l, 0 < d.1 ∧ d.1 ≤ 1000000 := fun d hd => by have := hgd.2.2 d hd; omega
  -- the first facts
  refine facts_c hd ((hk.mono hF1).mono hF2) ((hv.mono hF1).mono hF2) (by omega) hds hkc hkl hvl (fun uf F3 N3 hw3 hF3 hN3 hf => ?_)
  have hgs := goodT.facts (ks := ks) hgd hvc
  have hls := tab_len ((factsOf l ks v).map fr1)
  rw [List.length_map, factsOf_len] at hls
  have hzs := sizeL_facts (factsOf l ks v)
  rw [factsOf_len] at hzs
  refine rmake_c hf (by rw [factsOf_len]; omega) (fun f hf => (facts_okK hgd f hf).1) (fun us F4 N4 hw4 hF4 hN4 hs => ?_)
  have F24 := hF3.trans hF4
  -- the second facts
  refine facts_c (hd.mono F24) (((hk2.mono hF1).mono hF2).mono F24) (((hv.mono hF1).mono hF2).mono F24) (by omega) hds hkc2 hkl2 hvl (fun uf2 F5 N5 hw5 hF5 hN5 hf2 => ?_)
  have hgt := goodT.facts (ks := ks2) hgd hvc
  have hlt := tab_len ((factsOf l ks2 v).map fr1)
  rw [List.length_map, factsOf_len] at hlt
  have hzt := sizeL_facts (factsOf l ks2 v)
  rw [factsOf_len] at hzt
  refine rmake_c hf2 (by rw [factsOf_len]; omega) (fun f hf => (facts_okK hgd f hf).1) (fun ut F6 N6 hw6 hF6 hN6 ht => ?_)
  generalize tab ((factsOf l ks v).map fr1) = S at *
  generalize (factsOf l ks v).map kvF = LS at *
  generalize tab ((factsOf l ks2 v).map fr1) = T at *
  generalize (factsOf l ks2 v).map kvF = LT at *
  have F46 := hF5.trans hF6
  have F26 := F24.trans F46
  have hd6 := hd.mono F26
  have hs6 := hs.mono F46
  have F16 := hF2.trans F26
  refine ask_c hd6 ((hc.mono hF1).mono F16) ((ha.mono hF1).mono F16) ((hb.mono hF1).mono F16) (by omega) hds hdv hcc hac hbc hcl hal hbl (fun cs F7 N7 hw7 hF7 hN7 hq => ?_)
  have htok := (levOf_ok (c := c) (nil_ok l)).1
  have htl := levOf_len l c []
  have hti := okLev_i64 htl htok hdv
  have hbx := boxed (a := a) (b := b) hds
  generalize levOf l c [] = lv at *
  generalize boxLo l a b = lo at *
  generalize boxHi l a b = hi at *
  have hq' := hq
  obtain ⟨x, y, z, rfl, hx, hy, hz, _⟩ := hq'
  obtain ⟨a1, c1, e1, _⟩ := hx.form
  obtain ⟨a2, c2, e2, _⟩ := hy.form
  obtain ⟨a3, c3, e3, _⟩ := hz.form
  refine nw_r (fun b11 hb11 => ?_)
  refine stM (cs' := [x, y, z]) ?_ (upd_same _ _ _) rfl rfl (by rw [e1, e2, e3]; exact List.all_eq_true.1 rfl) (by exact Nat.le_of_ble_eq_true rfl)
  rw [upd_upd]
  have hbox := upd_same M b11 (some (.cells 64 [x, y, z] 3))
  refine ldMa (vs := [x, y, z]) ?_
  have hd7 := hd6.mono hF7
  have hs7 := hs6.mono hF7
  have ht7 := ht.mono hF7
  have hkS : ∀ r ∈ S, r.1.length ≤ 10000000000 := fun r hr => (hgs.okK (by omega) r hr).1
  have hkT : ∀ r ∈ T, r.1.length ≤ 10000000000 := fun r hr => (hgt.okK (by omega) r hr).1
  obtain ⟨r1, g1⟩ := hgs.run hok htl htok hbx (by omega) (by omega)
  have n1 := runT_len l S lv lo hi
  have z1 := told_size l lv lo hi LS
  refine run_c hd7 (by omega) hs7 (by omega) hq hti hgs.i64 (fun _ => hkS) (fun v8 F8 N8 hw8 hF8 hN8 h8 => ?_)
  rw [r1]
  try simp only [gdTT, gdFF, gdTF, gdFT, pvS, pickT, pickF, faP, lenS, capS, nilP, exA, exB, exC, notB, cndT, cndF, Bool.not_true, Bool.not_false, Nat.zero_add, Nat.add_zero]
  refine ldMa (vs := [x, y, z]) ?_
  obtain ⟨r2, g2⟩ := hgt.run hok htl htok hbx (by omega) (by omega)
  have n2 := runT_len l T lv lo hi
  have z2 := told_size l lv lo hi LT
  refine run_c (hd7.mono hF8) (by omega) (ht7.mono hF8) (by omega) (hq.mono hF8) hti hgt.i64 (fun _ => hkT) (fun v9 F9 N9 hw9 hF9 hN9 h9 => ?_)
  rw [r2]
  try simp only [gdTT, gdFF, gdTF, gdFT, pvS, pickT, pickF, faP, lenS, capS, nilP, exA, exB, exC, notB, cndT, cndF, Bool.not_true, Bool.not_false, Nat.zero_add, Nat.add_zero]
  refine ldMa (vs := [x, y, z]) ?_
  have F79 := hF8.trans hF9
  refine rMerge_c (hs7.mono F79) (ht7.mono F79) (by omega) (fun r hr => (List.mem_append.1 hr).elim (hkS r) (hkT r)) (fun v10 F10 N10 hw10 hF10 hN10 h10 => ?_)
  refine ⟨ldV_a (row_M hbox) (by exact Nat.le_of_ble_eq_true rfl) rfl, ?_⟩
  have hgm := hgs.merge hgt (small4 (by omega) (by omega) (by omega) (by omega))
  have hlm := tab_len (S ++ T)
  rw [List.length_append] at hlm
  have F7A := F79.trans hF10
  obtain ⟨r3, g3⟩ := hgm.run hok htl htok hbx (by omega) (by rw [sizeL_app]; omega)
  have n3 := runT_len l (tab (S ++ T)) lv lo hi
  refine run_c (hd7.mono F7A) (by omega) h10 (by omega) (hq.mono F7A) hti hgm.i64 (fun _ r hr => (hgm.okK (by omega) r hr).1) (fun v11 F11 N11 hw11 hF11 hN11 h11 => ?_)
  rw [r3]
  rw [told_app] at g3
  try simp only [gdTT, gdFF, gdTF, gdFT, pvS, pickT, pickF, faP, lenS, capS, nilP, exA, exB, exC, notB, cndT, cndF, Bool.not_true, Bool.not_false, Nat.zero_add, Nat.add_zero]
  have h8' := ((h8.mono hF9).mono hF10).mono hF11
  have h9' := (h9.mono hF10).mono hF11
  generalize runT l S lv lo hi = X at *
  generalize runT l T lv lo hi = Y at *
  generalize runT l (tab (S ++ T)) lv lo hi = Z at *
  generalize told l lv lo hi LS = TX at *
  generalize told l lv lo hi LT = TY at *
  obtain ⟨p1, q1, f8, _⟩ : ∃ a c, v8 = .slice a X.length c ∧ True := by obtain ⟨a, c, h⟩ := h8'.form; exact ⟨a, c, h, trivial⟩
  obtain ⟨p2, q2, f9, _⟩ : ∃ a c, v9 = .slice a Y.length c ∧ True := by obtain ⟨a, c, h⟩ := h9'.form; exact ⟨a, c, h, trivial⟩
  have hm11 : clean (upd M b11 (some (.cells 64 [x, y, z] 3))) N11 := hw11.m
  generalize upd M b11 _ = M7 at *
  -- the first join
  refine nws_r (cs := [v8, v9]) (by rw [f8, f9]; kernel_rfl) (fun b12 hb12 => ?_)
  refine callv_go (fun hc' => ⟨_, frz_wf hm11 (fun q hq => upd_ne _ _ (by omega)) hc', ?_⟩)
  have hs12 := subF_frzAll (N := N11) hc'
  have k12 := frz_at (F := F11) (N := N11) hb12 (upd_same M7 b12 (some (.cells 22 [v8, v9] [v8, v9].length)))
  generalize frzAll F11 (upd M7 b12 _) N11 = F12 at *
  have hts1 : tblsD F12 (.slice (some ⟨b12, 0, none⟩) 2 2) [X, Y] := by
    have h0 := rowsF.nil (fun (r : List Value) (t : List Rw) => ∃ u, r = [u] ∧ tblD F12 u t ∧ t.length ≤ 140737488351232) 1
    have ra := tbl_row (h8'.mono hs12) (by omega)
    have rb := tbl_row (h9'.mono hs12) (by omega)
    exact tbls_lit (cells := [v8, v9]) k12 rfl rfl (rowsF_snoc1 (rowsF_snoc1 h0 ra.1 ra.2) rb.1 rb.2)
  have fl1 : [X, Y].flatten = X ++ Y := by simp
  have hokX : ∀ r ∈ X, okK r.1 := fun r hr => g1.okK (by omega) r hr
  have hokY : ∀ r ∈ Y, okK r.1 := fun r hr => g2.okK (by omega) r hr
  obtain ⟨je1, jt1⟩ := join_two g1 g2 g3 (by omega) (by omega) (by omega) (by omega) (by omega) (fun q => List.Perm.refl _) fl1
  refine join_c hts1 (by rw [fl1, List.length_append]; omega) (by simp) (fun r hr => by rw [fl1] at hr; exact (List.mem_append.1 hr).elim (hokX r) (hokY r)) (fun v13 F13 N13 hw13 hF13 hN13 h13 => ?_)
  rw [je1]
  rw [jt1] at h13
  try simp only [gdTT, gdFF, gdTF, gdFT, pvS, pickT, pickF, faP, lenS, capS, nilP, exA, exB, exC, notB, cndT, cndF, Bool.not_true, Bool.not_false, Nat.zero_add, Nat.add_zero]
  -- the second join
  have hm13 : clean M7 N13 := hw13.m
  refine nws_r (cs := [v9, .slice none 0 0, v8]) (by rw [f8, f9]; kernel_rfl) (fun b14 hb14 => ?_)
  refine callv_go (fun hc' => ⟨_, frz_wf hm13 (fun q hq => upd_ne _ _ (by omega)) hc', ?_⟩)
  have hs14 := subF_frzAll (N := N13) hc'
  have k14 := frz_at (F := F13) (N := N13) hb14 (upd_same M7 b14 (some (.cells 22 [v9, .slice none 0 0, v8] [v9, Value.slice none 0 0, v8].length)))
  generalize frzAll F13 (upd M7 b14 _) N13 = F14 at *
  have F1114 := (hs12.trans hF13).trans hs14
  have hts2 : tblsD F14 (.slice (some ⟨b14, 0, none⟩) 3 3) [Y, [], X] := by
    have h0 := rowsF.nil (fun (r : List Value) (t : List Rw) => ∃ u, r = [u] ∧ tblD F14 u t ∧ t.length ≤ 140737488351232) 1
    have ra := tbl_row (h8'.mono F1114) (by omega)
    have rb := tbl_row (h9'.mono F1114) (by omega)
    have rn := tbl_row (F := F14) (tblD.nil (c := 0)) (by simp)
    exact tbls_lit (cells := [v9, .slice none 0 0, v8]) k14 rfl rfl (rowsF_snoc1 (rowsF_snoc1 (rowsF_snoc1 h0 rb.1 rb.2) rn.1 rn.2) ra.1 ra.2)
  have fl2 : [Y, [], X].flatten = Y ++ X := by simp
  obtain ⟨je2, jt2⟩ := join_two g2 g1 g3 (by omega) (by omega) (by omega) (by omega) (by omega) (fun q => vals_swap _ _ q) fl2
  refine join_c hts2 (by rw [fl2, List.length_append]; omega) (by simp) (fun r hr => by rw [fl2] at hr; exact (List.mem_append.1 hr).elim (hokY r) (hokX r)) (fun v15 F15 N15 hw15 hF15 hN15 h15 => ?_)
  rw [je2]
  rw [jt2] at h15
  try simp only [gdTT, gdFF, gdTF, gdFT, pvS, pickT, pickF, faP, lenS, capS, nilP, exA, exB, exC, notB, cndT, cndF, Bool.not_true, Bool.not_false, Nat.zero_add, Nat.add_zero]
  refine eql_t rfl ?_
  try simp only [gdTT, gdFF, gdTF, gdFT, pvS, pickT, pickF, faP, lenS, capS, nilP, exA, exB, exC, notB, cndT, cndF, Bool.not_true, Bool.not_false, Nat.zero_add, Nat.add_zero]
  refine eql_t rfl ?_
  try simp only [gdTT, gdFF, gdTF, gdFT, pvS, pickT, pickF, faP, lenS, capS, nilP, exA, exB, exC, notB, cndT, cndF, Bool.not_true, Bool.not_false, Nat.zero_add, Nat.add_zero]
  refine eql_t rfl ?_
  try simp only [gdTT, gdFF, gdTF, gdFT, pvS, pickT, pickF, faP, lenS, capS, nilP, exA, exB, exC, notB, cndT, cndF, Bool.not_true, Bool.not_false, Nat.zero_add, Nat.add_zero]
  refine eql_t rfl ?_
  try simp only [gdTT, gdFF, gdTF, gdFT, pvS, pickT, pickF, faP, lenS, capS, nilP, exA, exB, exC, notB, cndT, cndF, Bool.not_true, Bool.not_false, Nat.zero_add, Nat.add_zero]
  refine eql_t rfl ?_
  try simp only [gdTT, gdFF, gdTF, gdFT, pvS, pickT, pickF, faP, lenS, capS, nilP, exA, exB, exC, notB, cndT, cndF, Bool.not_true, Bool.not_false, Nat.zero_add, Nat.add_zero]
  have F1115 := F1114.trans hF15
  refine same_c ((h13.mono hs14).mono hF15) (h11.mono F1115) (by omega) ?_
  rw [decide_eq_true rfl]
  try simp only [gdTT, gdFF, gdTF, gdFT, pvS, pickT, pickF, faP, lenS, capS, nilP, exA, exB, exC, notB, cndT, cndF, Bool.not_true, Bool.not_false, Nat.zero_add, Nat.add_zero]
  refine same_c h15 (h11.mono F1115) (by omega) ?_
  rw [decide_eq_true rfl]
  try simp only [gdTT, gdFF, gdTF, gdFT, pvS, pickT, pickF, faP, lenS, capS, nilP, exA, exB, exC, notB, cndT, cndF, Bool.not_true, Bool.not_false, Nat.zero_add, Nat.add_zero]
  exact fun hc => ⟨_, wk_refl hc, fun _ => k _⟩
end Go.Proofs.YthpacapdaembpaaDoor.A
open Go Go.RowKit Go.Proofs.YthpacapdaembpaaDoor.K Go.Proofs.YthpacapdaembpaaDoor.T
set_option linter.unusedVariables false
set_option linter.unusedSimpArgs false
namespace Go.Proofs.YthpacapdaembpaaDoor.A
variable {F F' : Nat → Option (List Value)} {M M' : Nat → Option Chunk} {N N' : Nat} {K : Kont} {E : PanK}
theorem QueryParts_true (v0 v1 v2 v3 v4 v5 v6 : Value) {y0 : List (Int × List Int)} {y1 y2 : List (List Int)} {y3 y4 y5 y6 : List Int} (W : World) (h0 : rS 2 rCut (F0 W) [v0] y0) (h1 : rS 1 (rS 1 (rI .u16)) (F0 W) [v1] y1) (h2 : rS 1 (rS 1 (rI .u16)) (F0 W) [v2] y2) (h3 : rS 1 (rI .i64) (F0 W) [v3] y3) (h4 : rS 1 (rI .u8) (F0 W) [v4] y4) (h5 : rS 1 (rI .u16) (F0 W) [v5] y5) (h6 : rS 1 (rI .u16) (F0 W) [v6] y6) :
    Calls Tryd.prog 14 #[v0, v1, v2, v3, v4, v5, v6] W fun e w' => e = .returned (.bool true) ∧ Below W.heap.size W w' :=
  have b := cuts_of h0
  have c := lists_of h1
  have c' := lists_of h2
  have d := list_of h3
  have e := list_of h4
  have f := list_of h5
  have g := list_of h6
  fin_true (queryParts_c b.1 b.2.1 b.2.2 c.1 c.2.1 (fun l hl x hx => wf_u16 (c.2.2 l hl x hx)) c'.1 c'.2.1 (fun l hl x hx => wf_u16 (c'.2.2 l hl x hx)) d.1 d.2.2 (fun x hx => wf_i64 (d.2.1 x hx)) e.1 e.2.2 (fun x hx => wf_u8 (e.2.1 x hx)) f.1 f.2.2 (fun x hx => wf_u16 (f.2.1 x hx)) g.1 g.2.2 (fun x hx => wf_u16 (g.2.1 x hx)) fun _ => rfl)
end Go.Proofs.YthpacapdaembpaaDoor.A
open Go Go.RowKit Go.Proofs.YthpacapdaembpaaDoor.K Go.Proofs.YthpacapdaembpaaDoor.T
set_option linter.unusedVariables false
set_option linter.unusedSimpArgs false
namespace Go.Proofs.YthpacapdaembpaaDoor.A
variable {F F' : Nat → Option (List Value)} {M M' : Nat → Option Chunk} {N N' : Nat} {K : Kont} {E : PanK}
theorem within_cons (a b c : Int) (lo hi key : List Int) : withinF (a :: lo) (b :: hi) (c :: key) = (decide (a ≤ c ∧ c < b) && withinF lo hi key) := by
  unfold withinF
  simp only [List.length_cons, List.range_succ_eq_map, List.all_cons, List.all_map, Nat.add_right_cancel_iff]
  simp only [List.getD_cons_zero, Function.comp_def, List.getD_cons_succ]
  cases decide (hi.length = lo.length ∧ key.length = lo.length) <;> simp
theorem box_cons (d : Dm) (a b : Int) (l : List Dm) (lo hi : List Int) : boxOK (d :: l) (a :: lo) (b :: hi) = (decide (0 ≤ a ∧ a ≤ b ∧ b ≤ d.1) && boxOK l lo hi) := by
  unfold boxOK
  simp only [List.length_cons, List.range_succ_eq_map, List.all_cons, List.all_map, Nat.add_right_cancel_iff]
  simp only [List.getD_cons_zero, Function.comp_def, List.getD_cons_succ]
  cases decide (lo.length = l.length ∧ hi.length = l.length) <;> simp
theorem half_ok {l : List Dm} {lo hi : List Int} {k0 : Int} (h0 : 0 < l.length) (hb : boxOK l lo hi = true) (hk : lo.getD 0 0 ≤ k0 ∧ k0 ≤ hi.getD 0 0) : boxOK l lo (k0 :: hi.drop 1) = true ∧ boxOK l (k0 :: lo.drop 1) hi = true ∧
    ∀ key : List Int, key.length = l.length → withinF lo hi key = (withinF lo (k0 :: hi.drop 1) key || withinF (k0 :: lo.drop 1) hi key) ∧ ¬ (withinF lo (k0 :: hi.drop 1) key = true ∧ withinF (k0 :: lo.drop 1) hi key = true) := by
  have hl : lo.length = l.length ∧ hi.length = l.length := by
    unfold boxOK at hb
    rw [Bool.and_eq_true] at hb
    exact of_decide_eq_true hb.1
  cases l with
  | nil => simp at h0
  | cons d l =>
  cases lo with
  | nil => simp at hl
  | cons a lo =>
  cases hi with
  | nil => simp at hl
  | cons b hi =>
  simp only [List.getD_cons_zero] at hk
  simp only [List.drop_succ_cons, List.drop_zero]
  rw [box_cons, Bool.and_eq_true] at hb
  obtain ⟨h1, h2⟩ := hb
  have h1 := of_decide_eq_true h1
  refine ⟨by rw [box_cons, h2, decide_eq_true ⟨by omega, by omega, by omega⟩]; rfl, by rw [box_cons, h2, decide_eq_true ⟨by omega, by omega, by omega⟩]; rfl, fun key hkl => ?_⟩
  cases key with
  | nil => simp at hkl
  | cons c key =>
  rw [within_cons, within_cons, within_cons]
  cases withinF lo hi key
  · simp
  · simp only [Bool.and_true, decide_eq_true_eq]
    refine ⟨?_, by omega⟩
    rw [← Bool.decide_or]
    exact decide_eq_decide.2 ⟨fun q => by omega, fun q => by omega⟩
theorem told_halves {l : List Dm} {m lo hi : List Int} {k0 : Int} {ls : List KV} (h0 : 0 < l.length) (hb : boxOK l lo hi = true) (hk : lo.getD 0 0 ≤ k0 ∧ k0 ≤ hi.getD 0 0) (hg : ∀ x ∈ ls, goodKey l x.1) (q : List Int) :
    (valsAt (told l m lo (k0 :: hi.drop 1) ls ++ told l m (k0 :: lo.drop 1) hi ls) q).Perm (valsAt (told l m lo hi ls) q) := by
  obtain ⟨_, _, h⟩ := half_ok h0 hb hk
  have e1 : boxedL lo (k0 :: hi.drop 1) ls = (boxedL lo hi ls).filter fun x => withinF lo (k0 :: hi.drop 1) x.1 := by
    unfold boxedL
    rw [List.filter_filter]
    refine List.filter_congr fun x hx => ?_
    rw [(h x.1 (hg x hx).1).1]
    cases withinF lo (k0 :: hi.drop 1) x.1 <;> simp
  have e2 : boxedL (k0 :: lo.drop 1) hi ls = (boxedL lo hi ls).filter fun x => !withinF lo (k0 :: hi.drop 1) x.1 := by
    unfold boxedL
    rw [List.filter_filter]
    refine List.filter_congr fun x hx => ?_
    obtain ⟨h1, h2⟩ := h x.1 (hg x hx).1
    rw [h1]
    revert h2
    cases withinF lo (k0 :: hi.drop 1) x.1 <;> cases withinF (k0 :: lo.drop 1) hi x.1 <;> simp
  unfold told
  rw [← reK_app, e1, e2]
  exact valsAt_perm ((List.filter_append_perm _ _).map _) q
theorem ints_rows (l : List Int) : rowsF (fun r x => r = [Value.int .i64 x]) 1 (l.map fun x => [Value.int .i64 x]) l := by
  refine ⟨fun r hr => ?_, fun r hr => ?_, by simp, fun i r x hr hx => ?_⟩
  · obtain ⟨x, _, rfl⟩ := List.mem_map.1 hr; rfl
  · obtain ⟨x, _, rfl⟩ := List.mem_map.1 hr; exact List.all_eq_true.1 rfl
  · rw [List.getElem?_map, hx] at hr
    simpa using hr.symm
theorem ints_flat (l : List Int) : (l.map fun x => [Value.int .i64 x]).flatten = ic l := by
  induction l with
  | nil => rfl
  | cons x l ih => rw [List.map_cons, List.flatten_cons, ih]; rfl
/-- with -/
theorem with_c {u : Value} {l : List Int} {x : Int} (hu : sF F 1 u l.length (ic l)) (h0 : 0 < l.length) (hl : l.length ≤ 1000) (k : ∀ v' F' N', (Hp.mk F' M N').wf → subF F F' → N ≤ N' → sF F' 1 v' (x :: l.drop 1).length (ic (x :: l.drop 1)) → K v' ⟨F', M, N'⟩) :
    callv Tryd.prog (.func (.func 43) #[] #[]) #[u, .int .i64 x] K E ⟨F, M, N⟩ := by
  refine callv_of_text mixed Tryd.func43 (by kernel_rfl) (t43 _ E _ _) (fun hw => ?_)
  have hm : clean M N := hw.m
  refine nws_r (cs := [.int .i64 x]) (by kernel_rfl) (fun b1 hb1 => ?_)
  refine suf_r (i := 1) (by rw [ints_flat]; exact hu) (ints_rows l) (by omega) fun v' hv' => ?_
  rw [← List.map_drop, ints_flat] at hv'
  have ho : own (upd M b1 (some (.cells 3 [.int .i64 x] [Value.int .i64 x].length))) N 3 1 (.slice (some ⟨b1, 0, none⟩) 1 1) 1 [.int .i64 x] := ⟨rfl, .inr ⟨b1, 1, [], rfl, Nat.le_refl _, by unfold maxLen; omega, hb1, upd_same _ _ _⟩⟩
  have hdl : (l.drop 1).length ≤ 1000 := by rw [List.length_drop]; omega
  refine ho.app (hm.new hb1 _) (by omega) hv'.sR (ints_one _) (by omega) (by unfold maxLen; omega) (fun w M2 N2 h1 h2 h3 h4 hc => ?_)
  have hMM : ∀ q, q < N → M2 q = M q := fun q hq => ((h2 q (by simp [Value.ownBlock]; omega) (by omega)).1).trans (upd_ne _ _ (by omega))
  refine ⟨_, frz_wf hm hMM hc, fun hw' => k w _ N2 hw' (subF_frzAll hc) (by omega) ?_⟩
  have := h1.rd.frz hc (fun b hb => .inl (h1.ge b hb).1)
  rw [Nat.add_comm 1 (l.drop 1).length] at this
  exact this
end Go.Proofs.YthpacapdaembpaaDoor.A
open Go Go.RowKit Go.Proofs.YthpacapdaembpaaDoor.K Go.Proofs.YthpacapdaembpaaDoor.T
set_option linter.unusedVariables false
set_option linter.unusedSimpArgs false
namespace Go.Proofs.YthpacapdaembpaaDoor.A
variable {F F' : Nat → Option (List Value)} {M M' : Nat → Option Chunk} {N N' : Nat} {K : Kont} {E : PanK}
theorem box_bounds {l : List Dm} {lo hi : List Int} (h : boxOK l lo hi = true) (hl : 0 < l.length) : lo.length = l.length ∧ hi.length = l.length ∧ 0 ≤ lo.getD 0 0 ∧ lo.getD 0 0 ≤ hi.getD 0 0 ∧ hi.getD 0 0 ≤ (l.getD 0 (0, [])).1 := by
  unfold boxOK at h
  rw [Bool.and_eq_true] at h
  obtain ⟨h1, h2⟩ := h
  have h3 := of_decide_eq_true h1
  have := of_decide_eq_true (List.all_eq_true.1 h2 0 (List.mem_range.2 (by omega)))
  exact ⟨h3.1, h3.2, this⟩
set_option maxRecDepth 10000 in
set_option maxHeartbeats 4000000 in
/-- QueryBoxes -/
theorem queryBoxes_c {um uk uv uc ua ub : Value} {at' : Int} {m : List (Int × List Int)} {ks : List (List Int)} {v c a b : List Int} (hm : cutsD F um m) (hml : m.length ≤ 140737488351232) (hmc : ∀ c ∈ m, (0 ≤ c.1 ∧ c.1 < 65536) ∧ ∀ x ∈ c.2, 0 ≤ x ∧ x < 256)
    (hk : kksD .u16 F uk ks) (hkl : ks.length ≤ 140737488351232) (hkc : ∀ k ∈ ks, ∀ x ∈ k, 0 ≤ x ∧ x < 65536) (hv : sF F 1 uv v.length (ic v)) (hvl : v.length ≤ 140737488351232) (hvc : ∀ x ∈ v, i64 x)
    (hc : sF F 1 uc c.length (ick .u8 c)) (hcl : c.length ≤ 140737488351232) (hcc : ∀ x ∈ c, 0 ≤ x ∧ x < 256)
    (ha : sF F 1 ua a.length (ick .u16 a)) (hal : a.length ≤ 140737488351232) (hac : ∀ x ∈ a, 0 ≤ x ∧ x < 65536)
    (hb : sF F 1 ub b.length (ick .u16 b)) (hbl : b.length ≤ 140737488351232) (hbc : ∀ x ∈ b, 0 ≤ x ∧ x < 65536) (hat : 0 ≤ at' ∧ at' < 65536) (k : ∀ h, K (.bool true) h) :
    call Tryd.prog 15 #[um, uk, uv, uc, ua, ub, .int .u16 at'] K E ⟨F, M, N⟩ := by
  refine call_text mixed Tryd.func15 (by kernel_rfl) (t15 _ E _ _ _ _ _ _ _) (fun hw => ?_)
  have kn : ∀ {M : Nat → Option Chunk} {F : Nat → Option (List Value)} {N : Nat}, callv Tryd.prog (.func (.func 35) #[] #[]) #[] (fun v h => h.wf → ∃ h', h.wk h' ∧ (h'.wf → K v h')) E ⟨F, M, N⟩ := knownq_c (fun F' N' _ _ _ hc => ⟨_, wk_refl hc, fun _ => k _⟩)
  have hlk : lenV uk = some (.int .i64 (ks.length : Nat)) := by obtain ⟨rows, h1, _⟩ := hk; obtain ⟨a, c, rfl, _⟩ := h1.form; rfl
  refine pv_r hlk ?_
  refine gtr_r (fun h1 => ?_) (fun h1 => ?_)
  · try simp only [gdTT, gdFF, gdTF, gdFT, pvS, pickT, pickF, faP, lenS, capS, nilP, exA, exB, exC, notB, cndT, cndF, Bool.not_true, Bool.not_false, Nat.zero_add, Nat.add_zero]; exact kn
  try simp only [gdTT, gdFF, gdTF, gdFT, pvS, pickT, pickF, faP, lenS, capS, nilP, exA, exB, exC, notB, cndT, cndF, Bool.not_true, Bool.not_false, Nat.zero_add, Nat.add_zero]
  refine knownq_c (fun F1 N1 hF1 hN1 hw1 => ?_)
  try simp only [gdTT, gdFF, gdTF, gdFT, pvS, pickT, pickF, faP, lenS, capS, nilP, exA, exB, exC, notB, cndT, cndF, Bool.not_true, Bool.not_false, Nat.zero_add, Nat.add_zero]
  have hgd := dimsOf_good m (fun c hc => (hmc c hc).1)
  have hok := dimsOf_ok (m := m) (fun c hc => (hmc c hc).1)
  refine dof_c (hm.mono hF1) hml hmc (fun ul F2 N2 hw2 hF2 hN2 hd => ?_)
  refine facts_c hd ((hk.mono hF1).mono hF2) ((hv.mono hF1).mono hF2) (by have := hgd.2.1; omega) (fun d hd => by have := hgd.2.2 d hd; omega) hkc hkl hvl (fun uf F3 N3 hw3 hF3 hN3 hf => ?_)
  have hgt := goodT.facts (ks := ks) hgd hvc
  have hlt := tab_len ((factsOf (dimsOf m) ks v).map fr1)
  rw [List.length_map, factsOf_len] at hlt
  have hsz := sizeL_facts (factsOf (dimsOf m) ks v)
  rw [factsOf_len] at hsz
  refine rmake_c hf (by rw [factsOf_len]; omega) (fun f hf => (facts_okK hgd f hf).1) (fun ut F4 N4 hw4 hF4 hN4 ht => ?_)
  generalize hT : tab ((factsOf (dimsOf m) ks v).map fr1) = T at *
  generalize hL : (factsOf (dimsOf m) ks v).map kvF = L at *
  have hd4 := (hd.mono hF3).mono hF4
  generalize dimsOf m = l at *
  have hl4 := hgd.2.1
  have hl0 := hgd.1
  have hdv : ∀ d ∈ l, d.2.length ≤ 1000000 := fun d hd => by have := okDim_div (okDims_all hok d hd); omega
  have hds : ∀ d ∈ l, 0 < d.1 ∧ d.1 ≤ 1000000 := fun d hd => by have := hgd.2.2 d hd; omega
  have F14 := (hF2.trans hF3).trans hF4
  refine ask_c hd4 ((hc.mono hF1).mono F14) ((ha.mono hF1).mono F14) ((hb.mono hF1).mono F14) (by omega) hds hdv hcc hac hbc hcl hal hbl (fun cs F5 N5 hw5 hF5 hN5 hq => ?_)
  have htok := (levOf_ok (c := c) (nil_ok l)).1
  have htl := levOf_len l c []
  have hti := okLev_i64 htl htok hdv
  have hbx := boxed (a := a) (b := b) hds
  have hloL := boxLo_len l a b
  have hhiL := boxHi_len l a b
  generalize levOf l c [] = lv at *
  generalize boxLo l a b = lo at *
  generalize boxHi l a b = hi at *
  have hbb := box_bounds hbx hl0
  rw [getD_at hl0, getD_at (show 0 < lo.length by omega), getD_at (show 0 < hi.length by omega)] at hbb
  have hd0 := hds _ (List.getElem_mem hl0)
  have hq' := hq
  obtain ⟨x, y, z, rfl, hx, hy, hz, _⟩ := hq'
  obtain ⟨a1, c1, e1, _⟩ := hx.form
  obtain ⟨a2, c2, e2, _⟩ := hy.form
  obtain ⟨a3, c3, e3, _⟩ := hz.form
  refine nw_r (fun b11 hb11 => ?_)
  refine stM (cs' := [x, y, z]) ?_ (upd_same _ _ _) rfl rfl (by rw [e1, e2, e3]; exact List.all_eq_true.1 rfl) (by exact Nat.le_of_ble_eq_true rfl)
  rw [upd_upd]
  have hbox := upd_same M b11 (some (.cells 64 [x, y, z] [Value.slice none 0 0, Value.slice none 0 0, Value.slice none 0 0].length))
  have hm5 : clean (upd M b11 (some (.cells 64 [x, y, z] [Value.slice none 0 0, Value.slice none 0 0, Value.slice none 0 0].length))) (b11 + 1) := (show clean M N5 from hw5.m).new hb11 _
  try simp only [gdTT, gdFF, gdTF, gdFT, pvS, pickT, pickF, faP, lenS, capS, nilP, exA, exB, exC, notB, cndT, cndF, Bool.not_true, Bool.not_false, Nat.zero_add, Nat.add_zero]
  refine ldM (v := y) (ixn_r (i := 0) hy (by omega) fun p => ?_)
  obtain ⟨n, hn⟩ : ∃ n : Nat, at' = n := ⟨at'.toNat, by omega⟩
  rw [hn]
  refine cv_i64 (by omega) ?_
  try simp only [gdTT, gdFF, gdTF, gdFT, pvS, pickT, pickF, faP, lenS, capS, nilP, exA, exB, exC, notB, cndT, cndF, Bool.not_true, Bool.not_false, Nat.zero_add, Nat.add_zero]
  refine ldM (v := z) (ixn_r (i := 0) hz (by omega) fun p => ?_)
  try simp only [gdTT, gdFF, gdTF, gdFT, pvS, pickT, pickF, faP, lenS, capS, nilP, exA, exB, exC, notB, cndT, cndF, Bool.not_true, Bool.not_false, Nat.zero_add, Nat.add_zero]
  refine ldM (v := y) (ixn_r (i := 0) hy (by omega) fun p => ?_)
  refine sub_r (by omega) (by omega) ?_
  refine add_r (by omega) (by omega) ?_
  refine rem_i (by omega) (by omega) ?_
  have hr1 := Int.emod_nonneg (n : Int) (show (hi[0] - lo[0] + 1 : Int) ≠ 0 by omega)
  have hr2 := Int.emod_lt_of_pos (n : Int) (show (0 : Int) < hi[0] - lo[0] + 1 by omega)
  refine add_r (by omega) (by omega) ?_
  generalize hk0 : lo[0] + (n : Int) % (hi[0] - lo[0] + 1) = k0 at *
  have hk0' : lo.getD 0 0 ≤ k0 ∧ k0 ≤ hi.getD 0 0 := by rw [getD_at (show 0 < lo.length by omega), getD_at (show 0 < hi.length by omega)]; omega
  obtain ⟨hbA, hbB, _⟩ := half_ok hl0 hbx hk0'
  have hpm := told_halves (m := lv) hl0 hbx hk0' hgt.key
  have lenA : (k0 :: hi.drop 1).length = l.length := by rw [List.length_cons, List.length_drop]; omega
  have lenB : (k0 :: lo.drop 1).length = l.length := by rw [List.length_cons, List.length_drop]; omega
  try simp only [gdTT, gdFF, gdTF, gdFT, pvS, pickT, pickF, faP, lenS, capS, nilP, exA, exB, exC, notB, cndT, cndF, Bool.not_true, Bool.not_false, Nat.zero_add, Nat.add_zero]
  refine ldM (v := x) ?_
  try simp only [gdTT, gdFF, gdTF, gdFT, pvS, pickT, pickF, faP, lenS, capS, nilP, exA, exB, exC, notB, cndT, cndF, Bool.not_true, Bool.not_false, Nat.zero_add, Nat.add_zero]
  refine ldM (v := y) ?_
  try simp only [gdTT, gdFF, gdTF, gdFT, pvS, pickT, pickF, faP, lenS, capS, nilP, exA, exB, exC, notB, cndT, cndF, Bool.not_true, Bool.not_false, Nat.zero_add, Nat.add_zero]
  refine ldM (v := z) ?_
  generalize upd M b11 _ = M5 at *
  obtain ⟨N6, hN6⟩ : ∃ n, n = b11 + 1 := ⟨_, rfl⟩
  have hb6 : b11 < N6 := by omega
  rw [← hN6]
  rw [← hN6] at hm5
  have hd5 := hd4.mono hF5
  have ht5 := ht.mono hF5
  obtain ⟨r1, g1⟩ := hgt.run hok htl htok hbA (by omega) (by omega)
  obtain ⟨r2, g2⟩ := hgt.run hok htl htok hbB (by omega) (by omega)
  obtain ⟨r3, g3⟩ := hgt.run hok htl htok hbx (by omega) (by omega)
  have n1 := runT_len l T lv lo (k0 :: hi.drop 1)
  have n2 := runT_len l T lv (k0 :: lo.drop 1) hi
  have n3 := runT_len l T lv lo hi
  have z1 := told_size l lv lo (k0 :: hi.drop 1) L
  have z2 := told_size l lv (k0 :: lo.drop 1) hi L
  have hkT : ∀ r ∈ T, r.1.length ≤ 10000000000 := fun r hr => (hgt.okK (by omega) r hr).1
  have x1 := fun b38 (h : N6 ≤ b38) c => (upd_ne M5 (b := b38) (k := b11) c (by omega)).trans hbox
  refine ⟨?_, ?_⟩
  rotate_left
  -- the box first
  refine nw_r (fun b38 hb38 => ?_)
  refine ⟨ldV_c (row_M (x1 _ hb38 _)) rfl, ldV_c (row_M (x1 _ hb38 _)) rfl, ldV_c (row_M (x1 _ hb38 _)) rfl, ?_⟩
  refine with_c (x := k0) hz (by omega) (by omega) (fun w1 F7 N8 hw8 hF7 hN8 hw1' => ?_)
  refine ⟨ldV_c (row_M (x1 _ hb38 _)) rfl, ldV_c (row_M (x1 _ hb38 _)) rfl, ?_⟩
  obtain ⟨a4, c4, e4, _⟩ := hw1'.form
  refine pv_r (v := .agg #[x, y, w1]) (by rw [e1, e2, e4]; kernel_rfl) ?_
  refine stM (cs' := [x, y, w1]) ?_ (upd_same _ _ _) rfl rfl (by rw [e1, e2, e4]; exact List.all_eq_true.1 rfl) (by exact Nat.le_of_ble_eq_true rfl)
  rw [upd_upd]
  have g38 := upd_same M5 b38 (some (.cells 64 [x, y, w1] [Value.slice none 0 0, Value.slice none 0 0, Value.slice none 0 0].length))
  have g11 := x1 _ hb38 (some (.cells 64 [x, y, w1] [Value.slice none 0 0, Value.slice none 0 0, Value.slice none 0 0].length))
  have hm8 : clean (upd M5 b38 (some (.cells 64 [x, y, w1] [Value.slice none 0 0, Value.slice none 0 0, Value.slice none 0 0].length))) N8 := hm5.set' hb38 (by omega)
  clear hw8
  generalize upd M5 b38 _ = M7 at *
  rotate_left
  -- the box later
  refine with_c (x := k0) hz (by omega) (by omega) (fun w1 F7 N7 hw7 hF7 hN7 hw1' => ?_)
  refine ⟨ldV_c (row_M hbox) rfl, ldV_c (row_M hbox) rfl, ?_⟩
  obtain ⟨a4, c4, e4, _⟩ := hw1'.form
  refine pv_r (v := .agg #[x, y, w1]) (by rw [e1, e2, e4]; kernel_rfl) ?_
  refine nw_r (fun b38 hb38' => ?_)
  have hb38 : N6 ≤ b38 := by omega
  refine ⟨ldV_c (row_M (x1 _ hb38 _)) rfl, ldV_c (row_M (x1 _ hb38 _)) rfl, ?_⟩
  refine stM (cs' := [x, y, w1]) ?_ (upd_same _ _ _) rfl rfl (by rw [e1, e2, e4]; exact List.all_eq_true.1 rfl) (by exact Nat.le_of_ble_eq_true rfl)
  rw [upd_upd]
  have g38 := upd_same M5 b38 (some (.cells 64 [x, y, w1] [Value.slice none 0 0, Value.slice none 0 0, Value.slice none 0 0].length))
  have g11 := x1 _ hb38 (some (.cells 64 [x, y, w1] [Value.slice none 0 0, Value.slice none 0 0, Value.slice none 0 0].length))
  obtain ⟨N8, hN8⟩ : ∃ n, n = b38 + 1 := ⟨_, rfl⟩
  have hm8 : clean (upd M5 b38 (some (.cells 64 [x, y, w1] [Value.slice none 0 0, Value.slice none 0 0, Value.slice none 0 0].length))) N8 := hm5.set' hb38 (by omega)
  rw [← hN8]
  generalize upd M5 b38 _ = M7 at *
  all_goals
    have b38N := hm8.lt g38
    have b11N := hm8.lt g11
    try simp only [gdTT, gdFF, gdTF, gdFT, pvS, pickT, pickF, faP, lenS, capS, nilP, exA, exB, exC, notB, cndT, cndF, Bool.not_true, Bool.not_false, Nat.zero_add, Nat.add_zero]
    refine ldM (v := x) ?_ g11
    try simp only [gdTT, gdFF, gdTF, gdFT, pvS, pickT, pickF, faP, lenS, capS, nilP, exA, exB, exC, notB, cndT, cndF, Bool.not_true, Bool.not_false, Nat.zero_add, Nat.add_zero]
    refine ldM (v := y) ?_ g11
    try simp only [gdTT, gdFF, gdTF, gdFT, pvS, pickT, pickF, faP, lenS, capS, nilP, exA, exB, exC, notB, cndT, cndF, Bool.not_true, Bool.not_false, Nat.zero_add, Nat.add_zero]
    refine ldM (v := z) ?_ g11
    have y1 := fun b49 (h : N8 ≤ b49) c => (upd_ne M7 (b := b49) (k := b11) c (by omega)).trans g11
    have y2 := fun b49 (h : N8 ≤ b49) c => (upd_ne M7 (b := b49) (k := b38) c (by omega)).trans g38
    refine ⟨?_, ?_⟩
    rotate_left
    refine nw_r (fun b49 hb49 => ?_)
    refine ⟨ldV_c (row_M (y1 _ hb49 _)) rfl, ldV_c (row_M (y1 _ hb49 _)) rfl, ldV_c (row_M (y1 _ hb49 _)) rfl, ?_⟩
    refine with_c (x := k0) (hy.mono hF7) (by omega) (by omega) (fun w2 F9 N9 hw9 hF9 hN9 hw2' => ?_)
    refine ⟨ldV_c (row_M (y1 _ hb49 _)) rfl, ldV_c (row_M (y1 _ hb49 _)) rfl, ?_⟩
    obtain ⟨a5, c5, e5, _⟩ := hw2'.form
    refine pv_r (v := .agg #[x, w2, z]) (by rw [e1, e3, e5]; kernel_rfl) ?_
    refine stM (cs' := [x, w2, z]) ?_ (upd_same _ _ _) rfl rfl (by rw [e1, e3, e5]; exact List.all_eq_true.1 rfl) (by exact Nat.le_of_ble_eq_true rfl)
    rw [upd_upd]
    have k49 := upd_same M7 b49 (some (.cells 64 [x, w2, z] [Value.slice none 0 0, Value.slice none 0 0, Value.slice none 0 0].length))
    have k11 := y1 _ hb49 (some (.cells 64 [x, w2, z] [Value.slice none 0 0, Value.slice none 0 0, Value.slice none 0 0].length))
    have k38 := y2 _ hb49 (some (.cells 64 [x, w2, z] [Value.slice none 0 0, Value.slice none 0 0, Value.slice none 0 0].length))
    clear hw9
    generalize upd M7 b49 _ = M9 at *
    rotate_left
    refine with_c (x := k0) (hy.mono hF7) (by omega) (by omega) (fun w2 F9 N9 hw9 hF9 hN9 hw2' => ?_)
    refine ⟨ldV_c (row_M g11) rfl, ldV_c (row_M g11) rfl, ?_⟩
    obtain ⟨a5, c5, e5, _⟩ := hw2'.form
    refine pv_r (v := .agg #[x, w2, z]) (by rw [e1, e3, e5]; kernel_rfl) ?_
    refine nw_r (fun b49 hb49' => ?_)
    have hb49 : N8 ≤ b49 := by omega
    refine ⟨ldV_c (row_M (y1 _ hb49 _)) rfl, ldV_c (row_M (y1 _ hb49 _)) rfl, ?_⟩
    refine stM (cs' := [x, w2, z]) ?_ (upd_same _ _ _) rfl rfl (by rw [e1, e3, e5]; exact List.all_eq_true.1 rfl) (by exact Nat.le_of_ble_eq_true rfl)
    rw [upd_upd]
    have k49 := upd_same M7 b49 (some (.cells 64 [x, w2, z] [Value.slice none 0 0, Value.slice none 0 0, Value.slice none 0 0].length))
    have k11 := y1 _ hb49 (some (.cells 64 [x, w2, z] [Value.slice none 0 0, Value.slice none 0 0, Value.slice none 0 0].length))
    have k38 := y2 _ hb49 (some (.cells 64 [x, w2, z] [Value.slice none 0 0, Value.slice none 0 0, Value.slice none 0 0].length))
    generalize upd M7 b49 _ = M9 at *
    all_goals
      have F59 := hF7.trans hF9
      refine ldMa (vs := [x, y, w1]) ?_ k38
      refine run_c (hd5.mono F59) (by omega) (ht5.mono F59) (by omega) (query_mk (hx.mono F59) (hy.mono F59) (hw1'.mono hF9) (by omega) (by omega) (by omega)) hti hgt.i64 (fun _ => hkT) (fun vA FA NA hwA hFA hNA hA => ?_)
      rw [r1]
      try simp only [gdTT, gdFF, gdTF, gdFT, pvS, pickT, pickF, faP, lenS, capS, nilP, exA, exB, exC, notB, cndT, cndF, Bool.not_true, Bool.not_false, Nat.zero_add, Nat.add_zero]
      refine ldMa (vs := [x, w2, z]) ?_ k49
      refine run_c ((hd5.mono F59).mono hFA) (by omega) ((ht5.mono F59).mono hFA) (by omega) (query_mk ((hx.mono F59).mono hFA) (hw2'.mono hFA) ((hz.mono F59).mono hFA) (by omega) (by omega) (by omega)) hti hgt.i64 (fun _ => hkT) (fun vB FB NB hwB hFB hNB hB => ?_)
      rw [r2]
      try simp only [gdTT, gdFF, gdTF, gdFT, pvS, pickT, pickF, faP, lenS, capS, nilP, exA, exB, exC, notB, cndT, cndF, Bool.not_true, Bool.not_false, Nat.zero_add, Nat.add_zero]
      have F5B := (F59.trans hFA).trans hFB
      refine ldMa (vs := [x, y, z]) ?_ k11
      refine run_c (hd5.mono F5B) (by omega) (ht5.mono F5B) (by omega) (hq.mono F5B) hti hgt.i64 (fun _ => hkT) (fun vC FC NC hwC hFC hNC hC => ?_)
      rw [r3]
      try simp only [gdTT, gdFF, gdTF, gdFT, pvS, pickT, pickF, faP, lenS, capS, nilP, exA, exB, exC, notB, cndT, cndF, Bool.not_true, Bool.not_false, Nat.zero_add, Nat.add_zero]
      have hA' := (hA.mono hFB).mono hFC
      have hB' := hB.mono hFC
      obtain ⟨p1, q1, fA, _⟩ : ∃ a c, vA = .slice a (runT l T lv lo (k0 :: hi.drop 1)).length c ∧ True := by obtain ⟨a, c, h⟩ := hA'.form; exact ⟨a, c, h, trivial⟩
      obtain ⟨p2, q2, fB, _⟩ : ∃ a c, vB = .slice a (runT l T lv (k0 :: lo.drop 1) hi).length c ∧ True := by obtain ⟨a, c, h⟩ := hB'.form; exact ⟨a, c, h, trivial⟩
      have hmC : clean M9 NC := hwC.m
      refine nws_r (cs := [vA, vB]) (by rw [fA, fB]; kernel_rfl) (fun b63 hb63 => ?_)
      refine callv_go (fun hc' => ⟨_, frz_wf hmC (fun q hq => upd_ne _ _ (by omega)) hc', ?_⟩)
      have hsD := subF_frzAll (N := NC) hc'
      have kD := frz_at (F := FC) (N := NC) hb63 (upd_same M9 b63 (some (.cells 22 [vA, vB] [vA, vB].length)))
      generalize frzAll FC (upd M9 b63 _) NC = FD at *
      have hts : tblsD FD (.slice (some ⟨b63, 0, none⟩) 2 2) [runT l T lv lo (k0 :: hi.drop 1), runT l T lv (k0 :: lo.drop 1) hi] := by
        have h0 := rowsF.nil (fun (r : List Value) (t : List Rw) => ∃ u, r = [u] ∧ tblD FD u t ∧ t.length ≤ 140737488351232) 1
        have ra := tbl_row (hA'.mono hsD) (by omega)
        have rb := tbl_row (hB'.mono hsD) (by omega)
        exact tbls_lit (cells := [vA, vB]) kD rfl rfl (rowsF_snoc1 (rowsF_snoc1 h0 ra.1 ra.2) rb.1 rb.2)
      have fl : [runT l T lv lo (k0 :: hi.drop 1), runT l T lv (k0 :: lo.drop 1) hi].flatten = runT l T lv lo (k0 :: hi.drop 1) ++ runT l T lv (k0 :: lo.drop 1) hi := by simp
      obtain ⟨je, jt⟩ := join_two g1 g2 g3 (by omega) (by omega) (by omega) (by omega) (by omega) hpm fl
      refine join_c hts (by rw [fl, List.length_append]; omega) (by simp) (fun r hr => by rw [fl] at hr; exact (List.mem_append.1 hr).elim (g1.okK (by omega) r) (g2.okK (by omega) r)) (fun vE FE NE hwE hFE hNE hE => ?_)
      rw [je]
      rw [jt] at hE
      try simp only [gdTT, gdFF, gdTF, gdFT, pvS, pickT, pickF, faP, lenS, capS, nilP, exA, exB, exC, notB, cndT, cndF, Bool.not_true, Bool.not_false, Nat.zero_add, Nat.add_zero]
      refine eql_t rfl ?_
      try simp only [gdTT, gdFF, gdTF, gdFT, pvS, pickT, pickF, faP, lenS, capS, nilP, exA, exB, exC, notB, cndT, cndF, Bool.not_true, Bool.not_false, Nat.zero_add, Nat.add_zero]
      refine eql_t rfl ?_
      try simp only [gdTT, gdFF, gdTF, gdFT, pvS, pickT, pickF, faP, lenS, capS, nilP, exA, exB, exC, notB, cndT, cndF, Bool.not_true, Bool.not_false, Nat.zero_add, Nat.add_zero]
      refine eql_t rfl ?_
      try simp only [gdTT, gdFF, gdTF, gdFT, pvS, pickT, pickF, faP, lenS, capS, nilP, exA, exB, exC, notB, cndT, cndF, Bool.not_true, Bool.not_false, Nat.zero_add, Nat.add_zero]
      refine eql_t rfl ?_
      try simp only [gdTT, gdFF, gdTF, gdFT, pvS, pickT, pickF, faP, lenS, capS, nilP, exA, exB, exC, notB, cndT, cndF, Bool.not_true, Bool.not_false, Nat.zero_add, Nat.add_zero]
      refine same_c hE ((hC.mono hsD).mono hFE) (by omega) ?_
      rw [decide_eq_true rfl]
      try simp only [gdTT, gdFF, gdTF, gdFT, pvS, pickT, pickF, faP, lenS, capS, nilP, exA, exB, exC, notB, cndT, cndF, Bool.not_true, Bool.not_false, Nat.zero_add, Nat.add_zero]
      exact fun hc => ⟨_, wk_refl hc, fun _ => k _⟩
end Go.Proofs.YthpacapdaembpaaDoor.A
open Go Go.RowKit Go.Proofs.YthpacapdaembpaaDoor.K Go.Proofs.YthpacapdaembpaaDoor.T
set_option linter.unusedVariables false
set_option linter.unusedSimpArgs false
namespace Go.Proofs.YthpacapdaembpaaDoor.A
variable {F F' : Nat → Option (List Value)} {M M' : Nat → Option Chunk} {N N' : Nat} {K : Kont} {E : PanK}
theorem QueryBoxes_true (v0 v1 v2 v3 v4 v5 : Value) (a6 : Int) {y0 : List (Int × List Int)} {y1 : List (List Int)} {y2 y3 y4 y5 : List Int} (W : World) (h0 : rS 2 rCut (F0 W) [v0] y0) (h1 : rS 1 (rS 1 (rI .u16)) (F0 W) [v1] y1) (h2 : rS 1 (rI .i64) (F0 W) [v2] y2) (h3 : rS 1 (rI .u8) (F0 W) [v3] y3) (h4 : rS 1 (rI .u16) (F0 W) [v4] y4) (h5 : rS 1 (rI .u16) (F0 W) [v5] y5) (w6 : (Lit.int .u16 a6).wf = true) :
    Calls Tryd.prog 15 #[v0, v1, v2, v3, v4, v5, .int .u16 a6] W fun e w' => e = .returned (.bool true) ∧ Below W.heap.size W w' :=
  have b := cuts_of h0
  have c := lists_of h1
  have d := list_of h2
  have e := list_of h3
  have f := list_of h4
  have g := list_of h5
  fin_true (queryBoxes_c b.1 b.2.1 b.2.2 c.1 c.2.1 (fun l hl x hx => wf_u16 (c.2.2 l hl x hx)) d.1 d.2.2 (fun x hx => wf_i64 (d.2.1 x hx)) e.1 e.2.2 (fun x hx => wf_u8 (e.2.1 x hx)) f.1 f.2.2 (fun x hx => wf_u16 (f.2.1 x hx)) g.1 g.2.2 (fun x hx => wf_u16 (g.2.1 x hx)) (wf_u16 w6) fun _ => rfl)
end Go.Proofs.YthpacapdaembpaaDoor.A
open Go Go.RowKit Go.Proofs.YthpacapdaembpaaDoor.K Go.Proofs.YthpacapdaembpaaDoor.T
set_option linter.unusedVariables false
set_option linter.unusedSimpArgs false
namespace Go.Proofs.YthpacapdaembpaaDoor.A
variable {F F' : Nat → Option (List Value)} {M M' : Nat → Option Chunk} {N N' : Nat} {K : Kont} {E : PanK}
set_option maxRecDepth 10000 in
/-- Levels, a list of the caller's own. -/
theorem lgen_o {u v w : Value} {l : List Dm} {c m : List Int} (hu : dimsD F u l) (hv : sF F 1 v c.length (ick .u8 c)) (hw' : sF F 1 w m.length (ic m)) (hl : l.length ≤ 1000000) (hdv : ∀ d ∈ l, d.2.length ≤ 1000000) (hc : ∀ x ∈ c, 0 ≤ x ∧ x < 256) (hm' : okLev l m) (hcl : c.length ≤ 140737488351232) (hml : m.length ≤ 140737488351232)
    (k : ∀ v' M' N', own M' N 3 1 v' (levOf l c m).length (ic (levOf l c m)) → (∀ q, q < N → M' q = M q) → N ≤ N' → clean M' N' → (Hp.mk F M' N').wf → K v' ⟨F, M', N'⟩) :
    callv Tryd.prog (.func (.func 33) #[] #[]) #[u, v, w] K E ⟨F, M, N⟩ := by
  refine callv_of_text mixed Tryd.func33 (by kernel_rfl) (t33 _ E _ _ _) (fun hw => ?_)
  have hm : clean M N := hw.m
  obtain ⟨rows, hu1, hu2⟩ := hu
  have hlu : lenV u = some (.int .i64 (l.length : Nat)) := by obtain ⟨a, c, rfl, _⟩ := hu1.form; rfl
  have hlv : lenV v = some (.int .i64 (c.length : Nat)) := by obtain ⟨a, c, rfl, _⟩ := hv.form; rfl
  have hlw : lenV w = some (.int .i64 (m.length : Nat)) := by obtain ⟨a, c, rfl, _⟩ := hw'.form; rfl
  refine l33_1_1_0_1_0_0 (σ := Nat × Value) (fun s => s.2) (fun s => .int .i64 (s.1 : Nat))
    (fun s h => ∃ M' N', h = ⟨F, M', N'⟩ ∧ N ≤ N' ∧ (∀ q, q < N → M' q = M q) ∧ clean M' N' ∧ s.1 ≤ l.length ∧ own M' N 3 1 s.2 s.1 (ic (levOf (l.take s.1) c m))) (fun s => l.length - s.1) (0, .slice none 0 0) rfl rfl
    (fun hw2 => ⟨_, wk_refl hw2, M, N, rfl, Nat.le_refl _, fun _ _ => rfl, hm, Nat.zero_le _, own.nil⟩) (fun k1 s j h1 hI hw2 next => ?_)
  obtain ⟨M2, N2, rfl, hN2, hM2, hm2, hi, ho2⟩ := hI
  simp only [hlu, hlv]
  try simp only [gdTT, gdFF, gdTF, gdFT, pvS, pickT, pickF, faP, lenS, capS, nilP, exA, exB, exC, notB, cndT, cndF, Bool.not_true, Bool.not_false, Nat.zero_add, Nat.add_zero]
  refine lss_r (fun hlt => ?_) (fun hge => ?_)
  · have h1 : s.1 < l.length := by omega
    obtain ⟨l0, l1⟩ := hm' s.1 h1
    have hdl := hdv l[s.1] (List.getElem_mem _)
    have hg : 0 ≤ c.getD s.1 0 ∧ c.getD s.1 0 < 65536 := by
      rw [List.getD_eq_getElem?_getD]
      cases h : c[s.1]? with
      | none => simp
      | some x => have := hc x (List.mem_of_getElem? h); simp only [Option.getD_some]; omega
    try simp only [gdTT, gdFF, gdTF, gdFT, pvS, pickT, pickF, faP, lenS, capS, nilP, exA, exB, exC, notB, cndT, cndF, Bool.not_true, Bool.not_false, Nat.zero_add, Nat.add_zero]
    refine lss_r (fun hlt2 => ?_) (fun hge2 => ?_)
    have h2 : s.1 < c.length := by omega
    try simp only [gdTT, gdFF, gdTF, gdFT, pvS, pickT, pickF, faP, lenS, capS, nilP, exA, exB, exC, notB, cndT, cndF, Bool.not_true, Bool.not_false, Nat.zero_add, Nat.add_zero]
    refine ixk_r hv h2 fun p => ?_
    obtain ⟨x0, x1⟩ := hc c[s.1] (List.getElem_mem _)
    obtain ⟨n, hn, hnc⟩ : ∃ n : Nat, c[s.1] = (n : Int) ∧ c.getD s.1 0 = (n : Int) := ⟨c[s.1].toNat, by omega, by rw [List.getD_eq_getElem?_getD, List.getElem?_eq_getElem h2, Option.getD_some]; omega⟩
    rw [hn]
    refine cv_i64 (a := n) (by omega) ?_
    rotate_left
    try simp only [gdTT, gdFF, gdTF, gdFT, pvS, pickT, pickF, faP, lenS, capS, nilP, exA, exB, exC, notB, cndT, cndF, Bool.not_true, Bool.not_false, Nat.zero_add, Nat.add_zero]
    have hnc : c.getD s.1 0 = (0 : Int) := by rw [List.getD_eq_getElem?_getD, List.getElem?_eq_none (by omega)]; rfl
    all_goals
      rw [t33_1_1_0_1_0_0_1_0_0_1_1_1]
      simp only [hlw]
      try simp only [gdTT, gdFF, gdTF, gdFT, pvS, pickT, pickF, faP, lenS, capS, nilP, exA, exB, exC, notB, cndT, cndF, Bool.not_true, Bool.not_false, Nat.zero_add, Nat.add_zero]
      refine lss_r (fun hlt3 => ?_) (fun hge3 => ?_)
      have h3 : s.1 < m.length := by omega
      try simp only [gdTT, gdFF, gdTF, gdFT, pvS, pickT, pickF, faP, lenS, capS, nilP, exA, exB, exC, notB, cndT, cndF, Bool.not_true, Bool.not_false, Nat.zero_add, Nat.add_zero]
      refine ixn_r hw' h3 fun p => ?_
      have hlo2 : m.getD s.1 0 = m[s.1] := by rw [List.getD_eq_getElem?_getD, List.getElem?_eq_getElem h3, Option.getD_some]
      rotate_left
      try simp only [gdTT, gdFF, gdTF, gdFT, pvS, pickT, pickF, faP, lenS, capS, nilP, exA, exB, exC, notB, cndT, cndF, Bool.not_true, Bool.not_false, Nat.zero_add, Nat.add_zero]
      have hlo2 : m.getD s.1 0 = (0 : Int) := by rw [List.getD_eq_getElem?_getD, List.getElem?_eq_none (by omega)]; rfl
      all_goals
        rw [t33_1_1_0_1_0_0_1_0_0_1_1_1_1]
        refine fld_r hu1 hu2 (by decide) h1 (off := 1) (by decide) fun p q r x hR _ hx => ?_
        obtain ⟨kv, rfl, hkv', hkl⟩ := hR
        simp at hx
        subst hx
        refine lenF_r hkv' ?_
        refine lgen_fin ho2 hm2 hN2 (by omega) hdl hnc hlo2 hg.1 hg.2 l0 l1 (fun _ _ _ _ _ v' M3 N3 h4 h5 h6 h7 => ?_)
        rw [t33_1_1_0_1_0_0_1_1]
        refine inc_r (by omega) ?_
        refine next (s.1 + 1, v') _ _ (by simp only; omega) (fun hw3 => ⟨_, wk_refl hw3, M3, N3, rfl, by omega, fun q hq => (h5 q hq).trans (hM2 q hq), h7, h1, ?_⟩)
        simp only
        rw [levOf_take l c m h1]
        exact h4
  · try simp only [gdTT, gdFF, gdTF, gdFT, pvS, pickT, pickF, faP, lenS, capS, nilP, exA, exB, exC, notB, cndT, cndF, Bool.not_true, Bool.not_false, Nat.zero_add, Nat.add_zero]
    rw [t33_1_1_1]
    rw [List.take_of_length_le (by omega)] at ho2
    rw [show s.1 = l.length by omega] at ho2
    exact fun hc' => ⟨_, wk_refl hc', fun hw' => k _ _ _ (by rw [levOf_len]; exact ho2) hM2 hN2 hm2 hw'⟩
set_option maxRecDepth 10000 in
/-- Ask, whose levels are the caller's own. -/
theorem ask_o {u w va vb : Value} {l : List Dm} {c a b : List Int} (hu : dimsD F u l) (hw' : sF F 1 w c.length (ick .u8 c)) (hv : sF F 1 va a.length (ick .u16 a)) (hvb : sF F 1 vb b.length (ick .u16 b)) (hl : l.length ≤ 1000000) (hs : ∀ d ∈ l, 0 < d.1 ∧ d.1 ≤ 1000000) (hdv : ∀ d ∈ l, d.2.length ≤ 1000000) (hcc : ∀ x ∈ c, 0 ≤ x ∧ x < 256) (hac : ∀ x ∈ a, 0 ≤ x ∧ x < 65536) (hbc : ∀ x ∈ b, 0 ≤ x ∧ x < 65536) (hcl : c.length ≤ 140737488351232) (hal : a.length ≤ 140737488351232) (hbl : b.length ≤ 140737488351232)
    (k : ∀ z x y F' M' N', (Hp.mk F' M' N').wf → subF F F' → N ≤ N' → (∀ q, q < N → M' q = M q) → own M' N 3 1 z (levOf l c []).length (ic (levOf l c [])) → sF F' 1 x (boxLo l a b).length (ic (boxLo l a b)) → sF F' 1 y (boxHi l a b).length (ic (boxHi l a b)) → K (.agg #[z, x, y]) ⟨F', M', N'⟩) :
    callv Tryd.prog (.func (.func 40) #[] #[]) #[u, w, va, vb] K E ⟨F, M, N⟩ := by
  refine callv_of_text mixed Tryd.func40 (by kernel_rfl) (t40 _ E _ _ _ _) (fun hw => ?_)
  have hm : clean M N := hw.m
  refine nw_r (fun b1 hb1 => ?_)
  refine box_c hu hv hvb hl hs hac hbc hal hbl (fun x y F2 N2 hw2 hF2 hN2 hx hy => ?_)
  try simp only [gdTT, gdFF, gdTF, gdFT, pvS, pickT, pickF, faP, lenS, capS, nilP, exA, exB, exC, notB, cndT, cndF, Bool.not_true, Bool.not_false, Nat.zero_add, Nat.add_zero]
  refine lgen_o (m := []) (hu.mono hF2) (hw'.mono hF2) (sF.nil _ _ _) hl hdv hcc (nil_ok l) hcl (by simp) (fun z M3 N3 hz hM3 hN3 hm3 hw3 => ?_)
  obtain ⟨a1, c1, e1, _⟩ := hx.form
  obtain ⟨a2, c2, e2, _⟩ := hy.form
  obtain ⟨a3, c3, e3, _⟩ := hz.form
  refine pv_r (v := .agg #[z, x, y]) (by rw [e1, e2, e3]; kernel_rfl) ?_
  have hb1M := (hM3 b1 (by omega)).trans (upd_same M b1 _)
  refine stM (cs' := [z, x, y]) ?_ hb1M rfl rfl (by rw [e1, e2, e3]; exact List.all_eq_true.1 rfl) (by exact Nat.le_of_ble_eq_true rfl)
  refine ldMa (vs := [z, x, y]) ?_
  refine fun hc => ⟨_, wk_refl hc, fun hw4 => k z x y _ _ _ hw4 hF2 (by omega) (fun q hq => (upd_ne _ _ (by omega)).trans ((hM3 q (by omega)).trans (upd_ne _ _ (by omega)))) ?_ hx hy⟩
  exact hz.keep (fun q hq => upd_ne _ _ (fun e => by have := (hz.ge q hq).1; omega)) (by omega)
/-- The last level of all. -/
def topOf (l : List Dm) : List Int := l.map fun d => ((d.2.length + 1 : Nat) : Int)
theorem topOf_len (l : List Dm) : (topOf l).length = l.length := by simp [topOf]
theorem topOf_at {l : List Dm} {i : Nat} (h : i < l.length) : (topOf l).getD i 0 = ((l[i].2.length + 1 : Nat) : Int) := by
  rw [getD_at (by rw [topOf_len]; exact h)]; simp [topOf]
theorem topOf_ok (l : List Dm) : okLev l (topOf l) := fun i h => by rw [topOf_at h]; omega
theorem at_top {l : List Dm} (hd : okDims l = true) {k : List Int} (hk : goodKey l k) : atF l (zeros l.length) (topOf l) k = zeros l.length := by
  rw [atF_eq hd (zeros_up (topOf_len l) (topOf_ok l)) hk.1]
  refine List.ext_getElem? fun i => ?_
  rcases Nat.lt_or_ge i l.length with h | h
  · rw [atL_get h, zeros_get, topOf_at h]
    have hdi := okDims_all hd _ (List.getElem_mem h)
    have hkv : 0 ≤ k.getD i 0 := by
      rw [getD_at (by rw [hk.1]; exact h)]
      exact (hk.2 _ (List.getElem_mem _)).1
    rw [upF_of hdi (by omega) (by omega) (by omega) hkv, if_neg (by omega), if_pos ((byF_zero hdi (by omega)).2 (by omega))]
    rw [List.getElem?_eq_getElem (by rw [zeros_len]; exact h)]
    simp [zeros]
  · rw [List.getElem?_eq_none (by rw [atL_len]; exact h), List.getElem?_eq_none (by rw [zeros_len]; exact h)]
theorem vals_one {k : List Int} : ∀ {ls : List KV}, (∀ x ∈ ls, x.1 = k) → (∀ x ∈ ls, x.2.length = 1) → (valsAt ls k).length = ls.length
  | [], _, _ => by simp [valsAt]
  | x :: ls, h1, h2 => by
    rw [valsAt_cons, if_pos (h1 x List.mem_cons_self), List.length_append, vals_one (fun y hy => h1 y (List.mem_cons_of_mem _ hy)) (fun y hy => h2 y (List.mem_cons_of_mem _ hy)), h2 x List.mem_cons_self, List.length_cons]
    omega
/-- At the last level there is one row, if there is any. -/
theorem top_one {l : List Dm} {t : List Rw} {ls : List KV} {k : List Int} (h : goodT l t ls) (h1 : ∀ x ∈ ls, x.1 = k) (h2 : ∀ x ∈ ls, x.2.length = 1) : (ls.length = 0 → t = []) ∧ (0 < ls.length → ∃ c : CE, t = [(k, c)] ∧ c.n = ls.length) := by
  have hv := vals_one h1 h2
  refine ⟨fun h0 => ?_, fun h0 => ?_⟩
  · rw [List.eq_nil_of_length_eq_zero h0] at h
    exact h.ext (goodT.none l) (fun q => List.Perm.refl _)
  · have hk := h.has k
    cases hl : look t k with
    | none => rw [hl] at hk; have hk' : valsAt ls k = [] := hk; rw [hk'] at hv; simp at hv; omega
    | some c =>
      rw [hl] at hk
      have hk' : isCell c (valsAt ls k) := hk
      have hall : ∀ r ∈ t, r.1 = k := fun r hr => by
        obtain ⟨⟨x, hx, e⟩, _⟩ := mem_keys h.has h.srt hr
        rw [← e]; exact h1 x hx
      have hmem := (look_some h.srt.nodup).1 hl
      refine ⟨c, ?_, by rw [hk'.n, hv]⟩
      cases t with
      | nil => simp at hmem
      | cons r t =>
        cases t with
        | nil => simp at hmem; rw [hmem]
        | cons r2 t =>
          exfalso
          have hn := h.srt.nodup
          have := (List.pairwise_cons.1 hn).1 r2 List.mem_cons_self
          exact this (by rw [hall r List.mem_cons_self, hall r2 (List.mem_cons_of_mem _ List.mem_cons_self)])
/-- How many facts are in a box. -/
def inBox (lo hi : List Int) (fs : List Fc) : List Fc := fs.filter fun f => withinF lo hi f.1
theorem top_run {l : List Dm} {fs : List Fc} {lo hi : List Int} (hd : okDims l = true) (hg : ∀ x ∈ fs.map kvF, goodKey l x.1) {t : List Rw} (h : goodT l t (told l (topOf l) lo hi (fs.map kvF))) : ((inBox lo hi fs).length = 0 → t = []) ∧ (0 < (inBox lo hi fs).length → ∃ c : CE, t = [(zeros l.length, c)] ∧ c.n = (inBox lo hi fs).length) := by
  have e : told l (topOf l) lo hi (fs.map kvF) = (inBox lo hi fs).map fun f => (atF l (zeros l.length) (topOf l) f.1, [f.2]) := by
    unfold told boxedL reK inBox
    rw [List.filter_map, List.map_map]
    rfl
  rw [e] at h
  have h1 : ∀ x ∈ (inBox lo hi fs).map (fun f => (atF l (zeros l.length) (topOf l) f.1, [f.2])), x.1 = zeros l.length := fun x hx => by
    obtain ⟨f, hf, rfl⟩ := List.mem_map.1 hx
    exact at_top hd (hg (kvF f) (List.mem_map_of_mem (List.mem_filter.1 hf).1))
  have h2 : ∀ x ∈ (inBox lo hi fs).map (fun f => (atF l (zeros l.length) (topOf l) f.1, [f.2])), x.2.length = 1 := fun x hx => by
    obtain ⟨f, hf, rfl⟩ := List.mem_map.1 hx; rfl
  have := top_one h h1 h2
  rw [List.length_map] at this
  exact this
end Go.Proofs.YthpacapdaembpaaDoor.A
open Go Go.RowKit Go.Proofs.YthpacapdaembpaaDoor.K Go.Proofs.YthpacapdaembpaaDoor.T
set_option linter.unusedVariables false
set_option linter.unusedSimpArgs false
namespace Go.Proofs.YthpacapdaembpaaDoor.A
variable {F F' : Nat → Option (List Value)} {M M' : Nat → Option Chunk} {N N' : Nat} {K : Kont} {E : PanK}
theorem inBox_t {lo hi : List Int} {t : List Fc} {i : Nat} (h : i < t.length) (hp : withinF lo hi t[i].1 = true) : (inBox lo hi (t.take (i + 1))).length = (inBox lo hi (t.take i)).length + 1 := by
  unfold inBox
  rw [List.take_add_one, List.getElem?_eq_getElem h, Option.toList_some, List.filter_append]
  simp [hp]
theorem inBox_f {lo hi : List Int} {t : List Fc} {i : Nat} (h : i < t.length) (hp : withinF lo hi t[i].1 = false) : (inBox lo hi (t.take (i + 1))).length = (inBox lo hi (t.take i)).length := by
  unfold inBox
  rw [List.take_add_one, List.getElem?_eq_getElem h, Option.toList_some, List.filter_append]
  simp [hp]
set_option maxRecDepth 10000 in
set_option maxHeartbeats 4000000 in
/-- QueryTop -/
theorem queryTop_c {um uk uv ua ub : Value} {m : List (Int × List Int)} {ks : List (List Int)} {v a b : List Int} (hm : cutsD F um m) (hml : m.length ≤ 140737488351232) (hmc : ∀ c ∈ m, (0 ≤ c.1 ∧ c.1 < 65536) ∧ ∀ x ∈ c.2, 0 ≤ x ∧ x < 256)
    (hk : kksD .u16 F uk ks) (hkl : ks.length ≤ 140737488351232) (hkc : ∀ k ∈ ks, ∀ x ∈ k, 0 ≤ x ∧ x < 65536) (hv : sF F 1 uv v.length (ic v)) (hvl : v.length ≤ 140737488351232) (hvc : ∀ x ∈ v, i64 x)
    (ha : sF F 1 ua a.length (ick .u16 a)) (hal : a.length ≤ 140737488351232) (hac : ∀ x ∈ a, 0 ≤ x ∧ x < 65536)
    (hb : sF F 1 ub b.length (ick .u16 b)) (hbl : b.length ≤ 140737488351232) (hbc : ∀ x ∈ b, 0 ≤ x ∧ x < 65536) (k : ∀ h, K (.bool true) h) :
    call Tryd.prog 12 #[um, uk, uv, ua, ub] K E ⟨F, M, N⟩ := by
  refine call_text mixed Tryd.func12 (by kernel_rfl) (t12 _ E _ _ _ _ _) (fun hw => ?_)
  have kn : ∀ {M : Nat → Option Chunk} {F : Nat → Option (List Value)} {N : Nat}, callv Tryd.prog (.func (.func 35) #[] #[]) #[] (fun v h => h.wf → ∃ h', h.wk h' ∧ (h'.wf → K v h')) E ⟨F, M, N⟩ := knownq_c (fun F' N' _ _ _ hc => ⟨_, wk_refl hc, fun _ => k _⟩)
  have hlk : lenV uk = some (.int .i64 (ks.length : Nat)) := by obtain ⟨rows, h1, _⟩ := hk; obtain ⟨a, c, rfl, _⟩ := h1.form; rfl
  refine pv_r hlk ?_
  refine gtr_r (fun h1 => ?_) (fun h1 => ?_)
  · try simp only [gdTT, gdFF, gdTF, gdFT, pvS, pickT, pickF, faP, lenS, capS, nilP, exA, exB, exC, notB, cndT, cndF, Bool.not_true, Bool.not_false, Nat.zero_add, Nat.add_zero]; exact kn
  try simp only [gdTT, gdFF, gdTF, gdFT, pvS, pickT, pickF, faP, lenS, capS, nilP, exA, exB, exC, notB, cndT, cndF, Bool.not_true, Bool.not_false, Nat.zero_add, Nat.add_zero]
  refine knownq_c (fun F1 N1 hF1 hN1 hw1 => ?_)
  try simp only [gdTT, gdFF, gdTF, gdFT, pvS, pickT, pickF, faP, lenS, capS, nilP, exA, exB, exC, notB, cndT, cndF, Bool.not_true, Bool.not_false, Nat.zero_add, Nat.add_zero]
  have hgd := dimsOf_good m (fun c hc => (hmc c hc).1)
  have hok := dimsOf_ok (m := m) (fun c hc => (hmc c hc).1)
  refine dof_c (hm.mono hF1) hml hmc (fun ul F2 N2 hw2 hF2 hN2 hd => ?_)
  refine facts_c hd ((hk.mono hF1).mono hF2) ((hv.mono hF1).mono hF2) (by have := hgd.2.1; omega) (fun d hd => by have := hgd.2.2 d hd; omega) hkc hkl hvl (fun uf F4 N4 hw4 hF4 hN4 hf => ?_)
  have hgt := goodT.facts (ks := ks) hgd hvc
  have hlt := tab_len ((factsOf (dimsOf m) ks v).map fr1)
  rw [List.length_map, factsOf_len] at hlt
  have hsz := sizeL_facts (factsOf (dimsOf m) ks v)
  rw [factsOf_len] at hsz
  have hfl := factsOf_len (dimsOf m) ks v
  have hfk := facts_okK (ks := ks) (v := v) hgd
  generalize factsOf (dimsOf m) ks v = fs at *
  have hd4 := hd.mono hF4
  generalize dimsOf m = l at *
  have hl4 := hgd.2.1
  have hl0 := hgd.1
  have hdv : ∀ d ∈ l, d.2.length ≤ 1000000 := fun d hd => by have := okDim_div (okDims_all hok d hd); omega
  have hds : ∀ d ∈ l, 0 < d.1 ∧ d.1 ≤ 1000000 := fun d hd => by have := hgd.2.2 d hd; omega
  have F14 := hF2.trans hF4
  refine ask_o (c := []) hd4 (sF.nil _ _ _) ((ha.mono hF1).mono F14) ((hb.mono hF1).mono F14) (by omega) hds hdv (by simp) hac hbc (by simp) hal hbl (fun z x y F5 M5 N5 hw5 hF5 hN5 hM5 hz hx hy => ?_)
  have htl := levOf_len l [] []
  have hbx := boxed (a := a) (b := b) hds
  have hloL := boxLo_len l a b
  have hhiL := boxHi_len l a b
  generalize levOf l [] [] = lv at *
  generalize boxLo l a b = lo at *
  generalize boxHi l a b = hi at *
  obtain ⟨a1, c1, e1, _⟩ := hz.form
  obtain ⟨a2, c2, e2, _⟩ := hx.form
  obtain ⟨a3, c3, e3, _⟩ := hy.form
  have hm5 : clean M5 N5 := hw5.m
  refine nw_r (fun b13 hb13 => ?_)
  refine stM (cs' := [z, x, y]) ?_ (upd_same _ _ _) rfl rfl (by rw [e1, e2, e3]; exact List.all_eq_true.1 rfl) (by exact Nat.le_of_ble_eq_true rfl)
  rw [upd_upd]
  obtain ⟨N6, hN6⟩ : ∃ n, n = b13 + 1 := ⟨_, rfl⟩
  have hzo := hz.box hm5 hb13 (some (.cells 64 [z, x, y] [Value.slice none 0 0, Value.slice none 0 0, Value.slice none 0 0].length))
  have hbox := upd_same M5 b13 (some (.cells 64 [z, x, y] [Value.slice none 0 0, Value.slice none 0 0, Value.slice none 0 0].length))
  have hm6 : clean (upd M5 b13 (some (.cells 64 [z, x, y] [Value.slice none 0 0, Value.slice none 0 0, Value.slice none 0 0].length))) N6 := hm5.set' hb13 (by omega)
  have hzb : z.ownBlock ≠ some b13 := fun e => by have := hz.lt hm5 _ e; omega
  rw [← hN6]
  generalize upd M5 b13 _ = M6 at *
  have hd5 := hd4.mono hF5
  have hf5 := hf.mono hF5
  have hlu : lenV ul = some (.int .i64 (l.length : Nat)) := by obtain ⟨a, c, h⟩ := hd.form; rw [h]; rfl
  have hluf : lenV uf = some (.int .i64 (fs.length : Nat)) := by obtain ⟨rows, h1, _⟩ := hf; obtain ⟨a, c, h, _⟩ := h1.form; rw [h]; rfl
  have htop := topOf_len l
  obtain ⟨drows, hd5a, hd5b⟩ := hd5
  refine l12_1_1_1_1_1_0_1_0_0 (σ := Nat) (fun i => .int .i64 (i : Nat)) (fun i h => ∃ M', h = ⟨F5, M', N6⟩ ∧ i ≤ l.length ∧ clean M' N6 ∧ M' b13 = some (.cells 64 [z, x, y] [Value.slice none 0 0, Value.slice none 0 0, Value.slice none 0 0].length) ∧ own M' N4 3 1 z ((topOf l).take i ++ lv.drop i).length (ic ((topOf l).take i ++ lv.drop i))) (fun i => l.length - i) 0 rfl
    (fun hw7 => ⟨_, wk_refl hw7, M6, rfl, Nat.zero_le _, hm6, hbox, hzo⟩) (fun k1 i j h1' hI hw7 next => ?_)
  obtain ⟨M7, rfl, hii, hm7, hbox7, hz7⟩ := hI
  refine pv_r hlu ?_
  refine lss_r (fun hlt1 => ?_) (fun hge1 => ?_)
  · have i1 : i < l.length := by omega
    have i2 : i < ((topOf l).take i ++ lv.drop i).length := by simp; omega
    try simp only [gdTT, gdFF, gdTF, gdFT, pvS, pickT, pickF, faP, lenS, capS, nilP, exA, exB, exC, notB, cndT, cndF, Bool.not_true, Bool.not_false, Nat.zero_add, Nat.add_zero]
    refine ldM (v := z) ?_ hbox7
    refine fld_r hd5a hd5b (by decide) i1 (off := 1) (by decide) fun p q r w hR _ hx' => ?_
    obtain ⟨kv, rfl, hkv', hkl'⟩ := hR
    simp at hx'
    subst hx'
    refine lenF_r hkv' ?_
    refine add_n (b := 1) (by omega) ?_
    refine put_r hz7 i2 fun p M8 g1 g2 g3 => ?_
    refine inc_r (by omega) ?_
    have et : ((l[i].2.length + 1 : Nat) : Int) = (topOf l)[i]'(by omega) := by simp [topOf]
    rw [et, half_set (by omega) (by omega)] at g1
    exact next (i + 1) _ _ (by omega) (fun hw8 => ⟨_, wk_refl hw8, M8, rfl, i1, g3 _ hm7, (g2 _ hzb).trans hbox7, g1⟩)
  · try simp only [gdTT, gdFF, gdTF, gdFT, pvS, pickT, pickF, faP, lenS, capS, nilP, exA, exB, exC, notB, cndT, cndF, Bool.not_true, Bool.not_false, Nat.zero_add, Nat.add_zero]
    rw [t12_1_1_1_1_1_1]
    rw [List.take_of_length_le (by omega), List.drop_eq_nil_of_le (by omega), List.append_nil] at hz7
    have hf5' := hf5
    obtain ⟨frows, hf5a, hf5b⟩ := hf5'
    have hkey : ∀ f ∈ fs, f.1.length = l.length := fun f hf => (hgt.key (kvF f) (List.mem_map_of_mem hf)).1
    refine l12_1_1_1_1_1_1_1_0_1_0_0 (σ := Nat × Nat) (fun s => .int .i64 (s.2 : Nat)) (fun s => .int .i64 (s.1 : Nat)) (fun s h => h = ⟨F5, M7, N6⟩ ∧ s.1 ≤ fs.length ∧ s.2 = (inBox lo hi (fs.take s.1)).length) (fun s => fs.length - s.1) (0, 0) rfl rfl
      (fun hw8 => ⟨_, wk_refl hw8, rfl, Nat.zero_le _, rfl⟩) (fun k1 s j h1' hI hw8 next => ?_)
    obtain ⟨rfl, hi2, hn⟩ := hI
    have hle : s.2 ≤ s.1 := by rw [hn]; unfold inBox; have := List.length_filter_le (fun f : Fc => withinF lo hi f.1) (fs.take s.1); rw [List.length_take] at this; omega
    refine pv_r hluf ?_
    refine lss_r (fun hlt2 => ?_) (fun hge2 => ?_)
    · have i1 : s.1 < fs.length := by omega
      have hkf := hkey _ (List.getElem_mem i1)
      try simp only [gdTT, gdFF, gdTF, gdFT, pvS, pickT, pickF, faP, lenS, capS, nilP, exA, exB, exC, notB, cndT, cndF, Bool.not_true, Bool.not_false, Nat.zero_add, Nat.add_zero]
      refine l12_1_1_1_1_1_1_1_0_1_0_0_1_0_0_1_0_1_0_0 (σ := Nat × Bool) (fun q => .bool q.2) (fun q => .int .i64 (q.1 : Nat)) (fun q h => h = ⟨F5, M7, N6⟩ ∧ q.1 ≤ l.length ∧ q.2 = (List.range q.1).all fun i => decide (lo.getD i 0 ≤ fs[s.1].1.getD i 0 ∧ fs[s.1].1.getD i 0 < hi.getD i 0)) (fun q => l.length - q.1) (0, true) rfl rfl
        (fun hw9 => ⟨_, wk_refl hw9, rfl, Nat.zero_le _, rfl⟩) (fun k2 q j h1' hI hw9 next2 => ?_)
      obtain ⟨rfl, hi3, hq⟩ := hI
      refine pv_r hlu ?_
      refine lss_r (fun hlt3 => ?_) (fun hge3 => ?_)
      · have j1 : q.1 < l.length := by omega
        have jl : q.1 < lo.length := by omega
        have jh : q.1 < hi.length := by omega
        have jk : q.1 < fs[s.1].1.length := by omega
        have hpv : decide (lo.getD q.1 0 ≤ fs[s.1].1.getD q.1 0 ∧ fs[s.1].1.getD q.1 0 < hi.getD q.1 0) = decide (lo[q.1] ≤ fs[s.1].1[q.1] ∧ fs[s.1].1[q.1] < hi[q.1]) := by
          rw [getD_at jl, getD_at jh, getD_at jk]
        have step : ∀ r : Bool, r = (q.2 && decide (lo[q.1] ≤ fs[s.1].1[q.1] ∧ fs[s.1].1[q.1] < hi[q.1])) → r = (List.range (q.1 + 1)).all fun i => decide (lo.getD i 0 ≤ fs[s.1].1.getD i 0 ∧ fs[s.1].1.getD i 0 < hi.getD i 0) := fun r hr => by
          rw [hr, hq, List.range_succ, List.all_append, ← hpv]; simp
        cases hb2 : q.2
        · try simp only [gdTT, gdFF, gdTF, gdFT, pvS, pickT, pickF, faP, lenS, capS, nilP, exA, exB, exC, notB, cndT, cndF, Bool.not_true, Bool.not_false, Nat.zero_add, Nat.add_zero]
          refine inc_r (by omega) ?_
          exact next2 (q.1 + 1, false) _ _ (by simp only; omega) (fun hw9 => ⟨_, wk_refl hw9, rfl, j1, step _ (by rw [hb2]; rfl)⟩)
        · try simp only [gdTT, gdFF, gdTF, gdFT, pvS, pickT, pickF, faP, lenS, capS, nilP, exA, exB, exC, notB, cndT, cndF, Bool.not_true, Bool.not_false, Nat.zero_add, Nat.add_zero]
          refine fld_r hf5a hf5b (by decide) i1 (off := 0) (by decide) fun p q' r w hR _ hx' => ?_
          obtain ⟨kv, rfl, hkv', hkl'⟩ := hR
          simp at hx'
          subst hx'
          refine ixn_r hkv' jk fun p => ?_
          try simp only [gdTT, gdFF, gdTF, gdFT, pvS, pickT, pickF, faP, lenS, capS, nilP, exA, exB, exC, notB, cndT, cndF, Bool.not_true, Bool.not_false, Nat.zero_add, Nat.add_zero]
          refine ldM (v := x) ?_ hbox7
          refine ixn_r hx jl fun p => ?_
          refine geq_r (fun h5 => ?_) (fun h5 => ?_)
          · try simp only [gdTT, gdFF, gdTF, gdFT, pvS, pickT, pickF, faP, lenS, capS, nilP, exA, exB, exC, notB, cndT, cndF, Bool.not_true, Bool.not_false, Nat.zero_add, Nat.add_zero]
            refine fld_r hf5a hf5b (by decide) i1 (off := 0) (by decide) fun p q' r w hR _ hx' => ?_
            obtain ⟨kv, rfl, hkv', hkl'⟩ := hR
            simp at hx'
            subst hx'
            refine ixn_r hkv' jk fun p => ?_
            try simp only [gdTT, gdFF, gdTF, gdFT, pvS, pickT, pickF, faP, lenS, capS, nilP, exA, exB, exC, notB, cndT, cndF, Bool.not_true, Bool.not_false, Nat.zero_add, Nat.add_zero]
            refine ldM (v := y) ?_ hbox7
            refine ixn_r hy jh fun p => ?_
            refine lss_r (fun h6 => ?_) (fun h6 => ?_)
            · try simp only [gdTT, gdFF, gdTF, gdFT, pvS, pickT, pickF, faP, lenS, capS, nilP, exA, exB, exC, notB, cndT, cndF, Bool.not_true, Bool.not_false, Nat.zero_add, Nat.add_zero]
              refine inc_r (by omega) ?_
              exact next2 (q.1 + 1, true) _ _ (by simp only; omega) (fun hw9 => ⟨_, wk_refl hw9, rfl, j1, step _ (by rw [hb2, decide_eq_true ⟨by omega, by omega⟩]; rfl)⟩)
            · try simp only [gdTT, gdFF, gdTF, gdFT, pvS, pickT, pickF, faP, lenS, capS, nilP, exA, exB, exC, notB, cndT, cndF, Bool.not_true, Bool.not_false, Nat.zero_add, Nat.add_zero]
              refine inc_r (by omega) ?_
              exact next2 (q.1 + 1, false) _ _ (by simp only; omega) (fun hw9 => ⟨_, wk_refl hw9, rfl, j1, step _ (by rw [hb2, decide_eq_false (by omega)]; rfl)⟩)
          · try simp only [gdTT, gdFF, gdTF, gdFT, pvS, pickT, pickF, faP, lenS, capS, nilP, exA, exB, exC, notB, cndT, cndF, Bool.not_true, Bool.not_false, Nat.zero_add, Nat.add_zero]
            refine inc_r (by omega) ?_
            exact next2 (q.1 + 1, false) _ _ (by simp only; omega) (fun hw9 => ⟨_, wk_refl hw9, rfl, j1, step _ (by rw [hb2, decide_eq_false (by omega)]; rfl)⟩)
      · try simp only [gdTT, gdFF, gdTF, gdFT, pvS, pickT, pickF, faP, lenS, capS, nilP, exA, exB, exC, notB, cndT, cndF, Bool.not_true, Bool.not_false, Nat.zero_add, Nat.add_zero]
        rw [t12_1_1_1_1_1_1_1_0_1_0_0_1_0_0_1_1]
        have hwi : q.2 = withinF lo hi fs[s.1].1 := by
          rw [hq]
          unfold withinF
          rw [decide_eq_true ⟨by omega, by omega⟩, Bool.true_and, show q.1 = lo.length by omega]
        cases hb2 : q.2
        · try simp only [gdTT, gdFF, gdTF, gdFT, pvS, pickT, pickF, faP, lenS, capS, nilP, exA, exB, exC, notB, cndT, cndF, Bool.not_true, Bool.not_false, Nat.zero_add, Nat.add_zero]
          rw [t12_1_1_1_1_1_1_1_0_1_0_0_1_1]
          refine inc_r (by omega) ?_
          exact next (s.1 + 1, s.2) _ _ (by simp only; omega) (fun hw9 => ⟨_, wk_refl hw9, rfl, i1, by simp only; rw [inBox_f i1 (by rw [← hwi, hb2])]; exact hn⟩)
        · try simp only [gdTT, gdFF, gdTF, gdFT, pvS, pickT, pickF, faP, lenS, capS, nilP, exA, exB, exC, notB, cndT, cndF, Bool.not_true, Bool.not_false, Nat.zero_add, Nat.add_zero]
          refine inc_r (by omega) ?_
          rw [t12_1_1_1_1_1_1_1_0_1_0_0_1_1]
          refine inc_r (by omega) ?_
          exact next (s.1 + 1, s.2 + 1) _ _ (by simp only; omega) (fun hw9 => ⟨_, wk_refl hw9, rfl, i1, by simp only; rw [inBox_t i1 (by rw [← hwi, hb2]), hn]⟩)
    · try simp only [gdTT, gdFF, gdTF, gdFT, pvS, pickT, pickF, faP, lenS, capS, nilP, exA, exB, exC, notB, cndT, cndF, Bool.not_true, Bool.not_false, Nat.zero_add, Nat.add_zero]
      rw [t12_1_1_1_1_1_1_1_1]
      rw [List.take_of_length_le (by omega)] at hn
      refine ldMa (vs := [z, x, y]) ?_ hbox7
      refine callv_go (fun hc' => ⟨_, wk_P (p := fun q => z.ownBlock = some q) hc', ?_⟩)
      have hs9 := subF_frzP (p := fun q => z.ownBlock = some q) hc'
      have hz9 : sF (frzP F5 M7 (fun q => z.ownBlock = some q)) 1 z (topOf l).length (ic (topOf l)) := hz7.frzP (fun q h => h)
      have hbox9 : keepM M7 (fun q => ¬ z.ownBlock = some q) b13 = some (.cells 64 [z, x, y] [Value.slice none 0 0, Value.slice none 0 0, Value.slice none 0 0].length) := (keepM_in hzb).trans hbox7
      generalize frzP F5 M7 _ = F9 at *
      generalize keepM M7 _ = M9 at *
      refine rmake_c (hf5.mono hs9) (by omega) (fun f hf => (hfk f hf).1) (fun ut F10 N10 hw10 hF10 hN10 ht => ?_)
      refine ⟨ldV_a (row_M hbox9) (by exact Nat.le_of_ble_eq_true rfl) rfl, ?_⟩
      have hgk := hgt.key
      have F5A := hs9.trans hF10
      obtain ⟨r1, g1⟩ := hgt.run hok htop (topOf_ok l) hbx (by omega) (by omega)
      have n1 := runT_len l (tab (fs.map fr1)) (topOf l) lo hi
      have hti := okLev_i64 htop (topOf_ok l) hdv
      have htr := top_run hok hgk g1
      refine run_c ((hd4.mono hF5).mono F5A) (by omega) ht (by omega) (query_mk (hz9.mono hF10) (hx.mono F5A) (hy.mono F5A) (by omega) (by omega) (by omega)) hti hgt.i64 (fun _ r hr => (hgt.okK (by omega) r hr).1) (fun v11 F11 N11 hw11 hF11 hN11 h11 => ?_)
      rw [r1]
      try simp only [gdTT, gdFF, gdTF, gdFT, pvS, pickT, pickF, faP, lenS, capS, nilP, exA, exB, exC, notB, cndT, cndF, Bool.not_true, Bool.not_false, Nat.zero_add, Nat.add_zero]
      obtain ⟨t0, t1⟩ := htr
      refine eql_r (fun h0 => ?_) (fun h0 => ?_)
      · rw [t0 (by omega)] at h11
        try simp only [gdTT, gdFF, gdTF, gdFT, pvS, pickT, pickF, faP, lenS, capS, nilP, exA, exB, exC, notB, cndT, cndF, Bool.not_true, Bool.not_false, Nat.zero_add, Nat.add_zero]
        refine eql_t rfl ?_
        try simp only [gdTT, gdFF, gdTF, gdFT, pvS, pickT, pickF, faP, lenS, capS, nilP, exA, exB, exC, notB, cndT, cndF, Bool.not_true, Bool.not_false, Nat.zero_add, Nat.add_zero]
        refine pv_r (v := .int .i64 ((0 : Nat) : Int)) (by obtain ⟨a, c, h⟩ := h11.form; rw [h]; rfl) (eql_t rfl ?_)
        try simp only [gdTT, gdFF, gdTF, gdFT, pvS, pickT, pickF, faP, lenS, capS, nilP, exA, exB, exC, notB, cndT, cndF, Bool.not_true, Bool.not_false, Nat.zero_add, Nat.add_zero]
        exact fun hc => ⟨_, wk_refl hc, fun _ => k _⟩
      · obtain ⟨c, et, ec⟩ := t1 (by omega)
        rw [et] at h11
        try simp only [gdTT, gdFF, gdTF, gdFT, pvS, pickT, pickF, faP, lenS, capS, nilP, exA, exB, exC, notB, cndT, cndF, Bool.not_true, Bool.not_false, Nat.zero_add, Nat.add_zero]
        refine eql_t rfl ?_
        try simp only [gdTT, gdFF, gdTF, gdFT, pvS, pickT, pickF, faP, lenS, capS, nilP, exA, exB, exC, notB, cndT, cndF, Bool.not_true, Bool.not_false, Nat.zero_add, Nat.add_zero]
        obtain ⟨rows, h11a, h11b⟩ := h11
        refine lenF_r h11a ?_
        refine eql_t rfl ?_
        try simp only [gdTT, gdFF, gdTF, gdFT, pvS, pickT, pickF, faP, lenS, capS, nilP, exA, exB, exC, notB, cndT, cndF, Bool.not_true, Bool.not_false, Nat.zero_add, Nat.add_zero]
        refine cf_r 0 (i := 0) (x := .int .i64 c.n) h11a h11b (by simp) rfl fun p q q' => ?_
        refine eql_t (by omega) ?_
        try simp only [gdTT, gdFF, gdTF, gdFT, pvS, pickT, pickF, faP, lenS, capS, nilP, exA, exB, exC, notB, cndT, cndF, Bool.not_true, Bool.not_false, Nat.zero_add, Nat.add_zero]
        exact fun hc => ⟨_, wk_refl hc, fun _ => k _⟩
end Go.Proofs.YthpacapdaembpaaDoor.A
open Go Go.RowKit Go.Proofs.YthpacapdaembpaaDoor.K Go.Proofs.YthpacapdaembpaaDoor.T
set_option linter.unusedVariables false
set_option linter.unusedSimpArgs false
namespace Go.Proofs.YthpacapdaembpaaDoor.A
variable {F F' : Nat → Option (List Value)} {M M' : Nat → Option Chunk} {N N' : Nat} {K : Kont} {E : PanK}
theorem QueryTop_true (v0 v1 v2 v3 v4 : Value) {y0 : List (Int × List Int)} {y1 : List (List Int)} {y2 y3 y4 : List Int} (W : World) (h0 : rS 2 rCut (F0 W) [v0] y0) (h1 : rS 1 (rS 1 (rI .u16)) (F0 W) [v1] y1) (h2 : rS 1 (rI .i64) (F0 W) [v2] y2) (h3 : rS 1 (rI .u16) (F0 W) [v3] y3) (h4 : rS 1 (rI .u16) (F0 W) [v4] y4) :
    Calls Tryd.prog 12 #[v0, v1, v2, v3, v4] W fun e w' => e = .returned (.bool true) ∧ Below W.heap.size W w' :=
  have b := cuts_of h0
  have c := lists_of h1
  have d := list_of h2
  have f := list_of h3
  have g := list_of h4
  fin_true (queryTop_c b.1 b.2.1 b.2.2 c.1 c.2.1 (fun l hl x hx => wf_u16 (c.2.2 l hl x hx)) d.1 d.2.2 (fun x hx => wf_i64 (d.2.1 x hx)) f.1 f.2.2 (fun x hx => wf_u16 (f.2.1 x hx)) g.1 g.2.2 (fun x hx => wf_u16 (g.2.1 x hx)) fun _ => rfl)
end Go.Proofs.YthpacapdaembpaaDoor.A
