import Derived.Test.YtjeojnjkmhnepaaProg
import Derived.Test.YtjeojnjkmhnepaaK16
open Go Go.RowKit Go.Proofs.Ytjeojnjkmhnepaa.K
set_option linter.unusedVariables false
set_option maxRecDepth 100000
namespace Go.Proofs.Ytjeojnjkmhnepaa.T
theorem t12 (K : Kont) (E : PanK) (x0 x1 : Value)  : den Try.prog (sel (bodyOf Try.f12) []) (bodyQ Try.prog Try.f12.results.toList K E) #[x0, x1, undef, undef, undef, undef, undef, undef, undef, undef, undef, undef, undef, undef, undef, undef, undef, undef, undef, undef, undef, undef, undef, undef, undef, undef, undef, undef, undef, undef, undef, undef, undef, undef, undef, undef, undef, undef, undef, undef, undef, undef, undef, undef, undef, undef, undef, undef, undef, undef, undef, undef, undef, undef, undef, undef, undef, undef, undef, undef, undef, undef, undef, undef, undef, undef, undef, undef, undef, undef, undef, undef, undef, undef, undef, undef, undef, undef, undef, undef, undef, undef, undef, undef, undef, undef, undef, undef, undef, undef, undef, undef, undef, undef, undef, undef, undef, undef, undef, undef, undef, undef, undef, undef, undef, undef, undef, undef, undef, undef, undef, undef, undef, undef, undef, undef, undef, undef, undef] =
  callv Try.prog (.func (.func 37) #[] #[]) #[x0] (fun t1 =>
  gdK t1 false (fun k => k x0) fun t2 =>
  gdK t1 false (fun k => pv (lenV t2) k) fun t3 =>
  gdK t1 false (fun k => pv (binV .none .eql t3 (.int .i64 0)) k) fun t4 =>
  pv (pickV t1 (.bool true) t4) fun t5 =>
  gdK t5 false (fun k => callv Try.prog (.func (.func 31) #[] #[]) #[] k E) fun t6 =>
  gdK t5 false (fun k => pv (unV .not t6) k) fun t7 =>
  pv (pickV t5 (.bool true) t7) fun t8 =>
  cnd t8 (
    callv Try.prog (.func (.func 31) #[] #[]) #[] (fun t9 =>
    K t9) E) (
    callv Try.prog (.func (.func 30) #[] #[]) #[] (fun t10 =>
    pv (binV .ptr .eql t10 (.pointer none)) fun t11 =>
    cnd t11 (
      K (.bool false)) (
      lp (fun k1 => den Try.prog (sel (bodyOf Try.f12) [1, 1, 1, 1, 0, 1, 0, 0]) (thenD k1 (blk 0 (thenD (den Try.prog (sel (bodyOf Try.f12) [1, 1, 1, 1, 1]) (bodyQ Try.prog Try.f12.results.toList K E)) (bodyQ Try.prog Try.f12.results.toList K E))))) #[x0, x1, undef, undef, (.bool false), t10, (.int .i64 0), undef, undef, undef, undef, undef, undef, undef, x0, t1, t1, t2, t3, t4, t5, t5, t6, t7, t8, undef, t10, t10, t11, undef, undef, undef, undef, undef, undef, undef, undef, undef, undef, undef, undef, undef, undef, undef, undef, undef, undef, undef, undef, undef, undef, undef, undef, undef, undef, undef, undef, undef, undef, undef, undef, undef, undef, undef, undef, undef, undef, undef, undef, undef, undef, undef, undef, undef, undef, undef, undef, undef, undef, undef, undef, undef, undef, undef, undef, undef, undef, undef, undef, undef, undef, undef, undef, undef, undef, undef, undef, undef, undef, undef, undef, undef, undef, undef, undef, undef, undef, undef, undef, undef, undef, undef, undef, undef, undef, undef, undef, undef, undef])) E)) E := by kernel_rfl
def m12_1_1_1_1_0_1_0_0 (x0 x1 x2 x3 x4 x5 x7 x8 x9 x10 x11 x12 x13 x14 x15 x16 x17 x18 x19 x20 x21 x22 x23 x24 x25 x26 x27 x28 x53 x54 x55 x56 x57 x58 x59 x60 x61 x62 x63 x64 x65 x66 x67 x68 x69 x70 x71 x72 x73 x74 x75 x76 x77 x78 x79 x80 x81 x82 x83 x84 x85 x86 x87 x88 x89 x90 x91 x92 x93 x94 x95 x96 x97 x98 x99 x100 x101 x102 x103 x104 x105 x106 x107 x108 x109 x110 x111 x112 x113 x114 x115 x116 x117 x118 : Value) (v6 : Value) (j : Nat → Value) : Env := #[x0, x1, x2, x3, x4, x5, v6, x7, x8, x9, x10, x11, x12, x13, x14, x15, x16, x17, x18, x19, x20, x21, x22, x23, x24, x25, x26, x27, x28, (j 29), (j 30), (j 31), (j 32), (j 33), (j 34), (j 35), (j 36), (j 37), (j 38), (j 39), (j 40), (j 41), (j 42), (j 43), (j 44), (j 45), (j 46), (j 47), (j 48), (j 49), (j 50), (j 51), (j 52), x53, x54, x55, x56, x57, x58, x59, x60, x61, x62, x63, x64, x65, x66, x67, x68, x69, x70, x71, x72, x73, x74, x75, x76, x77, x78, x79, x80, x81, x82, x83, x84, x85, x86, x87, x88, x89, x90, x91, x92, x93, x94, x95, x96, x97, x98, x99, x100, x101, x102, x103, x104, x105, x106, x107, x108, x109, x110, x111, x112, x113, x114, x115, x116, x117, x118]
theorem t12_1_1_1_1_0_1_0_0 (K : Kont) (E : PanK) (k1 : Env → Hp → Prop) (x0 x1 x2 x3 x4 x5 x7 x8 x9 x10 x11 x12 x13 x14 x15 x16 x17 x18 x19 x20 x21 x22 x23 x24 x25 x26 x27 x28 x53 x54 x55 x56 x57 x58 x59 x60 x61 x62 x63 x64 x65 x66 x67 x68 x69 x70 x71 x72 x73 x74 x75 x76 x77 x78 x79 x80 x81 x82 x83 x84 x85 x86 x87 x88 x89 x90 x91 x92 x93 x94 x95 x96 x97 x98 x99 x100 x101 x102 x103 x104 x105 x106 x107 x108 x109 x110 x111 x112 x113 x114 x115 x116 x117 x118 v6 : Value) (j : Nat → Value) : den Try.prog (sel (bodyOf Try.f12) [1, 1, 1, 1, 0, 1, 0, 0]) (thenD k1 (blk 0 (thenD (den Try.prog (sel (bodyOf Try.f12) [1, 1, 1, 1, 1]) (bodyQ Try.prog Try.f12.results.toList K E)) (bodyQ Try.prog Try.f12.results.toList K E)))) (m12_1_1_1_1_0_1_0_0 x0 x1 x2 x3 x4 x5 x7 x8 x9 x10 x11 x12 x13 x14 x15 x16 x17 x18 x19 x20 x21 x22 x23 x24 x25 x26 x27 x28 x53 x54 x55 x56 x57 x58 x59 x60 x61 x62 x63 x64 x65 x66 x67 x68 x69 x70 x71 x72 x73 x74 x75 x76 x77 x78 x79 x80 x81 x82 x83 x84 x85 x86 x87 x88 x89 x90 x91 x92 x93 x94 x95 x96 x97 x98 x99 x100 x101 x102 x103 x104 x105 x106 x107 x108 x109 x110 x111 x112 x113 x114 x115 x116 x117 x118 v6 j) =
  pv (lenV x0) fun t1 =>
  pv (binV .none .lss v6 t1) fun t2 =>
  cnd t2 (
    pv (iaV none 5 x0 v6) fun t3 =>
    pv (faV 1 t3) fun t4 =>
    ld false 1 t4 fun t5 =>
    pv (iaV none 5 x0 v6) fun t6 =>
    pv (faV 2 t6) fun t7 =>
    ld false 1 t7 fun t8 =>
    pv (iaV none 5 x0 v6) fun t9 =>
    pv (faV 3 t9) fun t10 =>
    ld false 1 t10 fun t11 =>
    pv (bdC #[(.int .i64 0), (.int .i64 0), (.slice none 0 0)] [(0, 1), (1, 1), (2, 1)] #[(0, t5), (1, t8), (2, t11)]) fun t12 =>
    callv Try.prog (.func (.func 32) #[] #[]) #[x5, t12] (fun t13 =>
    pv (binV .none .add v6 (.int .i64 1)) fun t14 =>
    k1 (m12_1_1_1_1_0_1_0_0 x0 x1 x2 x3 x4 x5 x7 x8 x9 x10 x11 x12 x13 x14 x15 x16 x17 x18 x19 x20 x21 x22 x23 x24 x25 x26 x27 x28 x53 x54 x55 x56 x57 x58 x59 x60 x61 x62 x63 x64 x65 x66 x67 x68 x69 x70 x71 x72 x73 x74 x75 x76 x77 x78 x79 x80 x81 x82 x83 x84 x85 x86 x87 x88 x89 x90 x91 x92 x93 x94 x95 x96 x97 x98 x99 x100 x101 x102 x103 x104 x105 x106 x107 x108 x109 x110 x111 x112 x113 x114 x115 x116 x117 x118 t14 (jf #[x0, x1, x2, x3, x4, x5, t14, x7, x8, x9, x10, x11, x12, x13, x14, x15, x16, x17, x18, x19, x20, x21, x22, x23, x24, x25, x26, x27, x28, v6, x0, t1, t2, v6, t14, x5, x0, v6, t3, t4, t5, x0, v6, t6, t7, t8, x0, v6, t9, t10, t11, t12, t13, x53, x54, x55, x56, x57, x58, x59, x60, x61, x62, x63, x64, x65, x66, x67, x68, x69, x70, x71, x72, x73, x74, x75, x76, x77, x78, x79, x80, x81, x82, x83, x84, x85, x86, x87, x88, x89, x90, x91, x92, x93, x94, x95, x96, x97, x98, x99, x100, x101, x102, x103, x104, x105, x106, x107, x108, x109, x110, x111, x112, x113, x114, x115, x116, x117, x118]))) E) (
    den Try.prog (sel (bodyOf Try.f12) [1, 1, 1, 1, 1]) (bodyQ Try.prog Try.f12.results.toList K E) #[x0, x1, x2, x3, x4, x5, v6, x7, x8, x9, x10, x11, x12, x13, x14, x15, x16, x17, x18, x19, x20, x21, x22, x23, x24, x25, x26, x27, x28, v6, x0, t1, t2, (j 33), (j 34), (j 35), (j 36), (j 37), (j 38), (j 39), (j 40), (j 41), (j 42), (j 43), (j 44), (j 45), (j 46), (j 47), (j 48), (j 49), (j 50), (j 51), (j 52), x53, x54, x55, x56, x57, x58, x59, x60, x61, x62, x63, x64, x65, x66, x67, x68, x69, x70, x71, x72, x73, x74, x75, x76, x77, x78, x79, x80, x81, x82, x83, x84, x85, x86, x87, x88, x89, x90, x91, x92, x93, x94, x95, x96, x97, x98, x99, x100, x101, x102, x103, x104, x105, x106, x107, x108, x109, x110, x111, x112, x113, x114, x115, x116, x117, x118]) := by kernel_rfl
theorem t12_1_1_1_1_1 (K : Kont) (E : PanK) (x0 x1 x2 x3 x4 x5 x6 x7 x8 x9 x10 x11 x12 x13 x14 x15 x16 x17 x18 x19 x20 x21 x22 x23 x24 x25 x26 x27 x28 x29 x30 x31 x32 x33 x34 x35 x36 x37 x38 x39 x40 x41 x42 x43 x44 x45 x46 x47 x48 x49 x50 x51 x52 x53 x54 x55 x56 x57 x58 x59 x60 x61 x62 x63 x64 x65 x66 x67 x68 x69 x70 x71 x72 x73 x74 x75 x76 x77 x78 x79 x80 x81 x82 x83 x84 x85 x86 x87 x88 x89 x90 x91 x92 x93 x94 x95 x96 x97 x98 x99 x100 x101 x102 x103 x104 x105 x106 x107 x108 x109 x110 x111 x112 x113 x114 x115 x116 x117 x118 : Value)  : den Try.prog (sel (bodyOf Try.f12) [1, 1, 1, 1, 1]) (bodyQ Try.prog Try.f12.results.toList K E) #[x0, x1, x2, x3, x4, x5, x6, x7, x8, x9, x10, x11, x12, x13, x14, x15, x16, x17, x18, x19, x20, x21, x22, x23, x24, x25, x26, x27, x28, x29, x30, x31, x32, x33, x34, x35, x36, x37, x38, x39, x40, x41, x42, x43, x44, x45, x46, x47, x48, x49, x50, x51, x52, x53, x54, x55, x56, x57, x58, x59, x60, x61, x62, x63, x64, x65, x66, x67, x68, x69, x70, x71, x72, x73, x74, x75, x76, x77, x78, x79, x80, x81, x82, x83, x84, x85, x86, x87, x88, x89, x90, x91, x92, x93, x94, x95, x96, x97, x98, x99, x100, x101, x102, x103, x104, x105, x106, x107, x108, x109, x110, x111, x112, x113, x114, x115, x116, x117, x118] =
  callv Try.prog (.func (.func 33) #[] #[]) #[x5] (fun t1 =>
  pv (mm true x1 (.int .i64 0)) fun t2 =>
  pv (lenV t1) fun t3 =>
  pv (binV .none .rem t2 t3) fun t4 =>
  callv Try.prog (.func (.func 36) #[] #[]) #[x5, t4] (fun t5 =>
  callv Try.prog (.func (.func 33) #[] #[]) #[x5] (fun t6 =>
  pv (slV 3 t1 none (some t4) none) fun t7 =>
  appX 61 3 40 (.slice none 0 0) t7 fun t8 =>
  pv (binV .none .add t4 (.int .i64 1)) fun t9 =>
  pv (slV 3 t1 (some t9) none none) fun t10 =>
  appX 61 3 40 t8 t10 fun t11 =>
  pv (iaV none 3 t1 t4) fun t12 =>
  ld true 3 t12 fun t13 =>
  nws 61 1 (bsC #[(.int .i64 0), (.int .i64 0), (.slice none 0 0)] 3 1 #[(0, t13)]) fun t14 =>
  appX 61 3 40 t11 t14 fun t15 =>
  callv Try.prog (.func (.func 35) #[] #[]) #[x5, t4] (fun t16 =>
  callv Try.prog (.func (.func 33) #[] #[]) #[x5] (fun t17 =>
  gdK t5 true (fun k => k t16) fun t18 =>
  pv (pickV t5 t18 (.bool false)) fun t19 =>
  gdK t19 true (fun k => k t6) fun t20 =>
  gdK t19 true (fun k => k t15) fun t21 =>
  gdK t19 true (fun k => callv Try.prog (.func (.func 40) #[] #[]) #[t20, t21] k E) fun t22 =>
  pv (pickV t19 t22 (.bool false)) fun t23 =>
  gdK t23 true (fun k => k t17) fun t24 =>
  gdK t23 true (fun k => pv (lenV t24) k) fun t25 =>
  gdK t23 true (fun k => k t1) fun t26 =>
  gdK t23 true (fun k => pv (lenV t26) k) fun t27 =>
  gdK t23 true (fun k => pv (binV .none .add t27 (.int .i64 1)) k) fun t28 =>
  gdK t23 true (fun k => pv (binV .none .eql t25 t28) k) fun t29 =>
  pv (pickV t23 t29 (.bool false)) fun t30 =>
  gdK t30 true (fun k => k t17) fun t31 =>
  gdK t30 true (fun k => k t4) fun t32 =>
  gdK t30 true (fun k => k t4) fun t33 =>
  gdK t30 true (fun k => pv (binV .none .add t33 (.int .i64 1)) k) fun t34 =>
  gdK t30 true (fun k => pv (slV 3 t31 (some t32) (some t34) none) k) fun t35 =>
  gdK t30 true (fun k => k t17) fun t36 =>
  gdK t30 true (fun k => k t4) fun t37 =>
  gdK t30 true (fun k => pv (binV .none .add t37 (.int .i64 1)) k) fun t38 =>
  gdK t30 true (fun k => k t4) fun t39 =>
  gdK t30 true (fun k => pv (binV .none .add t39 (.int .i64 2)) k) fun t40 =>
  gdK t30 true (fun k => pv (slV 3 t36 (some t38) (some t40) none) k) fun t41 =>
  gdK t30 true (fun k => callv Try.prog (.func (.func 40) #[] #[]) #[t35, t41] k E) fun t42 =>
  pv (pickV t30 t42 (.bool false)) fun t43 =>
  K t43) E) E) E) E) E := by kernel_rfl
theorem l12_1_1_1_1_0_1_0_0 {K : Kont} {E : PanK} {σ : Type} {x0 x1 x2 x3 x4 x5 x7 x8 x9 x10 x11 x12 x13 x14 x15 x16 x17 x18 x19 x20 x21 x22 x23 x24 x25 x26 x27 x28 x53 x54 x55 x56 x57 x58 x59 x60 x61 x62 x63 x64 x65 x66 x67 x68 x69 x70 x71 x72 x73 x74 x75 x76 x77 x78 x79 x80 x81 x82 x83 x84 x85 x86 x87 x88 x89 x90 x91 x92 x93 x94 x95 x96 x97 x98 x99 x100 x101 x102 x103 x104 x105 x106 x107 x108 x109 x110 x111 x112 x113 x114 x115 x116 x117 x118 v6 y29 y30 y31 y32 y33 y34 y35 y36 y37 y38 y39 y40 y41 y42 y43 y44 y45 y46 y47 y48 y49 y50 y51 y52 : Value} {h : Hp} (f6 : σ → Value) (I : σ → Hp → Prop) (μ : σ → Nat) (s0 : σ) (e6 : v6 = f6 s0) (h0 : h.wf → ∃ h', h.wk h' ∧ I s0 h')
  (round : ∀ (k1 : Env → Hp → Prop) (s : σ) (j : Nat → Value) (h : Hp), I s h → h.wf → (∀ s' j' h', μ s' < μ s → (h'.wf → ∃ h'', h'.wk h'' ∧ I s' h'') → k1 (m12_1_1_1_1_0_1_0_0 x0 x1 x2 x3 x4 x5 x7 x8 x9 x10 x11 x12 x13 x14 x15 x16 x17 x18 x19 x20 x21 x22 x23 x24 x25 x26 x27 x28 x53 x54 x55 x56 x57 x58 x59 x60 x61 x62 x63 x64 x65 x66 x67 x68 x69 x70 x71 x72 x73 x74 x75 x76 x77 x78 x79 x80 x81 x82 x83 x84 x85 x86 x87 x88 x89 x90 x91 x92 x93 x94 x95 x96 x97 x98 x99 x100 x101 x102 x103 x104 x105 x106 x107 x108 x109 x110 x111 x112 x113 x114 x115 x116 x117 x118 (f6 s') j') h') → (
  pv (lenV x0) fun t1 =>
  pv (binV .none .lss (f6 s) t1) fun t2 =>
  cnd t2 (
    pv (iaV none 5 x0 (f6 s)) fun t3 =>
    pv (faV 1 t3) fun t4 =>
    ld false 1 t4 fun t5 =>
    pv (iaV none 5 x0 (f6 s)) fun t6 =>
    pv (faV 2 t6) fun t7 =>
    ld false 1 t7 fun t8 =>
    pv (iaV none 5 x0 (f6 s)) fun t9 =>
    pv (faV 3 t9) fun t10 =>
    ld false 1 t10 fun t11 =>
    pv (bdC #[(.int .i64 0), (.int .i64 0), (.slice none 0 0)] [(0, 1), (1, 1), (2, 1)] #[(0, t5), (1, t8), (2, t11)]) fun t12 =>
    callv Try.prog (.func (.func 32) #[] #[]) #[x5, t12] (fun t13 =>
    pv (binV .none .add (f6 s) (.int .i64 1)) fun t14 =>
    k1 (m12_1_1_1_1_0_1_0_0 x0 x1 x2 x3 x4 x5 x7 x8 x9 x10 x11 x12 x13 x14 x15 x16 x17 x18 x19 x20 x21 x22 x23 x24 x25 x26 x27 x28 x53 x54 x55 x56 x57 x58 x59 x60 x61 x62 x63 x64 x65 x66 x67 x68 x69 x70 x71 x72 x73 x74 x75 x76 x77 x78 x79 x80 x81 x82 x83 x84 x85 x86 x87 x88 x89 x90 x91 x92 x93 x94 x95 x96 x97 x98 x99 x100 x101 x102 x103 x104 x105 x106 x107 x108 x109 x110 x111 x112 x113 x114 x115 x116 x117 x118 t14 (jf #[x0, x1, x2, x3, x4, x5, t14, x7, x8, x9, x10, x11, x12, x13, x14, x15, x16, x17, x18, x19, x20, x21, x22, x23, x24, x25, x26, x27, x28, (f6 s), x0, t1, t2, (f6 s), t14, x5, x0, (f6 s), t3, t4, t5, x0, (f6 s), t6, t7, t8, x0, (f6 s), t9, t10, t11, t12, t13, x53, x54, x55, x56, x57, x58, x59, x60, x61, x62, x63, x64, x65, x66, x67, x68, x69, x70, x71, x72, x73, x74, x75, x76, x77, x78, x79, x80, x81, x82, x83, x84, x85, x86, x87, x88, x89, x90, x91, x92, x93, x94, x95, x96, x97, x98, x99, x100, x101, x102, x103, x104, x105, x106, x107, x108, x109, x110, x111, x112, x113, x114, x115, x116, x117, x118]))) E) (
    den Try.prog (sel (bodyOf Try.f12) [1, 1, 1, 1, 1]) (bodyQ Try.prog Try.f12.results.toList K E) #[x0, x1, x2, x3, x4, x5, (f6 s), x7, x8, x9, x10, x11, x12, x13, x14, x15, x16, x17, x18, x19, x20, x21, x22, x23, x24, x25, x26, x27, x28, (f6 s), x0, t1, t2, (j 33), (j 34), (j 35), (j 36), (j 37), (j 38), (j 39), (j 40), (j 41), (j 42), (j 43), (j 44), (j 45), (j 46), (j 47), (j 48), (j 49), (j 50), (j 51), (j 52), x53, x54, x55, x56, x57, x58, x59, x60, x61, x62, x63, x64, x65, x66, x67, x68, x69, x70, x71, x72, x73, x74, x75, x76, x77, x78, x79, x80, x81, x82, x83, x84, x85, x86, x87, x88, x89, x90, x91, x92, x93, x94, x95, x96, x97, x98, x99, x100, x101, x102, x103, x104, x105, x106, x107, x108, x109, x110, x111, x112, x113, x114, x115, x116, x117, x118])) h) :
  lp (fun k1 => den Try.prog (sel (bodyOf Try.f12) [1, 1, 1, 1, 0, 1, 0, 0]) (thenD k1 (blk 0 (thenD (den Try.prog (sel (bodyOf Try.f12) [1, 1, 1, 1, 1]) (bodyQ Try.prog Try.f12.results.toList K E)) (bodyQ Try.prog Try.f12.results.toList K E))))) #[x0, x1, x2, x3, x4, x5, v6, x7, x8, x9, x10, x11, x12, x13, x14, x15, x16, x17, x18, x19, x20, x21, x22, x23, x24, x25, x26, x27, x28, y29, y30, y31, y32, y33, y34, y35, y36, y37, y38, y39, y40, y41, y42, y43, y44, y45, y46, y47, y48, y49, y50, y51, y52, x53, x54, x55, x56, x57, x58, x59, x60, x61, x62, x63, x64, x65, x66, x67, x68, x69, x70, x71, x72, x73, x74, x75, x76, x77, x78, x79, x80, x81, x82, x83, x84, x85, x86, x87, x88, x89, x90, x91, x92, x93, x94, x95, x96, x97, x98, x99, x100, x101, x102, x103, x104, x105, x106, x107, x108, x109, x110, x111, x112, x113, x114, x115, x116, x117, x118] h := by
  subst e6
  have e : (#[x0, x1, x2, x3, x4, x5, (f6 s0), x7, x8, x9, x10, x11, x12, x13, x14, x15, x16, x17, x18, x19, x20, x21, x22, x23, x24, x25, x26, x27, x28, y29, y30, y31, y32, y33, y34, y35, y36, y37, y38, y39, y40, y41, y42, y43, y44, y45, y46, y47, y48, y49, y50, y51, y52, x53, x54, x55, x56, x57, x58, x59, x60, x61, x62, x63, x64, x65, x66, x67, x68, x69, x70, x71, x72, x73, x74, x75, x76, x77, x78, x79, x80, x81, x82, x83, x84, x85, x86, x87, x88, x89, x90, x91, x92, x93, x94, x95, x96, x97, x98, x99, x100, x101, x102, x103, x104, x105, x106, x107, x108, x109, x110, x111, x112, x113, x114, x115, x116, x117, x118] : Env) = m12_1_1_1_1_0_1_0_0 x0 x1 x2 x3 x4 x5 x7 x8 x9 x10 x11 x12 x13 x14 x15 x16 x17 x18 x19 x20 x21 x22 x23 x24 x25 x26 x27 x28 x53 x54 x55 x56 x57 x58 x59 x60 x61 x62 x63 x64 x65 x66 x67 x68 x69 x70 x71 x72 x73 x74 x75 x76 x77 x78 x79 x80 x81 x82 x83 x84 x85 x86 x87 x88 x89 x90 x91 x92 x93 x94 x95 x96 x97 x98 x99 x100 x101 x102 x103 x104 x105 x106 x107 x108 x109 x110 x111 x112 x113 x114 x115 x116 x117 x118 (f6 s0) (jf #[x0, x1, x2, x3, x4, x5, (f6 s0), x7, x8, x9, x10, x11, x12, x13, x14, x15, x16, x17, x18, x19, x20, x21, x22, x23, x24, x25, x26, x27, x28, y29, y30, y31, y32, y33, y34, y35, y36, y37, y38, y39, y40, y41, y42, y43, y44, y45, y46, y47, y48, y49, y50, y51, y52, x53, x54, x55, x56, x57, x58, x59, x60, x61, x62, x63, x64, x65, x66, x67, x68, x69, x70, x71, x72, x73, x74, x75, x76, x77, x78, x79, x80, x81, x82, x83, x84, x85, x86, x87, x88, x89, x90, x91, x92, x93, x94, x95, x96, x97, x98, x99, x100, x101, x102, x103, x104, x105, x106, x107, x108, x109, x110, x111, x112, x113, x114, x115, x116, x117, x118]) := by kernel_rfl
  rw [e]
  exact loop_r (fun s j => m12_1_1_1_1_0_1_0_0 x0 x1 x2 x3 x4 x5 x7 x8 x9 x10 x11 x12 x13 x14 x15 x16 x17 x18 x19 x20 x21 x22 x23 x24 x25 x26 x27 x28 x53 x54 x55 x56 x57 x58 x59 x60 x61 x62 x63 x64 x65 x66 x67 x68 x69 x70 x71 x72 x73 x74 x75 x76 x77 x78 x79 x80 x81 x82 x83 x84 x85 x86 x87 x88 x89 x90 x91 x92 x93 x94 x95 x96 x97 x98 x99 x100 x101 x102 x103 x104 x105 x106 x107 x108 x109 x110 x111 x112 x113 x114 x115 x116 x117 x118 (f6 s) j) I μ (fun k s j h hI hw next => by rw [t12_1_1_1_1_0_1_0_0]; exact round k s j h hI hw next) s0 (jf #[x0, x1, x2, x3, x4, x5, (f6 s0), x7, x8, x9, x10, x11, x12, x13, x14, x15, x16, x17, x18, x19, x20, x21, x22, x23, x24, x25, x26, x27, x28, y29, y30, y31, y32, y33, y34, y35, y36, y37, y38, y39, y40, y41, y42, y43, y44, y45, y46, y47, y48, y49, y50, y51, y52, x53, x54, x55, x56, x57, x58, x59, x60, x61, x62, x63, x64, x65, x66, x67, x68, x69, x70, x71, x72, x73, x74, x75, x76, x77, x78, x79, x80, x81, x82, x83, x84, x85, x86, x87, x88, x89, x90, x91, x92, x93, x94, x95, x96, x97, x98, x99, x100, x101, x102, x103, x104, x105, x106, x107, x108, x109, x110, x111, x112, x113, x114, x115, x116, x117, x118]) h0

end Go.Proofs.Ytjeojnjkmhnepaa.T
