import Derived.Test.YthpacapdaembpaaDoorProg
import Derived.Test.YthpacapdaembpaaDoorK16
open Go Go.RowKit Go.Proofs.YthpacapdaembpaaDoor.K
set_option linter.unusedVariables false
set_option maxRecDepth 100000
namespace Go.Proofs.YthpacapdaembpaaDoor.T
theorem t3 (K : Kont) (E : PanK) (x0 x1 x2 x3 x4 : Value)  : den Tryd.prog (sel (bodyOf Tryd.f3) []) (bodyQ Tryd.prog Tryd.f3.results.toList K E) #[x0, x1, x2, x3, x4, undef, undef, undef, undef, undef, undef, undef, undef, undef, undef, undef, undef, undef, undef, undef, undef, undef, undef, undef, undef, undef, undef, undef, undef, undef, undef, undef, undef, undef, undef, undef, undef, undef, undef, undef, undef, undef, undef, undef, undef, undef, undef, undef, undef, undef, undef] =
  callv Tryd.prog (.func (.func 17) #[] #[]) #[x0, (.slice none 0 0)] (fun t1 =>
  gdK t1 false (fun k => k x3) fun t2 =>
  gdK t1 false (fun k => pv (lenV t2) k) fun t3 =>
  gdK t1 false (fun k => pv (binV .none .gtr t3 (.int .i64 200)) k) fun t4 =>
  pv (pickV t1 (.bool true) t4) fun t5 =>
  gdK t5 false (fun k => callv Tryd.prog (.func (.func 18) #[] #[]) #[] k E) fun t6 =>
  gdK t5 false (fun k => pv (unV .not t6) k) fun t7 =>
  pv (pickV t5 (.bool true) t7) fun t8 =>
  cnd t8 (
    callv Tryd.prog (.func (.func 18) #[] #[]) #[] (fun t9 =>
    K t9) E) (
    callv Tryd.prog (.func (.func 19) #[] #[]) #[x2] (fun t10 =>
    callv Tryd.prog (.func (.func 21) #[] #[]) #[t10, x3, x4] (fun t11 =>
    callv Tryd.prog (.func (.func 20) #[] #[]) #[t11] (fun t12 =>
    callv Tryd.prog (.func (.func 22) #[] #[]) #[x0, x1] (fun t13 =>
    callv Tryd.prog (.func (.func 23) #[] #[]) #[x0, x1] (fun t14 =>
    pv (binV .bool .eql t13 t14) fun t15 =>
    gdK t15 true (fun k => k t12) fun t16 =>
    gdK t15 true (fun k => k t10) fun t17 =>
    gdK t15 true (fun k => pv (lenV t17) k) fun t18 =>
    gdK t15 true (fun k => callv Tryd.prog (.func (.func 22) #[] #[]) #[t16, t18] k E) fun t19 =>
    pv (pickV t15 t19 (.bool false)) fun t20 =>
    gdK t20 true (fun k => k t12) fun t21 =>
    gdK t20 true (fun k => k t10) fun t22 =>
    gdK t20 true (fun k => pv (lenV t22) k) fun t23 =>
    gdK t20 true (fun k => callv Tryd.prog (.func (.func 23) #[] #[]) #[t21, t23] k E) fun t24 =>
    pv (pickV t20 t24 (.bool false)) fun t25 =>
    K t25) E) E) E) E) E)) E := by kernel_rfl

theorem t4 (K : Kont) (E : PanK) (x0 : Value)  : den Tryd.prog (sel (bodyOf Tryd.f4) []) (bodyQ Tryd.prog Tryd.f4.results.toList K E) #[x0, undef, undef, undef, undef, undef, undef, undef, undef, undef, undef, undef, undef, undef, undef] =
  callv Tryd.prog (.func (.func 17) #[] #[]) #[(.slice none 0 0), x0] (fun t1 =>
  gdK t1 false (fun k => callv Tryd.prog (.func (.func 18) #[] #[]) #[] k E) fun t2 =>
  gdK t1 false (fun k => pv (unV .not t2) k) fun t3 =>
  pv (pickV t1 (.bool true) t3) fun t4 =>
  cnd t4 (
    callv Tryd.prog (.func (.func 18) #[] #[]) #[] (fun t5 =>
    K t5) E) (
    callv Tryd.prog (.func (.func 20) #[] #[]) #[x0] (fun t6 =>
    callv Tryd.prog (.func (.func 25) #[] #[]) #[x0] (fun t7 =>
    callv Tryd.prog (.func (.func 24) #[] #[]) #[t6, t7] (fun t8 =>
    K t8) E) E) E)) E := by kernel_rfl

theorem t5 (K : Kont) (E : PanK) (x0 x1 : Value)  : den Tryd.prog (sel (bodyOf Tryd.f5) []) (bodyQ Tryd.prog Tryd.f5.results.toList K E) #[x0, x1, undef, undef, undef, undef, undef, undef, undef, undef, undef, undef, undef, undef, undef, undef, undef, undef, undef, undef, undef, undef, undef, undef, undef, undef, undef, undef, undef, undef, undef, undef, undef, undef, undef, undef, undef, undef, undef, undef, undef, undef, undef, undef, undef, undef, undef, undef, undef, undef, undef, undef, undef, undef, undef, undef, undef, undef, undef, undef, undef, undef, undef, undef, undef, undef] =
  pv (lenV x0) fun t1 =>
  pv (binV .none .gtr t1 (.int .i64 20)) fun t2 =>
  gdK t2 false (fun k => k x1) fun t3 =>
  gdK t2 false (fun k => pv (lenV t3) k) fun t4 =>
  gdK t2 false (fun k => pv (binV .none .gtr t4 (.int .i64 200)) k) fun t5 =>
  pv (pickV t2 (.bool true) t5) fun t6 =>
  gdK t6 false (fun k => callv Tryd.prog (.func (.func 18) #[] #[]) #[] k E) fun t7 =>
  gdK t6 false (fun k => pv (unV .not t7) k) fun t8 =>
  pv (pickV t6 (.bool true) t8) fun t9 =>
  cnd t9 (
    callv Tryd.prog (.func (.func 18) #[] #[]) #[] (fun t10 =>
    K t10) E) (
    lp (fun k1 => den Tryd.prog (sel (bodyOf Tryd.f5) [1, 1, 1, 0, 1, 0, 0]) (thenD k1 (blk 0 (thenD (den Tryd.prog (sel (bodyOf Tryd.f5) [1, 1, 1, 1]) (bodyQ Tryd.prog Tryd.f5.results.toList K E)) (bodyQ Tryd.prog Tryd.f5.results.toList K E))))) #[x0, x1, undef, undef, (.bool false), (.slice none 0 0), (.int .i64 0), undef, x0, t1, t2, t2, t3, t4, t5, t6, t6, t7, t8, t9, undef, undef, undef, undef, undef, undef, undef, undef, undef, undef, undef, undef, undef, undef, undef, undef, undef, undef, undef, undef, undef, undef, undef, undef, undef, undef, undef, undef, undef, undef, undef, undef, undef, undef, undef, undef, undef, undef, undef, undef, undef, undef, undef, undef, undef, undef]) := by kernel_rfl
def m5_1_1_1_0_1_0_0 (x0 x1 x2 x3 x4 x7 x8 x9 x10 x11 x12 x13 x14 x15 x16 x17 x18 x19 x20 x36 x37 x38 x39 x40 x41 x42 x43 x44 x45 x46 x47 x48 x49 x50 x51 x52 x53 x54 x55 x56 x57 x58 x59 x60 x61 x62 x63 x64 x65 : Value) (v5 v6 : Value) (j : Nat → Value) : Env := #[x0, x1, x2, x3, x4, v5, v6, x7, x8, x9, x10, x11, x12, x13, x14, x15, x16, x17, x18, x19, x20, (j 21), (j 22), (j 23), (j 24), (j 25), (j 26), (j 27), (j 28), (j 29), (j 30), (j 31), (j 32), (j 33), (j 34), (j 35), x36, x37, x38, x39, x40, x41, x42, x43, x44, x45, x46, x47, x48, x49, x50, x51, x52, x53, x54, x55, x56, x57, x58, x59, x60, x61, x62, x63, x64, x65]
theorem t5_1_1_1_0_1_0_0 (K : Kont) (E : PanK) (k1 : Env → Hp → Prop) (x0 x1 x2 x3 x4 x7 x8 x9 x10 x11 x12 x13 x14 x15 x16 x17 x18 x19 x20 x36 x37 x38 x39 x40 x41 x42 x43 x44 x45 x46 x47 x48 x49 x50 x51 x52 x53 x54 x55 x56 x57 x58 x59 x60 x61 x62 x63 x64 x65 v5 v6 : Value) (j : Nat → Value) : den Tryd.prog (sel (bodyOf Tryd.f5) [1, 1, 1, 0, 1, 0, 0]) (thenD k1 (blk 0 (thenD (den Tryd.prog (sel (bodyOf Tryd.f5) [1, 1, 1, 1]) (bodyQ Tryd.prog Tryd.f5.results.toList K E)) (bodyQ Tryd.prog Tryd.f5.results.toList K E)))) (m5_1_1_1_0_1_0_0 x0 x1 x2 x3 x4 x7 x8 x9 x10 x11 x12 x13 x14 x15 x16 x17 x18 x19 x20 x36 x37 x38 x39 x40 x41 x42 x43 x44 x45 x46 x47 x48 x49 x50 x51 x52 x53 x54 x55 x56 x57 x58 x59 x60 x61 x62 x63 x64 x65 v5 v6 j) =
  pv (lenV x1) fun t1 =>
  pv (binV .none .lss v6 t1) fun t2 =>
  cnd t2 (
    pv (iaV none 1 x1 v6) fun t3 =>
    ld false 1 t3 fun t4 =>
    pv (bdC #[(.slice none 0 0), (.int .i64 0)] [(0, 1), (1, 1)] #[(0, x0), (1, t4)]) fun t5 =>
    nws 39 1 (bsC #[(.slice none 0 0), (.int .i64 0)] 2 1 #[(0, t5)]) fun t6 =>
    appX 39 2 32 v5 t6 fun t7 =>
    pv (binV .none .add v6 (.int .i64 1)) fun t8 =>
    k1 (m5_1_1_1_0_1_0_0 x0 x1 x2 x3 x4 x7 x8 x9 x10 x11 x12 x13 x14 x15 x16 x17 x18 x19 x20 x36 x37 x38 x39 x40 x41 x42 x43 x44 x45 x46 x47 x48 x49 x50 x51 x52 x53 x54 x55 x56 x57 x58 x59 x60 x61 x62 x63 x64 x65 t7 t8 (jf #[x0, x1, x2, x3, x4, t7, t8, x7, x8, x9, x10, x11, x12, x13, x14, x15, x16, x17, x18, x19, x20, v6, x1, t1, t2, v6, t8, v5, x0, x1, v6, t3, t4, t5, t6, t7, x36, x37, x38, x39, x40, x41, x42, x43, x44, x45, x46, x47, x48, x49, x50, x51, x52, x53, x54, x55, x56, x57, x58, x59, x60, x61, x62, x63, x64, x65]))) (
    den Tryd.prog (sel (bodyOf Tryd.f5) [1, 1, 1, 1]) (bodyQ Tryd.prog Tryd.f5.results.toList K E) #[x0, x1, x2, x3, x4, v5, v6, x7, x8, x9, x10, x11, x12, x13, x14, x15, x16, x17, x18, x19, x20, v6, x1, t1, t2, (j 25), (j 26), (j 27), (j 28), (j 29), (j 30), (j 31), (j 32), (j 33), (j 34), (j 35), x36, x37, x38, x39, x40, x41, x42, x43, x44, x45, x46, x47, x48, x49, x50, x51, x52, x53, x54, x55, x56, x57, x58, x59, x60, x61, x62, x63, x64, x65]) := by kernel_rfl
theorem t5_1_1_1_1 (K : Kont) (E : PanK) (x0 x1 x2 x3 x4 x5 x6 x7 x8 x9 x10 x11 x12 x13 x14 x15 x16 x17 x18 x19 x20 x21 x22 x23 x24 x25 x26 x27 x28 x29 x30 x31 x32 x33 x34 x35 x36 x37 x38 x39 x40 x41 x42 x43 x44 x45 x46 x47 x48 x49 x50 x51 x52 x53 x54 x55 x56 x57 x58 x59 x60 x61 x62 x63 x64 x65 : Value)  : den Tryd.prog (sel (bodyOf Tryd.f5) [1, 1, 1, 1]) (bodyQ Tryd.prog Tryd.f5.results.toList K E) #[x0, x1, x2, x3, x4, x5, x6, x7, x8, x9, x10, x11, x12, x13, x14, x15, x16, x17, x18, x19, x20, x21, x22, x23, x24, x25, x26, x27, x28, x29, x30, x31, x32, x33, x34, x35, x36, x37, x38, x39, x40, x41, x42, x43, x44, x45, x46, x47, x48, x49, x50, x51, x52, x53, x54, x55, x56, x57, x58, x59, x60, x61, x62, x63, x64, x65] =
  callv Tryd.prog (.func (.func 20) #[] #[]) #[x5] (fun t1 =>
  pv (lenV x1) fun t2 =>
  pv (binV .none .eql t2 (.int .i64 0)) fun t3 =>
  cnd t3 (
    pv (lenV t1) fun t4 =>
    pv (binV .none .eql t4 (.int .i64 0)) fun t5 =>
    K t5) (
    pv (lenV t1) fun t6 =>
    pv (binV .none .eql t6 (.int .i64 1)) fun t7 =>
    gdK t7 true (fun k => k t1) fun t8 =>
    gdK t7 true (fun k => pv (iaV none 5 t8 (.int .i64 0)) k) fun t9 =>
    gdK t7 true (fun k => pv (faV 1 t9) k) fun t10 =>
    gdK t7 true (fun k => ld true 4 t10 k) fun t11 =>
    gdK t7 true (fun k => k x1) fun t12 =>
    gdK t7 true (fun k => callv Tryd.prog (.func (.func 26) #[] #[]) #[t12] k E) (fun t13 h14 => (isB t7 true = true → ldV h14 true 4 t10 t11) ∧ (
      gdK t7 true (fun k => pv (eqCells .eql [0, 0, 0, 0] t11 t13) k) fun t15 =>
      pv (pickV t7 t15 (.bool false)) fun t16 =>
      gdK t16 true (fun k => k t1) fun t17 =>
      gdK t16 true (fun k => pv (iaV none 5 t17 (.int .i64 0)) k) fun t18 =>
      gdK t16 true (fun k => pv (faV 0 t18) k) fun t19 =>
      gdK t16 true (fun k => ld false 1 t19 k) fun t20 =>
      gdK t16 true (fun k => pv (lenV t20) k) fun t21 =>
      gdK t16 true (fun k => k x0) fun t22 =>
      gdK t16 true (fun k => pv (lenV t22) k) fun t23 =>
      gdK t16 true (fun k => pv (binV .none .eql t21 t23) k) fun t24 =>
      pv (pickV t16 t24 (.bool false)) fun t25 =>
      K t25) h14))) E := by kernel_rfl
theorem l5_1_1_1_0_1_0_0 {K : Kont} {E : PanK} {σ : Type} {x0 x1 x2 x3 x4 x7 x8 x9 x10 x11 x12 x13 x14 x15 x16 x17 x18 x19 x20 x36 x37 x38 x39 x40 x41 x42 x43 x44 x45 x46 x47 x48 x49 x50 x51 x52 x53 x54 x55 x56 x57 x58 x59 x60 x61 x62 x63 x64 x65 v5 v6 y21 y22 y23 y24 y25 y26 y27 y28 y29 y30 y31 y32 y33 y34 y35 : Value} {h : Hp} (f5 f6 : σ → Value) (I : σ → Hp → Prop) (μ : σ → Nat) (s0 : σ) (e5 : v5 = f5 s0) (e6 : v6 = f6 s0) (h0 : h.wf → ∃ h', h.wk h' ∧ I s0 h')
  (round : ∀ (k1 : Env → Hp → Prop) (s : σ) (j : Nat → Value) (h : Hp), I s h → h.wf → (∀ s' j' h', μ s' < μ s → (h'.wf → ∃ h'', h'.wk h'' ∧ I s' h'') → k1 (m5_1_1_1_0_1_0_0 x0 x1 x2 x3 x4 x7 x8 x9 x10 x11 x12 x13 x14 x15 x16 x17 x18 x19 x20 x36 x37 x38 x39 x40 x41 x42 x43 x44 x45 x46 x47 x48 x49 x50 x51 x52 x53 x54 x55 x56 x57 x58 x59 x60 x61 x62 x63 x64 x65 (f5 s') (f6 s') j') h') → (
  pv (lenV x1) fun t1 =>
  pv (binV .none .lss (f6 s) t1) fun t2 =>
  cnd t2 (
    pv (iaV none 1 x1 (f6 s)) fun t3 =>
    ld false 1 t3 fun t4 =>
    pv (bdC #[(.slice none 0 0), (.int .i64 0)] [(0, 1), (1, 1)] #[(0, x0), (1, t4)]) fun t5 =>
    nws 39 1 (bsC #[(.slice none 0 0), (.int .i64 0)] 2 1 #[(0, t5)]) fun t6 =>
    appX 39 2 32 (f5 s) t6 fun t7 =>
    pv (binV .none .add (f6 s) (.int .i64 1)) fun t8 =>
    k1 (m5_1_1_1_0_1_0_0 x0 x1 x2 x3 x4 x7 x8 x9 x10 x11 x12 x13 x14 x15 x16 x17 x18 x19 x20 x36 x37 x38 x39 x40 x41 x42 x43 x44 x45 x46 x47 x48 x49 x50 x51 x52 x53 x54 x55 x56 x57 x58 x59 x60 x61 x62 x63 x64 x65 t7 t8 (jf #[x0, x1, x2, x3, x4, t7, t8, x7, x8, x9, x10, x11, x12, x13, x14, x15, x16, x17, x18, x19, x20, (f6 s), x1, t1, t2, (f6 s), t8, (f5 s), x0, x1, (f6 s), t3, t4, t5, t6, t7, x36, x37, x38, x39, x40, x41, x42, x43, x44, x45, x46, x47, x48, x49, x50, x51, x52, x53, x54, x55, x56, x57, x58, x59, x60, x61, x62, x63, x64, x65]))) (
    den Tryd.prog (sel (bodyOf Tryd.f5) [1, 1, 1, 1]) (bodyQ Tryd.prog Tryd.f5.results.toList K E) #[x0, x1, x2, x3, x4, (f5 s), (f6 s), x7, x8, x9, x10, x11, x12, x13, x14, x15, x16, x17, x18, x19, x20, (f6 s), x1, t1, t2, (j 25), (j 26), (j 27), (j 28), (j 29), (j 30), (j 31), (j 32), (j 33), (j 34), (j 35), x36, x37, x38, x39, x40, x41, x42, x43, x44, x45, x46, x47, x48, x49, x50, x51, x52, x53, x54, x55, x56, x57, x58, x59, x60, x61, x62, x63, x64, x65])) h) :
  lp (fun k1 => den Tryd.prog (sel (bodyOf Tryd.f5) [1, 1, 1, 0, 1, 0, 0]) (thenD k1 (blk 0 (thenD (den Tryd.prog (sel (bodyOf Tryd.f5) [1, 1, 1, 1]) (bodyQ Tryd.prog Tryd.f5.results.toList K E)) (bodyQ Tryd.prog Tryd.f5.results.toList K E))))) #[x0, x1, x2, x3, x4, v5, v6, x7, x8, x9, x10, x11, x12, x13, x14, x15, x16, x17, x18, x19, x20, y21, y22, y23, y24, y25, y26, y27, y28, y29, y30, y31, y32, y33, y34, y35, x36, x37, x38, x39, x40, x41, x42, x43, x44, x45, x46, x47, x48, x49, x50, x51, x52, x53, x54, x55, x56, x57, x58, x59, x60, x61, x62, x63, x64, x65] h := by
  subst e5
  subst e6
  have e : (#[x0, x1, x2, x3, x4, (f5 s0), (f6 s0), x7, x8, x9, x10, x11, x12, x13, x14, x15, x16, x17, x18, x19, x20, y21, y22, y23, y24, y25, y26, y27, y28, y29, y30, y31, y32, y33, y34, y35, x36, x37, x38, x39, x40, x41, x42, x43, x44, x45, x46, x47, x48, x49, x50, x51, x52, x53, x54, x55, x56, x57, x58, x59, x60, x61, x62, x63, x64, x65] : Env) = m5_1_1_1_0_1_0_0 x0 x1 x2 x3 x4 x7 x8 x9 x10 x11 x12 x13 x14 x15 x16 x17 x18 x19 x20 x36 x37 x38 x39 x40 x41 x42 x43 x44 x45 x46 x47 x48 x49 x50 x51 x52 x53 x54 x55 x56 x57 x58 x59 x60 x61 x62 x63 x64 x65 (f5 s0) (f6 s0) (jf #[x0, x1, x2, x3, x4, (f5 s0), (f6 s0), x7, x8, x9, x10, x11, x12, x13, x14, x15, x16, x17, x18, x19, x20, y21, y22, y23, y24, y25, y26, y27, y28, y29, y30, y31, y32, y33, y34, y35, x36, x37, x38, x39, x40, x41, x42, x43, x44, x45, x46, x47, x48, x49, x50, x51, x52, x53, x54, x55, x56, x57, x58, x59, x60, x61, x62, x63, x64, x65]) := by kernel_rfl
  rw [e]
  exact loop_r (fun s j => m5_1_1_1_0_1_0_0 x0 x1 x2 x3 x4 x7 x8 x9 x10 x11 x12 x13 x14 x15 x16 x17 x18 x19 x20 x36 x37 x38 x39 x40 x41 x42 x43 x44 x45 x46 x47 x48 x49 x50 x51 x52 x53 x54 x55 x56 x57 x58 x59 x60 x61 x62 x63 x64 x65 (f5 s) (f6 s) j) I μ (fun k s j h hI hw next => by rw [t5_1_1_1_0_1_0_0]; exact round k s j h hI hw next) s0 (jf #[x0, x1, x2, x3, x4, (f5 s0), (f6 s0), x7, x8, x9, x10, x11, x12, x13, x14, x15, x16, x17, x18, x19, x20, y21, y22, y23, y24, y25, y26, y27, y28, y29, y30, y31, y32, y33, y34, y35, x36, x37, x38, x39, x40, x41, x42, x43, x44, x45, x46, x47, x48, x49, x50, x51, x52, x53, x54, x55, x56, x57, x58, x59, x60, x61, x62, x63, x64, x65]) h0

theorem t6 (K : Kont) (E : PanK) (x0 x1 : Value)  : den Tryd.prog (sel (bodyOf Tryd.f6) []) (bodyQ Tryd.prog Tryd.f6.results.toList K E) #[x0, x1, undef, undef, undef, undef, undef, undef, undef, undef, undef, undef, undef, undef, undef, undef, undef, undef, undef, undef, undef, undef, undef] =
  callv Tryd.prog (.func (.func 17) #[] #[]) #[x0, (.slice none 0 0)] (fun t1 =>
  gdK t1 false (fun k => k x1) fun t2 =>
  gdK t1 false (fun k => callv Tryd.prog (.func (.func 17) #[] #[]) #[t2, (.slice none 0 0)] k E) fun t3 =>
  pv (pickV t1 (.bool true) t3) fun t4 =>
  gdK t4 false (fun k => callv Tryd.prog (.func (.func 18) #[] #[]) #[] k E) fun t5 =>
  gdK t4 false (fun k => pv (unV .not t5) k) fun t6 =>
  pv (pickV t4 (.bool true) t6) fun t7 =>
  cnd t7 (
    callv Tryd.prog (.func (.func 18) #[] #[]) #[] (fun t8 =>
    K t8) E) (
    callv Tryd.prog (.func (.func 27) #[] #[]) #[x0, x1] (fun t9 =>
    callv Tryd.prog (.func (.func 28) #[] #[]) #[x0, x1] (fun t10 =>
    callv Tryd.prog (.func (.func 24) #[] #[]) #[t9, t10] (fun t11 =>
    K t11) E) E) E)) E := by kernel_rfl

theorem t7 (K : Kont) (E : PanK) (x0 x1 x2 x3 : Value)  : den Tryd.prog (sel (bodyOf Tryd.f7) []) (bodyQ Tryd.prog Tryd.f7.results.toList K E) #[x0, x1, x2, x3, undef, undef, undef, undef, undef, undef, undef, undef, undef, undef, undef, undef, undef, undef, undef, undef, undef, undef, undef, undef, undef, undef, undef, undef, undef, undef, undef, undef, undef, undef, undef, undef, undef, undef, undef, undef, undef, undef, undef, undef, undef, undef, undef, undef, undef, undef, undef, undef, undef, undef, undef, undef, undef, undef, undef, undef, undef, undef, undef, undef, undef, undef, undef, undef, undef, undef, undef, undef, undef, undef, undef, undef, undef, undef, undef, undef, undef, undef, undef, undef, undef, undef, undef, undef, undef, undef, undef, undef, undef, undef, undef, undef, undef, undef, undef, undef, undef, undef, undef, undef, undef, undef, undef, undef, undef, undef, undef, undef, undef, undef, undef, undef, undef, undef, undef, undef, undef, undef, undef, undef, undef, undef, undef] =
  pv (lenV x1) fun t1 =>
  pv (binV .none .gtr t1 (.int .i64 200)) fun t2 =>
  gdK t2 false (fun k => callv Tryd.prog (.func (.func 18) #[] #[]) #[] k E) fun t3 =>
  gdK t2 false (fun k => pv (unV .not t3) k) fun t4 =>
  pv (pickV t2 (.bool true) t4) fun t5 =>
  cnd t5 (
    callv Tryd.prog (.func (.func 18) #[] #[]) #[] (fun t6 =>
    K t6) E) (
    callv Tryd.prog (.func (.func 19) #[] #[]) #[x0] (fun t7 =>
    callv Tryd.prog (.func (.func 21) #[] #[]) #[t7, x1, x2] (fun t8 =>
    pv (mm true x3 (.int .i64 0)) fun t9 =>
    pv (lenV t8) fun t10 =>
    pv (binV .none .add t10 (.int .i64 1)) fun t11 =>
    pv (binV .none .rem t9 t11) fun t12 =>
    pv (lenV t8) fun t13 =>
    pv (binV .none .sub t13 (.int .i64 1)) fun t14 =>
    lp (fun k1 => den Tryd.prog (sel (bodyOf Tryd.f7) [1, 1, 1, 1, 1, 1, 0, 1, 0, 0]) (thenD k1 (blk 0 (thenD (den Tryd.prog (sel (bodyOf Tryd.f7) [1, 1, 1, 1, 1, 1, 1]) (bodyQ Tryd.prog Tryd.f7.results.toList K E)) (bodyQ Tryd.prog Tryd.f7.results.toList K E))))) #[x0, x1, x2, x3, undef, undef, undef, undef, (.bool false), t7, t8, t12, (.slice none 0 0), t14, undef, undef, undef, undef, undef, x1, t1, t2, t2, t3, t4, t5, undef, x0, t7, t7, x1, x2, t8, x3, t9, t8, t10, t11, t12, t8, t13, t14, undef, undef, undef, undef, undef, undef, undef, undef, undef, undef, undef, undef, undef, undef, undef, undef, undef, undef, undef, undef, undef, undef, undef, undef, undef, undef, undef, undef, undef, undef, undef, undef, undef, undef, undef, undef, undef, undef, undef, undef, undef, undef, undef, undef, undef, undef, undef, undef, undef, undef, undef, undef, undef, undef, undef, undef, undef, undef, undef, undef, undef, undef, undef, undef, undef, undef, undef, undef, undef, undef, undef, undef, undef, undef, undef, undef, undef, undef, undef, undef, undef, undef, undef, undef, undef]) E) E) := by kernel_rfl
def m7_1_1_1_1_1_1_0_1_0_0 (x0 x1 x2 x3 x4 x5 x6 x7 x8 x9 x10 x11 x14 x15 x16 x17 x18 x19 x20 x21 x22 x23 x24 x25 x26 x27 x28 x29 x30 x31 x32 x33 x34 x35 x36 x37 x38 x39 x40 x41 x53 x54 x55 x56 x57 x58 x59 x60 x61 x62 x63 x64 x65 x66 x67 x68 x69 x70 x71 x72 x73 x74 x75 x76 x77 x78 x79 x80 x81 x82 x83 x84 x85 x86 x87 x88 x89 x90 x91 x92 x93 x94 x95 x96 x97 x98 x99 x100 x101 x102 x103 x104 x105 x106 x107 x108 x109 x110 x111 x112 x113 x114 x115 x116 x117 x118 x119 x120 x121 x122 x123 x124 x125 x126 : Value) (v12 v13 : Value) (j : Nat → Value) : Env := #[x0, x1, x2, x3, x4, x5, x6, x7, x8, x9, x10, x11, v12, v13, x14, x15, x16, x17, x18, x19, x20, x21, x22, x23, x24, x25, x26, x27, x28, x29, x30, x31, x32, x33, x34, x35, x36, x37, x38, x39, x40, x41, (j 42), (j 43), (j 44), (j 45), (j 46), (j 47), (j 48), (j 49), (j 50), (j 51), (j 52), x53, x54, x55, x56, x57, x58, x59, x60, x61, x62, x63, x64, x65, x66, x67, x68, x69, x70, x71, x72, x73, x74, x75, x76, x77, x78, x79, x80, x81, x82, x83, x84, x85, x86, x87, x88, x89, x90, x91, x92, x93, x94, x95, x96, x97, x98, x99, x100, x101, x102, x103, x104, x105, x106, x107, x108, x109, x110, x111, x112, x113, x114, x115, x116, x117, x118, x119, x120, x121, x122, x123, x124, x125, x126]
theorem t7_1_1_1_1_1_1_0_1_0_0 (K : Kont) (E : PanK) (k1 : Env → Hp → Prop) (x0 x1 x2 x3 x4 x5 x6 x7 x8 x9 x10 x11 x14 x15 x16 x17 x18 x19 x20 x21 x22 x23 x24 x25 x26 x27 x28 x29 x30 x31 x32 x33 x34 x35 x36 x37 x38 x39 x40 x41 x53 x54 x55 x56 x57 x58 x59 x60 x61 x62 x63 x64 x65 x66 x67 x68 x69 x70 x71 x72 x73 x74 x75 x76 x77 x78 x79 x80 x81 x82 x83 x84 x85 x86 x87 x88 x89 x90 x91 x92 x93 x94 x95 x96 x97 x98 x99 x100 x101 x102 x103 x104 x105 x106 x107 x108 x109 x110 x111 x112 x113 x114 x115 x116 x117 x118 x119 x120 x121 x122 x123 x124 x125 x126 v12 v13 : Value) (j : Nat → Value) : den Tryd.prog (sel (bodyOf Tryd.f7) [1, 1, 1, 1, 1, 1, 0, 1, 0, 0]) (thenD k1 (blk 0 (thenD (den Tryd.prog (sel (bodyOf Tryd.f7) [1, 1, 1, 1, 1, 1, 1]) (bodyQ Tryd.prog Tryd.f7.results.toList K E)) (bodyQ Tryd.prog Tryd.f7.results.toList K E)))) (m7_1_1_1_1_1_1_0_1_0_0 x0 x1 x2 x3 x4 x5 x6 x7 x8 x9 x10 x11 x14 x15 x16 x17 x18 x19 x20 x21 x22 x23 x24 x25 x26 x27 x28 x29 x30 x31 x32 x33 x34 x35 x36 x37 x38 x39 x40 x41 x53 x54 x55 x56 x57 x58 x59 x60 x61 x62 x63 x64 x65 x66 x67 x68 x69 x70 x71 x72 x73 x74 x75 x76 x77 x78 x79 x80 x81 x82 x83 x84 x85 x86 x87 x88 x89 x90 x91 x92 x93 x94 x95 x96 x97 x98 x99 x100 x101 x102 x103 x104 x105 x106 x107 x108 x109 x110 x111 x112 x113 x114 x115 x116 x117 x118 x119 x120 x121 x122 x123 x124 x125 x126 v12 v13 j) =
  pv (binV .none .geq v13 (.int .i64 0)) fun t1 =>
  cnd t1 (
    pv (iaV none 2 x10 v13) fun t2 =>
    ld true 2 t2 fun t3 =>
    nws 39 1 (bsC #[(.slice none 0 0), (.int .i64 0)] 2 1 #[(0, t3)]) fun t4 =>
    appX 39 2 32 v12 t4 fun t5 =>
    pv (binV .none .sub v13 (.int .i64 1)) fun t6 =>
    k1 (m7_1_1_1_1_1_1_0_1_0_0 x0 x1 x2 x3 x4 x5 x6 x7 x8 x9 x10 x11 x14 x15 x16 x17 x18 x19 x20 x21 x22 x23 x24 x25 x26 x27 x28 x29 x30 x31 x32 x33 x34 x35 x36 x37 x38 x39 x40 x41 x53 x54 x55 x56 x57 x58 x59 x60 x61 x62 x63 x64 x65 x66 x67 x68 x69 x70 x71 x72 x73 x74 x75 x76 x77 x78 x79 x80 x81 x82 x83 x84 x85 x86 x87 x88 x89 x90 x91 x92 x93 x94 x95 x96 x97 x98 x99 x100 x101 x102 x103 x104 x105 x106 x107 x108 x109 x110 x111 x112 x113 x114 x115 x116 x117 x118 x119 x120 x121 x122 x123 x124 x125 x126 t5 t6 (jf #[x0, x1, x2, x3, x4, x5, x6, x7, x8, x9, x10, x11, t5, t6, x14, x15, x16, x17, x18, x19, x20, x21, x22, x23, x24, x25, x26, x27, x28, x29, x30, x31, x32, x33, x34, x35, x36, x37, x38, x39, x40, x41, v13, t1, v13, t6, v12, x10, v13, t2, t3, t4, t5, x53, x54, x55, x56, x57, x58, x59, x60, x61, x62, x63, x64, x65, x66, x67, x68, x69, x70, x71, x72, x73, x74, x75, x76, x77, x78, x79, x80, x81, x82, x83, x84, x85, x86, x87, x88, x89, x90, x91, x92, x93, x94, x95, x96, x97, x98, x99, x100, x101, x102, x103, x104, x105, x106, x107, x108, x109, x110, x111, x112, x113, x114, x115, x116, x117, x118, x119, x120, x121, x122, x123, x124, x125, x126]))) (
    den Tryd.prog (sel (bodyOf Tryd.f7) [1, 1, 1, 1, 1, 1, 1]) (bodyQ Tryd.prog Tryd.f7.results.toList K E) #[x0, x1, x2, x3, x4, x5, x6, x7, x8, x9, x10, x11, v12, v13, x14, x15, x16, x17, x18, x19, x20, x21, x22, x23, x24, x25, x26, x27, x28, x29, x30, x31, x32, x33, x34, x35, x36, x37, x38, x39, x40, x41, v13, t1, (j 44), (j 45), (j 46), (j 47), (j 48), (j 49), (j 50), (j 51), (j 52), x53, x54, x55, x56, x57, x58, x59, x60, x61, x62, x63, x64, x65, x66, x67, x68, x69, x70, x71, x72, x73, x74, x75, x76, x77, x78, x79, x80, x81, x82, x83, x84, x85, x86, x87, x88, x89, x90, x91, x92, x93, x94, x95, x96, x97, x98, x99, x100, x101, x102, x103, x104, x105, x106, x107, x108, x109, x110, x111, x112, x113, x114, x115, x116, x117, x118, x119, x120, x121, x122, x123, x124, x125, x126]) := by kernel_rfl
theorem t7_1_1_1_1_1_1_1 (K : Kont) (E : PanK) (x0 x1 x2 x3 x4 x5 x6 x7 x8 x9 x10 x11 x12 x13 x14 x15 x16 x17 x18 x19 x20 x21 x22 x23 x24 x25 x26 x27 x28 x29 x30 x31 x32 x33 x34 x35 x36 x37 x38 x39 x40 x41 x42 x43 x44 x45 x46 x47 x48 x49 x50 x51 x52 x53 x54 x55 x56 x57 x58 x59 x60 x61 x62 x63 x64 x65 x66 x67 x68 x69 x70 x71 x72 x73 x74 x75 x76 x77 x78 x79 x80 x81 x82 x83 x84 x85 x86 x87 x88 x89 x90 x91 x92 x93 x94 x95 x96 x97 x98 x99 x100 x101 x102 x103 x104 x105 x106 x107 x108 x109 x110 x111 x112 x113 x114 x115 x116 x117 x118 x119 x120 x121 x122 x123 x124 x125 x126 : Value)  : den Tryd.prog (sel (bodyOf Tryd.f7) [1, 1, 1, 1, 1, 1, 1]) (bodyQ Tryd.prog Tryd.f7.results.toList K E) #[x0, x1, x2, x3, x4, x5, x6, x7, x8, x9, x10, x11, x12, x13, x14, x15, x16, x17, x18, x19, x20, x21, x22, x23, x24, x25, x26, x27, x28, x29, x30, x31, x32, x33, x34, x35, x36, x37, x38, x39, x40, x41, x42, x43, x44, x45, x46, x47, x48, x49, x50, x51, x52, x53, x54, x55, x56, x57, x58, x59, x60, x61, x62, x63, x64, x65, x66, x67, x68, x69, x70, x71, x72, x73, x74, x75, x76, x77, x78, x79, x80, x81, x82, x83, x84, x85, x86, x87, x88, x89, x90, x91, x92, x93, x94, x95, x96, x97, x98, x99, x100, x101, x102, x103, x104, x105, x106, x107, x108, x109, x110, x111, x112, x113, x114, x115, x116, x117, x118, x119, x120, x121, x122, x123, x124, x125, x126] =
  pv (slV 2 x10 none (some x11) none) fun t1 =>
  callv Tryd.prog (.func (.func 20) #[] #[]) #[t1] (fun t2 =>
  pv (slV 2 x10 (some x11) none none) fun t3 =>
  callv Tryd.prog (.func (.func 20) #[] #[]) #[t3] (fun t4 =>
  callv Tryd.prog (.func (.func 20) #[] #[]) #[x10] (fun t5 =>
  lp (fun k1 => den Tryd.prog (sel (bodyOf Tryd.f7) [1, 1, 1, 1, 1, 1, 1, 1, 1, 1, 1, 0, 1, 0, 0]) (thenD k1 (blk 2 (thenD (den Tryd.prog (sel (bodyOf Tryd.f7) [1, 1, 1, 1, 1, 1, 1, 1, 1, 1, 1, 1]) (bodyQ Tryd.prog Tryd.f7.results.toList K E)) (bodyQ Tryd.prog Tryd.f7.results.toList K E))))) #[x0, x1, x2, x3, x4, x5, x6, x7, x8, x9, x10, x11, x12, x13, t2, t4, t5, (.int .i64 0), (.int .i64 0), x19, x20, x21, x22, x23, x24, x25, x26, x27, x28, x29, x30, x31, x32, x33, x34, x35, x36, x37, x38, x39, x40, x41, x42, x43, x44, x45, x46, x47, x48, x49, x50, x51, x52, x10, x11, t1, t2, x10, x11, t3, t4, x10, t5, x63, x64, x65, x66, x67, x68, x69, x70, x71, x72, x73, x74, x75, x76, x77, x78, x79, x80, x81, x82, x83, x84, x85, x86, x87, x88, x89, x90, x91, x92, x93, x94, x95, x96, x97, x98, x99, x100, x101, x102, x103, x104, x105, x106, x107, x108, x109, x110, x111, x112, x113, x114, x115, x116, x117, x118, x119, x120, x121, x122, x123, x124, x125, x126]) E) E) E := by kernel_rfl
def m7_1_1_1_1_1_1_1_1_1_1_1_0_1_0_0 (x0 x1 x2 x3 x4 x5 x6 x7 x9 x10 x11 x12 x13 x14 x15 x16 x19 x20 x21 x22 x23 x24 x25 x26 x27 x28 x29 x30 x31 x32 x33 x34 x35 x36 x37 x38 x39 x40 x41 x42 x43 x44 x45 x46 x47 x48 x49 x50 x51 x52 x53 x54 x55 x56 x57 x58 x59 x60 x61 x62 x103 x104 x105 x106 x107 x108 x109 x110 x111 x112 x113 x114 x115 x116 x117 x118 x119 x120 x121 x122 x123 x124 x125 x126 : Value) (v17 v18 : Value) (j : Nat → Value) : Env := #[x0, x1, x2, x3, x4, x5, x6, x7, (j 8), x9, x10, x11, x12, x13, x14, x15, x16, v17, v18, x19, x20, x21, x22, x23, x24, x25, x26, x27, x28, x29, x30, x31, x32, x33, x34, x35, x36, x37, x38, x39, x40, x41, x42, x43, x44, x45, x46, x47, x48, x49, x50, x51, x52, x53, x54, x55, x56, x57, x58, x59, x60, x61, x62, (j 63), (j 64), (j 65), (j 66), (j 67), (j 68), (j 69), (j 70), (j 71), (j 72), (j 73), (j 74), (j 75), (j 76), (j 77), (j 78), (j 79), (j 80), (j 81), (j 82), (j 83), (j 84), (j 85), (j 86), (j 87), (j 88), (j 89), (j 90), (j 91), (j 92), (j 93), (j 94), (j 95), (j 96), (j 97), (j 98), (j 99), (j 100), (j 101), (j 102), x103, x104, x105, x106, x107, x108, x109, x110, x111, x112, x113, x114, x115, x116, x117, x118, x119, x120, x121, x122, x123, x124, x125, x126]
theorem t7_1_1_1_1_1_1_1_1_1_1_1_0_1_0_0 (K : Kont) (E : PanK) (k1 : Env → Hp → Prop) (x0 x1 x2 x3 x4 x5 x6 x7 x9 x10 x11 x12 x13 x14 x15 x16 x19 x20 x21 x22 x23 x24 x25 x26 x27 x28 x29 x30 x31 x32 x33 x34 x35 x36 x37 x38 x39 x40 x41 x42 x43 x44 x45 x46 x47 x48 x49 x50 x51 x52 x53 x54 x55 x56 x57 x58 x59 x60 x61 x62 x103 x104 x105 x106 x107 x108 x109 x110 x111 x112 x113 x114 x115 x116 x117 x118 x119 x120 x121 x122 x123 x124 x125 x126 v17 v18 : Value) (j : Nat → Value) : den Tryd.prog (sel (bodyOf Tryd.f7) [1, 1, 1, 1, 1, 1, 1, 1, 1, 1, 1, 0, 1, 0, 0]) (thenD k1 (blk 2 (thenD (den Tryd.prog (sel (bodyOf Tryd.f7) [1, 1, 1, 1, 1, 1, 1, 1, 1, 1, 1, 1]) (bodyQ Tryd.prog Tryd.f7.results.toList K E)) (bodyQ Tryd.prog Tryd.f7.results.toList K E)))) (m7_1_1_1_1_1_1_1_1_1_1_1_0_1_0_0 x0 x1 x2 x3 x4 x5 x6 x7 x9 x10 x11 x12 x13 x14 x15 x16 x19 x20 x21 x22 x23 x24 x25 x26 x27 x28 x29 x30 x31 x32 x33 x34 x35 x36 x37 x38 x39 x40 x41 x42 x43 x44 x45 x46 x47 x48 x49 x50 x51 x52 x53 x54 x55 x56 x57 x58 x59 x60 x61 x62 x103 x104 x105 x106 x107 x108 x109 x110 x111 x112 x113 x114 x115 x116 x117 x118 x119 x120 x121 x122 x123 x124 x125 x126 v17 v18 j) =
  pv (lenV x16) fun t1 =>
  pv (binV .none .lss v18 t1) fun t2 =>
  cnd t2 (
    pv (iaV none 5 x16 v18) fun t3 =>
    pv (faV 1 t3) fun t4 =>
    pv (faV 0 t4) fun t5 =>
    ld false 1 t5 fun t6 =>
    pv (binV .none .add v17 t6) fun t7 =>
    pv (iaV none 5 x16 v18) fun t8 =>
    pv (faV 1 t8) fun t9 =>
    ld true 4 t9 fun t10 =>
    callv Tryd.prog (.func (.func 29) #[] #[]) #[t10] (fun t11 =>
    pv (unV .not t11) fun t12 =>
    gdK t12 false (fun k => k v18) fun t13 =>
    gdK t12 false (fun k => pv (binV .none .gtr t13 (.int .i64 0)) k) fun t14 =>
    gdK t12 false (fun k => k t14) fun t15 =>
    gdK t15 true (fun k => k x16) fun t16 =>
    gdK t15 true (fun k => k v18) fun t17 =>
    gdK t15 true (fun k => pv (binV .none .sub t17 (.int .i64 1)) k) fun t18 =>
    gdK t15 true (fun k => pv (iaV none 5 t16 t18) k) fun t19 =>
    gdK t15 true (fun k => pv (faV 0 t19) k) fun t20 =>
    gdK t15 true (fun k => ld false 1 t20 k) fun t21 =>
    gdK t15 true (fun k => k x16) fun t22 =>
    gdK t15 true (fun k => k v18) fun t23 =>
    gdK t15 true (fun k => pv (iaV none 5 t22 t23) k) fun t24 =>
    gdK t15 true (fun k => pv (faV 0 t24) k) fun t25 =>
    gdK t15 true (fun k => ld false 1 t25 k) fun t26 =>
    gdK t15 true (fun k => callv Tryd.prog (.func (.func 30) #[] #[]) #[t21, t26] k E) fun t27 =>
    gdK t15 true (fun k => pv (binV .none .geq t27 (.int .i64 0)) k) fun t28 =>
    gdK t12 false (fun k => pv (pickV t15 t28 (.bool false)) k) fun t29 =>
    pv (pickV t12 (.bool true) t29) fun t30 =>
    cnd t30 (
      K (.bool false)) (
      pv (binV .none .add v18 (.int .i64 1)) fun t31 =>
      k1 (m7_1_1_1_1_1_1_1_1_1_1_1_0_1_0_0 x0 x1 x2 x3 x4 x5 x6 x7 x9 x10 x11 x12 x13 x14 x15 x16 x19 x20 x21 x22 x23 x24 x25 x26 x27 x28 x29 x30 x31 x32 x33 x34 x35 x36 x37 x38 x39 x40 x41 x42 x43 x44 x45 x46 x47 x48 x49 x50 x51 x52 x53 x54 x55 x56 x57 x58 x59 x60 x61 x62 x103 x104 x105 x106 x107 x108 x109 x110 x111 x112 x113 x114 x115 x116 x117 x118 x119 x120 x121 x122 x123 x124 x125 x126 t7 t31 (jf #[x0, x1, x2, x3, x4, x5, x6, x7, (j 8), x9, x10, x11, x12, x13, x14, x15, x16, t7, t31, x19, x20, x21, x22, x23, x24, x25, x26, x27, x28, x29, x30, x31, x32, x33, x34, x35, x36, x37, x38, x39, x40, x41, x42, x43, x44, x45, x46, x47, x48, x49, x50, x51, x52, x53, x54, x55, x56, x57, x58, x59, x60, x61, x62, v18, x16, t1, t2, v18, t31, v17, x16, v18, t3, t4, t5, t6, t7, x16, v18, t8, t9, t10, t11, t12, t12, t13, t14, t15, t16, t17, t18, t19, t20, t21, t22, t23, t24, t25, t26, t27, t28, t29, t30, x103, x104, x105, x106, x107, x108, x109, x110, x111, x112, x113, x114, x115, x116, x117, x118, x119, x120, x121, x122, x123, x124, x125, x126])))) E) (
    den Tryd.prog (sel (bodyOf Tryd.f7) [1, 1, 1, 1, 1, 1, 1, 1, 1, 1, 1, 1]) (bodyQ Tryd.prog Tryd.f7.results.toList K E) #[x0, x1, x2, x3, x4, x5, x6, x7, (j 8), x9, x10, x11, x12, x13, x14, x15, x16, v17, v18, x19, x20, x21, x22, x23, x24, x25, x26, x27, x28, x29, x30, x31, x32, x33, x34, x35, x36, x37, x38, x39, x40, x41, x42, x43, x44, x45, x46, x47, x48, x49, x50, x51, x52, x53, x54, x55, x56, x57, x58, x59, x60, x61, x62, v18, x16, t1, t2, (j 67), (j 68), (j 69), (j 70), (j 71), (j 72), (j 73), (j 74), (j 75), (j 76), (j 77), (j 78), (j 79), (j 80), (j 81), (j 82), (j 83), (j 84), (j 85), (j 86), (j 87), (j 88), (j 89), (j 90), (j 91), (j 92), (j 93), (j 94), (j 95), (j 96), (j 97), (j 98), (j 99), (j 100), (j 101), (j 102), x103, x104, x105, x106, x107, x108, x109, x110, x111, x112, x113, x114, x115, x116, x117, x118, x119, x120, x121, x122, x123, x124, x125, x126]) := by kernel_rfl
theorem t7_1_1_1_1_1_1_1_1_1_1_1_1 (K : Kont) (E : PanK) (x0 x1 x2 x3 x4 x5 x6 x7 x8 x9 x10 x11 x12 x13 x14 x15 x16 x17 x18 x19 x20 x21 x22 x23 x24 x25 x26 x27 x28 x29 x30 x31 x32 x33 x34 x35 x36 x37 x38 x39 x40 x41 x42 x43 x44 x45 x46 x47 x48 x49 x50 x51 x52 x53 x54 x55 x56 x57 x58 x59 x60 x61 x62 x63 x64 x65 x66 x67 x68 x69 x70 x71 x72 x73 x74 x75 x76 x77 x78 x79 x80 x81 x82 x83 x84 x85 x86 x87 x88 x89 x90 x91 x92 x93 x94 x95 x96 x97 x98 x99 x100 x101 x102 x103 x104 x105 x106 x107 x108 x109 x110 x111 x112 x113 x114 x115 x116 x117 x118 x119 x120 x121 x122 x123 x124 x125 x126 : Value)  : den Tryd.prog (sel (bodyOf Tryd.f7) [1, 1, 1, 1, 1, 1, 1, 1, 1, 1, 1, 1]) (bodyQ Tryd.prog Tryd.f7.results.toList K E) #[x0, x1, x2, x3, x4, x5, x6, x7, x8, x9, x10, x11, x12, x13, x14, x15, x16, x17, x18, x19, x20, x21, x22, x23, x24, x25, x26, x27, x28, x29, x30, x31, x32, x33, x34, x35, x36, x37, x38, x39, x40, x41, x42, x43, x44, x45, x46, x47, x48, x49, x50, x51, x52, x53, x54, x55, x56, x57, x58, x59, x60, x61, x62, x63, x64, x65, x66, x67, x68, x69, x70, x71, x72, x73, x74, x75, x76, x77, x78, x79, x80, x81, x82, x83, x84, x85, x86, x87, x88, x89, x90, x91, x92, x93, x94, x95, x96, x97, x98, x99, x100, x101, x102, x103, x104, x105, x106, x107, x108, x109, x110, x111, x112, x113, x114, x115, x116, x117, x118, x119, x120, x121, x122, x123, x124, x125, x126] =
  pv (lenV x10) fun t1 =>
  pv (binV .none .eql x17 t1) fun t2 =>
  gdK t2 true (fun k => k x16) fun t3 =>
  gdK t2 true (fun k => k x12) fun t4 =>
  gdK t2 true (fun k => callv Tryd.prog (.func (.func 20) #[] #[]) #[t4] k E) fun t5 =>
  gdK t2 true (fun k => callv Tryd.prog (.func (.func 24) #[] #[]) #[t3, t5] k E) fun t6 =>
  pv (pickV t2 t6 (.bool false)) fun t7 =>
  gdK t7 true (fun k => k x16) fun t8 =>
  gdK t7 true (fun k => k x14) fun t9 =>
  gdK t7 true (fun k => k x15) fun t10 =>
  gdK t7 true (fun k => callv Tryd.prog (.func (.func 27) #[] #[]) #[t9, t10] k E) fun t11 =>
  gdK t7 true (fun k => callv Tryd.prog (.func (.func 24) #[] #[]) #[t8, t11] k E) fun t12 =>
  pv (pickV t7 t12 (.bool false)) fun t13 =>
  gdK t13 true (fun k => k x16) fun t14 =>
  gdK t13 true (fun k => k x15) fun t15 =>
  gdK t13 true (fun k => k x14) fun t16 =>
  gdK t13 true (fun k => callv Tryd.prog (.func (.func 27) #[] #[]) #[t15, t16] k E) fun t17 =>
  gdK t13 true (fun k => callv Tryd.prog (.func (.func 24) #[] #[]) #[t14, t17] k E) fun t18 =>
  pv (pickV t13 t18 (.bool false)) fun t19 =>
  K t19 := by kernel_rfl
theorem l7_1_1_1_1_1_1_0_1_0_0 {K : Kont} {E : PanK} {σ : Type} {x0 x1 x2 x3 x4 x5 x6 x7 x8 x9 x10 x11 x14 x15 x16 x17 x18 x19 x20 x21 x22 x23 x24 x25 x26 x27 x28 x29 x30 x31 x32 x33 x34 x35 x36 x37 x38 x39 x40 x41 x53 x54 x55 x56 x57 x58 x59 x60 x61 x62 x63 x64 x65 x66 x67 x68 x69 x70 x71 x72 x73 x74 x75 x76 x77 x78 x79 x80 x81 x82 x83 x84 x85 x86 x87 x88 x89 x90 x91 x92 x93 x94 x95 x96 x97 x98 x99 x100 x101 x102 x103 x104 x105 x106 x107 x108 x109 x110 x111 x112 x113 x114 x115 x116 x117 x118 x119 x120 x121 x122 x123 x124 x125 x126 v12 v13 y42 y43 y44 y45 y46 y47 y48 y49 y50 y51 y52 : Value} {h : Hp} (f12 f13 : σ → Value) (I : σ → Hp → Prop) (μ : σ → Nat) (s0 : σ) (e12 : v12 = f12 s0) (e13 : v13 = f13 s0) (h0 : h.wf → ∃ h', h.wk h' ∧ I s0 h')
  (round : ∀ (k1 : Env → Hp → Prop) (s : σ) (j : Nat → Value) (h : Hp), I s h → h.wf → (∀ s' j' h', μ s' < μ s → (h'.wf → ∃ h'', h'.wk h'' ∧ I s' h'') → k1 (m7_1_1_1_1_1_1_0_1_0_0 x0 x1 x2 x3 x4 x5 x6 x7 x8 x9 x10 x11 x14 x15 x16 x17 x18 x19 x20 x21 x22 x23 x24 x25 x26 x27 x28 x29 x30 x31 x32 x33 x34 x35 x36 x37 x38 x39 x40 x41 x53 x54 x55 x56 x57 x58 x59 x60 x61 x62 x63 x64 x65 x66 x67 x68 x69 x70 x71 x72 x73 x74 x75 x76 x77 x78 x79 x80 x81 x82 x83 x84 x85 x86 x87 x88 x89 x90 x91 x92 x93 x94 x95 x96 x97 x98 x99 x100 x101 x102 x103 x104 x105 x106 x107 x108 x109 x110 x111 x112 x113 x114 x115 x116 x117 x118 x119 x120 x121 x122 x123 x124 x125 x126 (f12 s') (f13 s') j') h') → (
  pv (binV .none .geq (f13 s) (.int .i64 0)) fun t1 =>
  cnd t1 (
    pv (iaV none 2 x10 (f13 s)) fun t2 =>
    ld true 2 t2 fun t3 =>
    nws 39 1 (bsC #[(.slice none 0 0), (.int .i64 0)] 2 1 #[(0, t3)]) fun t4 =>
    appX 39 2 32 (f12 s) t4 fun t5 =>
    pv (binV .none .sub (f13 s) (.int .i64 1)) fun t6 =>
    k1 (m7_1_1_1_1_1_1_0_1_0_0 x0 x1 x2 x3 x4 x5 x6 x7 x8 x9 x10 x11 x14 x15 x16 x17 x18 x19 x20 x21 x22 x23 x24 x25 x26 x27 x28 x29 x30 x31 x32 x33 x34 x35 x36 x37 x38 x39 x40 x41 x53 x54 x55 x56 x57 x58 x59 x60 x61 x62 x63 x64 x65 x66 x67 x68 x69 x70 x71 x72 x73 x74 x75 x76 x77 x78 x79 x80 x81 x82 x83 x84 x85 x86 x87 x88 x89 x90 x91 x92 x93 x94 x95 x96 x97 x98 x99 x100 x101 x102 x103 x104 x105 x106 x107 x108 x109 x110 x111 x112 x113 x114 x115 x116 x117 x118 x119 x120 x121 x122 x123 x124 x125 x126 t5 t6 (jf #[x0, x1, x2, x3, x4, x5, x6, x7, x8, x9, x10, x11, t5, t6, x14, x15, x16, x17, x18, x19, x20, x21, x22, x23, x24, x25, x26, x27, x28, x29, x30, x31, x32, x33, x34, x35, x36, x37, x38, x39, x40, x41, (f13 s), t1, (f13 s), t6, (f12 s), x10, (f13 s), t2, t3, t4, t5, x53, x54, x55, x56, x57, x58, x59, x60, x61, x62, x63, x64, x65, x66, x67, x68, x69, x70, x71, x72, x73, x74, x75, x76, x77, x78, x79, x80, x81, x82, x83, x84, x85, x86, x87, x88, x89, x90, x91, x92, x93, x94, x95, x96, x97, x98, x99, x100, x101, x102, x103, x104, x105, x106, x107, x108, x109, x110, x111, x112, x113, x114, x115, x116, x117, x118, x119, x120, x121, x122, x123, x124, x125, x126]))) (
    den Tryd.prog (sel (bodyOf Tryd.f7) [1, 1, 1, 1, 1, 1, 1]) (bodyQ Tryd.prog Tryd.f7.results.toList K E) #[x0, x1, x2, x3, x4, x5, x6, x7, x8, x9, x10, x11, (f12 s), (f13 s), x14, x15, x16, x17, x18, x19, x20, x21, x22, x23, x24, x25, x26, x27, x28, x29, x30, x31, x32, x33, x34, x35, x36, x37, x38, x39, x40, x41, (f13 s), t1, (j 44), (j 45), (j 46), (j 47), (j 48), (j 49), (j 50), (j 51), (j 52), x53, x54, x55, x56, x57, x58, x59, x60, x61, x62, x63, x64, x65, x66, x67, x68, x69, x70, x71, x72, x73, x74, x75, x76, x77, x78, x79, x80, x81, x82, x83, x84, x85, x86, x87, x88, x89, x90, x91, x92, x93, x94, x95, x96, x97, x98, x99, x100, x101, x102, x103, x104, x105, x106, x107, x108, x109, x110, x111, x112, x113, x114, x115, x116, x117, x118, x119, x120, x121, x122, x123, x124, x125, x126])) h) :
  lp (fun k1 => den Tryd.prog (sel (bodyOf Tryd.f7) [1, 1, 1, 1, 1, 1, 0, 1, 0, 0]) (thenD k1 (blk 0 (thenD (den Tryd.prog (sel (bodyOf Tryd.f7) [1, 1, 1, 1, 1, 1, 1]) (bodyQ Tryd.prog Tryd.f7.results.toList K E)) (bodyQ Tryd.prog Tryd.f7.results.toList K E))))) #[x0, x1, x2, x3, x4, x5, x6, x7, x8, x9, x10, x11, v12, v13, x14, x15, x16, x17, x18, x19, x20, x21, x22, x23, x24, x25, x26, x27, x28, x29, x30, x31, x32, x33, x34, x35, x36, x37, x38, x39, x40, x41, y42, y43, y44, y45, y46, y47, y48, y49, y50, y51, y52, x53, x54, x55, x56, x57, x58, x59, x60, x61, x62, x63, x64, x65, x66, x67, x68, x69, x70, x71, x72, x73, x74, x75, x76, x77, x78, x79, x80, x81, x82, x83, x84, x85, x86, x87, x88, x89, x90, x91, x92, x93, x94, x95, x96, x97, x98, x99, x100, x101, x102, x103, x104, x105, x106, x107, x108, x109, x110, x111, x112, x113, x114, x115, x116, x117, x118, x119, x120, x121, x122, x123, x124, x125, x126] h := by
  subst e12
  subst e13
  have e : (#[x0, x1, x2, x3, x4, x5, x6, x7, x8, x9, x10, x11, (f12 s0), (f13 s0), x14, x15, x16, x17, x18, x19, x20, x21, x22, x23, x24, x25, x26, x27, x28, x29, x30, x31, x32, x33, x34, x35, x36, x37, x38, x39, x40, x41, y42, y43, y44, y45, y46, y47, y48, y49, y50, y51, y52, x53, x54, x55, x56, x57, x58, x59, x60, x61, x62, x63, x64, x65, x66, x67, x68, x69, x70, x71, x72, x73, x74, x75, x76, x77, x78, x79, x80, x81, x82, x83, x84, x85, x86, x87, x88, x89, x90, x91, x92, x93, x94, x95, x96, x97, x98, x99, x100, x101, x102, x103, x104, x105, x106, x107, x108, x109, x110, x111, x112, x113, x114, x115, x116, x117, x118, x119, x120, x121, x122, x123, x124, x125, x126] : Env) = m7_1_1_1_1_1_1_0_1_0_0 x0 x1 x2 x3 x4 x5 x6 x7 x8 x9 x10 x11 x14 x15 x16 x17 x18 x19 x20 x21 x22 x23 x24 x25 x26 x27 x28 x29 x30 x31 x32 x33 x34 x35 x36 x37 x38 x39 x40 x41 x53 x54 x55 x56 x57 x58 x59 x60 x61 x62 x63 x64 x65 x66 x67 x68 x69 x70 x71 x72 x73 x74 x75 x76 x77 x78 x79 x80 x81 x82 x83 x84 x85 x86 x87 x88 x89 x90 x91 x92 x93 x94 x95 x96 x97 x98 x99 x100 x101 x102 x103 x104 x105 x106 x107 x108 x109 x110 x111 x112 x113 x114 x115 x116 x117 x118 x119 x120 x121 x122 x123 x124 x125 x126 (f12 s0) (f13 s0) (jf #[x0, x1, x2, x3, x4, x5, x6, x7, x8, x9, x10, x11, (f12 s0), (f13 s0), x14, x15, x16, x17, x18, x19, x20, x21, x22, x23, x24, x25, x26, x27, x28, x29, x30, x31, x32, x33, x34, x35, x36, x37, x38, x39, x40, x41, y42, y43, y44, y45, y46, y47, y48, y49, y50, y51, y52, x53, x54, x55, x56, x57, x58, x59, x60, x61, x62, x63, x64, x65, x66, x67, x68, x69, x70, x71, x72, x73, x74, x75, x76, x77, x78, x79, x80, x81, x82, x83, x84, x85, x86, x87, x88, x89, x90, x91, x92, x93, x94, x95, x96, x97, x98, x99, x100, x101, x102, x103, x104, x105, x106, x107, x108, x109, x110, x111, x112, x113, x114, x115, x116, x117, x118, x119, x120, x121, x122, x123, x124, x125, x126]) := by kernel_rfl
  rw [e]
  exact loop_r (fun s j => m7_1_1_1_1_1_1_0_1_0_0 x0 x1 x2 x3 x4 x5 x6 x7 x8 x9 x10 x11 x14 x15 x16 x17 x18 x19 x20 x21 x22 x23 x24 x25 x26 x27 x28 x29 x30 x31 x32 x33 x34 x35 x36 x37 x38 x39 x40 x41 x53 x54 x55 x56 x57 x58 x59 x60 x61 x62 x63 x64 x65 x66 x67 x68 x69 x70 x71 x72 x73 x74 x75 x76 x77 x78 x79 x80 x81 x82 x83 x84 x85 x86 x87 x88 x89 x90 x91 x92 x93 x94 x95 x96 x97 x98 x99 x100 x101 x102 x103 x104 x105 x106 x107 x108 x109 x110 x111 x112 x113 x114 x115 x116 x117 x118 x119 x120 x121 x122 x123 x124 x125 x126 (f12 s) (f13 s) j) I μ (fun k s j h hI hw next => by rw [t7_1_1_1_1_1_1_0_1_0_0]; exact round k s j h hI hw next) s0 (jf #[x0, x1, x2, x3, x4, x5, x6, x7, x8, x9, x10, x11, (f12 s0), (f13 s0), x14, x15, x16, x17, x18, x19, x20, x21, x22, x23, x24, x25, x26, x27, x28, x29, x30, x31, x32, x33, x34, x35, x36, x37, x38, x39, x40, x41, y42, y43, y44, y45, y46, y47, y48, y49, y50, y51, y52, x53, x54, x55, x56, x57, x58, x59, x60, x61, x62, x63, x64, x65, x66, x67, x68, x69, x70, x71, x72, x73, x74, x75, x76, x77, x78, x79, x80, x81, x82, x83, x84, x85, x86, x87, x88, x89, x90, x91, x92, x93, x94, x95, x96, x97, x98, x99, x100, x101, x102, x103, x104, x105, x106, x107, x108, x109, x110, x111, x112, x113, x114, x115, x116, x117, x118, x119, x120, x121, x122, x123, x124, x125, x126]) h0
theorem l7_1_1_1_1_1_1_1_1_1_1_1_0_1_0_0 {K : Kont} {E : PanK} {σ : Type} {x0 x1 x2 x3 x4 x5 x6 x7 x9 x10 x11 x12 x13 x14 x15 x16 x19 x20 x21 x22 x23 x24 x25 x26 x27 x28 x29 x30 x31 x32 x33 x34 x35 x36 x37 x38 x39 x40 x41 x42 x43 x44 x45 x46 x47 x48 x49 x50 x51 x52 x53 x54 x55 x56 x57 x58 x59 x60 x61 x62 x103 x104 x105 x106 x107 x108 x109 x110 x111 x112 x113 x114 x115 x116 x117 x118 x119 x120 x121 x122 x123 x124 x125 x126 v17 v18 y8 y63 y64 y65 y66 y67 y68 y69 y70 y71 y72 y73 y74 y75 y76 y77 y78 y79 y80 y81 y82 y83 y84 y85 y86 y87 y88 y89 y90 y91 y92 y93 y94 y95 y96 y97 y98 y99 y100 y101 y102 : Value} {h : Hp} (f17 f18 : σ → Value) (I : σ → Hp → Prop) (μ : σ → Nat) (s0 : σ) (e17 : v17 = f17 s0) (e18 : v18 = f18 s0) (h0 : h.wf → ∃ h', h.wk h' ∧ I s0 h')
  (round : ∀ (k1 : Env → Hp → Prop) (s : σ) (j : Nat → Value) (h : Hp), I s h → h.wf → (∀ s' j' h', μ s' < μ s → (h'.wf → ∃ h'', h'.wk h'' ∧ I s' h'') → k1 (m7_1_1_1_1_1_1_1_1_1_1_1_0_1_0_0 x0 x1 x2 x3 x4 x5 x6 x7 x9 x10 x11 x12 x13 x14 x15 x16 x19 x20 x21 x22 x23 x24 x25 x26 x27 x28 x29 x30 x31 x32 x33 x34 x35 x36 x37 x38 x39 x40 x41 x42 x43 x44 x45 x46 x47 x48 x49 x50 x51 x52 x53 x54 x55 x56 x57 x58 x59 x60 x61 x62 x103 x104 x105 x106 x107 x108 x109 x110 x111 x112 x113 x114 x115 x116 x117 x118 x119 x120 x121 x122 x123 x124 x125 x126 (f17 s') (f18 s') j') h') → (
  pv (lenV x16) fun t1 =>
  pv (binV .none .lss (f18 s) t1) fun t2 =>
  cnd t2 (
    pv (iaV none 5 x16 (f18 s)) fun t3 =>
    pv (faV 1 t3) fun t4 =>
    pv (faV 0 t4) fun t5 =>
    ld false 1 t5 fun t6 =>
    pv (binV .none .add (f17 s) t6) fun t7 =>
    pv (iaV none 5 x16 (f18 s)) fun t8 =>
    pv (faV 1 t8) fun t9 =>
    ld true 4 t9 fun t10 =>
    callv Tryd.prog (.func (.func 29) #[] #[]) #[t10] (fun t11 =>
    pv (unV .not t11) fun t12 =>
    gdK t12 false (fun k => k (f18 s)) fun t13 =>
    gdK t12 false (fun k => pv (binV .none .gtr t13 (.int .i64 0)) k) fun t14 =>
    gdK t12 false (fun k => k t14) fun t15 =>
    gdK t15 true (fun k => k x16) fun t16 =>
    gdK t15 true (fun k => k (f18 s)) fun t17 =>
    gdK t15 true (fun k => pv (binV .none .sub t17 (.int .i64 1)) k) fun t18 =>
    gdK t15 true (fun k => pv (iaV none 5 t16 t18) k) fun t19 =>
    gdK t15 true (fun k => pv (faV 0 t19) k) fun t20 =>
    gdK t15 true (fun k => ld false 1 t20 k) fun t21 =>
    gdK t15 true (fun k => k x16) fun t22 =>
    gdK t15 true (fun k => k (f18 s)) fun t23 =>
    gdK t15 true (fun k => pv (iaV none 5 t22 t23) k) fun t24 =>
    gdK t15 true (fun k => pv (faV 0 t24) k) fun t25 =>
    gdK t15 true (fun k => ld false 1 t25 k) fun t26 =>
    gdK t15 true (fun k => callv Tryd.prog (.func (.func 30) #[] #[]) #[t21, t26] k E) fun t27 =>
    gdK t15 true (fun k => pv (binV .none .geq t27 (.int .i64 0)) k) fun t28 =>
    gdK t12 false (fun k => pv (pickV t15 t28 (.bool false)) k) fun t29 =>
    pv (pickV t12 (.bool true) t29) fun t30 =>
    cnd t30 (
      K (.bool false)) (
      pv (binV .none .add (f18 s) (.int .i64 1)) fun t31 =>
      k1 (m7_1_1_1_1_1_1_1_1_1_1_1_0_1_0_0 x0 x1 x2 x3 x4 x5 x6 x7 x9 x10 x11 x12 x13 x14 x15 x16 x19 x20 x21 x22 x23 x24 x25 x26 x27 x28 x29 x30 x31 x32 x33 x34 x35 x36 x37 x38 x39 x40 x41 x42 x43 x44 x45 x46 x47 x48 x49 x50 x51 x52 x53 x54 x55 x56 x57 x58 x59 x60 x61 x62 x103 x104 x105 x106 x107 x108 x109 x110 x111 x112 x113 x114 x115 x116 x117 x118 x119 x120 x121 x122 x123 x124 x125 x126 t7 t31 (jf #[x0, x1, x2, x3, x4, x5, x6, x7, (j 8), x9, x10, x11, x12, x13, x14, x15, x16, t7, t31, x19, x20, x21, x22, x23, x24, x25, x26, x27, x28, x29, x30, x31, x32, x33, x34, x35, x36, x37, x38, x39, x40, x41, x42, x43, x44, x45, x46, x47, x48, x49, x50, x51, x52, x53, x54, x55, x56, x57, x58, x59, x60, x61, x62, (f18 s), x16, t1, t2, (f18 s), t31, (f17 s), x16, (f18 s), t3, t4, t5, t6, t7, x16, (f18 s), t8, t9, t10, t11, t12, t12, t13, t14, t15, t16, t17, t18, t19, t20, t21, t22, t23, t24, t25, t26, t27, t28, t29, t30, x103, x104, x105, x106, x107, x108, x109, x110, x111, x112, x113, x114, x115, x116, x117, x118, x119, x120, x121, x122, x123, x124, x125, x126])))) E) (
    den Tryd.prog (sel (bodyOf Tryd.f7) [1, 1, 1, 1, 1, 1, 1, 1, 1, 1, 1, 1]) (bodyQ Tryd.prog Tryd.f7.results.toList K E) #[x0, x1, x2, x3, x4, x5, x6, x7, (j 8), x9, x10, x11, x12, x13, x14, x15, x16, (f17 s), (f18 s), x19, x20, x21, x22, x23, x24, x25, x26, x27, x28, x29, x30, x31, x32, x33, x34, x35, x36, x37, x38, x39, x40, x41, x42, x43, x44, x45, x46, x47, x48, x49, x50, x51, x52, x53, x54, x55, x56, x57, x58, x59, x60, x61, x62, (f18 s), x16, t1, t2, (j 67), (j 68), (j 69), (j 70), (j 71), (j 72), (j 73), (j 74), (j 75), (j 76), (j 77), (j 78), (j 79), (j 80), (j 81), (j 82), (j 83), (j 84), (j 85), (j 86), (j 87), (j 88), (j 89), (j 90), (j 91), (j 92), (j 93), (j 94), (j 95), (j 96), (j 97), (j 98), (j 99), (j 100), (j 101), (j 102), x103, x104, x105, x106, x107, x108, x109, x110, x111, x112, x113, x114, x115, x116, x117, x118, x119, x120, x121, x122, x123, x124, x125, x126])) h) :
  lp (fun k1 => den Tryd.prog (sel (bodyOf Tryd.f7) [1, 1, 1, 1, 1, 1, 1, 1, 1, 1, 1, 0, 1, 0, 0]) (thenD k1 (blk 2 (thenD (den Tryd.prog (sel (bodyOf Tryd.f7) [1, 1, 1, 1, 1, 1, 1, 1, 1, 1, 1, 1]) (bodyQ Tryd.prog Tryd.f7.results.toList K E)) (bodyQ Tryd.prog Tryd.f7.results.toList K E))))) #[x0, x1, x2, x3, x4, x5, x6, x7, y8, x9, x10, x11, x12, x13, x14, x15, x16, v17, v18, x19, x20, x21, x22, x23, x24, x25, x26, x27, x28, x29, x30, x31, x32, x33, x34, x35, x36, x37, x38, x39, x40, x41, x42, x43, x44, x45, x46, x47, x48, x49, x50, x51, x52, x53, x54, x55, x56, x57, x58, x59, x60, x61, x62, y63, y64, y65, y66, y67, y68, y69, y70, y71, y72, y73, y74, y75, y76, y77, y78, y79, y80, y81, y82, y83, y84, y85, y86, y87, y88, y89, y90, y91, y92, y93, y94, y95, y96, y97, y98, y99, y100, y101, y102, x103, x104, x105, x106, x107, x108, x109, x110, x111, x112, x113, x114, x115, x116, x117, x118, x119, x120, x121, x122, x123, x124, x125, x126] h := by
  subst e17
  subst e18
  have e : (#[x0, x1, x2, x3, x4, x5, x6, x7, y8, x9, x10, x11, x12, x13, x14, x15, x16, (f17 s0), (f18 s0), x19, x20, x21, x22, x23, x24, x25, x26, x27, x28, x29, x30, x31, x32, x33, x34, x35, x36, x37, x38, x39, x40, x41, x42, x43, x44, x45, x46, x47, x48, x49, x50, x51, x52, x53, x54, x55, x56, x57, x58, x59, x60, x61, x62, y63, y64, y65, y66, y67, y68, y69, y70, y71, y72, y73, y74, y75, y76, y77, y78, y79, y80, y81, y82, y83, y84, y85, y86, y87, y88, y89, y90, y91, y92, y93, y94, y95, y96, y97, y98, y99, y100, y101, y102, x103, x104, x105, x106, x107, x108, x109, x110, x111, x112, x113, x114, x115, x116, x117, x118, x119, x120, x121, x122, x123, x124, x125, x126] : Env) = m7_1_1_1_1_1_1_1_1_1_1_1_0_1_0_0 x0 x1 x2 x3 x4 x5 x6 x7 x9 x10 x11 x12 x13 x14 x15 x16 x19 x20 x21 x22 x23 x24 x25 x26 x27 x28 x29 x30 x31 x32 x33 x34 x35 x36 x37 x38 x39 x40 x41 x42 x43 x44 x45 x46 x47 x48 x49 x50 x51 x52 x53 x54 x55 x56 x57 x58 x59 x60 x61 x62 x103 x104 x105 x106 x107 x108 x109 x110 x111 x112 x113 x114 x115 x116 x117 x118 x119 x120 x121 x122 x123 x124 x125 x126 (f17 s0) (f18 s0) (jf #[x0, x1, x2, x3, x4, x5, x6, x7, y8, x9, x10, x11, x12, x13, x14, x15, x16, (f17 s0), (f18 s0), x19, x20, x21, x22, x23, x24, x25, x26, x27, x28, x29, x30, x31, x32, x33, x34, x35, x36, x37, x38, x39, x40, x41, x42, x43, x44, x45, x46, x47, x48, x49, x50, x51, x52, x53, x54, x55, x56, x57, x58, x59, x60, x61, x62, y63, y64, y65, y66, y67, y68, y69, y70, y71, y72, y73, y74, y75, y76, y77, y78, y79, y80, y81, y82, y83, y84, y85, y86, y87, y88, y89, y90, y91, y92, y93, y94, y95, y96, y97, y98, y99, y100, y101, y102, x103, x104, x105, x106, x107, x108, x109, x110, x111, x112, x113, x114, x115, x116, x117, x118, x119, x120, x121, x122, x123, x124, x125, x126]) := by kernel_rfl
  rw [e]
  exact loop_r (fun s j => m7_1_1_1_1_1_1_1_1_1_1_1_0_1_0_0 x0 x1 x2 x3 x4 x5 x6 x7 x9 x10 x11 x12 x13 x14 x15 x16 x19 x20 x21 x22 x23 x24 x25 x26 x27 x28 x29 x30 x31 x32 x33 x34 x35 x36 x37 x38 x39 x40 x41 x42 x43 x44 x45 x46 x47 x48 x49 x50 x51 x52 x53 x54 x55 x56 x57 x58 x59 x60 x61 x62 x103 x104 x105 x106 x107 x108 x109 x110 x111 x112 x113 x114 x115 x116 x117 x118 x119 x120 x121 x122 x123 x124 x125 x126 (f17 s) (f18 s) j) I μ (fun k s j h hI hw next => by rw [t7_1_1_1_1_1_1_1_1_1_1_1_0_1_0_0]; exact round k s j h hI hw next) s0 (jf #[x0, x1, x2, x3, x4, x5, x6, x7, y8, x9, x10, x11, x12, x13, x14, x15, x16, (f17 s0), (f18 s0), x19, x20, x21, x22, x23, x24, x25, x26, x27, x28, x29, x30, x31, x32, x33, x34, x35, x36, x37, x38, x39, x40, x41, x42, x43, x44, x45, x46, x47, x48, x49, x50, x51, x52, x53, x54, x55, x56, x57, x58, x59, x60, x61, x62, y63, y64, y65, y66, y67, y68, y69, y70, y71, y72, y73, y74, y75, y76, y77, y78, y79, y80, y81, y82, y83, y84, y85, y86, y87, y88, y89, y90, y91, y92, y93, y94, y95, y96, y97, y98, y99, y100, y101, y102, x103, x104, x105, x106, x107, x108, x109, x110, x111, x112, x113, x114, x115, x116, x117, x118, x119, x120, x121, x122, x123, x124, x125, x126]) h0

theorem t17 (K : Kont) (E : PanK) (x0 x1 : Value)  : den Tryd.prog (sel (bodyOf Tryd.f17) []) (bodyQ Tryd.prog Tryd.f17.results.toList K E) #[x0, x1, undef, undef, undef, undef, undef, undef, undef, undef, undef, undef, undef, undef, undef, undef, undef, undef, undef, undef, undef, undef, undef, undef, undef, undef, undef, undef, undef, undef, undef, undef, undef, undef, undef, undef, undef, undef, undef, undef, undef, undef, undef, undef, undef, undef, undef, undef, undef, undef] =
  lp (fun k1 => den Tryd.prog (sel (bodyOf Tryd.f17) [1, 1, 0, 1, 0, 0]) (thenD k1 (blk 0 (thenD (den Tryd.prog (sel (bodyOf Tryd.f17) [1, 1, 1]) (bodyQ Tryd.prog Tryd.f17.results.toList K E)) (bodyQ Tryd.prog Tryd.f17.results.toList K E))))) #[x0, x1, undef, undef, (.bool false), (.int .i64 0), (.int .i64 0), undef, undef, undef, undef, undef, undef, undef, undef, undef, undef, undef, undef, undef, undef, undef, undef, undef, undef, undef, undef, undef, undef, undef, undef, undef, undef, undef, undef, undef, undef, undef, undef, undef, undef, undef, undef, undef, undef, undef, undef, undef, undef, undef] := by kernel_rfl
def m17_1_1_0_1_0_0 (x0 x1 x2 x3 x4 x7 x23 x24 x25 x26 x27 x28 x29 x30 x31 x32 x33 x34 x35 x36 x37 x38 x39 x40 x41 x42 x43 x44 x45 x46 x47 x48 x49 : Value) (v5 v6 : Value) (j : Nat → Value) : Env := #[x0, x1, x2, x3, x4, v5, v6, x7, (j 8), (j 9), (j 10), (j 11), (j 12), (j 13), (j 14), (j 15), (j 16), (j 17), (j 18), (j 19), (j 20), (j 21), (j 22), x23, x24, x25, x26, x27, x28, x29, x30, x31, x32, x33, x34, x35, x36, x37, x38, x39, x40, x41, x42, x43, x44, x45, x46, x47, x48, x49]
theorem t17_1_1_0_1_0_0 (K : Kont) (E : PanK) (k1 : Env → Hp → Prop) (x0 x1 x2 x3 x4 x7 x23 x24 x25 x26 x27 x28 x29 x30 x31 x32 x33 x34 x35 x36 x37 x38 x39 x40 x41 x42 x43 x44 x45 x46 x47 x48 x49 v5 v6 : Value) (j : Nat → Value) : den Tryd.prog (sel (bodyOf Tryd.f17) [1, 1, 0, 1, 0, 0]) (thenD k1 (blk 0 (thenD (den Tryd.prog (sel (bodyOf Tryd.f17) [1, 1, 1]) (bodyQ Tryd.prog Tryd.f17.results.toList K E)) (bodyQ Tryd.prog Tryd.f17.results.toList K E)))) (m17_1_1_0_1_0_0 x0 x1 x2 x3 x4 x7 x23 x24 x25 x26 x27 x28 x29 x30 x31 x32 x33 x34 x35 x36 x37 x38 x39 x40 x41 x42 x43 x44 x45 x46 x47 x48 x49 v5 v6 j) =
  pv (lenV x0) fun t1 =>
  pv (binV .none .lss v6 t1) fun t2 =>
  cnd t2 (
    pv (iaV none 5 x0 v6) fun t3 =>
    pv (faV 0 t3) fun t4 =>
    ld false 1 t4 fun t5 =>
    pv (lenV t5) fun t6 =>
    pv (binV .none .add (.int .i64 1) t6) fun t7 =>
    pv (binV .none .add v5 t7) fun t8 =>
    pv (binV .none .add v6 (.int .i64 1)) fun t9 =>
    k1 (m17_1_1_0_1_0_0 x0 x1 x2 x3 x4 x7 x23 x24 x25 x26 x27 x28 x29 x30 x31 x32 x33 x34 x35 x36 x37 x38 x39 x40 x41 x42 x43 x44 x45 x46 x47 x48 x49 t8 t9 (jf #[x0, x1, x2, x3, x4, t8, t9, x7, v6, x0, t1, t2, v6, t9, v5, x0, v6, t3, t4, t5, t6, t7, t8, x23, x24, x25, x26, x27, x28, x29, x30, x31, x32, x33, x34, x35, x36, x37, x38, x39, x40, x41, x42, x43, x44, x45, x46, x47, x48, x49]))) (
    den Tryd.prog (sel (bodyOf Tryd.f17) [1, 1, 1]) (bodyQ Tryd.prog Tryd.f17.results.toList K E) #[x0, x1, x2, x3, x4, v5, v6, x7, v6, x0, t1, t2, (j 12), (j 13), (j 14), (j 15), (j 16), (j 17), (j 18), (j 19), (j 20), (j 21), (j 22), x23, x24, x25, x26, x27, x28, x29, x30, x31, x32, x33, x34, x35, x36, x37, x38, x39, x40, x41, x42, x43, x44, x45, x46, x47, x48, x49]) := by kernel_rfl
theorem t17_1_1_1 (K : Kont) (E : PanK) (x0 x1 x2 x3 x4 x5 x6 x7 x8 x9 x10 x11 x12 x13 x14 x15 x16 x17 x18 x19 x20 x21 x22 x23 x24 x25 x26 x27 x28 x29 x30 x31 x32 x33 x34 x35 x36 x37 x38 x39 x40 x41 x42 x43 x44 x45 x46 x47 x48 x49 : Value)  : den Tryd.prog (sel (bodyOf Tryd.f17) [1, 1, 1]) (bodyQ Tryd.prog Tryd.f17.results.toList K E) #[x0, x1, x2, x3, x4, x5, x6, x7, x8, x9, x10, x11, x12, x13, x14, x15, x16, x17, x18, x19, x20, x21, x22, x23, x24, x25, x26, x27, x28, x29, x30, x31, x32, x33, x34, x35, x36, x37, x38, x39, x40, x41, x42, x43, x44, x45, x46, x47, x48, x49] =
  lp (fun k1 => den Tryd.prog (sel (bodyOf Tryd.f17) [1, 1, 1, 0, 1, 0, 0]) (thenD k1 (blk 2 (thenD (den Tryd.prog (sel (bodyOf Tryd.f17) [1, 1, 1, 1]) (bodyQ Tryd.prog Tryd.f17.results.toList K E)) (bodyQ Tryd.prog Tryd.f17.results.toList K E))))) #[x0, x1, x2, x3, x4, x5, x6, (.int .i64 0), x8, x9, x10, x11, x12, x13, x14, x15, x16, x17, x18, x19, x20, x21, x22, x23, x24, x25, x26, x27, x28, x29, x30, x31, x32, x33, x34, x35, x36, x37, x38, x39, x40, x41, x42, x43, x44, x45, x46, x47, x48, x49] := by kernel_rfl
def m17_1_1_1_0_1_0_0 (x0 x1 x2 x3 x4 x6 x8 x9 x10 x11 x12 x13 x14 x15 x16 x17 x18 x19 x20 x21 x22 x38 x39 x40 x41 x42 x43 x44 x45 x46 x47 x48 x49 : Value) (v5 v7 : Value) (j : Nat → Value) : Env := #[x0, x1, x2, x3, x4, v5, x6, v7, x8, x9, x10, x11, x12, x13, x14, x15, x16, x17, x18, x19, x20, x21, x22, (j 23), (j 24), (j 25), (j 26), (j 27), (j 28), (j 29), (j 30), (j 31), (j 32), (j 33), (j 34), (j 35), (j 36), (j 37), x38, x39, x40, x41, x42, x43, x44, x45, x46, x47, x48, x49]
theorem t17_1_1_1_0_1_0_0 (K : Kont) (E : PanK) (k1 : Env → Hp → Prop) (x0 x1 x2 x3 x4 x6 x8 x9 x10 x11 x12 x13 x14 x15 x16 x17 x18 x19 x20 x21 x22 x38 x39 x40 x41 x42 x43 x44 x45 x46 x47 x48 x49 v5 v7 : Value) (j : Nat → Value) : den Tryd.prog (sel (bodyOf Tryd.f17) [1, 1, 1, 0, 1, 0, 0]) (thenD k1 (blk 2 (thenD (den Tryd.prog (sel (bodyOf Tryd.f17) [1, 1, 1, 1]) (bodyQ Tryd.prog Tryd.f17.results.toList K E)) (bodyQ Tryd.prog Tryd.f17.results.toList K E)))) (m17_1_1_1_0_1_0_0 x0 x1 x2 x3 x4 x6 x8 x9 x10 x11 x12 x13 x14 x15 x16 x17 x18 x19 x20 x21 x22 x38 x39 x40 x41 x42 x43 x44 x45 x46 x47 x48 x49 v5 v7 j) =
  pv (lenV x1) fun t1 =>
  pv (binV .none .lss v7 t1) fun t2 =>
  cnd t2 (
    pv (iaV none 2 x1 v7) fun t3 =>
    pv (faV 0 t3) fun t4 =>
    ld false 1 t4 fun t5 =>
    pv (lenV t5) fun t6 =>
    pv (binV .none .add (.int .i64 1) t6) fun t7 =>
    pv (binV .none .add v5 t7) fun t8 =>
    pv (binV .none .add v7 (.int .i64 1)) fun t9 =>
    k1 (m17_1_1_1_0_1_0_0 x0 x1 x2 x3 x4 x6 x8 x9 x10 x11 x12 x13 x14 x15 x16 x17 x18 x19 x20 x21 x22 x38 x39 x40 x41 x42 x43 x44 x45 x46 x47 x48 x49 t8 t9 (jf #[x0, x1, x2, x3, x4, t8, x6, t9, x8, x9, x10, x11, x12, x13, x14, x15, x16, x17, x18, x19, x20, x21, x22, v7, x1, t1, t2, v7, t9, v5, x1, v7, t3, t4, t5, t6, t7, t8, x38, x39, x40, x41, x42, x43, x44, x45, x46, x47, x48, x49]))) (
    den Tryd.prog (sel (bodyOf Tryd.f17) [1, 1, 1, 1]) (bodyQ Tryd.prog Tryd.f17.results.toList K E) #[x0, x1, x2, x3, x4, v5, x6, v7, x8, x9, x10, x11, x12, x13, x14, x15, x16, x17, x18, x19, x20, x21, x22, v7, x1, t1, t2, (j 27), (j 28), (j 29), (j 30), (j 31), (j 32), (j 33), (j 34), (j 35), (j 36), (j 37), x38, x39, x40, x41, x42, x43, x44, x45, x46, x47, x48, x49]) := by kernel_rfl
theorem t17_1_1_1_1 (K : Kont) (E : PanK) (x0 x1 x2 x3 x4 x5 x6 x7 x8 x9 x10 x11 x12 x13 x14 x15 x16 x17 x18 x19 x20 x21 x22 x23 x24 x25 x26 x27 x28 x29 x30 x31 x32 x33 x34 x35 x36 x37 x38 x39 x40 x41 x42 x43 x44 x45 x46 x47 x48 x49 : Value)  : den Tryd.prog (sel (bodyOf Tryd.f17) [1, 1, 1, 1]) (bodyQ Tryd.prog Tryd.f17.results.toList K E) #[x0, x1, x2, x3, x4, x5, x6, x7, x8, x9, x10, x11, x12, x13, x14, x15, x16, x17, x18, x19, x20, x21, x22, x23, x24, x25, x26, x27, x28, x29, x30, x31, x32, x33, x34, x35, x36, x37, x38, x39, x40, x41, x42, x43, x44, x45, x46, x47, x48, x49] =
  pv (binV .none .gtr x5 (.int .i64 2000)) fun t1 =>
  gdK t1 false (fun k => k x0) fun t2 =>
  gdK t1 false (fun k => pv (lenV t2) k) fun t3 =>
  gdK t1 false (fun k => pv (binV .none .gtr t3 (.int .i64 300)) k) fun t4 =>
  pv (pickV t1 (.bool true) t4) fun t5 =>
  gdK t5 false (fun k => k x1) fun t6 =>
  gdK t5 false (fun k => pv (lenV t6) k) fun t7 =>
  gdK t5 false (fun k => pv (binV .none .gtr t7 (.int .i64 300)) k) fun t8 =>
  pv (pickV t5 (.bool true) t8) fun t9 =>
  K t9 := by kernel_rfl
theorem l17_1_1_0_1_0_0 {K : Kont} {E : PanK} {σ : Type} {x0 x1 x2 x3 x4 x7 x23 x24 x25 x26 x27 x28 x29 x30 x31 x32 x33 x34 x35 x36 x37 x38 x39 x40 x41 x42 x43 x44 x45 x46 x47 x48 x49 v5 v6 y8 y9 y10 y11 y12 y13 y14 y15 y16 y17 y18 y19 y20 y21 y22 : Value} {h : Hp} (f5 f6 : σ → Value) (I : σ → Hp → Prop) (μ : σ → Nat) (s0 : σ) (e5 : v5 = f5 s0) (e6 : v6 = f6 s0) (h0 : h.wf → ∃ h', h.wk h' ∧ I s0 h')
  (round : ∀ (k1 : Env → Hp → Prop) (s : σ) (j : Nat → Value) (h : Hp), I s h → h.wf → (∀ s' j' h', μ s' < μ s → (h'.wf → ∃ h'', h'.wk h'' ∧ I s' h'') → k1 (m17_1_1_0_1_0_0 x0 x1 x2 x3 x4 x7 x23 x24 x25 x26 x27 x28 x29 x30 x31 x32 x33 x34 x35 x36 x37 x38 x39 x40 x41 x42 x43 x44 x45 x46 x47 x48 x49 (f5 s') (f6 s') j') h') → (
  pv (lenV x0) fun t1 =>
  pv (binV .none .lss (f6 s) t1) fun t2 =>
  cnd t2 (
    pv (iaV none 5 x0 (f6 s)) fun t3 =>
    pv (faV 0 t3) fun t4 =>
    ld false 1 t4 fun t5 =>
    pv (lenV t5) fun t6 =>
    pv (binV .none .add (.int .i64 1) t6) fun t7 =>
    pv (binV .none .add (f5 s) t7) fun t8 =>
    pv (binV .none .add (f6 s) (.int .i64 1)) fun t9 =>
    k1 (m17_1_1_0_1_0_0 x0 x1 x2 x3 x4 x7 x23 x24 x25 x26 x27 x28 x29 x30 x31 x32 x33 x34 x35 x36 x37 x38 x39 x40 x41 x42 x43 x44 x45 x46 x47 x48 x49 t8 t9 (jf #[x0, x1, x2, x3, x4, t8, t9, x7, (f6 s), x0, t1, t2, (f6 s), t9, (f5 s), x0, (f6 s), t3, t4, t5, t6, t7, t8, x23, x24, x25, x26, x27, x28, x29, x30, x31, x32, x33, x34, x35, x36, x37, x38, x39, x40, x41, x42, x43, x44, x45, x46, x47, x48, x49]))) (
    den Tryd.prog (sel (bodyOf Tryd.f17) [1, 1, 1]) (bodyQ Tryd.prog Tryd.f17.results.toList K E) #[x0, x1, x2, x3, x4, (f5 s), (f6 s), x7, (f6 s), x0, t1, t2, (j 12), (j 13), (j 14), (j 15), (j 16), (j 17), (j 18), (j 19), (j 20), (j 21), (j 22), x23, x24, x25, x26, x27, x28, x29, x30, x31, x32, x33, x34, x35, x36, x37, x38, x39, x40, x41, x42, x43, x44, x45, x46, x47, x48, x49])) h) :
  lp (fun k1 => den Tryd.prog (sel (bodyOf Tryd.f17) [1, 1, 0, 1, 0, 0]) (thenD k1 (blk 0 (thenD (den Tryd.prog (sel (bodyOf Tryd.f17) [1, 1, 1]) (bodyQ Tryd.prog Tryd.f17.results.toList K E)) (bodyQ Tryd.prog Tryd.f17.results.toList K E))))) #[x0, x1, x2, x3, x4, v5, v6, x7, y8, y9, y10, y11, y12, y13, y14, y15, y16, y17, y18, y19, y20, y21, y22, x23, x24, x25, x26, x27, x28, x29, x30, x31, x32, x33, x34, x35, x36, x37, x38, x39, x40, x41, x42, x43, x44, x45, x46, x47, x48, x49] h := by
  subst e5
  subst e6
  have e : (#[x0, x1, x2, x3, x4, (f5 s0), (f6 s0), x7, y8, y9, y10, y11, y12, y13, y14, y15, y16, y17, y18, y19, y20, y21, y22, x23, x24, x25, x26, x27, x28, x29, x30, x31, x32, x33, x34, x35, x36, x37, x38, x39, x40, x41, x42, x43, x44, x45, x46, x47, x48, x49] : Env) = m17_1_1_0_1_0_0 x0 x1 x2 x3 x4 x7 x23 x24 x25 x26 x27 x28 x29 x30 x31 x32 x33 x34 x35 x36 x37 x38 x39 x40 x41 x42 x43 x44 x45 x46 x47 x48 x49 (f5 s0) (f6 s0) (jf #[x0, x1, x2, x3, x4, (f5 s0), (f6 s0), x7, y8, y9, y10, y11, y12, y13, y14, y15, y16, y17, y18, y19, y20, y21, y22, x23, x24, x25, x26, x27, x28, x29, x30, x31, x32, x33, x34, x35, x36, x37, x38, x39, x40, x41, x42, x43, x44, x45, x46, x47, x48, x49]) := by kernel_rfl
  rw [e]
  exact loop_r (fun s j => m17_1_1_0_1_0_0 x0 x1 x2 x3 x4 x7 x23 x24 x25 x26 x27 x28 x29 x30 x31 x32 x33 x34 x35 x36 x37 x38 x39 x40 x41 x42 x43 x44 x45 x46 x47 x48 x49 (f5 s) (f6 s) j) I μ (fun k s j h hI hw next => by rw [t17_1_1_0_1_0_0]; exact round k s j h hI hw next) s0 (jf #[x0, x1, x2, x3, x4, (f5 s0), (f6 s0), x7, y8, y9, y10, y11, y12, y13, y14, y15, y16, y17, y18, y19, y20, y21, y22, x23, x24, x25, x26, x27, x28, x29, x30, x31, x32, x33, x34, x35, x36, x37, x38, x39, x40, x41, x42, x43, x44, x45, x46, x47, x48, x49]) h0
theorem l17_1_1_1_0_1_0_0 {K : Kont} {E : PanK} {σ : Type} {x0 x1 x2 x3 x4 x6 x8 x9 x10 x11 x12 x13 x14 x15 x16 x17 x18 x19 x20 x21 x22 x38 x39 x40 x41 x42 x43 x44 x45 x46 x47 x48 x49 v5 v7 y23 y24 y25 y26 y27 y28 y29 y30 y31 y32 y33 y34 y35 y36 y37 : Value} {h : Hp} (f5 f7 : σ → Value) (I : σ → Hp → Prop) (μ : σ → Nat) (s0 : σ) (e5 : v5 = f5 s0) (e7 : v7 = f7 s0) (h0 : h.wf → ∃ h', h.wk h' ∧ I s0 h')
  (round : ∀ (k1 : Env → Hp → Prop) (s : σ) (j : Nat → Value) (h : Hp), I s h → h.wf → (∀ s' j' h', μ s' < μ s → (h'.wf → ∃ h'', h'.wk h'' ∧ I s' h'') → k1 (m17_1_1_1_0_1_0_0 x0 x1 x2 x3 x4 x6 x8 x9 x10 x11 x12 x13 x14 x15 x16 x17 x18 x19 x20 x21 x22 x38 x39 x40 x41 x42 x43 x44 x45 x46 x47 x48 x49 (f5 s') (f7 s') j') h') → (
  pv (lenV x1) fun t1 =>
  pv (binV .none .lss (f7 s) t1) fun t2 =>
  cnd t2 (
    pv (iaV none 2 x1 (f7 s)) fun t3 =>
    pv (faV 0 t3) fun t4 =>
    ld false 1 t4 fun t5 =>
    pv (lenV t5) fun t6 =>
    pv (binV .none .add (.int .i64 1) t6) fun t7 =>
    pv (binV .none .add (f5 s) t7) fun t8 =>
    pv (binV .none .add (f7 s) (.int .i64 1)) fun t9 =>
    k1 (m17_1_1_1_0_1_0_0 x0 x1 x2 x3 x4 x6 x8 x9 x10 x11 x12 x13 x14 x15 x16 x17 x18 x19 x20 x21 x22 x38 x39 x40 x41 x42 x43 x44 x45 x46 x47 x48 x49 t8 t9 (jf #[x0, x1, x2, x3, x4, t8, x6, t9, x8, x9, x10, x11, x12, x13, x14, x15, x16, x17, x18, x19, x20, x21, x22, (f7 s), x1, t1, t2, (f7 s), t9, (f5 s), x1, (f7 s), t3, t4, t5, t6, t7, t8, x38, x39, x40, x41, x42, x43, x44, x45, x46, x47, x48, x49]))) (
    den Tryd.prog (sel (bodyOf Tryd.f17) [1, 1, 1, 1]) (bodyQ Tryd.prog Tryd.f17.results.toList K E) #[x0, x1, x2, x3, x4, (f5 s), x6, (f7 s), x8, x9, x10, x11, x12, x13, x14, x15, x16, x17, x18, x19, x20, x21, x22, (f7 s), x1, t1, t2, (j 27), (j 28), (j 29), (j 30), (j 31), (j 32), (j 33), (j 34), (j 35), (j 36), (j 37), x38, x39, x40, x41, x42, x43, x44, x45, x46, x47, x48, x49])) h) :
  lp (fun k1 => den Tryd.prog (sel (bodyOf Tryd.f17) [1, 1, 1, 0, 1, 0, 0]) (thenD k1 (blk 2 (thenD (den Tryd.prog (sel (bodyOf Tryd.f17) [1, 1, 1, 1]) (bodyQ Tryd.prog Tryd.f17.results.toList K E)) (bodyQ Tryd.prog Tryd.f17.results.toList K E))))) #[x0, x1, x2, x3, x4, v5, x6, v7, x8, x9, x10, x11, x12, x13, x14, x15, x16, x17, x18, x19, x20, x21, x22, y23, y24, y25, y26, y27, y28, y29, y30, y31, y32, y33, y34, y35, y36, y37, x38, x39, x40, x41, x42, x43, x44, x45, x46, x47, x48, x49] h := by
  subst e5
  subst e7
  have e : (#[x0, x1, x2, x3, x4, (f5 s0), x6, (f7 s0), x8, x9, x10, x11, x12, x13, x14, x15, x16, x17, x18, x19, x20, x21, x22, y23, y24, y25, y26, y27, y28, y29, y30, y31, y32, y33, y34, y35, y36, y37, x38, x39, x40, x41, x42, x43, x44, x45, x46, x47, x48, x49] : Env) = m17_1_1_1_0_1_0_0 x0 x1 x2 x3 x4 x6 x8 x9 x10 x11 x12 x13 x14 x15 x16 x17 x18 x19 x20 x21 x22 x38 x39 x40 x41 x42 x43 x44 x45 x46 x47 x48 x49 (f5 s0) (f7 s0) (jf #[x0, x1, x2, x3, x4, (f5 s0), x6, (f7 s0), x8, x9, x10, x11, x12, x13, x14, x15, x16, x17, x18, x19, x20, x21, x22, y23, y24, y25, y26, y27, y28, y29, y30, y31, y32, y33, y34, y35, y36, y37, x38, x39, x40, x41, x42, x43, x44, x45, x46, x47, x48, x49]) := by kernel_rfl
  rw [e]
  exact loop_r (fun s j => m17_1_1_1_0_1_0_0 x0 x1 x2 x3 x4 x6 x8 x9 x10 x11 x12 x13 x14 x15 x16 x17 x18 x19 x20 x21 x22 x38 x39 x40 x41 x42 x43 x44 x45 x46 x47 x48 x49 (f5 s) (f7 s) j) I μ (fun k s j h hI hw next => by rw [t17_1_1_1_0_1_0_0]; exact round k s j h hI hw next) s0 (jf #[x0, x1, x2, x3, x4, (f5 s0), x6, (f7 s0), x8, x9, x10, x11, x12, x13, x14, x15, x16, x17, x18, x19, x20, x21, x22, y23, y24, y25, y26, y27, y28, y29, y30, y31, y32, y33, y34, y35, y36, y37, x38, x39, x40, x41, x42, x43, x44, x45, x46, x47, x48, x49]) h0

theorem t18 (K : Kont) (E : PanK)  : den Tryd.prog (sel (bodyOf Tryd.f18) []) (bodyQ Tryd.prog Tryd.f18.results.toList K E) #[undef, undef, undef, undef, undef, undef, undef, undef, undef, undef, undef, undef, undef, undef, undef, undef, undef, undef, undef, undef, undef, undef, undef, undef, undef, undef, undef, undef, undef, undef, undef, undef, undef, undef, undef, undef, undef, undef, undef, undef, undef, undef, undef, undef, undef, undef] =
  nws 3 2 (bsC #[(.int .i64 0)] 1 2 #[(0, (.int .i64 1)), (1, (.int .i64 0))]) fun t1 =>
  pv (bdC #[(.slice none 0 0), (.int .i64 0)] [(0, 1), (1, 1)] #[(0, t1), (1, (.int .i64 3))]) fun t2 =>
  nws 3 2 (bsC #[(.int .i64 0)] 1 2 #[(0, (.int .i64 0)), (1, (.int .i64 2))]) fun t3 =>
  pv (bdC #[(.slice none 0 0), (.int .i64 0)] [(0, 1), (1, 1)] #[(0, t3), (1, (.int .i64 4))]) fun t4 =>
  nws 3 2 (bsC #[(.int .i64 0)] 1 2 #[(0, (.int .i64 1)), (1, (.int .i64 0))]) fun t5 =>
  pv (bdC #[(.slice none 0 0), (.int .i64 0)] [(0, 1), (1, 1)] #[(0, t5), (1, (.int .i64 5))]) fun t6 =>
  nws 39 3 (bsC #[(.slice none 0 0), (.int .i64 0)] 2 3 #[(0, t2), (1, t4), (2, t6)]) fun t7 =>
  callv Tryd.prog (.func (.func 20) #[] #[]) #[t7] (fun t8 =>
  pv (lenV t8) fun t9 =>
  pv (binV .none .eql t9 (.int .i64 2)) fun t10 =>
  gdK t10 true (fun k => k t8) fun t11 =>
  gdK t10 true (fun k => pv (iaV none 5 t11 (.int .i64 0)) k) fun t12 =>
  gdK t10 true (fun k => pv (faV 1 t12) k) fun t13 =>
  gdK t10 true (fun k => pv (faV 1 t13) k) fun t14 =>
  gdK t10 true (fun k => ld false 1 t14 k) fun t15 =>
  gdK t10 true (fun k => pv (binV .none .eql t15 (.int .i64 4)) k) fun t16 =>
  pv (pickV t10 t16 (.bool false)) fun t17 =>
  gdK t17 true (fun k => k t8) fun t18 =>
  gdK t17 true (fun k => pv (iaV none 5 t18 (.int .i64 1)) k) fun t19 =>
  gdK t17 true (fun k => pv (faV 1 t19) k) fun t20 =>
  gdK t17 true (fun k => pv (faV 0 t20) k) fun t21 =>
  gdK t17 true (fun k => ld false 1 t21 k) fun t22 =>
  gdK t17 true (fun k => pv (binV .none .eql t22 (.int .i64 2)) k) fun t23 =>
  pv (pickV t17 t23 (.bool false)) fun t24 =>
  gdK t24 true (fun k => k t8) fun t25 =>
  gdK t24 true (fun k => pv (iaV none 5 t25 (.int .i64 1)) k) fun t26 =>
  gdK t24 true (fun k => pv (faV 1 t26) k) fun t27 =>
  gdK t24 true (fun k => pv (faV 1 t27) k) fun t28 =>
  gdK t24 true (fun k => ld false 1 t28 k) fun t29 =>
  gdK t24 true (fun k => pv (binV .none .eql t29 (.int .i64 8)) k) fun t30 =>
  pv (pickV t24 t30 (.bool false)) fun t31 =>
  gdK t31 true (fun k => k t8) fun t32 =>
  gdK t31 true (fun k => callv Tryd.prog (.func (.func 22) #[] #[]) #[t32, (.int .i64 2)] k E) fun t33 =>
  pv (pickV t31 t33 (.bool false)) fun t34 =>
  gdK t34 true (fun k => k t8) fun t35 =>
  gdK t34 true (fun k => callv Tryd.prog (.func (.func 22) #[] #[]) #[t35, (.int .i64 1)] k E) fun t36 =>
  gdK t34 true (fun k => pv (unV .not t36) k) fun t37 =>
  pv (pickV t34 t37 (.bool false)) fun t38 =>
  K t38) E := by kernel_rfl

theorem t19 (K : Kont) (E : PanK) (x0 : Value)  : den Tryd.prog (sel (bodyOf Tryd.f19) []) (bodyQ Tryd.prog Tryd.f19.results.toList K E) #[x0, undef, undef, undef, undef, undef, undef, undef, undef, undef, undef, undef, undef, undef, undef, undef, undef, undef, undef, undef, undef, undef, undef, undef, undef, undef, undef, undef, undef, undef, undef, undef, undef, undef, undef, undef, undef, undef, undef, undef, undef, undef, undef, undef, undef, undef, undef, undef, undef, undef, undef, undef, undef, undef, undef, undef, undef, undef, undef, undef, undef, undef, undef, undef, undef, undef, undef, undef, undef, undef, undef, undef, undef] =
  lp (fun k1 => den Tryd.prog (sel (bodyOf Tryd.f19) [1, 1, 0, 1, 0, 0]) (thenD k1 (blk 0 (thenD (den Tryd.prog (sel (bodyOf Tryd.f19) [1, 1, 1]) (bodyQ Tryd.prog Tryd.f19.results.toList K E)) (bodyQ Tryd.prog Tryd.f19.results.toList K E))))) #[x0, undef, (.slice none 0 0), (.slice none 0 0), (.int .i64 0), undef, undef, undef, undef, undef, undef, undef, undef, undef, undef, undef, undef, undef, undef, undef, undef, undef, undef, undef, undef, undef, undef, undef, undef, undef, undef, undef, undef, undef, undef, undef, undef, undef, undef, undef, undef, undef, undef, undef, undef, undef, undef, undef, undef, undef, undef, undef, undef, undef, undef, undef, undef, undef, undef, undef, undef, undef, undef, undef, undef, undef, undef, undef, undef, undef, undef, undef, undef] := by kernel_rfl
def m19_1_1_0_1_0_0 (x0 x1 x2 x64 x65 x66 x67 x68 x69 x70 x71 x72 : Value) (v3 v4 : Value) (j : Nat → Value) : Env := #[x0, x1, x2, v3, v4, (j 5), (j 6), (j 7), (j 8), (j 9), (j 10), (j 11), (j 12), (j 13), (j 14), (j 15), (j 16), (j 17), (j 18), (j 19), (j 20), (j 21), (j 22), (j 23), (j 24), (j 25), (j 26), (j 27), (j 28), (j 29), (j 30), (j 31), (j 32), (j 33), (j 34), (j 35), (j 36), (j 37), (j 38), (j 39), (j 40), (j 41), (j 42), (j 43), (j 44), (j 45), (j 46), (j 47), (j 48), (j 49), (j 50), (j 51), (j 52), (j 53), (j 54), (j 55), (j 56), (j 57), (j 58), (j 59), (j 60), (j 61), (j 62), (j 63), x64, x65, x66, x67, x68, x69, x70, x71, x72]
theorem t19_1_1_0_1_0_0 (K : Kont) (E : PanK) (k1 : Env → Hp → Prop) (x0 x1 x2 x64 x65 x66 x67 x68 x69 x70 x71 x72 v3 v4 : Value) (j : Nat → Value) : den Tryd.prog (sel (bodyOf Tryd.f19) [1, 1, 0, 1, 0, 0]) (thenD k1 (blk 0 (thenD (den Tryd.prog (sel (bodyOf Tryd.f19) [1, 1, 1]) (bodyQ Tryd.prog Tryd.f19.results.toList K E)) (bodyQ Tryd.prog Tryd.f19.results.toList K E)))) (m19_1_1_0_1_0_0 x0 x1 x2 x64 x65 x66 x67 x68 x69 x70 x71 x72 v3 v4 j) =
  pv (lenV x0) fun t1 =>
  pv (binV .none .lss v4 t1) fun t2 =>
  gdK t2 true (fun k => k v4) fun t3 =>
  gdK t2 true (fun k => pv (binV .none .lss t3 (.int .i64 4)) k) fun t4 =>
  pv (pickV t2 t4 (.bool false)) fun t5 =>
  cnd t5 (
    pv (iaV none 2 x0 v4) fun t6 =>
    pv (faV 0 t6) fun t7 =>
    ld false 1 t7 fun t8 =>
    pv (binV .none .rem t8 (.int .u16 200)) fun t9 =>
    pv (cvV .i64 t9) fun t10 =>
    pv (binV .none .add (.int .i64 1) t10) fun t11 =>
    pv (bdC #[(.int .i64 0), (.slice none 0 0)] [(0, 1), (1, 1)] #[(0, t11)]) fun t12 =>
    nw 51 [(.int .i64 0), (.slice none 0 0)] fun t13 =>
    st 2 t13 t12 fun _ =>
    lp (fun k2 => den Tryd.prog (sel (bodyOf Tryd.f19) [1, 1, 0, 1, 0, 0, 1, 0, 0, 1, 1, 0, 1, 0, 0]) (thenD k2 (blk 2 (thenD (den Tryd.prog (sel (bodyOf Tryd.f19) [1, 1, 0, 1, 0, 0, 1, 0, 0, 1, 1, 1]) (blk 1 (thenD (den Tryd.prog (sel (bodyOf Tryd.f19) [1, 1, 0, 1, 0, 0, 1, 1]) (thenD k1 (blk 0 (thenD (den Tryd.prog (sel (bodyOf Tryd.f19) [1, 1, 1]) (bodyQ Tryd.prog Tryd.f19.results.toList K E)) (bodyQ Tryd.prog Tryd.f19.results.toList K E))))) (thenD k1 (blk 0 (thenD (den Tryd.prog (sel (bodyOf Tryd.f19) [1, 1, 1]) (bodyQ Tryd.prog Tryd.f19.results.toList K E)) (bodyQ Tryd.prog Tryd.f19.results.toList K E))))))) (blk 1 (thenD (den Tryd.prog (sel (bodyOf Tryd.f19) [1, 1, 0, 1, 0, 0, 1, 1]) (thenD k1 (blk 0 (thenD (den Tryd.prog (sel (bodyOf Tryd.f19) [1, 1, 1]) (bodyQ Tryd.prog Tryd.f19.results.toList K E)) (bodyQ Tryd.prog Tryd.f19.results.toList K E))))) (thenD k1 (blk 0 (thenD (den Tryd.prog (sel (bodyOf Tryd.f19) [1, 1, 1]) (bodyQ Tryd.prog Tryd.f19.results.toList K E)) (bodyQ Tryd.prog Tryd.f19.results.toList K E)))))))))) #[x0, x1, x2, v3, v4, t13, (.int .i64 1), (.int .i64 0), v4, x0, t1, t2, t2, t3, t4, t5, (j 16), (j 17), x0, v4, t6, t7, t8, t9, t10, t11, t12, (j 27), (j 28), (j 29), (j 30), (j 31), (j 32), (j 33), (j 34), (j 35), (j 36), (j 37), (j 38), (j 39), (j 40), (j 41), (j 42), (j 43), (j 44), (j 45), (j 46), (j 47), (j 48), (j 49), (j 50), (j 51), (j 52), (j 53), (j 54), (j 55), (j 56), (j 57), (j 58), (j 59), (j 60), (j 61), (j 62), (j 63), x64, x65, x66, x67, x68, x69, x70, x71, x72]) (
    den Tryd.prog (sel (bodyOf Tryd.f19) [1, 1, 1]) (bodyQ Tryd.prog Tryd.f19.results.toList K E) #[x0, x1, x2, v3, v4, (j 5), (j 6), (j 7), v4, x0, t1, t2, t2, t3, t4, t5, (j 16), (j 17), (j 18), (j 19), (j 20), (j 21), (j 22), (j 23), (j 24), (j 25), (j 26), (j 27), (j 28), (j 29), (j 30), (j 31), (j 32), (j 33), (j 34), (j 35), (j 36), (j 37), (j 38), (j 39), (j 40), (j 41), (j 42), (j 43), (j 44), (j 45), (j 46), (j 47), (j 48), (j 49), (j 50), (j 51), (j 52), (j 53), (j 54), (j 55), (j 56), (j 57), (j 58), (j 59), (j 60), (j 61), (j 62), (j 63), x64, x65, x66, x67, x68, x69, x70, x71, x72]) := by kernel_rfl
theorem t19_1_1_1 (K : Kont) (E : PanK) (x0 x1 x2 x3 x4 x5 x6 x7 x8 x9 x10 x11 x12 x13 x14 x15 x16 x17 x18 x19 x20 x21 x22 x23 x24 x25 x26 x27 x28 x29 x30 x31 x32 x33 x34 x35 x36 x37 x38 x39 x40 x41 x42 x43 x44 x45 x46 x47 x48 x49 x50 x51 x52 x53 x54 x55 x56 x57 x58 x59 x60 x61 x62 x63 x64 x65 x66 x67 x68 x69 x70 x71 x72 : Value)  : den Tryd.prog (sel (bodyOf Tryd.f19) [1, 1, 1]) (bodyQ Tryd.prog Tryd.f19.results.toList K E) #[x0, x1, x2, x3, x4, x5, x6, x7, x8, x9, x10, x11, x12, x13, x14, x15, x16, x17, x18, x19, x20, x21, x22, x23, x24, x25, x26, x27, x28, x29, x30, x31, x32, x33, x34, x35, x36, x37, x38, x39, x40, x41, x42, x43, x44, x45, x46, x47, x48, x49, x50, x51, x52, x53, x54, x55, x56, x57, x58, x59, x60, x61, x62, x63, x64, x65, x66, x67, x68, x69, x70, x71, x72] =
  pv (lenV x3) fun t1 =>
  pv (binV .none .eql t1 (.int .i64 0)) fun t2 =>
  cnd t2 (
    nws 3 1 (bsC #[(.int .i64 0)] 1 1 #[(0, (.int .i64 10))]) fun t3 =>
    pv (bdC #[(.int .i64 0), (.slice none 0 0)] [(0, 1), (1, 1)] #[(0, (.int .i64 100)), (1, t3)]) fun t4 =>
    nws 51 1 (bsC #[(.int .i64 0), (.slice none 0 0)] 2 1 #[(0, t4)]) fun t5 =>
    appX 51 2 32 x3 t5 fun t6 =>
    den Tryd.prog (sel (bodyOf Tryd.f19) [1, 1, 1, 1]) (bodyQ Tryd.prog Tryd.f19.results.toList K E) #[x0, x1, x2, t6, x4, x5, x6, x7, x8, x9, x10, x11, x12, x13, x14, x15, x16, x17, x18, x19, x20, x21, x22, x23, x24, x25, x26, x27, x28, x29, x30, x31, x32, x33, x34, x35, x36, x37, x38, x39, x40, x41, x42, x43, x44, x45, x46, x47, x48, x49, x50, x51, x52, x53, x54, x55, x56, x57, x58, x59, x60, x61, x62, x63, x3, t1, t2, x3, t3, t4, t5, t6, x72]) (
    den Tryd.prog (sel (bodyOf Tryd.f19) [1, 1, 1, 1]) (bodyQ Tryd.prog Tryd.f19.results.toList K E) #[x0, x1, x2, x3, x4, x5, x6, x7, x8, x9, x10, x11, x12, x13, x14, x15, x16, x17, x18, x19, x20, x21, x22, x23, x24, x25, x26, x27, x28, x29, x30, x31, x32, x33, x34, x35, x36, x37, x38, x39, x40, x41, x42, x43, x44, x45, x46, x47, x48, x49, x50, x51, x52, x53, x54, x55, x56, x57, x58, x59, x60, x61, x62, x63, x3, t1, t2, x67, x68, x69, x70, x71, x72]) := by kernel_rfl
def m19_1_1_0_1_0_0_1_0_0_1_1_0_1_0_0 (x0 x1 x2 x3 x4 x5 x8 x9 x10 x11 x12 x13 x14 x15 x16 x17 x18 x19 x20 x21 x22 x23 x24 x25 x26 x60 x61 x62 x63 x64 x65 x66 x67 x68 x69 x70 x71 x72 : Value) (v6 v7 : Value) (j : Nat → Value) : Env := #[x0, x1, x2, x3, x4, x5, v6, v7, x8, x9, x10, x11, x12, x13, x14, x15, x16, x17, x18, x19, x20, x21, x22, x23, x24, x25, x26, (j 27), (j 28), (j 29), (j 30), (j 31), (j 32), (j 33), (j 34), (j 35), (j 36), (j 37), (j 38), (j 39), (j 40), (j 41), (j 42), (j 43), (j 44), (j 45), (j 46), (j 47), (j 48), (j 49), (j 50), (j 51), (j 52), (j 53), (j 54), (j 55), (j 56), (j 57), (j 58), (j 59), x60, x61, x62, x63, x64, x65, x66, x67, x68, x69, x70, x71, x72]
theorem t19_1_1_0_1_0_0_1_0_0_1_1_0_1_0_0 (K : Kont) (E : PanK) (k1 k2 : Env → Hp → Prop) (x0 x1 x2 x3 x4 x5 x8 x9 x10 x11 x12 x13 x14 x15 x16 x17 x18 x19 x20 x21 x22 x23 x24 x25 x26 x60 x61 x62 x63 x64 x65 x66 x67 x68 x69 x70 x71 x72 v6 v7 : Value) (j : Nat → Value) : den Tryd.prog (sel (bodyOf Tryd.f19) [1, 1, 0, 1, 0, 0, 1, 0, 0, 1, 1, 0, 1, 0, 0]) (thenD k2 (blk 2 (thenD (den Tryd.prog (sel (bodyOf Tryd.f19) [1, 1, 0, 1, 0, 0, 1, 0, 0, 1, 1, 1]) (blk 1 (thenD (den Tryd.prog (sel (bodyOf Tryd.f19) [1, 1, 0, 1, 0, 0, 1, 1]) (thenD k1 (blk 0 (thenD (den Tryd.prog (sel (bodyOf Tryd.f19) [1, 1, 1]) (bodyQ Tryd.prog Tryd.f19.results.toList K E)) (bodyQ Tryd.prog Tryd.f19.results.toList K E))))) (thenD k1 (blk 0 (thenD (den Tryd.prog (sel (bodyOf Tryd.f19) [1, 1, 1]) (bodyQ Tryd.prog Tryd.f19.results.toList K E)) (bodyQ Tryd.prog Tryd.f19.results.toList K E))))))) (blk 1 (thenD (den Tryd.prog (sel (bodyOf Tryd.f19) [1, 1, 0, 1, 0, 0, 1, 1]) (thenD k1 (blk 0 (thenD (den Tryd.prog (sel (bodyOf Tryd.f19) [1, 1, 1]) (bodyQ Tryd.prog Tryd.f19.results.toList K E)) (bodyQ Tryd.prog Tryd.f19.results.toList K E))))) (thenD k1 (blk 0 (thenD (den Tryd.prog (sel (bodyOf Tryd.f19) [1, 1, 1]) (bodyQ Tryd.prog Tryd.f19.results.toList K E)) (bodyQ Tryd.prog Tryd.f19.results.toList K E))))))))) (m19_1_1_0_1_0_0_1_0_0_1_1_0_1_0_0 x0 x1 x2 x3 x4 x5 x8 x9 x10 x11 x12 x13 x14 x15 x16 x17 x18 x19 x20 x21 x22 x23 x24 x25 x26 x60 x61 x62 x63 x64 x65 x66 x67 x68 x69 x70 x71 x72 v6 v7 j) =
  pv (iaV none 2 x0 x4) fun t1 =>
  pv (faV 1 t1) fun t2 =>
  ld false 1 t2 fun t3 =>
  pv (lenV t3) fun t4 =>
  pv (binV .none .lss v7 t4) fun t5 =>
  gdK t5 true (fun k => k v7) fun t6 =>
  gdK t5 true (fun k => pv (binV .none .lss t6 (.int .i64 4)) k) fun t7 =>
  pv (pickV t5 t7 (.bool false)) fun t8 =>
  cnd t8 (
    pv (iaV none 2 x0 x4) fun t9 =>
    pv (faV 1 t9) fun t10 =>
    ld false 1 t10 fun t11 =>
    pv (iaV none 1 t11 v7) fun t12 =>
    ld false 1 t12 fun t13 =>
    pv (binV .none .rem t13 (.int .u8 4)) fun t14 =>
    pv (cvV .i64 t14) fun t15 =>
    pv (binV .none .add (.int .i64 2) t15) fun t16 =>
    pv (binV .none .mul v6 t16) fun t17 =>
    pv (faV 1 x5) fun t18 =>
    ld false 1 t18 fun t19 =>
    nws 3 1 (bsC #[(.int .i64 0)] 1 1 #[(0, t17)]) fun t20 =>
    appX 3 1 8 t19 t20 fun t21 =>
    pv (faV 1 x5) fun t22 =>
    st 1 t22 t21 fun _ =>
    pv (binV .none .add v7 (.int .i64 1)) fun t23 =>
    k2 (m19_1_1_0_1_0_0_1_0_0_1_1_0_1_0_0 x0 x1 x2 x3 x4 x5 x8 x9 x10 x11 x12 x13 x14 x15 x16 x17 x18 x19 x20 x21 x22 x23 x24 x25 x26 x60 x61 x62 x63 x64 x65 x66 x67 x68 x69 x70 x71 x72 t17 t23 (jf #[x0, x1, x2, x3, x4, x5, t17, t23, x8, x9, x10, x11, x12, x13, x14, x15, x16, x17, x18, x19, x20, x21, x22, x23, x24, x25, x26, v7, x0, x4, t1, t2, t3, t4, t5, t5, t6, t7, t8, v7, t23, v6, x0, x4, t9, t10, t11, v7, t12, t13, t14, t15, t16, t17, t18, t19, t17, t20, t21, t22, x60, x61, x62, x63, x64, x65, x66, x67, x68, x69, x70, x71, x72]))) (
    den Tryd.prog (sel (bodyOf Tryd.f19) [1, 1, 0, 1, 0, 0, 1, 0, 0, 1, 1, 1]) (blk 1 (thenD (den Tryd.prog (sel (bodyOf Tryd.f19) [1, 1, 0, 1, 0, 0, 1, 1]) (thenD k1 (blk 0 (thenD (den Tryd.prog (sel (bodyOf Tryd.f19) [1, 1, 1]) (bodyQ Tryd.prog Tryd.f19.results.toList K E)) (bodyQ Tryd.prog Tryd.f19.results.toList K E))))) (thenD k1 (blk 0 (thenD (den Tryd.prog (sel (bodyOf Tryd.f19) [1, 1, 1]) (bodyQ Tryd.prog Tryd.f19.results.toList K E)) (bodyQ Tryd.prog Tryd.f19.results.toList K E)))))) #[x0, x1, x2, x3, x4, x5, v6, v7, x8, x9, x10, x11, x12, x13, x14, x15, x16, x17, x18, x19, x20, x21, x22, x23, x24, x25, x26, v7, x0, x4, t1, t2, t3, t4, t5, t5, t6, t7, t8, (j 39), (j 40), (j 41), (j 42), (j 43), (j 44), (j 45), (j 46), (j 47), (j 48), (j 49), (j 50), (j 51), (j 52), (j 53), (j 54), (j 55), (j 56), (j 57), (j 58), (j 59), x60, x61, x62, x63, x64, x65, x66, x67, x68, x69, x70, x71, x72]) := by kernel_rfl
theorem t19_1_1_0_1_0_0_1_0_0_1_1_1 (K : Kont) (E : PanK) (k1 : Env → Hp → Prop) (x0 x1 x2 x3 x4 x5 x6 x7 x8 x9 x10 x11 x12 x13 x14 x15 x16 x17 x18 x19 x20 x21 x22 x23 x24 x25 x26 x27 x28 x29 x30 x31 x32 x33 x34 x35 x36 x37 x38 x39 x40 x41 x42 x43 x44 x45 x46 x47 x48 x49 x50 x51 x52 x53 x54 x55 x56 x57 x58 x59 x60 x61 x62 x63 x64 x65 x66 x67 x68 x69 x70 x71 x72 : Value)  : den Tryd.prog (sel (bodyOf Tryd.f19) [1, 1, 0, 1, 0, 0, 1, 0, 0, 1, 1, 1]) (blk 1 (thenD (den Tryd.prog (sel (bodyOf Tryd.f19) [1, 1, 0, 1, 0, 0, 1, 1]) (thenD k1 (blk 0 (thenD (den Tryd.prog (sel (bodyOf Tryd.f19) [1, 1, 1]) (bodyQ Tryd.prog Tryd.f19.results.toList K E)) (bodyQ Tryd.prog Tryd.f19.results.toList K E))))) (thenD k1 (blk 0 (thenD (den Tryd.prog (sel (bodyOf Tryd.f19) [1, 1, 1]) (bodyQ Tryd.prog Tryd.f19.results.toList K E)) (bodyQ Tryd.prog Tryd.f19.results.toList K E)))))) #[x0, x1, x2, x3, x4, x5, x6, x7, x8, x9, x10, x11, x12, x13, x14, x15, x16, x17, x18, x19, x20, x21, x22, x23, x24, x25, x26, x27, x28, x29, x30, x31, x32, x33, x34, x35, x36, x37, x38, x39, x40, x41, x42, x43, x44, x45, x46, x47, x48, x49, x50, x51, x52, x53, x54, x55, x56, x57, x58, x59, x60, x61, x62, x63, x64, x65, x66, x67, x68, x69, x70, x71, x72] =
  ld true 2 x5 fun t1 =>
  nws 51 1 (bsC #[(.int .i64 0), (.slice none 0 0)] 2 1 #[(0, t1)]) fun t2 =>
  appX 51 2 32 x3 t2 fun t3 =>
  den Tryd.prog (sel (bodyOf Tryd.f19) [1, 1, 0, 1, 0, 0, 1, 1]) (thenD k1 (blk 0 (thenD (den Tryd.prog (sel (bodyOf Tryd.f19) [1, 1, 1]) (bodyQ Tryd.prog Tryd.f19.results.toList K E)) (bodyQ Tryd.prog Tryd.f19.results.toList K E)))) #[x0, x1, x2, t3, x4, x5, x6, x7, x8, x9, x10, x11, x12, x13, x14, x15, x16, x17, x18, x19, x20, x21, x22, x23, x24, x25, x26, x27, x28, x29, x30, x31, x32, x33, x34, x35, x36, x37, x38, x39, x40, x41, x42, x43, x44, x45, x46, x47, x48, x49, x50, x51, x52, x53, x54, x55, x56, x57, x58, x59, x3, t1, t2, t3, x64, x65, x66, x67, x68, x69, x70, x71, x72] := by kernel_rfl
theorem t19_1_1_1_1 (K : Kont) (E : PanK) (x0 x1 x2 x3 x4 x5 x6 x7 x8 x9 x10 x11 x12 x13 x14 x15 x16 x17 x18 x19 x20 x21 x22 x23 x24 x25 x26 x27 x28 x29 x30 x31 x32 x33 x34 x35 x36 x37 x38 x39 x40 x41 x42 x43 x44 x45 x46 x47 x48 x49 x50 x51 x52 x53 x54 x55 x56 x57 x58 x59 x60 x61 x62 x63 x64 x65 x66 x67 x68 x69 x70 x71 x72 : Value)  : den Tryd.prog (sel (bodyOf Tryd.f19) [1, 1, 1, 1]) (bodyQ Tryd.prog Tryd.f19.results.toList K E) #[x0, x1, x2, x3, x4, x5, x6, x7, x8, x9, x10, x11, x12, x13, x14, x15, x16, x17, x18, x19, x20, x21, x22, x23, x24, x25, x26, x27, x28, x29, x30, x31, x32, x33, x34, x35, x36, x37, x38, x39, x40, x41, x42, x43, x44, x45, x46, x47, x48, x49, x50, x51, x52, x53, x54, x55, x56, x57, x58, x59, x60, x61, x62, x63, x64, x65, x66, x67, x68, x69, x70, x71, x72] =
  K x3 := by kernel_rfl
theorem t19_1_1_0_1_0_0_1_1 (K : Kont) (E : PanK) (k1 : Env → Hp → Prop) (x0 x1 x2 x3 x4 x5 x6 x7 x8 x9 x10 x11 x12 x13 x14 x15 x16 x17 x18 x19 x20 x21 x22 x23 x24 x25 x26 x27 x28 x29 x30 x31 x32 x33 x34 x35 x36 x37 x38 x39 x40 x41 x42 x43 x44 x45 x46 x47 x48 x49 x50 x51 x52 x53 x54 x55 x56 x57 x58 x59 x60 x61 x62 x63 x64 x65 x66 x67 x68 x69 x70 x71 x72 : Value)  : den Tryd.prog (sel (bodyOf Tryd.f19) [1, 1, 0, 1, 0, 0, 1, 1]) (thenD k1 (blk 0 (thenD (den Tryd.prog (sel (bodyOf Tryd.f19) [1, 1, 1]) (bodyQ Tryd.prog Tryd.f19.results.toList K E)) (bodyQ Tryd.prog Tryd.f19.results.toList K E)))) #[x0, x1, x2, x3, x4, x5, x6, x7, x8, x9, x10, x11, x12, x13, x14, x15, x16, x17, x18, x19, x20, x21, x22, x23, x24, x25, x26, x27, x28, x29, x30, x31, x32, x33, x34, x35, x36, x37, x38, x39, x40, x41, x42, x43, x44, x45, x46, x47, x48, x49, x50, x51, x52, x53, x54, x55, x56, x57, x58, x59, x60, x61, x62, x63, x64, x65, x66, x67, x68, x69, x70, x71, x72] =
  pv (binV .none .add x4 (.int .i64 1)) fun t1 =>
  k1 (m19_1_1_0_1_0_0 x0 x1 x2 x64 x65 x66 x67 x68 x69 x70 x71 x72 x3 t1 (jf #[x0, x1, x2, x3, t1, x5, x6, x7, x8, x9, x10, x11, x12, x13, x14, x15, x4, t1, x18, x19, x20, x21, x22, x23, x24, x25, x26, x27, x28, x29, x30, x31, x32, x33, x34, x35, x36, x37, x38, x39, x40, x41, x42, x43, x44, x45, x46, x47, x48, x49, x50, x51, x52, x53, x54, x55, x56, x57, x58, x59, x60, x61, x62, x63, x64, x65, x66, x67, x68, x69, x70, x71, x72])) := by kernel_rfl
theorem l19_1_1_0_1_0_0 {K : Kont} {E : PanK} {σ : Type} {x0 x1 x2 x64 x65 x66 x67 x68 x69 x70 x71 x72 v3 v4 y5 y6 y7 y8 y9 y10 y11 y12 y13 y14 y15 y16 y17 y18 y19 y20 y21 y22 y23 y24 y25 y26 y27 y28 y29 y30 y31 y32 y33 y34 y35 y36 y37 y38 y39 y40 y41 y42 y43 y44 y45 y46 y47 y48 y49 y50 y51 y52 y53 y54 y55 y56 y57 y58 y59 y60 y61 y62 y63 : Value} {h : Hp} (f3 f4 : σ → Value) (I : σ → Hp → Prop) (μ : σ → Nat) (s0 : σ) (e3 : v3 = f3 s0) (e4 : v4 = f4 s0) (h0 : h.wf → ∃ h', h.wk h' ∧ I s0 h')
  (round : ∀ (k1 : Env → Hp → Prop) (s : σ) (j : Nat → Value) (h : Hp), I s h → h.wf → (∀ s' j' h', μ s' < μ s → (h'.wf → ∃ h'', h'.wk h'' ∧ I s' h'') → k1 (m19_1_1_0_1_0_0 x0 x1 x2 x64 x65 x66 x67 x68 x69 x70 x71 x72 (f3 s') (f4 s') j') h') → (
  pv (lenV x0) fun t1 =>
  pv (binV .none .lss (f4 s) t1) fun t2 =>
  gdK t2 true (fun k => k (f4 s)) fun t3 =>
  gdK t2 true (fun k => pv (binV .none .lss t3 (.int .i64 4)) k) fun t4 =>
  pv (pickV t2 t4 (.bool false)) fun t5 =>
  cnd t5 (
    pv (iaV none 2 x0 (f4 s)) fun t6 =>
    pv (faV 0 t6) fun t7 =>
    ld false 1 t7 fun t8 =>
    pv (binV .none .rem t8 (.int .u16 200)) fun t9 =>
    pv (cvV .i64 t9) fun t10 =>
    pv (binV .none .add (.int .i64 1) t10) fun t11 =>
    pv (bdC #[(.int .i64 0), (.slice none 0 0)] [(0, 1), (1, 1)] #[(0, t11)]) fun t12 =>
    nw 51 [(.int .i64 0), (.slice none 0 0)] fun t13 =>
    st 2 t13 t12 fun _ =>
    lp (fun k2 => den Tryd.prog (sel (bodyOf Tryd.f19) [1, 1, 0, 1, 0, 0, 1, 0, 0, 1, 1, 0, 1, 0, 0]) (thenD k2 (blk 2 (thenD (den Tryd.prog (sel (bodyOf Tryd.f19) [1, 1, 0, 1, 0, 0, 1, 0, 0, 1, 1, 1]) (blk 1 (thenD (den Tryd.prog (sel (bodyOf Tryd.f19) [1, 1, 0, 1, 0, 0, 1, 1]) (thenD k1 (blk 0 (thenD (den Tryd.prog (sel (bodyOf Tryd.f19) [1, 1, 1]) (bodyQ Tryd.prog Tryd.f19.results.toList K E)) (bodyQ Tryd.prog Tryd.f19.results.toList K E))))) (thenD k1 (blk 0 (thenD (den Tryd.prog (sel (bodyOf Tryd.f19) [1, 1, 1]) (bodyQ Tryd.prog Tryd.f19.results.toList K E)) (bodyQ Tryd.prog Tryd.f19.results.toList K E))))))) (blk 1 (thenD (den Tryd.prog (sel (bodyOf Tryd.f19) [1, 1, 0, 1, 0, 0, 1, 1]) (thenD k1 (blk 0 (thenD (den Tryd.prog (sel (bodyOf Tryd.f19) [1, 1, 1]) (bodyQ Tryd.prog Tryd.f19.results.toList K E)) (bodyQ Tryd.prog Tryd.f19.results.toList K E))))) (thenD k1 (blk 0 (thenD (den Tryd.prog (sel (bodyOf Tryd.f19) [1, 1, 1]) (bodyQ Tryd.prog Tryd.f19.results.toList K E)) (bodyQ Tryd.prog Tryd.f19.results.toList K E)))))))))) #[x0, x1, x2, (f3 s), (f4 s), t13, (.int .i64 1), (.int .i64 0), (f4 s), x0, t1, t2, t2, t3, t4, t5, (j 16), (j 17), x0, (f4 s), t6, t7, t8, t9, t10, t11, t12, (j 27), (j 28), (j 29), (j 30), (j 31), (j 32), (j 33), (j 34), (j 35), (j 36), (j 37), (j 38), (j 39), (j 40), (j 41), (j 42), (j 43), (j 44), (j 45), (j 46), (j 47), (j 48), (j 49), (j 50), (j 51), (j 52), (j 53), (j 54), (j 55), (j 56), (j 57), (j 58), (j 59), (j 60), (j 61), (j 62), (j 63), x64, x65, x66, x67, x68, x69, x70, x71, x72]) (
    den Tryd.prog (sel (bodyOf Tryd.f19) [1, 1, 1]) (bodyQ Tryd.prog Tryd.f19.results.toList K E) #[x0, x1, x2, (f3 s), (f4 s), (j 5), (j 6), (j 7), (f4 s), x0, t1, t2, t2, t3, t4, t5, (j 16), (j 17), (j 18), (j 19), (j 20), (j 21), (j 22), (j 23), (j 24), (j 25), (j 26), (j 27), (j 28), (j 29), (j 30), (j 31), (j 32), (j 33), (j 34), (j 35), (j 36), (j 37), (j 38), (j 39), (j 40), (j 41), (j 42), (j 43), (j 44), (j 45), (j 46), (j 47), (j 48), (j 49), (j 50), (j 51), (j 52), (j 53), (j 54), (j 55), (j 56), (j 57), (j 58), (j 59), (j 60), (j 61), (j 62), (j 63), x64, x65, x66, x67, x68, x69, x70, x71, x72])) h) :
  lp (fun k1 => den Tryd.prog (sel (bodyOf Tryd.f19) [1, 1, 0, 1, 0, 0]) (thenD k1 (blk 0 (thenD (den Tryd.prog (sel (bodyOf Tryd.f19) [1, 1, 1]) (bodyQ Tryd.prog Tryd.f19.results.toList K E)) (bodyQ Tryd.prog Tryd.f19.results.toList K E))))) #[x0, x1, x2, v3, v4, y5, y6, y7, y8, y9, y10, y11, y12, y13, y14, y15, y16, y17, y18, y19, y20, y21, y22, y23, y24, y25, y26, y27, y28, y29, y30, y31, y32, y33, y34, y35, y36, y37, y38, y39, y40, y41, y42, y43, y44, y45, y46, y47, y48, y49, y50, y51, y52, y53, y54, y55, y56, y57, y58, y59, y60, y61, y62, y63, x64, x65, x66, x67, x68, x69, x70, x71, x72] h := by
  subst e3
  subst e4
  have e : (#[x0, x1, x2, (f3 s0), (f4 s0), y5, y6, y7, y8, y9, y10, y11, y12, y13, y14, y15, y16, y17, y18, y19, y20, y21, y22, y23, y24, y25, y26, y27, y28, y29, y30, y31, y32, y33, y34, y35, y36, y37, y38, y39, y40, y41, y42, y43, y44, y45, y46, y47, y48, y49, y50, y51, y52, y53, y54, y55, y56, y57, y58, y59, y60, y61, y62, y63, x64, x65, x66, x67, x68, x69, x70, x71, x72] : Env) = m19_1_1_0_1_0_0 x0 x1 x2 x64 x65 x66 x67 x68 x69 x70 x71 x72 (f3 s0) (f4 s0) (jf #[x0, x1, x2, (f3 s0), (f4 s0), y5, y6, y7, y8, y9, y10, y11, y12, y13, y14, y15, y16, y17, y18, y19, y20, y21, y22, y23, y24, y25, y26, y27, y28, y29, y30, y31, y32, y33, y34, y35, y36, y37, y38, y39, y40, y41, y42, y43, y44, y45, y46, y47, y48, y49, y50, y51, y52, y53, y54, y55, y56, y57, y58, y59, y60, y61, y62, y63, x64, x65, x66, x67, x68, x69, x70, x71, x72]) := by kernel_rfl
  rw [e]
  exact loop_r (fun s j => m19_1_1_0_1_0_0 x0 x1 x2 x64 x65 x66 x67 x68 x69 x70 x71 x72 (f3 s) (f4 s) j) I μ (fun k s j h hI hw next => by rw [t19_1_1_0_1_0_0]; exact round k s j h hI hw next) s0 (jf #[x0, x1, x2, (f3 s0), (f4 s0), y5, y6, y7, y8, y9, y10, y11, y12, y13, y14, y15, y16, y17, y18, y19, y20, y21, y22, y23, y24, y25, y26, y27, y28, y29, y30, y31, y32, y33, y34, y35, y36, y37, y38, y39, y40, y41, y42, y43, y44, y45, y46, y47, y48, y49, y50, y51, y52, y53, y54, y55, y56, y57, y58, y59, y60, y61, y62, y63, x64, x65, x66, x67, x68, x69, x70, x71, x72]) h0
theorem l19_1_1_0_1_0_0_1_0_0_1_1_0_1_0_0 {K : Kont} {E : PanK} {k1 : Env → Hp → Prop} {σ : Type} {x0 x1 x2 x3 x4 x5 x8 x9 x10 x11 x12 x13 x14 x15 x16 x17 x18 x19 x20 x21 x22 x23 x24 x25 x26 x60 x61 x62 x63 x64 x65 x66 x67 x68 x69 x70 x71 x72 v6 v7 y27 y28 y29 y30 y31 y32 y33 y34 y35 y36 y37 y38 y39 y40 y41 y42 y43 y44 y45 y46 y47 y48 y49 y50 y51 y52 y53 y54 y55 y56 y57 y58 y59 : Value} {h : Hp} (f6 f7 : σ → Value) (I : σ → Hp → Prop) (μ : σ → Nat) (s0 : σ) (e6 : v6 = f6 s0) (e7 : v7 = f7 s0) (h0 : h.wf → ∃ h', h.wk h' ∧ I s0 h')
  (round : ∀ (k2 : Env → Hp → Prop) (s : σ) (j : Nat → Value) (h : Hp), I s h → h.wf → (∀ s' j' h', μ s' < μ s → (h'.wf → ∃ h'', h'.wk h'' ∧ I s' h'') → k2 (m19_1_1_0_1_0_0_1_0_0_1_1_0_1_0_0 x0 x1 x2 x3 x4 x5 x8 x9 x10 x11 x12 x13 x14 x15 x16 x17 x18 x19 x20 x21 x22 x23 x24 x25 x26 x60 x61 x62 x63 x64 x65 x66 x67 x68 x69 x70 x71 x72 (f6 s') (f7 s') j') h') → (
  pv (iaV none 2 x0 x4) fun t1 =>
  pv (faV 1 t1) fun t2 =>
  ld false 1 t2 fun t3 =>
  pv (lenV t3) fun t4 =>
  pv (binV .none .lss (f7 s) t4) fun t5 =>
  gdK t5 true (fun k => k (f7 s)) fun t6 =>
  gdK t5 true (fun k => pv (binV .none .lss t6 (.int .i64 4)) k) fun t7 =>
  pv (pickV t5 t7 (.bool false)) fun t8 =>
  cnd t8 (
    pv (iaV none 2 x0 x4) fun t9 =>
    pv (faV 1 t9) fun t10 =>
    ld false 1 t10 fun t11 =>
    pv (iaV none 1 t11 (f7 s)) fun t12 =>
    ld false 1 t12 fun t13 =>
    pv (binV .none .rem t13 (.int .u8 4)) fun t14 =>
    pv (cvV .i64 t14) fun t15 =>
    pv (binV .none .add (.int .i64 2) t15) fun t16 =>
    pv (binV .none .mul (f6 s) t16) fun t17 =>
    pv (faV 1 x5) fun t18 =>
    ld false 1 t18 fun t19 =>
    nws 3 1 (bsC #[(.int .i64 0)] 1 1 #[(0, t17)]) fun t20 =>
    appX 3 1 8 t19 t20 fun t21 =>
    pv (faV 1 x5) fun t22 =>
    st 1 t22 t21 fun _ =>
    pv (binV .none .add (f7 s) (.int .i64 1)) fun t23 =>
    k2 (m19_1_1_0_1_0_0_1_0_0_1_1_0_1_0_0 x0 x1 x2 x3 x4 x5 x8 x9 x10 x11 x12 x13 x14 x15 x16 x17 x18 x19 x20 x21 x22 x23 x24 x25 x26 x60 x61 x62 x63 x64 x65 x66 x67 x68 x69 x70 x71 x72 t17 t23 (jf #[x0, x1, x2, x3, x4, x5, t17, t23, x8, x9, x10, x11, x12, x13, x14, x15, x16, x17, x18, x19, x20, x21, x22, x23, x24, x25, x26, (f7 s), x0, x4, t1, t2, t3, t4, t5, t5, t6, t7, t8, (f7 s), t23, (f6 s), x0, x4, t9, t10, t11, (f7 s), t12, t13, t14, t15, t16, t17, t18, t19, t17, t20, t21, t22, x60, x61, x62, x63, x64, x65, x66, x67, x68, x69, x70, x71, x72]))) (
    den Tryd.prog (sel (bodyOf Tryd.f19) [1, 1, 0, 1, 0, 0, 1, 0, 0, 1, 1, 1]) (blk 1 (thenD (den Tryd.prog (sel (bodyOf Tryd.f19) [1, 1, 0, 1, 0, 0, 1, 1]) (thenD k1 (blk 0 (thenD (den Tryd.prog (sel (bodyOf Tryd.f19) [1, 1, 1]) (bodyQ Tryd.prog Tryd.f19.results.toList K E)) (bodyQ Tryd.prog Tryd.f19.results.toList K E))))) (thenD k1 (blk 0 (thenD (den Tryd.prog (sel (bodyOf Tryd.f19) [1, 1, 1]) (bodyQ Tryd.prog Tryd.f19.results.toList K E)) (bodyQ Tryd.prog Tryd.f19.results.toList K E)))))) #[x0, x1, x2, x3, x4, x5, (f6 s), (f7 s), x8, x9, x10, x11, x12, x13, x14, x15, x16, x17, x18, x19, x20, x21, x22, x23, x24, x25, x26, (f7 s), x0, x4, t1, t2, t3, t4, t5, t5, t6, t7, t8, (j 39), (j 40), (j 41), (j 42), (j 43), (j 44), (j 45), (j 46), (j 47), (j 48), (j 49), (j 50), (j 51), (j 52), (j 53), (j 54), (j 55), (j 56), (j 57), (j 58), (j 59), x60, x61, x62, x63, x64, x65, x66, x67, x68, x69, x70, x71, x72])) h) :
  lp (fun k2 => den Tryd.prog (sel (bodyOf Tryd.f19) [1, 1, 0, 1, 0, 0, 1, 0, 0, 1, 1, 0, 1, 0, 0]) (thenD k2 (blk 2 (thenD (den Tryd.prog (sel (bodyOf Tryd.f19) [1, 1, 0, 1, 0, 0, 1, 0, 0, 1, 1, 1]) (blk 1 (thenD (den Tryd.prog (sel (bodyOf Tryd.f19) [1, 1, 0, 1, 0, 0, 1, 1]) (thenD k1 (blk 0 (thenD (den Tryd.prog (sel (bodyOf Tryd.f19) [1, 1, 1]) (bodyQ Tryd.prog Tryd.f19.results.toList K E)) (bodyQ Tryd.prog Tryd.f19.results.toList K E))))) (thenD k1 (blk 0 (thenD (den Tryd.prog (sel (bodyOf Tryd.f19) [1, 1, 1]) (bodyQ Tryd.prog Tryd.f19.results.toList K E)) (bodyQ Tryd.prog Tryd.f19.results.toList K E))))))) (blk 1 (thenD (den Tryd.prog (sel (bodyOf Tryd.f19) [1, 1, 0, 1, 0, 0, 1, 1]) (thenD k1 (blk 0 (thenD (den Tryd.prog (sel (bodyOf Tryd.f19) [1, 1, 1]) (bodyQ Tryd.prog Tryd.f19.results.toList K E)) (bodyQ Tryd.prog Tryd.f19.results.toList K E))))) (thenD k1 (blk 0 (thenD (den Tryd.prog (sel (bodyOf Tryd.f19) [1, 1, 1]) (bodyQ Tryd.prog Tryd.f19.results.toList K E)) (bodyQ Tryd.prog Tryd.f19.results.toList K E)))))))))) #[x0, x1, x2, x3, x4, x5, v6, v7, x8, x9, x10, x11, x12, x13, x14, x15, x16, x17, x18, x19, x20, x21, x22, x23, x24, x25, x26, y27, y28, y29, y30, y31, y32, y33, y34, y35, y36, y37, y38, y39, y40, y41, y42, y43, y44, y45, y46, y47, y48, y49, y50, y51, y52, y53, y54, y55, y56, y57, y58, y59, x60, x61, x62, x63, x64, x65, x66, x67, x68, x69, x70, x71, x72] h := by
  subst e6
  subst e7
  have e : (#[x0, x1, x2, x3, x4, x5, (f6 s0), (f7 s0), x8, x9, x10, x11, x12, x13, x14, x15, x16, x17, x18, x19, x20, x21, x22, x23, x24, x25, x26, y27, y28, y29, y30, y31, y32, y33, y34, y35, y36, y37, y38, y39, y40, y41, y42, y43, y44, y45, y46, y47, y48, y49, y50, y51, y52, y53, y54, y55, y56, y57, y58, y59, x60, x61, x62, x63, x64, x65, x66, x67, x68, x69, x70, x71, x72] : Env) = m19_1_1_0_1_0_0_1_0_0_1_1_0_1_0_0 x0 x1 x2 x3 x4 x5 x8 x9 x10 x11 x12 x13 x14 x15 x16 x17 x18 x19 x20 x21 x22 x23 x24 x25 x26 x60 x61 x62 x63 x64 x65 x66 x67 x68 x69 x70 x71 x72 (f6 s0) (f7 s0) (jf #[x0, x1, x2, x3, x4, x5, (f6 s0), (f7 s0), x8, x9, x10, x11, x12, x13, x14, x15, x16, x17, x18, x19, x20, x21, x22, x23, x24, x25, x26, y27, y28, y29, y30, y31, y32, y33, y34, y35, y36, y37, y38, y39, y40, y41, y42, y43, y44, y45, y46, y47, y48, y49, y50, y51, y52, y53, y54, y55, y56, y57, y58, y59, x60, x61, x62, x63, x64, x65, x66, x67, x68, x69, x70, x71, x72]) := by kernel_rfl
  rw [e]
  exact loop_r (fun s j => m19_1_1_0_1_0_0_1_0_0_1_1_0_1_0_0 x0 x1 x2 x3 x4 x5 x8 x9 x10 x11 x12 x13 x14 x15 x16 x17 x18 x19 x20 x21 x22 x23 x24 x25 x26 x60 x61 x62 x63 x64 x65 x66 x67 x68 x69 x70 x71 x72 (f6 s) (f7 s) j) I μ (fun k s j h hI hw next => by rw [t19_1_1_0_1_0_0_1_0_0_1_1_0_1_0_0]; exact round k s j h hI hw next) s0 (jf #[x0, x1, x2, x3, x4, x5, (f6 s0), (f7 s0), x8, x9, x10, x11, x12, x13, x14, x15, x16, x17, x18, x19, x20, x21, x22, x23, x24, x25, x26, y27, y28, y29, y30, y31, y32, y33, y34, y35, y36, y37, y38, y39, y40, y41, y42, y43, y44, y45, y46, y47, y48, y49, y50, y51, y52, y53, y54, y55, y56, y57, y58, y59, x60, x61, x62, x63, x64, x65, x66, x67, x68, x69, x70, x71, x72]) h0

theorem t21 (K : Kont) (E : PanK) (x0 x1 x2 : Value)  : den Tryd.prog (sel (bodyOf Tryd.f21) []) (bodyQ Tryd.prog Tryd.f21.results.toList K E) #[x0, x1, x2, undef, undef, undef, undef, undef, undef, undef, undef, undef, undef, undef, undef, undef, undef, undef, undef, undef, undef, undef, undef, undef, undef, undef, undef, undef, undef, undef, undef, undef, undef, undef, undef, undef, undef, undef, undef, undef, undef, undef, undef] =
  lp (fun k1 => den Tryd.prog (sel (bodyOf Tryd.f21) [1, 1, 0, 1, 0, 0]) (thenD k1 (blk 0 (thenD (den Tryd.prog (sel (bodyOf Tryd.f21) [1, 1, 1]) (bodyQ Tryd.prog Tryd.f21.results.toList K E)) (bodyQ Tryd.prog Tryd.f21.results.toList K E))))) #[x0, x1, x2, undef, undef, undef, (.slice none 0 0), (.slice none 0 0), (.int .i64 0), undef, undef, undef, undef, undef, undef, undef, undef, undef, undef, undef, undef, undef, undef, undef, undef, undef, undef, undef, undef, undef, undef, undef, undef, undef, undef, undef, undef, undef, undef, undef, undef, undef, undef] := by kernel_rfl
def m21_1_1_0_1_0_0 (x0 x1 x2 x3 x4 x5 x6 x42 : Value) (v7 v8 : Value) (j : Nat → Value) : Env := #[x0, x1, x2, x3, x4, x5, x6, v7, v8, (j 9), (j 10), (j 11), (j 12), (j 13), (j 14), (j 15), (j 16), (j 17), (j 18), (j 19), (j 20), (j 21), (j 22), (j 23), (j 24), (j 25), (j 26), (j 27), (j 28), (j 29), (j 30), (j 31), (j 32), (j 33), (j 34), (j 35), (j 36), (j 37), (j 38), (j 39), (j 40), (j 41), x42]
theorem t21_1_1_0_1_0_0 (K : Kont) (E : PanK) (k1 : Env → Hp → Prop) (x0 x1 x2 x3 x4 x5 x6 x42 v7 v8 : Value) (j : Nat → Value) : den Tryd.prog (sel (bodyOf Tryd.f21) [1, 1, 0, 1, 0, 0]) (thenD k1 (blk 0 (thenD (den Tryd.prog (sel (bodyOf Tryd.f21) [1, 1, 1]) (bodyQ Tryd.prog Tryd.f21.results.toList K E)) (bodyQ Tryd.prog Tryd.f21.results.toList K E)))) (m21_1_1_0_1_0_0 x0 x1 x2 x3 x4 x5 x6 x42 v7 v8 j) =
  pv (lenV x1) fun t1 =>
  pv (binV .none .lss v8 t1) fun t2 =>
  gdK t2 true (fun k => k v8) fun t3 =>
  gdK t2 true (fun k => pv (binV .none .lss t3 (.int .i64 200)) k) fun t4 =>
  pv (pickV t2 t4 (.bool false)) fun t5 =>
  cnd t5 (
    pv (iaV none 1 x1 v8) fun t6 =>
    ld false 1 t6 fun t7 =>
    callv Tryd.prog (.func (.func 48) #[] #[]) #[x0, t7] (fun t8 =>
    pv (bdC #[(.slice none 0 0), (.int .i64 0)] [(0, 1), (1, 1)] #[(0, t8)]) fun t9 =>
    nw 39 [(.slice none 0 0), (.int .i64 0)] fun t10 =>
    st 2 t10 t9 fun _ =>
    pv (lenV x2) fun t11 =>
    pv (binV .none .gtr t11 (.int .i64 0)) fun t12 =>
    cnd t12 (
      pv (lenV x2) fun t13 =>
      pv (binV .none .rem v8 t13) fun t14 =>
      pv (iaV none 1 x2 t14) fun t15 =>
      ld false 1 t15 fun t16 =>
      pv (faV 1 t10) fun t17 =>
      st 1 t17 t16 fun _ =>
      den Tryd.prog (sel (bodyOf Tryd.f21) [1, 1, 0, 1, 0, 0, 1, 0, 0, 1, 1]) (blk 1 (thenD (den Tryd.prog (sel (bodyOf Tryd.f21) [1, 1, 0, 1, 0, 0, 1, 1]) (thenD k1 (blk 0 (thenD (den Tryd.prog (sel (bodyOf Tryd.f21) [1, 1, 1]) (bodyQ Tryd.prog Tryd.f21.results.toList K E)) (bodyQ Tryd.prog Tryd.f21.results.toList K E))))) (thenD k1 (blk 0 (thenD (den Tryd.prog (sel (bodyOf Tryd.f21) [1, 1, 1]) (bodyQ Tryd.prog Tryd.f21.results.toList K E)) (bodyQ Tryd.prog Tryd.f21.results.toList K E)))))) #[x0, x1, x2, x3, x4, x5, x6, v7, v8, t10, v8, x1, t1, t2, t2, t3, t4, t5, (j 18), (j 19), x0, x1, v8, t6, t7, t8, t9, x2, t11, t12, x2, v8, x2, t13, t14, t15, t16, t17, (j 38), (j 39), (j 40), (j 41), x42]) (
      den Tryd.prog (sel (bodyOf Tryd.f21) [1, 1, 0, 1, 0, 0, 1, 0, 0, 1, 1]) (blk 1 (thenD (den Tryd.prog (sel (bodyOf Tryd.f21) [1, 1, 0, 1, 0, 0, 1, 1]) (thenD k1 (blk 0 (thenD (den Tryd.prog (sel (bodyOf Tryd.f21) [1, 1, 1]) (bodyQ Tryd.prog Tryd.f21.results.toList K E)) (bodyQ Tryd.prog Tryd.f21.results.toList K E))))) (thenD k1 (blk 0 (thenD (den Tryd.prog (sel (bodyOf Tryd.f21) [1, 1, 1]) (bodyQ Tryd.prog Tryd.f21.results.toList K E)) (bodyQ Tryd.prog Tryd.f21.results.toList K E)))))) #[x0, x1, x2, x3, x4, x5, x6, v7, v8, t10, v8, x1, t1, t2, t2, t3, t4, t5, (j 18), (j 19), x0, x1, v8, t6, t7, t8, t9, x2, t11, t12, (j 30), (j 31), (j 32), (j 33), (j 34), (j 35), (j 36), (j 37), (j 38), (j 39), (j 40), (j 41), x42])) E) (
    den Tryd.prog (sel (bodyOf Tryd.f21) [1, 1, 1]) (bodyQ Tryd.prog Tryd.f21.results.toList K E) #[x0, x1, x2, x3, x4, x5, x6, v7, v8, (j 9), v8, x1, t1, t2, t2, t3, t4, t5, (j 18), (j 19), (j 20), (j 21), (j 22), (j 23), (j 24), (j 25), (j 26), (j 27), (j 28), (j 29), (j 30), (j 31), (j 32), (j 33), (j 34), (j 35), (j 36), (j 37), (j 38), (j 39), (j 40), (j 41), x42]) := by kernel_rfl
theorem t21_1_1_1 (K : Kont) (E : PanK) (x0 x1 x2 x3 x4 x5 x6 x7 x8 x9 x10 x11 x12 x13 x14 x15 x16 x17 x18 x19 x20 x21 x22 x23 x24 x25 x26 x27 x28 x29 x30 x31 x32 x33 x34 x35 x36 x37 x38 x39 x40 x41 x42 : Value)  : den Tryd.prog (sel (bodyOf Tryd.f21) [1, 1, 1]) (bodyQ Tryd.prog Tryd.f21.results.toList K E) #[x0, x1, x2, x3, x4, x5, x6, x7, x8, x9, x10, x11, x12, x13, x14, x15, x16, x17, x18, x19, x20, x21, x22, x23, x24, x25, x26, x27, x28, x29, x30, x31, x32, x33, x34, x35, x36, x37, x38, x39, x40, x41, x42] =
  K x7 := by kernel_rfl
theorem t21_1_1_0_1_0_0_1_0_0_1_1 (K : Kont) (E : PanK) (k1 : Env → Hp → Prop) (x0 x1 x2 x3 x4 x5 x6 x7 x8 x9 x10 x11 x12 x13 x14 x15 x16 x17 x18 x19 x20 x21 x22 x23 x24 x25 x26 x27 x28 x29 x30 x31 x32 x33 x34 x35 x36 x37 x38 x39 x40 x41 x42 : Value)  : den Tryd.prog (sel (bodyOf Tryd.f21) [1, 1, 0, 1, 0, 0, 1, 0, 0, 1, 1]) (blk 1 (thenD (den Tryd.prog (sel (bodyOf Tryd.f21) [1, 1, 0, 1, 0, 0, 1, 1]) (thenD k1 (blk 0 (thenD (den Tryd.prog (sel (bodyOf Tryd.f21) [1, 1, 1]) (bodyQ Tryd.prog Tryd.f21.results.toList K E)) (bodyQ Tryd.prog Tryd.f21.results.toList K E))))) (thenD k1 (blk 0 (thenD (den Tryd.prog (sel (bodyOf Tryd.f21) [1, 1, 1]) (bodyQ Tryd.prog Tryd.f21.results.toList K E)) (bodyQ Tryd.prog Tryd.f21.results.toList K E)))))) #[x0, x1, x2, x3, x4, x5, x6, x7, x8, x9, x10, x11, x12, x13, x14, x15, x16, x17, x18, x19, x20, x21, x22, x23, x24, x25, x26, x27, x28, x29, x30, x31, x32, x33, x34, x35, x36, x37, x38, x39, x40, x41, x42] =
  ld true 2 x9 fun t1 =>
  nws 39 1 (bsC #[(.slice none 0 0), (.int .i64 0)] 2 1 #[(0, t1)]) fun t2 =>
  appX 39 2 32 x7 t2 fun t3 =>
  den Tryd.prog (sel (bodyOf Tryd.f21) [1, 1, 0, 1, 0, 0, 1, 1]) (thenD k1 (blk 0 (thenD (den Tryd.prog (sel (bodyOf Tryd.f21) [1, 1, 1]) (bodyQ Tryd.prog Tryd.f21.results.toList K E)) (bodyQ Tryd.prog Tryd.f21.results.toList K E)))) #[x0, x1, x2, x3, x4, x5, x6, t3, x8, x9, x10, x11, x12, x13, x14, x15, x16, x17, x18, x19, x20, x21, x22, x23, x24, x25, x26, x27, x28, x29, x30, x31, x32, x33, x34, x35, x36, x37, x7, t1, t2, t3, x42] := by kernel_rfl
theorem t21_1_1_0_1_0_0_1_1 (K : Kont) (E : PanK) (k1 : Env → Hp → Prop) (x0 x1 x2 x3 x4 x5 x6 x7 x8 x9 x10 x11 x12 x13 x14 x15 x16 x17 x18 x19 x20 x21 x22 x23 x24 x25 x26 x27 x28 x29 x30 x31 x32 x33 x34 x35 x36 x37 x38 x39 x40 x41 x42 : Value)  : den Tryd.prog (sel (bodyOf Tryd.f21) [1, 1, 0, 1, 0, 0, 1, 1]) (thenD k1 (blk 0 (thenD (den Tryd.prog (sel (bodyOf Tryd.f21) [1, 1, 1]) (bodyQ Tryd.prog Tryd.f21.results.toList K E)) (bodyQ Tryd.prog Tryd.f21.results.toList K E)))) #[x0, x1, x2, x3, x4, x5, x6, x7, x8, x9, x10, x11, x12, x13, x14, x15, x16, x17, x18, x19, x20, x21, x22, x23, x24, x25, x26, x27, x28, x29, x30, x31, x32, x33, x34, x35, x36, x37, x38, x39, x40, x41, x42] =
  pv (binV .none .add x8 (.int .i64 1)) fun t1 =>
  k1 (m21_1_1_0_1_0_0 x0 x1 x2 x3 x4 x5 x6 x42 x7 t1 (jf #[x0, x1, x2, x3, x4, x5, x6, x7, t1, x9, x10, x11, x12, x13, x14, x15, x16, x17, x8, t1, x20, x21, x22, x23, x24, x25, x26, x27, x28, x29, x30, x31, x32, x33, x34, x35, x36, x37, x38, x39, x40, x41, x42])) := by kernel_rfl
theorem l21_1_1_0_1_0_0 {K : Kont} {E : PanK} {σ : Type} {x0 x1 x2 x3 x4 x5 x6 x42 v7 v8 y9 y10 y11 y12 y13 y14 y15 y16 y17 y18 y19 y20 y21 y22 y23 y24 y25 y26 y27 y28 y29 y30 y31 y32 y33 y34 y35 y36 y37 y38 y39 y40 y41 : Value} {h : Hp} (f7 f8 : σ → Value) (I : σ → Hp → Prop) (μ : σ → Nat) (s0 : σ) (e7 : v7 = f7 s0) (e8 : v8 = f8 s0) (h0 : h.wf → ∃ h', h.wk h' ∧ I s0 h')
  (round : ∀ (k1 : Env → Hp → Prop) (s : σ) (j : Nat → Value) (h : Hp), I s h → h.wf → (∀ s' j' h', μ s' < μ s → (h'.wf → ∃ h'', h'.wk h'' ∧ I s' h'') → k1 (m21_1_1_0_1_0_0 x0 x1 x2 x3 x4 x5 x6 x42 (f7 s') (f8 s') j') h') → (
  pv (lenV x1) fun t1 =>
  pv (binV .none .lss (f8 s) t1) fun t2 =>
  gdK t2 true (fun k => k (f8 s)) fun t3 =>
  gdK t2 true (fun k => pv (binV .none .lss t3 (.int .i64 200)) k) fun t4 =>
  pv (pickV t2 t4 (.bool false)) fun t5 =>
  cnd t5 (
    pv (iaV none 1 x1 (f8 s)) fun t6 =>
    ld false 1 t6 fun t7 =>
    callv Tryd.prog (.func (.func 48) #[] #[]) #[x0, t7] (fun t8 =>
    pv (bdC #[(.slice none 0 0), (.int .i64 0)] [(0, 1), (1, 1)] #[(0, t8)]) fun t9 =>
    nw 39 [(.slice none 0 0), (.int .i64 0)] fun t10 =>
    st 2 t10 t9 fun _ =>
    pv (lenV x2) fun t11 =>
    pv (binV .none .gtr t11 (.int .i64 0)) fun t12 =>
    cnd t12 (
      pv (lenV x2) fun t13 =>
      pv (binV .none .rem (f8 s) t13) fun t14 =>
      pv (iaV none 1 x2 t14) fun t15 =>
      ld false 1 t15 fun t16 =>
      pv (faV 1 t10) fun t17 =>
      st 1 t17 t16 fun _ =>
      den Tryd.prog (sel (bodyOf Tryd.f21) [1, 1, 0, 1, 0, 0, 1, 0, 0, 1, 1]) (blk 1 (thenD (den Tryd.prog (sel (bodyOf Tryd.f21) [1, 1, 0, 1, 0, 0, 1, 1]) (thenD k1 (blk 0 (thenD (den Tryd.prog (sel (bodyOf Tryd.f21) [1, 1, 1]) (bodyQ Tryd.prog Tryd.f21.results.toList K E)) (bodyQ Tryd.prog Tryd.f21.results.toList K E))))) (thenD k1 (blk 0 (thenD (den Tryd.prog (sel (bodyOf Tryd.f21) [1, 1, 1]) (bodyQ Tryd.prog Tryd.f21.results.toList K E)) (bodyQ Tryd.prog Tryd.f21.results.toList K E)))))) #[x0, x1, x2, x3, x4, x5, x6, (f7 s), (f8 s), t10, (f8 s), x1, t1, t2, t2, t3, t4, t5, (j 18), (j 19), x0, x1, (f8 s), t6, t7, t8, t9, x2, t11, t12, x2, (f8 s), x2, t13, t14, t15, t16, t17, (j 38), (j 39), (j 40), (j 41), x42]) (
      den Tryd.prog (sel (bodyOf Tryd.f21) [1, 1, 0, 1, 0, 0, 1, 0, 0, 1, 1]) (blk 1 (thenD (den Tryd.prog (sel (bodyOf Tryd.f21) [1, 1, 0, 1, 0, 0, 1, 1]) (thenD k1 (blk 0 (thenD (den Tryd.prog (sel (bodyOf Tryd.f21) [1, 1, 1]) (bodyQ Tryd.prog Tryd.f21.results.toList K E)) (bodyQ Tryd.prog Tryd.f21.results.toList K E))))) (thenD k1 (blk 0 (thenD (den Tryd.prog (sel (bodyOf Tryd.f21) [1, 1, 1]) (bodyQ Tryd.prog Tryd.f21.results.toList K E)) (bodyQ Tryd.prog Tryd.f21.results.toList K E)))))) #[x0, x1, x2, x3, x4, x5, x6, (f7 s), (f8 s), t10, (f8 s), x1, t1, t2, t2, t3, t4, t5, (j 18), (j 19), x0, x1, (f8 s), t6, t7, t8, t9, x2, t11, t12, (j 30), (j 31), (j 32), (j 33), (j 34), (j 35), (j 36), (j 37), (j 38), (j 39), (j 40), (j 41), x42])) E) (
    den Tryd.prog (sel (bodyOf Tryd.f21) [1, 1, 1]) (bodyQ Tryd.prog Tryd.f21.results.toList K E) #[x0, x1, x2, x3, x4, x5, x6, (f7 s), (f8 s), (j 9), (f8 s), x1, t1, t2, t2, t3, t4, t5, (j 18), (j 19), (j 20), (j 21), (j 22), (j 23), (j 24), (j 25), (j 26), (j 27), (j 28), (j 29), (j 30), (j 31), (j 32), (j 33), (j 34), (j 35), (j 36), (j 37), (j 38), (j 39), (j 40), (j 41), x42])) h) :
  lp (fun k1 => den Tryd.prog (sel (bodyOf Tryd.f21) [1, 1, 0, 1, 0, 0]) (thenD k1 (blk 0 (thenD (den Tryd.prog (sel (bodyOf Tryd.f21) [1, 1, 1]) (bodyQ Tryd.prog Tryd.f21.results.toList K E)) (bodyQ Tryd.prog Tryd.f21.results.toList K E))))) #[x0, x1, x2, x3, x4, x5, x6, v7, v8, y9, y10, y11, y12, y13, y14, y15, y16, y17, y18, y19, y20, y21, y22, y23, y24, y25, y26, y27, y28, y29, y30, y31, y32, y33, y34, y35, y36, y37, y38, y39, y40, y41, x42] h := by
  subst e7
  subst e8
  have e : (#[x0, x1, x2, x3, x4, x5, x6, (f7 s0), (f8 s0), y9, y10, y11, y12, y13, y14, y15, y16, y17, y18, y19, y20, y21, y22, y23, y24, y25, y26, y27, y28, y29, y30, y31, y32, y33, y34, y35, y36, y37, y38, y39, y40, y41, x42] : Env) = m21_1_1_0_1_0_0 x0 x1 x2 x3 x4 x5 x6 x42 (f7 s0) (f8 s0) (jf #[x0, x1, x2, x3, x4, x5, x6, (f7 s0), (f8 s0), y9, y10, y11, y12, y13, y14, y15, y16, y17, y18, y19, y20, y21, y22, y23, y24, y25, y26, y27, y28, y29, y30, y31, y32, y33, y34, y35, y36, y37, y38, y39, y40, y41, x42]) := by kernel_rfl
  rw [e]
  exact loop_r (fun s j => m21_1_1_0_1_0_0 x0 x1 x2 x3 x4 x5 x6 x42 (f7 s) (f8 s) j) I μ (fun k s j h hI hw next => by rw [t21_1_1_0_1_0_0]; exact round k s j h hI hw next) s0 (jf #[x0, x1, x2, x3, x4, x5, x6, (f7 s0), (f8 s0), y9, y10, y11, y12, y13, y14, y15, y16, y17, y18, y19, y20, y21, y22, y23, y24, y25, y26, y27, y28, y29, y30, y31, y32, y33, y34, y35, y36, y37, y38, y39, y40, y41, x42]) h0

theorem t48 (K : Kont) (E : PanK) (x0 x1 : Value)  : den Tryd.prog (sel (bodyOf Tryd.f48) []) (bodyQ Tryd.prog Tryd.f48.results.toList K E) #[x0, x1, undef, undef, undef, undef, undef, undef, undef, undef, undef, undef, undef, undef, undef, undef, undef, undef, undef, undef, undef, undef, undef, undef, undef, undef, undef, undef, undef, undef, undef, undef, undef, undef] =
  lp (fun k1 => den Tryd.prog (sel (bodyOf Tryd.f48) [1, 1, 0, 1, 0, 0]) (thenD k1 (blk 0 (thenD (den Tryd.prog (sel (bodyOf Tryd.f48) [1, 1, 1]) (bodyQ Tryd.prog Tryd.f48.results.toList K E)) (bodyQ Tryd.prog Tryd.f48.results.toList K E))))) #[x0, x1, undef, undef, (.slice none 0 0), (.slice none 0 0), (.int .i64 0), undef, undef, undef, undef, undef, undef, undef, undef, undef, undef, undef, undef, undef, undef, undef, undef, undef, undef, undef, undef, undef, undef, undef, undef, undef, undef, undef] := by kernel_rfl
def m48_1_1_0_1_0_0 (x0 x1 x2 x3 x4 x33 : Value) (v5 v6 : Value) (j : Nat → Value) : Env := #[x0, x1, x2, x3, x4, v5, v6, (j 7), (j 8), (j 9), (j 10), (j 11), (j 12), (j 13), (j 14), (j 15), (j 16), (j 17), (j 18), (j 19), (j 20), (j 21), (j 22), (j 23), (j 24), (j 25), (j 26), (j 27), (j 28), (j 29), (j 30), (j 31), (j 32), x33]
theorem t48_1_1_0_1_0_0 (K : Kont) (E : PanK) (k1 : Env → Hp → Prop) (x0 x1 x2 x3 x4 x33 v5 v6 : Value) (j : Nat → Value) : den Tryd.prog (sel (bodyOf Tryd.f48) [1, 1, 0, 1, 0, 0]) (thenD k1 (blk 0 (thenD (den Tryd.prog (sel (bodyOf Tryd.f48) [1, 1, 1]) (bodyQ Tryd.prog Tryd.f48.results.toList K E)) (bodyQ Tryd.prog Tryd.f48.results.toList K E)))) (m48_1_1_0_1_0_0 x0 x1 x2 x3 x4 x33 v5 v6 j) =
  pv (lenV x0) fun t1 =>
  pv (binV .none .lss v6 t1) fun t2 =>
  cnd t2 (
    pv (lenV x1) fun t3 =>
    pv (binV .none .lss v6 t3) fun t4 =>
    cnd t4 (
      pv (iaV none 1 x1 v6) fun t5 =>
      ld false 1 t5 fun t6 =>
      pv (cvV .i64 t6) fun t7 =>
      den Tryd.prog (sel (bodyOf Tryd.f48) [1, 1, 0, 1, 0, 0, 1, 0, 0, 1, 1]) (blk 1 (thenD (den Tryd.prog (sel (bodyOf Tryd.f48) [1, 1, 0, 1, 0, 0, 1, 1]) (thenD k1 (blk 0 (thenD (den Tryd.prog (sel (bodyOf Tryd.f48) [1, 1, 1]) (bodyQ Tryd.prog Tryd.f48.results.toList K E)) (bodyQ Tryd.prog Tryd.f48.results.toList K E))))) (thenD k1 (blk 0 (thenD (den Tryd.prog (sel (bodyOf Tryd.f48) [1, 1, 1]) (bodyQ Tryd.prog Tryd.f48.results.toList K E)) (bodyQ Tryd.prog Tryd.f48.results.toList K E)))))) #[x0, x1, x2, x3, x4, v5, v6, t7, v6, x0, t1, t2, (j 12), (j 13), v6, x1, t3, t4, x1, v6, t5, t6, t7, (j 23), (j 24), (j 25), (j 26), (j 27), (j 28), (j 29), (j 30), (j 31), (j 32), x33]) (
      den Tryd.prog (sel (bodyOf Tryd.f48) [1, 1, 0, 1, 0, 0, 1, 0, 0, 1, 1]) (blk 1 (thenD (den Tryd.prog (sel (bodyOf Tryd.f48) [1, 1, 0, 1, 0, 0, 1, 1]) (thenD k1 (blk 0 (thenD (den Tryd.prog (sel (bodyOf Tryd.f48) [1, 1, 1]) (bodyQ Tryd.prog Tryd.f48.results.toList K E)) (bodyQ Tryd.prog Tryd.f48.results.toList K E))))) (thenD k1 (blk 0 (thenD (den Tryd.prog (sel (bodyOf Tryd.f48) [1, 1, 1]) (bodyQ Tryd.prog Tryd.f48.results.toList K E)) (bodyQ Tryd.prog Tryd.f48.results.toList K E)))))) #[x0, x1, x2, x3, x4, v5, v6, (.int .i64 0), v6, x0, t1, t2, (j 12), (j 13), v6, x1, t3, t4, (j 18), (j 19), (j 20), (j 21), (j 22), (j 23), (j 24), (j 25), (j 26), (j 27), (j 28), (j 29), (j 30), (j 31), (j 32), x33])) (
    den Tryd.prog (sel (bodyOf Tryd.f48) [1, 1, 1]) (bodyQ Tryd.prog Tryd.f48.results.toList K E) #[x0, x1, x2, x3, x4, v5, v6, (j 7), v6, x0, t1, t2, (j 12), (j 13), (j 14), (j 15), (j 16), (j 17), (j 18), (j 19), (j 20), (j 21), (j 22), (j 23), (j 24), (j 25), (j 26), (j 27), (j 28), (j 29), (j 30), (j 31), (j 32), x33]) := by kernel_rfl
theorem t48_1_1_1 (K : Kont) (E : PanK) (x0 x1 x2 x3 x4 x5 x6 x7 x8 x9 x10 x11 x12 x13 x14 x15 x16 x17 x18 x19 x20 x21 x22 x23 x24 x25 x26 x27 x28 x29 x30 x31 x32 x33 : Value)  : den Tryd.prog (sel (bodyOf Tryd.f48) [1, 1, 1]) (bodyQ Tryd.prog Tryd.f48.results.toList K E) #[x0, x1, x2, x3, x4, x5, x6, x7, x8, x9, x10, x11, x12, x13, x14, x15, x16, x17, x18, x19, x20, x21, x22, x23, x24, x25, x26, x27, x28, x29, x30, x31, x32, x33] =
  K x5 := by kernel_rfl
theorem t48_1_1_0_1_0_0_1_0_0_1_1 (K : Kont) (E : PanK) (k1 : Env → Hp → Prop) (x0 x1 x2 x3 x4 x5 x6 x7 x8 x9 x10 x11 x12 x13 x14 x15 x16 x17 x18 x19 x20 x21 x22 x23 x24 x25 x26 x27 x28 x29 x30 x31 x32 x33 : Value)  : den Tryd.prog (sel (bodyOf Tryd.f48) [1, 1, 0, 1, 0, 0, 1, 0, 0, 1, 1]) (blk 1 (thenD (den Tryd.prog (sel (bodyOf Tryd.f48) [1, 1, 0, 1, 0, 0, 1, 1]) (thenD k1 (blk 0 (thenD (den Tryd.prog (sel (bodyOf Tryd.f48) [1, 1, 1]) (bodyQ Tryd.prog Tryd.f48.results.toList K E)) (bodyQ Tryd.prog Tryd.f48.results.toList K E))))) (thenD k1 (blk 0 (thenD (den Tryd.prog (sel (bodyOf Tryd.f48) [1, 1, 1]) (bodyQ Tryd.prog Tryd.f48.results.toList K E)) (bodyQ Tryd.prog Tryd.f48.results.toList K E)))))) #[x0, x1, x2, x3, x4, x5, x6, x7, x8, x9, x10, x11, x12, x13, x14, x15, x16, x17, x18, x19, x20, x21, x22, x23, x24, x25, x26, x27, x28, x29, x30, x31, x32, x33] =
  pv (iaV none 2 x0 x6) fun t1 =>
  pv (faV 0 t1) fun t2 =>
  ld false 1 t2 fun t3 =>
  pv (binV .none .rem x7 t3) fun t4 =>
  nws 3 1 (bsC #[(.int .i64 0)] 1 1 #[(0, t4)]) fun t5 =>
  appX 3 1 8 x5 t5 fun t6 =>
  den Tryd.prog (sel (bodyOf Tryd.f48) [1, 1, 0, 1, 0, 0, 1, 1]) (thenD k1 (blk 0 (thenD (den Tryd.prog (sel (bodyOf Tryd.f48) [1, 1, 1]) (bodyQ Tryd.prog Tryd.f48.results.toList K E)) (bodyQ Tryd.prog Tryd.f48.results.toList K E)))) #[x0, x1, x2, x3, x4, t6, x6, x7, x8, x9, x10, x11, x12, x13, x14, x15, x16, x17, x18, x19, x20, x21, x22, x5, x7, x0, x6, t1, t2, t3, t4, t5, t6, x33] := by kernel_rfl
theorem t48_1_1_0_1_0_0_1_1 (K : Kont) (E : PanK) (k1 : Env → Hp → Prop) (x0 x1 x2 x3 x4 x5 x6 x7 x8 x9 x10 x11 x12 x13 x14 x15 x16 x17 x18 x19 x20 x21 x22 x23 x24 x25 x26 x27 x28 x29 x30 x31 x32 x33 : Value)  : den Tryd.prog (sel (bodyOf Tryd.f48) [1, 1, 0, 1, 0, 0, 1, 1]) (thenD k1 (blk 0 (thenD (den Tryd.prog (sel (bodyOf Tryd.f48) [1, 1, 1]) (bodyQ Tryd.prog Tryd.f48.results.toList K E)) (bodyQ Tryd.prog Tryd.f48.results.toList K E)))) #[x0, x1, x2, x3, x4, x5, x6, x7, x8, x9, x10, x11, x12, x13, x14, x15, x16, x17, x18, x19, x20, x21, x22, x23, x24, x25, x26, x27, x28, x29, x30, x31, x32, x33] =
  pv (binV .none .add x6 (.int .i64 1)) fun t1 =>
  k1 (m48_1_1_0_1_0_0 x0 x1 x2 x3 x4 x33 x5 t1 (jf #[x0, x1, x2, x3, x4, x5, t1, x7, x8, x9, x10, x11, x6, t1, x14, x15, x16, x17, x18, x19, x20, x21, x22, x23, x24, x25, x26, x27, x28, x29, x30, x31, x32, x33])) := by kernel_rfl
theorem l48_1_1_0_1_0_0 {K : Kont} {E : PanK} {σ : Type} {x0 x1 x2 x3 x4 x33 v5 v6 y7 y8 y9 y10 y11 y12 y13 y14 y15 y16 y17 y18 y19 y20 y21 y22 y23 y24 y25 y26 y27 y28 y29 y30 y31 y32 : Value} {h : Hp} (f5 f6 : σ → Value) (I : σ → Hp → Prop) (μ : σ → Nat) (s0 : σ) (e5 : v5 = f5 s0) (e6 : v6 = f6 s0) (h0 : h.wf → ∃ h', h.wk h' ∧ I s0 h')
  (round : ∀ (k1 : Env → Hp → Prop) (s : σ) (j : Nat → Value) (h : Hp), I s h → h.wf → (∀ s' j' h', μ s' < μ s → (h'.wf → ∃ h'', h'.wk h'' ∧ I s' h'') → k1 (m48_1_1_0_1_0_0 x0 x1 x2 x3 x4 x33 (f5 s') (f6 s') j') h') → (
  pv (lenV x0) fun t1 =>
  pv (binV .none .lss (f6 s) t1) fun t2 =>
  cnd t2 (
    pv (lenV x1) fun t3 =>
    pv (binV .none .lss (f6 s) t3) fun t4 =>
    cnd t4 (
      pv (iaV none 1 x1 (f6 s)) fun t5 =>
      ld false 1 t5 fun t6 =>
      pv (cvV .i64 t6) fun t7 =>
      den Tryd.prog (sel (bodyOf Tryd.f48) [1, 1, 0, 1, 0, 0, 1, 0, 0, 1, 1]) (blk 1 (thenD (den Tryd.prog (sel (bodyOf Tryd.f48) [1, 1, 0, 1, 0, 0, 1, 1]) (thenD k1 (blk 0 (thenD (den Tryd.prog (sel (bodyOf Tryd.f48) [1, 1, 1]) (bodyQ Tryd.prog Tryd.f48.results.toList K E)) (bodyQ Tryd.prog Tryd.f48.results.toList K E))))) (thenD k1 (blk 0 (thenD (den Tryd.prog (sel (bodyOf Tryd.f48) [1, 1, 1]) (bodyQ Tryd.prog Tryd.f48.results.toList K E)) (bodyQ Tryd.prog Tryd.f48.results.toList K E)))))) #[x0, x1, x2, x3, x4, (f5 s), (f6 s), t7, (f6 s), x0, t1, t2, (j 12), (j 13), (f6 s), x1, t3, t4, x1, (f6 s), t5, t6, t7, (j 23), (j 24), (j 25), (j 26), (j 27), (j 28), (j 29), (j 30), (j 31), (j 32), x33]) (
      den Tryd.prog (sel (bodyOf Tryd.f48) [1, 1, 0, 1, 0, 0, 1, 0, 0, 1, 1]) (blk 1 (thenD (den Tryd.prog (sel (bodyOf Tryd.f48) [1, 1, 0, 1, 0, 0, 1, 1]) (thenD k1 (blk 0 (thenD (den Tryd.prog (sel (bodyOf Tryd.f48) [1, 1, 1]) (bodyQ Tryd.prog Tryd.f48.results.toList K E)) (bodyQ Tryd.prog Tryd.f48.results.toList K E))))) (thenD k1 (blk 0 (thenD (den Tryd.prog (sel (bodyOf Tryd.f48) [1, 1, 1]) (bodyQ Tryd.prog Tryd.f48.results.toList K E)) (bodyQ Tryd.prog Tryd.f48.results.toList K E)))))) #[x0, x1, x2, x3, x4, (f5 s), (f6 s), (.int .i64 0), (f6 s), x0, t1, t2, (j 12), (j 13), (f6 s), x1, t3, t4, (j 18), (j 19), (j 20), (j 21), (j 22), (j 23), (j 24), (j 25), (j 26), (j 27), (j 28), (j 29), (j 30), (j 31), (j 32), x33])) (
    den Tryd.prog (sel (bodyOf Tryd.f48) [1, 1, 1]) (bodyQ Tryd.prog Tryd.f48.results.toList K E) #[x0, x1, x2, x3, x4, (f5 s), (f6 s), (j 7), (f6 s), x0, t1, t2, (j 12), (j 13), (j 14), (j 15), (j 16), (j 17), (j 18), (j 19), (j 20), (j 21), (j 22), (j 23), (j 24), (j 25), (j 26), (j 27), (j 28), (j 29), (j 30), (j 31), (j 32), x33])) h) :
  lp (fun k1 => den Tryd.prog (sel (bodyOf Tryd.f48) [1, 1, 0, 1, 0, 0]) (thenD k1 (blk 0 (thenD (den Tryd.prog (sel (bodyOf Tryd.f48) [1, 1, 1]) (bodyQ Tryd.prog Tryd.f48.results.toList K E)) (bodyQ Tryd.prog Tryd.f48.results.toList K E))))) #[x0, x1, x2, x3, x4, v5, v6, y7, y8, y9, y10, y11, y12, y13, y14, y15, y16, y17, y18, y19, y20, y21, y22, y23, y24, y25, y26, y27, y28, y29, y30, y31, y32, x33] h := by
  subst e5
  subst e6
  have e : (#[x0, x1, x2, x3, x4, (f5 s0), (f6 s0), y7, y8, y9, y10, y11, y12, y13, y14, y15, y16, y17, y18, y19, y20, y21, y22, y23, y24, y25, y26, y27, y28, y29, y30, y31, y32, x33] : Env) = m48_1_1_0_1_0_0 x0 x1 x2 x3 x4 x33 (f5 s0) (f6 s0) (jf #[x0, x1, x2, x3, x4, (f5 s0), (f6 s0), y7, y8, y9, y10, y11, y12, y13, y14, y15, y16, y17, y18, y19, y20, y21, y22, y23, y24, y25, y26, y27, y28, y29, y30, y31, y32, x33]) := by kernel_rfl
  rw [e]
  exact loop_r (fun s j => m48_1_1_0_1_0_0 x0 x1 x2 x3 x4 x33 (f5 s) (f6 s) j) I μ (fun k s j h hI hw next => by rw [t48_1_1_0_1_0_0]; exact round k s j h hI hw next) s0 (jf #[x0, x1, x2, x3, x4, (f5 s0), (f6 s0), y7, y8, y9, y10, y11, y12, y13, y14, y15, y16, y17, y18, y19, y20, y21, y22, y23, y24, y25, y26, y27, y28, y29, y30, y31, y32, x33]) h0

end Go.Proofs.YthpacapdaembpaaDoor.T
