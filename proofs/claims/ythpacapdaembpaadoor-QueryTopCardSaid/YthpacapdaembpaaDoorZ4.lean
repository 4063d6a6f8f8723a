import Derived.Test.YthpacapdaembpaaDoorProg
import Derived.Test.YthpacapdaembpaaDoorZ1
import Derived.Test.YthpacapdaembpaaDoorZ3
import Derived.Test.YthpacapdaembpaaDoorZ2
open Go Go.RowKit Go.Proofs.YthpacapdaembpaaDoor.K
set_option linter.unusedVariables false
set_option maxRecDepth 100000
namespace Go.Proofs.YthpacapdaembpaaDoor.T
theorem t31 (K : Kont) (E : PanK) (x0 x1 x2 x3 : Value)  : den Tryd.prog (sel (bodyOf Tryd.f31) []) (bodyQ Tryd.prog Tryd.f31.results.toList K E) #[x0, x1, x2, x3, undef, undef, undef, undef, undef, undef, undef, undef, undef, undef, undef, undef, undef, undef, undef, undef, undef, undef, undef, undef, undef, undef, undef, undef, undef] =
  nw 28 (Value.cells x0).toList fun t1 =>
  nw 37 (Value.cells x2).toList fun t2 =>
  nw 37 (Value.cells x3).toList fun t3 =>
  ld false 1 t1 fun t4 =>
  callv Tryd.prog (.func (.func 57) #[] #[]) #[t4] (fun t5 =>
  pv (unV .not t5) fun t6 =>
  cnd t6 (
    K (.tuple #[(.slice none 0 0), (.int .u16 30)])) (
    ld false 1 t1 fun t7 =>
    ld false 1 t2 fun t8 =>
    ld false 1 t3 fun t9 =>
    callv Tryd.prog (.func (.func 58) #[] #[]) #[t7, t8, t9] (fun t10 =>
    pv (unV .not t10) fun t11 =>
    cnd t11 (
      K (.tuple #[(.slice none 0 0), (.int .u16 40)])) (
      ld false 1 t1 fun t12 =>
      pv (lenV t12) fun t13 =>
      callv Tryd.prog (.func (.func 22) #[] #[]) #[x1, t13] (fun t14 =>
      pv (unV .not t14) fun t15 =>
      cnd t15 (
        K (.tuple #[(.slice none 0 0), (.int .u16 1)])) (
        callv Tryd.prog (.func (.func 54) #[] #[]) #[x1, (.func (.func 59) #[] #[t1, t2, t3])] (fun t16 =>
        K (.tuple #[t16, (.int .u16 0)])) E)) E)) E)) E := by kernel_rfl

theorem t32 (K : Kont) (E : PanK) (x0 x1 x2 x3 : Value)  : den Tryd.prog (sel (bodyOf Tryd.f32) []) (bodyQ Tryd.prog Tryd.f32.results.toList K E) #[x0, x1, x2, x3, undef, undef, undef, undef, undef, undef, undef, undef, undef, undef, undef, undef, undef, undef, undef, undef, undef, undef, undef, undef, undef, undef, undef, undef, undef, undef, undef, undef, undef, undef, undef, undef, undef, undef, undef, undef, undef, undef, undef, undef, undef, undef, undef, undef, undef] =
  callv Tryd.prog (.func (.func 61) #[] #[]) #[x0] (fun t1 =>
  pv (unV .not t1) fun t2 =>
  cnd t2 (
    K (.tuple #[(.slice none 0 0), (.int .i64 30)])) (
    callv Tryd.prog (.func (.func 62) #[] #[]) #[x0, x2, x3] (fun t3 =>
    pv (unV .not t3) fun t4 =>
    cnd t4 (
      K (.tuple #[(.slice none 0 0), (.int .i64 40)])) (
      pv (lenV x0) fun t5 =>
      callv Tryd.prog (.func (.func 23) #[] #[]) #[x1, t5] (fun t6 =>
      pv (unV .not t6) fun t7 =>
      cnd t7 (
        K (.tuple #[(.slice none 0 0), (.int .i64 1)])) (
        lp (fun k1 => den Tryd.prog (sel (bodyOf Tryd.f32) [1, 1, 1, 1, 1, 0, 1, 0, 0]) (thenD k1 (blk 0 (thenD (den Tryd.prog (sel (bodyOf Tryd.f32) [1, 1, 1, 1, 1, 1]) (bodyQ Tryd.prog Tryd.f32.results.toList K E)) (bodyQ Tryd.prog Tryd.f32.results.toList K E))))) #[x0, x1, x2, x3, undef, undef, undef, undef, (.slice none 0 0), (.int .i64 0), (.slice none 0 0), (.int .i64 0), x0, t1, t2, x0, x2, x3, t3, t4, x1, x0, t5, t6, t7, undef, undef, undef, undef, undef, undef, undef, undef, undef, undef, undef, undef, undef, undef, undef, undef, undef, undef, undef, undef, undef, undef, undef, undef])) E)) E)) E := by kernel_rfl
def m32_1_1_1_1_1_0_1_0_0 (x0 x1 x2 x3 x4 x5 x6 x7 x8 x9 x12 x13 x14 x15 x16 x17 x18 x19 x20 x21 x22 x23 x24 x48 : Value) (v10 v11 : Value) (j : Nat → Value) : Env := #[x0, x1, x2, x3, x4, x5, x6, x7, x8, x9, v10, v11, x12, x13, x14, x15, x16, x17, x18, x19, x20, x21, x22, x23, x24, (j 25), (j 26), (j 27), (j 28), (j 29), (j 30), (j 31), (j 32), (j 33), (j 34), (j 35), (j 36), (j 37), (j 38), (j 39), (j 40), (j 41), (j 42), (j 43), (j 44), (j 45), (j 46), (j 47), x48]
theorem t32_1_1_1_1_1_0_1_0_0 (K : Kont) (E : PanK) (k1 : Env → Hp → Prop) (x0 x1 x2 x3 x4 x5 x6 x7 x8 x9 x12 x13 x14 x15 x16 x17 x18 x19 x20 x21 x22 x23 x24 x48 v10 v11 : Value) (j : Nat → Value) : den Tryd.prog (sel (bodyOf Tryd.f32) [1, 1, 1, 1, 1, 0, 1, 0, 0]) (thenD k1 (blk 0 (thenD (den Tryd.prog (sel (bodyOf Tryd.f32) [1, 1, 1, 1, 1, 1]) (bodyQ Tryd.prog Tryd.f32.results.toList K E)) (bodyQ Tryd.prog Tryd.f32.results.toList K E)))) (m32_1_1_1_1_1_0_1_0_0 x0 x1 x2 x3 x4 x5 x6 x7 x8 x9 x12 x13 x14 x15 x16 x17 x18 x19 x20 x21 x22 x23 x24 x48 v10 v11 j) =
  pv (lenV x1) fun t1 =>
  pv (binV .none .lss v11 t1) fun t2 =>
  cnd t2 (
    pv (iaV none 5 x1 v11) fun t3 =>
    pv (faV 0 t3) fun t4 =>
    ld false 1 t4 fun t5 =>
    pv (iaV none 5 x1 v11) fun t6 =>
    pv (faV 1 t6) fun t7 =>
    ld true 4 t7 fun t8 =>
    callv Tryd.prog (.func (.func 63) #[] #[]) #[x0, x2, x3, t5] (fun t9 h10 => (ldV h10 true 4 t7 t8) ∧ (
      pv (bdC #[(.slice none 0 0), (.int .i64 0), (.int .i64 0), (.int .i64 0), (.int .i64 0)] [(0, 1), (1, 4)] #[(0, t9), (1, t8)]) fun t11 =>
      callv Tryd.prog (.func (.func 51) #[] #[]) #[v10, t11] (fun t12 =>
      pv (binV .none .add v11 (.int .i64 1)) fun t13 =>
      k1 (m32_1_1_1_1_1_0_1_0_0 x0 x1 x2 x3 x4 x5 x6 x7 x8 x9 x12 x13 x14 x15 x16 x17 x18 x19 x20 x21 x22 x23 x24 x48 t12 t13 (jf #[x0, x1, x2, x3, x4, x5, x6, x7, x8, x9, t12, t13, x12, x13, x14, x15, x16, x17, x18, x19, x20, x21, x22, x23, x24, v11, x1, t1, t2, v11, t13, v10, x0, x2, x3, x1, v11, t3, t4, t5, t9, x1, v11, t6, t7, t8, t11, t12, x48]))) E) h10) E) (
    den Tryd.prog (sel (bodyOf Tryd.f32) [1, 1, 1, 1, 1, 1]) (bodyQ Tryd.prog Tryd.f32.results.toList K E) #[x0, x1, x2, x3, x4, x5, x6, x7, x8, x9, v10, v11, x12, x13, x14, x15, x16, x17, x18, x19, x20, x21, x22, x23, x24, v11, x1, t1, t2, (j 29), (j 30), (j 31), (j 32), (j 33), (j 34), (j 35), (j 36), (j 37), (j 38), (j 39), (j 40), (j 41), (j 42), (j 43), (j 44), (j 45), (j 46), (j 47), x48]) := by kernel_rfl
theorem t32_1_1_1_1_1_1 (K : Kont) (E : PanK) (x0 x1 x2 x3 x4 x5 x6 x7 x8 x9 x10 x11 x12 x13 x14 x15 x16 x17 x18 x19 x20 x21 x22 x23 x24 x25 x26 x27 x28 x29 x30 x31 x32 x33 x34 x35 x36 x37 x38 x39 x40 x41 x42 x43 x44 x45 x46 x47 x48 : Value)  : den Tryd.prog (sel (bodyOf Tryd.f32) [1, 1, 1, 1, 1, 1]) (bodyQ Tryd.prog Tryd.f32.results.toList K E) #[x0, x1, x2, x3, x4, x5, x6, x7, x8, x9, x10, x11, x12, x13, x14, x15, x16, x17, x18, x19, x20, x21, x22, x23, x24, x25, x26, x27, x28, x29, x30, x31, x32, x33, x34, x35, x36, x37, x38, x39, x40, x41, x42, x43, x44, x45, x46, x47, x48] =
  K (.tuple #[x10, (.int .i64 0)]) := by kernel_rfl
theorem l32_1_1_1_1_1_0_1_0_0 {K : Kont} {E : PanK} {σ : Type} {x0 x1 x2 x3 x4 x5 x6 x7 x8 x9 x12 x13 x14 x15 x16 x17 x18 x19 x20 x21 x22 x23 x24 x48 v10 v11 y25 y26 y27 y28 y29 y30 y31 y32 y33 y34 y35 y36 y37 y38 y39 y40 y41 y42 y43 y44 y45 y46 y47 : Value} {h : Hp} (f10 f11 : σ → Value) (I : σ → Hp → Prop) (μ : σ → Nat) (s0 : σ) (e10 : v10 = f10 s0) (e11 : v11 = f11 s0) (h0 : h.wf → ∃ h', h.wk h' ∧ I s0 h')
  (round : ∀ (k1 : Env → Hp → Prop) (s : σ) (j : Nat → Value) (h : Hp), I s h → h.wf → (∀ s' j' h', μ s' < μ s → (h'.wf → ∃ h'', h'.wk h'' ∧ I s' h'') → k1 (m32_1_1_1_1_1_0_1_0_0 x0 x1 x2 x3 x4 x5 x6 x7 x8 x9 x12 x13 x14 x15 x16 x17 x18 x19 x20 x21 x22 x23 x24 x48 (f10 s') (f11 s') j') h') → (
  pv (lenV x1) fun t1 =>
  pv (binV .none .lss (f11 s) t1) fun t2 =>
  cnd t2 (
    pv (iaV none 5 x1 (f11 s)) fun t3 =>
    pv (faV 0 t3) fun t4 =>
    ld false 1 t4 fun t5 =>
    pv (iaV none 5 x1 (f11 s)) fun t6 =>
    pv (faV 1 t6) fun t7 =>
    ld true 4 t7 fun t8 =>
    callv Tryd.prog (.func (.func 63) #[] #[]) #[x0, x2, x3, t5] (fun t9 h10 => (ldV h10 true 4 t7 t8) ∧ (
      pv (bdC #[(.slice none 0 0), (.int .i64 0), (.int .i64 0), (.int .i64 0), (.int .i64 0)] [(0, 1), (1, 4)] #[(0, t9), (1, t8)]) fun t11 =>
      callv Tryd.prog (.func (.func 51) #[] #[]) #[(f10 s), t11] (fun t12 =>
      pv (binV .none .add (f11 s) (.int .i64 1)) fun t13 =>
      k1 (m32_1_1_1_1_1_0_1_0_0 x0 x1 x2 x3 x4 x5 x6 x7 x8 x9 x12 x13 x14 x15 x16 x17 x18 x19 x20 x21 x22 x23 x24 x48 t12 t13 (jf #[x0, x1, x2, x3, x4, x5, x6, x7, x8, x9, t12, t13, x12, x13, x14, x15, x16, x17, x18, x19, x20, x21, x22, x23, x24, (f11 s), x1, t1, t2, (f11 s), t13, (f10 s), x0, x2, x3, x1, (f11 s), t3, t4, t5, t9, x1, (f11 s), t6, t7, t8, t11, t12, x48]))) E) h10) E) (
    den Tryd.prog (sel (bodyOf Tryd.f32) [1, 1, 1, 1, 1, 1]) (bodyQ Tryd.prog Tryd.f32.results.toList K E) #[x0, x1, x2, x3, x4, x5, x6, x7, x8, x9, (f10 s), (f11 s), x12, x13, x14, x15, x16, x17, x18, x19, x20, x21, x22, x23, x24, (f11 s), x1, t1, t2, (j 29), (j 30), (j 31), (j 32), (j 33), (j 34), (j 35), (j 36), (j 37), (j 38), (j 39), (j 40), (j 41), (j 42), (j 43), (j 44), (j 45), (j 46), (j 47), x48])) h) :
  lp (fun k1 => den Tryd.prog (sel (bodyOf Tryd.f32) [1, 1, 1, 1, 1, 0, 1, 0, 0]) (thenD k1 (blk 0 (thenD (den Tryd.prog (sel (bodyOf Tryd.f32) [1, 1, 1, 1, 1, 1]) (bodyQ Tryd.prog Tryd.f32.results.toList K E)) (bodyQ Tryd.prog Tryd.f32.results.toList K E))))) #[x0, x1, x2, x3, x4, x5, x6, x7, x8, x9, v10, v11, x12, x13, x14, x15, x16, x17, x18, x19, x20, x21, x22, x23, x24, y25, y26, y27, y28, y29, y30, y31, y32, y33, y34, y35, y36, y37, y38, y39, y40, y41, y42, y43, y44, y45, y46, y47, x48] h := by
  subst e10
  subst e11
  have e : (#[x0, x1, x2, x3, x4, x5, x6, x7, x8, x9, (f10 s0), (f11 s0), x12, x13, x14, x15, x16, x17, x18, x19, x20, x21, x22, x23, x24, y25, y26, y27, y28, y29, y30, y31, y32, y33, y34, y35, y36, y37, y38, y39, y40, y41, y42, y43, y44, y45, y46, y47, x48] : Env) = m32_1_1_1_1_1_0_1_0_0 x0 x1 x2 x3 x4 x5 x6 x7 x8 x9 x12 x13 x14 x15 x16 x17 x18 x19 x20 x21 x22 x23 x24 x48 (f10 s0) (f11 s0) (jf #[x0, x1, x2, x3, x4, x5, x6, x7, x8, x9, (f10 s0), (f11 s0), x12, x13, x14, x15, x16, x17, x18, x19, x20, x21, x22, x23, x24, y25, y26, y27, y28, y29, y30, y31, y32, y33, y34, y35, y36, y37, y38, y39, y40, y41, y42, y43, y44, y45, y46, y47, x48]) := by kernel_rfl
  rw [e]
  exact loop_r (fun s j => m32_1_1_1_1_1_0_1_0_0 x0 x1 x2 x3 x4 x5 x6 x7 x8 x9 x12 x13 x14 x15 x16 x17 x18 x19 x20 x21 x22 x23 x24 x48 (f10 s) (f11 s) j) I μ (fun k s j h hI hw next => by rw [t32_1_1_1_1_1_0_1_0_0]; exact round k s j h hI hw next) s0 (jf #[x0, x1, x2, x3, x4, x5, x6, x7, x8, x9, (f10 s0), (f11 s0), x12, x13, x14, x15, x16, x17, x18, x19, x20, x21, x22, x23, x24, y25, y26, y27, y28, y29, y30, y31, y32, y33, y34, y35, y36, y37, y38, y39, y40, y41, y42, y43, y44, y45, y46, y47, x48]) h0

theorem t33 (K : Kont) (E : PanK) (x0 x1 x2 : Value)  : den Tryd.prog (sel (bodyOf Tryd.f33) []) (bodyQ Tryd.prog Tryd.f33.results.toList K E) #[x0, x1, x2, undef, undef, undef, undef, undef, undef, undef, undef, undef, undef, undef, undef, undef, undef, undef, undef, undef, undef, undef, undef, undef, undef, undef, undef, undef, undef, undef, undef, undef, undef, undef, undef, undef, undef, undef, undef, undef, undef, undef, undef, undef, undef, undef, undef, undef, undef, undef, undef] =
  lp (fun k1 => den Tryd.prog (sel (bodyOf Tryd.f33) [1, 1, 0, 1, 0, 0]) (thenD k1 (blk 0 (thenD (den Tryd.prog (sel (bodyOf Tryd.f33) [1, 1, 1]) (bodyQ Tryd.prog Tryd.f33.results.toList K E)) (bodyQ Tryd.prog Tryd.f33.results.toList K E))))) #[x0, x1, x2, undef, undef, undef, (.slice none 0 0), (.slice none 0 0), (.int .i64 0), undef, undef, undef, undef, undef, undef, undef, undef, undef, undef, undef, undef, undef, undef, undef, undef, undef, undef, undef, undef, undef, undef, undef, undef, undef, undef, undef, undef, undef, undef, undef, undef, undef, undef, undef, undef, undef, undef, undef, undef, undef, undef] := by kernel_rfl
def m33_1_1_0_1_0_0 (x0 x1 x2 x3 x4 x5 x6 x50 : Value) (v7 v8 : Value) (j : Nat → Value) : Env := #[x0, x1, x2, x3, x4, x5, x6, v7, v8, (j 9), (j 10), (j 11), (j 12), (j 13), (j 14), (j 15), (j 16), (j 17), (j 18), (j 19), (j 20), (j 21), (j 22), (j 23), (j 24), (j 25), (j 26), (j 27), (j 28), (j 29), (j 30), (j 31), (j 32), (j 33), (j 34), (j 35), (j 36), (j 37), (j 38), (j 39), (j 40), (j 41), (j 42), (j 43), (j 44), (j 45), (j 46), (j 47), (j 48), (j 49), x50]
theorem t33_1_1_0_1_0_0 (K : Kont) (E : PanK) (k1 : Env → Hp → Prop) (x0 x1 x2 x3 x4 x5 x6 x50 v7 v8 : Value) (j : Nat → Value) : den Tryd.prog (sel (bodyOf Tryd.f33) [1, 1, 0, 1, 0, 0]) (thenD k1 (blk 0 (thenD (den Tryd.prog (sel (bodyOf Tryd.f33) [1, 1, 1]) (bodyQ Tryd.prog Tryd.f33.results.toList K E)) (bodyQ Tryd.prog Tryd.f33.results.toList K E)))) (m33_1_1_0_1_0_0 x0 x1 x2 x3 x4 x5 x6 x50 v7 v8 j) =
  pv (lenV x0) fun t1 =>
  pv (binV .none .lss v8 t1) fun t2 =>
  cnd t2 (
    pv (lenV x1) fun t3 =>
    pv (binV .none .lss v8 t3) fun t4 =>
    cnd t4 (
      pv (iaV none 1 x1 v8) fun t5 =>
      ld false 1 t5 fun t6 =>
      pv (cvV .i64 t6) fun t7 =>
      den Tryd.prog (sel (bodyOf Tryd.f33) [1, 1, 0, 1, 0, 0, 1, 0, 0, 1, 1, 1]) (blk 1 (thenD (den Tryd.prog (sel (bodyOf Tryd.f33) [1, 1, 0, 1, 0, 0, 1, 1]) (thenD k1 (blk 0 (thenD (den Tryd.prog (sel (bodyOf Tryd.f33) [1, 1, 1]) (bodyQ Tryd.prog Tryd.f33.results.toList K E)) (bodyQ Tryd.prog Tryd.f33.results.toList K E))))) (thenD k1 (blk 0 (thenD (den Tryd.prog (sel (bodyOf Tryd.f33) [1, 1, 1]) (bodyQ Tryd.prog Tryd.f33.results.toList K E)) (bodyQ Tryd.prog Tryd.f33.results.toList K E)))))) #[x0, x1, x2, x3, x4, x5, x6, v7, v8, t7, (.int .i64 0), v8, x0, t1, t2, (j 15), (j 16), v8, x1, t3, t4, x1, v8, t5, t6, t7, (j 26), (j 27), (j 28), (j 29), (j 30), (j 31), (j 32), (j 33), (j 34), (j 35), (j 36), (j 37), (j 38), (j 39), (j 40), (j 41), (j 42), (j 43), (j 44), (j 45), (j 46), (j 47), (j 48), (j 49), x50]) (
      den Tryd.prog (sel (bodyOf Tryd.f33) [1, 1, 0, 1, 0, 0, 1, 0, 0, 1, 1, 1]) (blk 1 (thenD (den Tryd.prog (sel (bodyOf Tryd.f33) [1, 1, 0, 1, 0, 0, 1, 1]) (thenD k1 (blk 0 (thenD (den Tryd.prog (sel (bodyOf Tryd.f33) [1, 1, 1]) (bodyQ Tryd.prog Tryd.f33.results.toList K E)) (bodyQ Tryd.prog Tryd.f33.results.toList K E))))) (thenD k1 (blk 0 (thenD (den Tryd.prog (sel (bodyOf Tryd.f33) [1, 1, 1]) (bodyQ Tryd.prog Tryd.f33.results.toList K E)) (bodyQ Tryd.prog Tryd.f33.results.toList K E)))))) #[x0, x1, x2, x3, x4, x5, x6, v7, v8, (.int .i64 0), (.int .i64 0), v8, x0, t1, t2, (j 15), (j 16), v8, x1, t3, t4, (j 21), (j 22), (j 23), (j 24), (j 25), (j 26), (j 27), (j 28), (j 29), (j 30), (j 31), (j 32), (j 33), (j 34), (j 35), (j 36), (j 37), (j 38), (j 39), (j 40), (j 41), (j 42), (j 43), (j 44), (j 45), (j 46), (j 47), (j 48), (j 49), x50])) (
    den Tryd.prog (sel (bodyOf Tryd.f33) [1, 1, 1]) (bodyQ Tryd.prog Tryd.f33.results.toList K E) #[x0, x1, x2, x3, x4, x5, x6, v7, v8, (j 9), (j 10), v8, x0, t1, t2, (j 15), (j 16), (j 17), (j 18), (j 19), (j 20), (j 21), (j 22), (j 23), (j 24), (j 25), (j 26), (j 27), (j 28), (j 29), (j 30), (j 31), (j 32), (j 33), (j 34), (j 35), (j 36), (j 37), (j 38), (j 39), (j 40), (j 41), (j 42), (j 43), (j 44), (j 45), (j 46), (j 47), (j 48), (j 49), x50]) := by kernel_rfl
theorem t33_1_1_1 (K : Kont) (E : PanK) (x0 x1 x2 x3 x4 x5 x6 x7 x8 x9 x10 x11 x12 x13 x14 x15 x16 x17 x18 x19 x20 x21 x22 x23 x24 x25 x26 x27 x28 x29 x30 x31 x32 x33 x34 x35 x36 x37 x38 x39 x40 x41 x42 x43 x44 x45 x46 x47 x48 x49 x50 : Value)  : den Tryd.prog (sel (bodyOf Tryd.f33) [1, 1, 1]) (bodyQ Tryd.prog Tryd.f33.results.toList K E) #[x0, x1, x2, x3, x4, x5, x6, x7, x8, x9, x10, x11, x12, x13, x14, x15, x16, x17, x18, x19, x20, x21, x22, x23, x24, x25, x26, x27, x28, x29, x30, x31, x32, x33, x34, x35, x36, x37, x38, x39, x40, x41, x42, x43, x44, x45, x46, x47, x48, x49, x50] =
  K x7 := by kernel_rfl
theorem t33_1_1_0_1_0_0_1_0_0_1_1_1 (K : Kont) (E : PanK) (k1 : Env → Hp → Prop) (x0 x1 x2 x3 x4 x5 x6 x7 x8 x9 x10 x11 x12 x13 x14 x15 x16 x17 x18 x19 x20 x21 x22 x23 x24 x25 x26 x27 x28 x29 x30 x31 x32 x33 x34 x35 x36 x37 x38 x39 x40 x41 x42 x43 x44 x45 x46 x47 x48 x49 x50 : Value)  : den Tryd.prog (sel (bodyOf Tryd.f33) [1, 1, 0, 1, 0, 0, 1, 0, 0, 1, 1, 1]) (blk 1 (thenD (den Tryd.prog (sel (bodyOf Tryd.f33) [1, 1, 0, 1, 0, 0, 1, 1]) (thenD k1 (blk 0 (thenD (den Tryd.prog (sel (bodyOf Tryd.f33) [1, 1, 1]) (bodyQ Tryd.prog Tryd.f33.results.toList K E)) (bodyQ Tryd.prog Tryd.f33.results.toList K E))))) (thenD k1 (blk 0 (thenD (den Tryd.prog (sel (bodyOf Tryd.f33) [1, 1, 1]) (bodyQ Tryd.prog Tryd.f33.results.toList K E)) (bodyQ Tryd.prog Tryd.f33.results.toList K E)))))) #[x0, x1, x2, x3, x4, x5, x6, x7, x8, x9, x10, x11, x12, x13, x14, x15, x16, x17, x18, x19, x20, x21, x22, x23, x24, x25, x26, x27, x28, x29, x30, x31, x32, x33, x34, x35, x36, x37, x38, x39, x40, x41, x42, x43, x44, x45, x46, x47, x48, x49, x50] =
  pv (lenV x2) fun t1 =>
  pv (binV .none .lss x8 t1) fun t2 =>
  cnd t2 (
    pv (iaV none 1 x2 x8) fun t3 =>
    ld false 1 t3 fun t4 =>
    den Tryd.prog (sel (bodyOf Tryd.f33) [1, 1, 0, 1, 0, 0, 1, 0, 0, 1, 1, 1, 1]) (blk 1 (thenD (den Tryd.prog (sel (bodyOf Tryd.f33) [1, 1, 0, 1, 0, 0, 1, 1]) (thenD k1 (blk 0 (thenD (den Tryd.prog (sel (bodyOf Tryd.f33) [1, 1, 1]) (bodyQ Tryd.prog Tryd.f33.results.toList K E)) (bodyQ Tryd.prog Tryd.f33.results.toList K E))))) (thenD k1 (blk 0 (thenD (den Tryd.prog (sel (bodyOf Tryd.f33) [1, 1, 1]) (bodyQ Tryd.prog Tryd.f33.results.toList K E)) (bodyQ Tryd.prog Tryd.f33.results.toList K E)))))) #[x0, x1, x2, x3, x4, x5, x6, x7, x8, x9, t4, x11, x12, x13, x14, x15, x16, x17, x18, x19, x20, x21, x22, x23, x24, x25, x8, x2, t1, t2, x2, x8, t3, t4, x34, x35, x36, x37, x38, x39, x40, x41, x42, x43, x44, x45, x46, x47, x48, x49, x50]) (
    den Tryd.prog (sel (bodyOf Tryd.f33) [1, 1, 0, 1, 0, 0, 1, 0, 0, 1, 1, 1, 1]) (blk 1 (thenD (den Tryd.prog (sel (bodyOf Tryd.f33) [1, 1, 0, 1, 0, 0, 1, 1]) (thenD k1 (blk 0 (thenD (den Tryd.prog (sel (bodyOf Tryd.f33) [1, 1, 1]) (bodyQ Tryd.prog Tryd.f33.results.toList K E)) (bodyQ Tryd.prog Tryd.f33.results.toList K E))))) (thenD k1 (blk 0 (thenD (den Tryd.prog (sel (bodyOf Tryd.f33) [1, 1, 1]) (bodyQ Tryd.prog Tryd.f33.results.toList K E)) (bodyQ Tryd.prog Tryd.f33.results.toList K E)))))) #[x0, x1, x2, x3, x4, x5, x6, x7, x8, x9, x10, x11, x12, x13, x14, x15, x16, x17, x18, x19, x20, x21, x22, x23, x24, x25, x8, x2, t1, t2, x30, x31, x32, x33, x34, x35, x36, x37, x38, x39, x40, x41, x42, x43, x44, x45, x46, x47, x48, x49, x50]) := by kernel_rfl
theorem t33_1_1_0_1_0_0_1_0_0_1_1_1_1 (K : Kont) (E : PanK) (k1 : Env → Hp → Prop) (x0 x1 x2 x3 x4 x5 x6 x7 x8 x9 x10 x11 x12 x13 x14 x15 x16 x17 x18 x19 x20 x21 x22 x23 x24 x25 x26 x27 x28 x29 x30 x31 x32 x33 x34 x35 x36 x37 x38 x39 x40 x41 x42 x43 x44 x45 x46 x47 x48 x49 x50 : Value)  : den Tryd.prog (sel (bodyOf Tryd.f33) [1, 1, 0, 1, 0, 0, 1, 0, 0, 1, 1, 1, 1]) (blk 1 (thenD (den Tryd.prog (sel (bodyOf Tryd.f33) [1, 1, 0, 1, 0, 0, 1, 1]) (thenD k1 (blk 0 (thenD (den Tryd.prog (sel (bodyOf Tryd.f33) [1, 1, 1]) (bodyQ Tryd.prog Tryd.f33.results.toList K E)) (bodyQ Tryd.prog Tryd.f33.results.toList K E))))) (thenD k1 (blk 0 (thenD (den Tryd.prog (sel (bodyOf Tryd.f33) [1, 1, 1]) (bodyQ Tryd.prog Tryd.f33.results.toList K E)) (bodyQ Tryd.prog Tryd.f33.results.toList K E)))))) #[x0, x1, x2, x3, x4, x5, x6, x7, x8, x9, x10, x11, x12, x13, x14, x15, x16, x17, x18, x19, x20, x21, x22, x23, x24, x25, x26, x27, x28, x29, x30, x31, x32, x33, x34, x35, x36, x37, x38, x39, x40, x41, x42, x43, x44, x45, x46, x47, x48, x49, x50] =
  pv (iaV none 2 x0 x8) fun t1 =>
  pv (faV 1 t1) fun t2 =>
  ld false 1 t2 fun t3 =>
  pv (lenV t3) fun t4 =>
  pv (binV .none .add t4 (.int .i64 2)) fun t5 =>
  pv (binV .none .sub t5 x10) fun t6 =>
  pv (binV .none .rem x9 t6) fun t7 =>
  pv (binV .none .add x10 t7) fun t8 =>
  nws 3 1 (bsC #[(.int .i64 0)] 1 1 #[(0, t8)]) fun t9 =>
  appX 3 1 8 x7 t9 fun t10 =>
  den Tryd.prog (sel (bodyOf Tryd.f33) [1, 1, 0, 1, 0, 0, 1, 1]) (thenD k1 (blk 0 (thenD (den Tryd.prog (sel (bodyOf Tryd.f33) [1, 1, 1]) (bodyQ Tryd.prog Tryd.f33.results.toList K E)) (bodyQ Tryd.prog Tryd.f33.results.toList K E)))) #[x0, x1, x2, x3, x4, x5, x6, t10, x8, x9, x10, x11, x12, x13, x14, x15, x16, x17, x18, x19, x20, x21, x22, x23, x24, x25, x26, x27, x28, x29, x30, x31, x32, x33, x7, x10, x9, x0, x8, t1, t2, t3, t4, t5, x10, t6, t7, t8, t9, t10, x50] := by kernel_rfl
theorem t33_1_1_0_1_0_0_1_1 (K : Kont) (E : PanK) (k1 : Env → Hp → Prop) (x0 x1 x2 x3 x4 x5 x6 x7 x8 x9 x10 x11 x12 x13 x14 x15 x16 x17 x18 x19 x20 x21 x22 x23 x24 x25 x26 x27 x28 x29 x30 x31 x32 x33 x34 x35 x36 x37 x38 x39 x40 x41 x42 x43 x44 x45 x46 x47 x48 x49 x50 : Value)  : den Tryd.prog (sel (bodyOf Tryd.f33) [1, 1, 0, 1, 0, 0, 1, 1]) (thenD k1 (blk 0 (thenD (den Tryd.prog (sel (bodyOf Tryd.f33) [1, 1, 1]) (bodyQ Tryd.prog Tryd.f33.results.toList K E)) (bodyQ Tryd.prog Tryd.f33.results.toList K E)))) #[x0, x1, x2, x3, x4, x5, x6, x7, x8, x9, x10, x11, x12, x13, x14, x15, x16, x17, x18, x19, x20, x21, x22, x23, x24, x25, x26, x27, x28, x29, x30, x31, x32, x33, x34, x35, x36, x37, x38, x39, x40, x41, x42, x43, x44, x45, x46, x47, x48, x49, x50] =
  pv (binV .none .add x8 (.int .i64 1)) fun t1 =>
  k1 (m33_1_1_0_1_0_0 x0 x1 x2 x3 x4 x5 x6 x50 x7 t1 (jf #[x0, x1, x2, x3, x4, x5, x6, x7, t1, x9, x10, x11, x12, x13, x14, x8, t1, x17, x18, x19, x20, x21, x22, x23, x24, x25, x26, x27, x28, x29, x30, x31, x32, x33, x34, x35, x36, x37, x38, x39, x40, x41, x42, x43, x44, x45, x46, x47, x48, x49, x50])) := by kernel_rfl
theorem l33_1_1_0_1_0_0 {K : Kont} {E : PanK} {σ : Type} {x0 x1 x2 x3 x4 x5 x6 x50 v7 v8 y9 y10 y11 y12 y13 y14 y15 y16 y17 y18 y19 y20 y21 y22 y23 y24 y25 y26 y27 y28 y29 y30 y31 y32 y33 y34 y35 y36 y37 y38 y39 y40 y41 y42 y43 y44 y45 y46 y47 y48 y49 : Value} {h : Hp} (f7 f8 : σ → Value) (I : σ → Hp → Prop) (μ : σ → Nat) (s0 : σ) (e7 : v7 = f7 s0) (e8 : v8 = f8 s0) (h0 : h.wf → ∃ h', h.wk h' ∧ I s0 h')
  (round : ∀ (k1 : Env → Hp → Prop) (s : σ) (j : Nat → Value) (h : Hp), I s h → h.wf → (∀ s' j' h', μ s' < μ s → (h'.wf → ∃ h'', h'.wk h'' ∧ I s' h'') → k1 (m33_1_1_0_1_0_0 x0 x1 x2 x3 x4 x5 x6 x50 (f7 s') (f8 s') j') h') → (
  pv (lenV x0) fun t1 =>
  pv (binV .none .lss (f8 s) t1) fun t2 =>
  cnd t2 (
    pv (lenV x1) fun t3 =>
    pv (binV .none .lss (f8 s) t3) fun t4 =>
    cnd t4 (
      pv (iaV none 1 x1 (f8 s)) fun t5 =>
      ld false 1 t5 fun t6 =>
      pv (cvV .i64 t6) fun t7 =>
      den Tryd.prog (sel (bodyOf Tryd.f33) [1, 1, 0, 1, 0, 0, 1, 0, 0, 1, 1, 1]) (blk 1 (thenD (den Tryd.prog (sel (bodyOf Tryd.f33) [1, 1, 0, 1, 0, 0, 1, 1]) (thenD k1 (blk 0 (thenD (den Tryd.prog (sel (bodyOf Tryd.f33) [1, 1, 1]) (bodyQ Tryd.prog Tryd.f33.results.toList K E)) (bodyQ Tryd.prog Tryd.f33.results.toList K E))))) (thenD k1 (blk 0 (thenD (den Tryd.prog (sel (bodyOf Tryd.f33) [1, 1, 1]) (bodyQ Tryd.prog Tryd.f33.results.toList K E)) (bodyQ Tryd.prog Tryd.f33.results.toList K E)))))) #[x0, x1, x2, x3, x4, x5, x6, (f7 s), (f8 s), t7, (.int .i64 0), (f8 s), x0, t1, t2, (j 15), (j 16), (f8 s), x1, t3, t4, x1, (f8 s), t5, t6, t7, (j 26), (j 27), (j 28), (j 29), (j 30), (j 31), (j 32), (j 33), (j 34), (j 35), (j 36), (j 37), (j 38), (j 39), (j 40), (j 41), (j 42), (j 43), (j 44), (j 45), (j 46), (j 47), (j 48), (j 49), x50]) (
      den Tryd.prog (sel (bodyOf Tryd.f33) [1, 1, 0, 1, 0, 0, 1, 0, 0, 1, 1, 1]) (blk 1 (thenD (den Tryd.prog (sel (bodyOf Tryd.f33) [1, 1, 0, 1, 0, 0, 1, 1]) (thenD k1 (blk 0 (thenD (den Tryd.prog (sel (bodyOf Tryd.f33) [1, 1, 1]) (bodyQ Tryd.prog Tryd.f33.results.toList K E)) (bodyQ Tryd.prog Tryd.f33.results.toList K E))))) (thenD k1 (blk 0 (thenD (den Tryd.prog (sel (bodyOf Tryd.f33) [1, 1, 1]) (bodyQ Tryd.prog Tryd.f33.results.toList K E)) (bodyQ Tryd.prog Tryd.f33.results.toList K E)))))) #[x0, x1, x2, x3, x4, x5, x6, (f7 s), (f8 s), (.int .i64 0), (.int .i64 0), (f8 s), x0, t1, t2, (j 15), (j 16), (f8 s), x1, t3, t4, (j 21), (j 22), (j 23), (j 24), (j 25), (j 26), (j 27), (j 28), (j 29), (j 30), (j 31), (j 32), (j 33), (j 34), (j 35), (j 36), (j 37), (j 38), (j 39), (j 40), (j 41), (j 42), (j 43), (j 44), (j 45), (j 46), (j 47), (j 48), (j 49), x50])) (
    den Tryd.prog (sel (bodyOf Tryd.f33) [1, 1, 1]) (bodyQ Tryd.prog Tryd.f33.results.toList K E) #[x0, x1, x2, x3, x4, x5, x6, (f7 s), (f8 s), (j 9), (j 10), (f8 s), x0, t1, t2, (j 15), (j 16), (j 17), (j 18), (j 19), (j 20), (j 21), (j 22), (j 23), (j 24), (j 25), (j 26), (j 27), (j 28), (j 29), (j 30), (j 31), (j 32), (j 33), (j 34), (j 35), (j 36), (j 37), (j 38), (j 39), (j 40), (j 41), (j 42), (j 43), (j 44), (j 45), (j 46), (j 47), (j 48), (j 49), x50])) h) :
  lp (fun k1 => den Tryd.prog (sel (bodyOf Tryd.f33) [1, 1, 0, 1, 0, 0]) (thenD k1 (blk 0 (thenD (den Tryd.prog (sel (bodyOf Tryd.f33) [1, 1, 1]) (bodyQ Tryd.prog Tryd.f33.results.toList K E)) (bodyQ Tryd.prog Tryd.f33.results.toList K E))))) #[x0, x1, x2, x3, x4, x5, x6, v7, v8, y9, y10, y11, y12, y13, y14, y15, y16, y17, y18, y19, y20, y21, y22, y23, y24, y25, y26, y27, y28, y29, y30, y31, y32, y33, y34, y35, y36, y37, y38, y39, y40, y41, y42, y43, y44, y45, y46, y47, y48, y49, x50] h := by
  subst e7
  subst e8
  have e : (#[x0, x1, x2, x3, x4, x5, x6, (f7 s0), (f8 s0), y9, y10, y11, y12, y13, y14, y15, y16, y17, y18, y19, y20, y21, y22, y23, y24, y25, y26, y27, y28, y29, y30, y31, y32, y33, y34, y35, y36, y37, y38, y39, y40, y41, y42, y43, y44, y45, y46, y47, y48, y49, x50] : Env) = m33_1_1_0_1_0_0 x0 x1 x2 x3 x4 x5 x6 x50 (f7 s0) (f8 s0) (jf #[x0, x1, x2, x3, x4, x5, x6, (f7 s0), (f8 s0), y9, y10, y11, y12, y13, y14, y15, y16, y17, y18, y19, y20, y21, y22, y23, y24, y25, y26, y27, y28, y29, y30, y31, y32, y33, y34, y35, y36, y37, y38, y39, y40, y41, y42, y43, y44, y45, y46, y47, y48, y49, x50]) := by kernel_rfl
  rw [e]
  exact loop_r (fun s j => m33_1_1_0_1_0_0 x0 x1 x2 x3 x4 x5 x6 x50 (f7 s) (f8 s) j) I μ (fun k s j h hI hw next => by rw [t33_1_1_0_1_0_0]; exact round k s j h hI hw next) s0 (jf #[x0, x1, x2, x3, x4, x5, x6, (f7 s0), (f8 s0), y9, y10, y11, y12, y13, y14, y15, y16, y17, y18, y19, y20, y21, y22, y23, y24, y25, y26, y27, y28, y29, y30, y31, y32, y33, y34, y35, y36, y37, y38, y39, y40, y41, y42, y43, y44, y45, y46, y47, y48, y49, x50]) h0

theorem t57 (K : Kont) (E : PanK) (x0 : Value)  : den Tryd.prog (sel (bodyOf Tryd.f57) []) (bodyQ Tryd.prog Tryd.f57.results.toList K E) #[x0, undef, undef, undef, undef, undef, undef, undef, undef, undef, undef, undef, undef, undef, undef, undef] =
  pv (lenV x0) fun t1 =>
  pv (binV .none .gtr t1 (.int .i64 0)) fun t2 =>
  gdK t2 true (fun k => k x0) fun t3 =>
  gdK t2 true (fun k => pv (lenV t3) k) fun t4 =>
  gdK t2 true (fun k => pv (binV .none .leq t4 (.int .i64 4)) k) fun t5 =>
  pv (pickV t2 t5 (.bool false)) fun t6 =>
  gdK t6 true (fun k => k x0) fun t7 =>
  gdK t6 true (fun k => callv Tryd.prog (.func (.func 84) #[] #[]) #[t7, (.func (.func 85) #[] #[])] k E) fun t8 =>
  gdK t6 true (fun k => pv (unV .not t8) k) fun t9 =>
  pv (pickV t6 t9 (.bool false)) fun t10 =>
  K t10 := by kernel_rfl

theorem t58 (K : Kont) (E : PanK) (x0 x1 x2 : Value)  : den Tryd.prog (sel (bodyOf Tryd.f58) []) (bodyQ Tryd.prog Tryd.f58.results.toList K E) #[x0, x1, x2, undef, undef, undef, undef, undef, undef, undef, undef, undef, undef, undef, undef, undef, undef, undef, undef, undef, undef, undef, undef, undef, undef, undef, undef, undef, undef, undef, undef, undef, undef, undef, undef, undef, undef, undef, undef, undef, undef, undef, undef, undef, undef, undef, undef, undef, undef, undef, undef, undef, undef, undef] =
  pv (lenV x1) fun t1 =>
  pv (lenV x0) fun t2 =>
  pv (binV .none .neq t1 t2) fun t3 =>
  gdK t3 false (fun k => k x2) fun t4 =>
  gdK t3 false (fun k => pv (lenV t4) k) fun t5 =>
  gdK t3 false (fun k => k x0) fun t6 =>
  gdK t3 false (fun k => pv (lenV t6) k) fun t7 =>
  gdK t3 false (fun k => pv (binV .none .neq t5 t7) k) fun t8 =>
  pv (pickV t3 (.bool true) t8) fun t9 =>
  cnd t9 (
    K (.bool false)) (
    pv (lenV x0) fun t10 =>
    lp (fun k1 => den Tryd.prog (sel (bodyOf Tryd.f58) [1, 1, 0, 1, 0, 0]) (thenD k1 (blk 0 (thenD (den Tryd.prog (sel (bodyOf Tryd.f58) [1, 1, 1]) (bodyQ Tryd.prog Tryd.f58.results.toList K E)) (bodyQ Tryd.prog Tryd.f58.results.toList K E))))) #[x0, x1, x2, undef, undef, undef, (.bool false), undef, undef, x1, t1, x0, t2, t3, t3, t4, t5, t6, t7, t8, t9, x0, t10, (.int .i64 0), undef, undef, undef, undef, undef, undef, undef, undef, undef, undef, undef, undef, undef, undef, undef, undef, undef, undef, undef, undef, undef, undef, undef, undef, undef, undef, undef, undef, undef, undef]) := by kernel_rfl
def m58_1_1_0_1_0_0 (x0 x1 x2 x3 x4 x5 x9 x10 x11 x12 x13 x14 x15 x16 x17 x18 x19 x20 x21 x22 : Value) (v23 : Value) (j : Nat → Value) : Env := #[x0, x1, x2, x3, x4, x5, (j 6), (j 7), (j 8), x9, x10, x11, x12, x13, x14, x15, x16, x17, x18, x19, x20, x21, x22, v23, (j 24), (j 25), (j 26), (j 27), (j 28), (j 29), (j 30), (j 31), (j 32), (j 33), (j 34), (j 35), (j 36), (j 37), (j 38), (j 39), (j 40), (j 41), (j 42), (j 43), (j 44), (j 45), (j 46), (j 47), (j 48), (j 49), (j 50), (j 51), (j 52), (j 53)]
theorem t58_1_1_0_1_0_0 (K : Kont) (E : PanK) (k1 : Env → Hp → Prop) (x0 x1 x2 x3 x4 x5 x9 x10 x11 x12 x13 x14 x15 x16 x17 x18 x19 x20 x21 x22 v23 : Value) (j : Nat → Value) : den Tryd.prog (sel (bodyOf Tryd.f58) [1, 1, 0, 1, 0, 0]) (thenD k1 (blk 0 (thenD (den Tryd.prog (sel (bodyOf Tryd.f58) [1, 1, 1]) (bodyQ Tryd.prog Tryd.f58.results.toList K E)) (bodyQ Tryd.prog Tryd.f58.results.toList K E)))) (m58_1_1_0_1_0_0 x0 x1 x2 x3 x4 x5 x9 x10 x11 x12 x13 x14 x15 x16 x17 x18 x19 x20 x21 x22 v23 j) =
  pv (binV .none .lss v23 x22) fun t1 =>
  cnd t1 (
    pv (iaV none 2 x21 v23) fun t2 =>
    ld true 2 t2 fun t3 =>
    nw 51 [(.int .i64 0), (.slice none 0 0)] fun t4 =>
    st 2 t4 t3 fun _ =>
    pv (iaV none 1 x1 v23) fun t5 =>
    ld false 1 t5 fun t6 =>
    pv (binV .none .lss t6 (.int .i64 0)) fun t7 =>
    gdK t7 false (fun k => k x2) fun t8 =>
    gdK t7 false (fun k => k v23) fun t9 =>
    gdK t7 false (fun k => pv (iaV none 1 t8 t9) k) fun t10 =>
    gdK t7 false (fun k => ld false 1 t10 k) fun t11 =>
    gdK t7 false (fun k => k x1) fun t12 =>
    gdK t7 false (fun k => k v23) fun t13 =>
    gdK t7 false (fun k => pv (iaV none 1 t12 t13) k) fun t14 =>
    gdK t7 false (fun k => ld false 1 t14 k) fun t15 =>
    gdK t7 false (fun k => pv (binV .none .lss t11 t15) k) fun t16 =>
    pv (pickV t7 (.bool true) t16) fun t17 =>
    gdK t17 false (fun k => k x2) fun t18 =>
    gdK t17 false (fun k => k v23) fun t19 =>
    gdK t17 false (fun k => pv (iaV none 1 t18 t19) k) fun t20 =>
    gdK t17 false (fun k => ld false 1 t20 k) fun t21 =>
    gdK t17 false (fun k => ld true 2 t4 k) fun t22 =>
    gdK t17 false (fun k => callv Tryd.prog (.func (.func 68) #[] #[]) #[t22] k E) (fun t23 h24 => (isB t17 false = true → ldV h24 false 1 t20 t21) ∧ (
      gdK t17 false (fun k => pv (binV .none .geq t21 t23) k) fun t25 =>
      pv (pickV t17 (.bool true) t25) fun t26 =>
      cnd t26 (
        K (.bool false)) (
        pv (binV .none .add v23 (.int .i64 1)) fun t27 =>
        k1 (m58_1_1_0_1_0_0 x0 x1 x2 x3 x4 x5 x9 x10 x11 x12 x13 x14 x15 x16 x17 x18 x19 x20 x21 x22 t27 (jf #[x0, x1, x2, x3, x4, x5, (j 6), v23, t4, x9, x10, x11, x12, x13, x14, x15, x16, x17, x18, x19, x20, x21, x22, t27, t1, v23, t2, t3, x1, v23, t5, t6, t7, t7, t8, t9, t10, t11, t12, t13, t14, t15, t16, t17, t17, t18, t19, t20, t21, t22, t23, t25, t26, t27])))) h24)) (
    den Tryd.prog (sel (bodyOf Tryd.f58) [1, 1, 1]) (bodyQ Tryd.prog Tryd.f58.results.toList K E) #[x0, x1, x2, x3, x4, x5, (j 6), (j 7), (j 8), x9, x10, x11, x12, x13, x14, x15, x16, x17, x18, x19, x20, x21, x22, v23, t1, (j 25), (j 26), (j 27), (j 28), (j 29), (j 30), (j 31), (j 32), (j 33), (j 34), (j 35), (j 36), (j 37), (j 38), (j 39), (j 40), (j 41), (j 42), (j 43), (j 44), (j 45), (j 46), (j 47), (j 48), (j 49), (j 50), (j 51), (j 52), (j 53)]) := by kernel_rfl
theorem t58_1_1_1 (K : Kont) (E : PanK) (x0 x1 x2 x3 x4 x5 x6 x7 x8 x9 x10 x11 x12 x13 x14 x15 x16 x17 x18 x19 x20 x21 x22 x23 x24 x25 x26 x27 x28 x29 x30 x31 x32 x33 x34 x35 x36 x37 x38 x39 x40 x41 x42 x43 x44 x45 x46 x47 x48 x49 x50 x51 x52 x53 : Value)  : den Tryd.prog (sel (bodyOf Tryd.f58) [1, 1, 1]) (bodyQ Tryd.prog Tryd.f58.results.toList K E) #[x0, x1, x2, x3, x4, x5, x6, x7, x8, x9, x10, x11, x12, x13, x14, x15, x16, x17, x18, x19, x20, x21, x22, x23, x24, x25, x26, x27, x28, x29, x30, x31, x32, x33, x34, x35, x36, x37, x38, x39, x40, x41, x42, x43, x44, x45, x46, x47, x48, x49, x50, x51, x52, x53] =
  K (.bool true) := by kernel_rfl
theorem l58_1_1_0_1_0_0 {K : Kont} {E : PanK} {σ : Type} {x0 x1 x2 x3 x4 x5 x9 x10 x11 x12 x13 x14 x15 x16 x17 x18 x19 x20 x21 x22 v23 y6 y7 y8 y24 y25 y26 y27 y28 y29 y30 y31 y32 y33 y34 y35 y36 y37 y38 y39 y40 y41 y42 y43 y44 y45 y46 y47 y48 y49 y50 y51 y52 y53 : Value} {h : Hp} (f23 : σ → Value) (I : σ → Hp → Prop) (μ : σ → Nat) (s0 : σ) (e23 : v23 = f23 s0) (h0 : h.wf → ∃ h', h.wk h' ∧ I s0 h')
  (round : ∀ (k1 : Env → Hp → Prop) (s : σ) (j : Nat → Value) (h : Hp), I s h → h.wf → (∀ s' j' h', μ s' < μ s → (h'.wf → ∃ h'', h'.wk h'' ∧ I s' h'') → k1 (m58_1_1_0_1_0_0 x0 x1 x2 x3 x4 x5 x9 x10 x11 x12 x13 x14 x15 x16 x17 x18 x19 x20 x21 x22 (f23 s') j') h') → (
  pv (binV .none .lss (f23 s) x22) fun t1 =>
  cnd t1 (
    pv (iaV none 2 x21 (f23 s)) fun t2 =>
    ld true 2 t2 fun t3 =>
    nw 51 [(.int .i64 0), (.slice none 0 0)] fun t4 =>
    st 2 t4 t3 fun _ =>
    pv (iaV none 1 x1 (f23 s)) fun t5 =>
    ld false 1 t5 fun t6 =>
    pv (binV .none .lss t6 (.int .i64 0)) fun t7 =>
    gdK t7 false (fun k => k x2) fun t8 =>
    gdK t7 false (fun k => k (f23 s)) fun t9 =>
    gdK t7 false (fun k => pv (iaV none 1 t8 t9) k) fun t10 =>
    gdK t7 false (fun k => ld false 1 t10 k) fun t11 =>
    gdK t7 false (fun k => k x1) fun t12 =>
    gdK t7 false (fun k => k (f23 s)) fun t13 =>
    gdK t7 false (fun k => pv (iaV none 1 t12 t13) k) fun t14 =>
    gdK t7 false (fun k => ld false 1 t14 k) fun t15 =>
    gdK t7 false (fun k => pv (binV .none .lss t11 t15) k) fun t16 =>
    pv (pickV t7 (.bool true) t16) fun t17 =>
    gdK t17 false (fun k => k x2) fun t18 =>
    gdK t17 false (fun k => k (f23 s)) fun t19 =>
    gdK t17 false (fun k => pv (iaV none 1 t18 t19) k) fun t20 =>
    gdK t17 false (fun k => ld false 1 t20 k) fun t21 =>
    gdK t17 false (fun k => ld true 2 t4 k) fun t22 =>
    gdK t17 false (fun k => callv Tryd.prog (.func (.func 68) #[] #[]) #[t22] k E) (fun t23 h24 => (isB t17 false = true → ldV h24 false 1 t20 t21) ∧ (
      gdK t17 false (fun k => pv (binV .none .geq t21 t23) k) fun t25 =>
      pv (pickV t17 (.bool true) t25) fun t26 =>
      cnd t26 (
        K (.bool false)) (
        pv (binV .none .add (f23 s) (.int .i64 1)) fun t27 =>
        k1 (m58_1_1_0_1_0_0 x0 x1 x2 x3 x4 x5 x9 x10 x11 x12 x13 x14 x15 x16 x17 x18 x19 x20 x21 x22 t27 (jf #[x0, x1, x2, x3, x4, x5, (j 6), (f23 s), t4, x9, x10, x11, x12, x13, x14, x15, x16, x17, x18, x19, x20, x21, x22, t27, t1, (f23 s), t2, t3, x1, (f23 s), t5, t6, t7, t7, t8, t9, t10, t11, t12, t13, t14, t15, t16, t17, t17, t18, t19, t20, t21, t22, t23, t25, t26, t27])))) h24)) (
    den Tryd.prog (sel (bodyOf Tryd.f58) [1, 1, 1]) (bodyQ Tryd.prog Tryd.f58.results.toList K E) #[x0, x1, x2, x3, x4, x5, (j 6), (j 7), (j 8), x9, x10, x11, x12, x13, x14, x15, x16, x17, x18, x19, x20, x21, x22, (f23 s), t1, (j 25), (j 26), (j 27), (j 28), (j 29), (j 30), (j 31), (j 32), (j 33), (j 34), (j 35), (j 36), (j 37), (j 38), (j 39), (j 40), (j 41), (j 42), (j 43), (j 44), (j 45), (j 46), (j 47), (j 48), (j 49), (j 50), (j 51), (j 52), (j 53)])) h) :
  lp (fun k1 => den Tryd.prog (sel (bodyOf Tryd.f58) [1, 1, 0, 1, 0, 0]) (thenD k1 (blk 0 (thenD (den Tryd.prog (sel (bodyOf Tryd.f58) [1, 1, 1]) (bodyQ Tryd.prog Tryd.f58.results.toList K E)) (bodyQ Tryd.prog Tryd.f58.results.toList K E))))) #[x0, x1, x2, x3, x4, x5, y6, y7, y8, x9, x10, x11, x12, x13, x14, x15, x16, x17, x18, x19, x20, x21, x22, v23, y24, y25, y26, y27, y28, y29, y30, y31, y32, y33, y34, y35, y36, y37, y38, y39, y40, y41, y42, y43, y44, y45, y46, y47, y48, y49, y50, y51, y52, y53] h := by
  subst e23
  have e : (#[x0, x1, x2, x3, x4, x5, y6, y7, y8, x9, x10, x11, x12, x13, x14, x15, x16, x17, x18, x19, x20, x21, x22, (f23 s0), y24, y25, y26, y27, y28, y29, y30, y31, y32, y33, y34, y35, y36, y37, y38, y39, y40, y41, y42, y43, y44, y45, y46, y47, y48, y49, y50, y51, y52, y53] : Env) = m58_1_1_0_1_0_0 x0 x1 x2 x3 x4 x5 x9 x10 x11 x12 x13 x14 x15 x16 x17 x18 x19 x20 x21 x22 (f23 s0) (jf #[x0, x1, x2, x3, x4, x5, y6, y7, y8, x9, x10, x11, x12, x13, x14, x15, x16, x17, x18, x19, x20, x21, x22, (f23 s0), y24, y25, y26, y27, y28, y29, y30, y31, y32, y33, y34, y35, y36, y37, y38, y39, y40, y41, y42, y43, y44, y45, y46, y47, y48, y49, y50, y51, y52, y53]) := by kernel_rfl
  rw [e]
  exact loop_r (fun s j => m58_1_1_0_1_0_0 x0 x1 x2 x3 x4 x5 x9 x10 x11 x12 x13 x14 x15 x16 x17 x18 x19 x20 x21 x22 (f23 s) j) I μ (fun k s j h hI hw next => by rw [t58_1_1_0_1_0_0]; exact round k s j h hI hw next) s0 (jf #[x0, x1, x2, x3, x4, x5, y6, y7, y8, x9, x10, x11, x12, x13, x14, x15, x16, x17, x18, x19, x20, x21, x22, (f23 s0), y24, y25, y26, y27, y28, y29, y30, y31, y32, y33, y34, y35, y36, y37, y38, y39, y40, y41, y42, y43, y44, y45, y46, y47, y48, y49, y50, y51, y52, y53]) h0

theorem t59 (K : Kont) (E : PanK) (x0 x1 x2 x3 : Value)  : den Tryd.prog (sel (bodyOf Tryd.f59) []) (bodyQ Tryd.prog Tryd.f59.results.toList K E) #[x0, x1, x2, x3, undef, undef, undef, undef, undef, undef, undef] =
  ld false 1 x1 fun t1 =>
  ld false 1 x2 fun t2 =>
  ld false 1 x3 fun t3 =>
  callv Tryd.prog (.func (.func 60) #[] #[]) #[t1, t2, t3, x0] (fun t4 =>
  K t4) E := by kernel_rfl

theorem t60 (K : Kont) (E : PanK) (x0 x1 x2 x3 : Value)  : den Tryd.prog (sel (bodyOf Tryd.f60) []) (bodyQ Tryd.prog Tryd.f60.results.toList K E) #[x0, x1, x2, x3, undef, undef, undef, undef, undef, undef, undef, undef, undef, undef, undef, undef, undef, undef, undef, undef, undef, undef, undef, undef, undef, undef, undef, undef, undef, undef, undef, undef, undef, undef, undef, undef, undef, undef, undef, undef, undef, undef, undef, undef, undef, undef, undef, undef, undef, undef, undef, undef, undef, undef, undef, undef, undef, undef, undef, undef, undef, undef, undef, undef, undef] =
  callv Tryd.prog (.func (.func 57) #[] #[]) #[x0] (fun t1 =>
  pv (unV .not t1) fun t2 =>
  gdK t2 false (fun k => k x1) fun t3 =>
  gdK t2 false (fun k => pv (lenV t3) k) fun t4 =>
  gdK t2 false (fun k => k x0) fun t5 =>
  gdK t2 false (fun k => pv (lenV t5) k) fun t6 =>
  gdK t2 false (fun k => pv (binV .none .neq t4 t6) k) fun t7 =>
  pv (pickV t2 (.bool true) t7) fun t8 =>
  gdK t8 false (fun k => k x2) fun t9 =>
  gdK t8 false (fun k => pv (lenV t9) k) fun t10 =>
  gdK t8 false (fun k => k x0) fun t11 =>
  gdK t8 false (fun k => pv (lenV t11) k) fun t12 =>
  gdK t8 false (fun k => pv (binV .none .neq t10 t12) k) fun t13 =>
  pv (pickV t8 (.bool true) t13) fun t14 =>
  gdK t14 false (fun k => k x3) fun t15 =>
  gdK t14 false (fun k => pv (lenV t15) k) fun t16 =>
  gdK t14 false (fun k => k x0) fun t17 =>
  gdK t14 false (fun k => pv (lenV t17) k) fun t18 =>
  gdK t14 false (fun k => pv (binV .none .neq t16 t18) k) fun t19 =>
  pv (pickV t14 (.bool true) t19) fun t20 =>
  cnd t20 (
    K (.slice none 0 0)) (
    pv (lenV x0) fun t21 =>
    mks 3 [(.int .i64 0)] 1 8 t21 t21 fun t22 =>
    pv (lenV x0) fun t23 =>
    lp (fun k1 => den Tryd.prog (sel (bodyOf Tryd.f60) [1, 1, 1, 0, 1, 0, 0]) (thenD k1 (blk 0 (thenD (den Tryd.prog (sel (bodyOf Tryd.f60) [1, 1, 1, 1]) (bodyQ Tryd.prog Tryd.f60.results.toList K E)) (bodyQ Tryd.prog Tryd.f60.results.toList K E))))) #[x0, x1, x2, x3, undef, undef, undef, undef, (.slice none 0 0), t22, undef, undef, x0, t1, t2, t2, t3, t4, t5, t6, t7, t8, t8, t9, t10, t11, t12, t13, t14, t14, t15, t16, t17, t18, t19, t20, x0, t21, t22, x0, t23, (.int .i64 0), undef, undef, undef, undef, undef, undef, undef, undef, undef, undef, undef, undef, undef, undef, undef, undef, undef, undef, undef, undef, undef, undef, undef])) E := by kernel_rfl
def m60_1_1_1_0_1_0_0 (x0 x1 x2 x3 x4 x5 x6 x7 x8 x9 x12 x13 x14 x15 x16 x17 x18 x19 x20 x21 x22 x23 x24 x25 x26 x27 x28 x29 x30 x31 x32 x33 x34 x35 x36 x37 x38 x39 x40 x64 : Value) (v41 : Value) (j : Nat → Value) : Env := #[x0, x1, x2, x3, x4, x5, x6, x7, x8, x9, (j 10), (j 11), x12, x13, x14, x15, x16, x17, x18, x19, x20, x21, x22, x23, x24, x25, x26, x27, x28, x29, x30, x31, x32, x33, x34, x35, x36, x37, x38, x39, x40, v41, (j 42), (j 43), (j 44), (j 45), (j 46), (j 47), (j 48), (j 49), (j 50), (j 51), (j 52), (j 53), (j 54), (j 55), (j 56), (j 57), (j 58), (j 59), (j 60), (j 61), (j 62), (j 63), x64]
theorem t60_1_1_1_0_1_0_0 (K : Kont) (E : PanK) (k1 : Env → Hp → Prop) (x0 x1 x2 x3 x4 x5 x6 x7 x8 x9 x12 x13 x14 x15 x16 x17 x18 x19 x20 x21 x22 x23 x24 x25 x26 x27 x28 x29 x30 x31 x32 x33 x34 x35 x36 x37 x38 x39 x40 x64 v41 : Value) (j : Nat → Value) : den Tryd.prog (sel (bodyOf Tryd.f60) [1, 1, 1, 0, 1, 0, 0]) (thenD k1 (blk 0 (thenD (den Tryd.prog (sel (bodyOf Tryd.f60) [1, 1, 1, 1]) (bodyQ Tryd.prog Tryd.f60.results.toList K E)) (bodyQ Tryd.prog Tryd.f60.results.toList K E)))) (m60_1_1_1_0_1_0_0 x0 x1 x2 x3 x4 x5 x6 x7 x8 x9 x12 x13 x14 x15 x16 x17 x18 x19 x20 x21 x22 x23 x24 x25 x26 x27 x28 x29 x30 x31 x32 x33 x34 x35 x36 x37 x38 x39 x40 x64 v41 j) =
  pv (binV .none .lss v41 x40) fun t1 =>
  cnd t1 (
    pv (iaV none 2 x39 v41) fun t2 =>
    ld true 2 t2 fun t3 =>
    nw 51 [(.int .i64 0), (.slice none 0 0)] fun t4 =>
    st 2 t4 t3 fun _ =>
    ld true 2 t4 fun t5 =>
    pv (iaV none 1 x1 v41) fun t6 =>
    ld false 1 t6 fun t7 =>
    pv (iaV none 1 x2 v41) fun t8 =>
    ld false 1 t8 fun t9 =>
    pv (iaV none 1 x3 v41) fun t10 =>
    ld false 1 t10 fun t11 =>
    callv Tryd.prog (.func (.func 87) #[] #[]) #[t5, t7, t9, t11] (fun t12 =>
    pv (iaV none 1 x9 v41) fun t13 =>
    st 1 t13 t12 fun _ =>
    pv (binV .none .add v41 (.int .i64 1)) fun t14 =>
    k1 (m60_1_1_1_0_1_0_0 x0 x1 x2 x3 x4 x5 x6 x7 x8 x9 x12 x13 x14 x15 x16 x17 x18 x19 x20 x21 x22 x23 x24 x25 x26 x27 x28 x29 x30 x31 x32 x33 x34 x35 x36 x37 x38 x39 x40 x64 t14 (jf #[x0, x1, x2, x3, x4, x5, x6, x7, x8, x9, v41, t4, x12, x13, x14, x15, x16, x17, x18, x19, x20, x21, x22, x23, x24, x25, x26, x27, x28, x29, x30, x31, x32, x33, x34, x35, x36, x37, x38, x39, x40, t14, t1, v41, t2, t3, x9, v41, t5, x1, v41, t6, t7, x2, v41, t8, t9, x3, v41, t10, t11, t12, t13, t14, x64]))) E) (
    den Tryd.prog (sel (bodyOf Tryd.f60) [1, 1, 1, 1]) (bodyQ Tryd.prog Tryd.f60.results.toList K E) #[x0, x1, x2, x3, x4, x5, x6, x7, x8, x9, (j 10), (j 11), x12, x13, x14, x15, x16, x17, x18, x19, x20, x21, x22, x23, x24, x25, x26, x27, x28, x29, x30, x31, x32, x33, x34, x35, x36, x37, x38, x39, x40, v41, t1, (j 43), (j 44), (j 45), (j 46), (j 47), (j 48), (j 49), (j 50), (j 51), (j 52), (j 53), (j 54), (j 55), (j 56), (j 57), (j 58), (j 59), (j 60), (j 61), (j 62), (j 63), x64]) := by kernel_rfl
theorem t60_1_1_1_1 (K : Kont) (E : PanK) (x0 x1 x2 x3 x4 x5 x6 x7 x8 x9 x10 x11 x12 x13 x14 x15 x16 x17 x18 x19 x20 x21 x22 x23 x24 x25 x26 x27 x28 x29 x30 x31 x32 x33 x34 x35 x36 x37 x38 x39 x40 x41 x42 x43 x44 x45 x46 x47 x48 x49 x50 x51 x52 x53 x54 x55 x56 x57 x58 x59 x60 x61 x62 x63 x64 : Value)  : den Tryd.prog (sel (bodyOf Tryd.f60) [1, 1, 1, 1]) (bodyQ Tryd.prog Tryd.f60.results.toList K E) #[x0, x1, x2, x3, x4, x5, x6, x7, x8, x9, x10, x11, x12, x13, x14, x15, x16, x17, x18, x19, x20, x21, x22, x23, x24, x25, x26, x27, x28, x29, x30, x31, x32, x33, x34, x35, x36, x37, x38, x39, x40, x41, x42, x43, x44, x45, x46, x47, x48, x49, x50, x51, x52, x53, x54, x55, x56, x57, x58, x59, x60, x61, x62, x63, x64] =
  K x9 := by kernel_rfl
theorem l60_1_1_1_0_1_0_0 {K : Kont} {E : PanK} {σ : Type} {x0 x1 x2 x3 x4 x5 x6 x7 x8 x9 x12 x13 x14 x15 x16 x17 x18 x19 x20 x21 x22 x23 x24 x25 x26 x27 x28 x29 x30 x31 x32 x33 x34 x35 x36 x37 x38 x39 x40 x64 v41 y10 y11 y42 y43 y44 y45 y46 y47 y48 y49 y50 y51 y52 y53 y54 y55 y56 y57 y58 y59 y60 y61 y62 y63 : Value} {h : Hp} (f41 : σ → Value) (I : σ → Hp → Prop) (μ : σ → Nat) (s0 : σ) (e41 : v41 = f41 s0) (h0 : h.wf → ∃ h', h.wk h' ∧ I s0 h')
  (round : ∀ (k1 : Env → Hp → Prop) (s : σ) (j : Nat → Value) (h : Hp), I s h → h.wf → (∀ s' j' h', μ s' < μ s → (h'.wf → ∃ h'', h'.wk h'' ∧ I s' h'') → k1 (m60_1_1_1_0_1_0_0 x0 x1 x2 x3 x4 x5 x6 x7 x8 x9 x12 x13 x14 x15 x16 x17 x18 x19 x20 x21 x22 x23 x24 x25 x26 x27 x28 x29 x30 x31 x32 x33 x34 x35 x36 x37 x38 x39 x40 x64 (f41 s') j') h') → (
  pv (binV .none .lss (f41 s) x40) fun t1 =>
  cnd t1 (
    pv (iaV none 2 x39 (f41 s)) fun t2 =>
    ld true 2 t2 fun t3 =>
    nw 51 [(.int .i64 0), (.slice none 0 0)] fun t4 =>
    st 2 t4 t3 fun _ =>
    ld true 2 t4 fun t5 =>
    pv (iaV none 1 x1 (f41 s)) fun t6 =>
    ld false 1 t6 fun t7 =>
    pv (iaV none 1 x2 (f41 s)) fun t8 =>
    ld false 1 t8 fun t9 =>
    pv (iaV none 1 x3 (f41 s)) fun t10 =>
    ld false 1 t10 fun t11 =>
    callv Tryd.prog (.func (.func 87) #[] #[]) #[t5, t7, t9, t11] (fun t12 =>
    pv (iaV none 1 x9 (f41 s)) fun t13 =>
    st 1 t13 t12 fun _ =>
    pv (binV .none .add (f41 s) (.int .i64 1)) fun t14 =>
    k1 (m60_1_1_1_0_1_0_0 x0 x1 x2 x3 x4 x5 x6 x7 x8 x9 x12 x13 x14 x15 x16 x17 x18 x19 x20 x21 x22 x23 x24 x25 x26 x27 x28 x29 x30 x31 x32 x33 x34 x35 x36 x37 x38 x39 x40 x64 t14 (jf #[x0, x1, x2, x3, x4, x5, x6, x7, x8, x9, (f41 s), t4, x12, x13, x14, x15, x16, x17, x18, x19, x20, x21, x22, x23, x24, x25, x26, x27, x28, x29, x30, x31, x32, x33, x34, x35, x36, x37, x38, x39, x40, t14, t1, (f41 s), t2, t3, x9, (f41 s), t5, x1, (f41 s), t6, t7, x2, (f41 s), t8, t9, x3, (f41 s), t10, t11, t12, t13, t14, x64]))) E) (
    den Tryd.prog (sel (bodyOf Tryd.f60) [1, 1, 1, 1]) (bodyQ Tryd.prog Tryd.f60.results.toList K E) #[x0, x1, x2, x3, x4, x5, x6, x7, x8, x9, (j 10), (j 11), x12, x13, x14, x15, x16, x17, x18, x19, x20, x21, x22, x23, x24, x25, x26, x27, x28, x29, x30, x31, x32, x33, x34, x35, x36, x37, x38, x39, x40, (f41 s), t1, (j 43), (j 44), (j 45), (j 46), (j 47), (j 48), (j 49), (j 50), (j 51), (j 52), (j 53), (j 54), (j 55), (j 56), (j 57), (j 58), (j 59), (j 60), (j 61), (j 62), (j 63), x64])) h) :
  lp (fun k1 => den Tryd.prog (sel (bodyOf Tryd.f60) [1, 1, 1, 0, 1, 0, 0]) (thenD k1 (blk 0 (thenD (den Tryd.prog (sel (bodyOf Tryd.f60) [1, 1, 1, 1]) (bodyQ Tryd.prog Tryd.f60.results.toList K E)) (bodyQ Tryd.prog Tryd.f60.results.toList K E))))) #[x0, x1, x2, x3, x4, x5, x6, x7, x8, x9, y10, y11, x12, x13, x14, x15, x16, x17, x18, x19, x20, x21, x22, x23, x24, x25, x26, x27, x28, x29, x30, x31, x32, x33, x34, x35, x36, x37, x38, x39, x40, v41, y42, y43, y44, y45, y46, y47, y48, y49, y50, y51, y52, y53, y54, y55, y56, y57, y58, y59, y60, y61, y62, y63, x64] h := by
  subst e41
  have e : (#[x0, x1, x2, x3, x4, x5, x6, x7, x8, x9, y10, y11, x12, x13, x14, x15, x16, x17, x18, x19, x20, x21, x22, x23, x24, x25, x26, x27, x28, x29, x30, x31, x32, x33, x34, x35, x36, x37, x38, x39, x40, (f41 s0), y42, y43, y44, y45, y46, y47, y48, y49, y50, y51, y52, y53, y54, y55, y56, y57, y58, y59, y60, y61, y62, y63, x64] : Env) = m60_1_1_1_0_1_0_0 x0 x1 x2 x3 x4 x5 x6 x7 x8 x9 x12 x13 x14 x15 x16 x17 x18 x19 x20 x21 x22 x23 x24 x25 x26 x27 x28 x29 x30 x31 x32 x33 x34 x35 x36 x37 x38 x39 x40 x64 (f41 s0) (jf #[x0, x1, x2, x3, x4, x5, x6, x7, x8, x9, y10, y11, x12, x13, x14, x15, x16, x17, x18, x19, x20, x21, x22, x23, x24, x25, x26, x27, x28, x29, x30, x31, x32, x33, x34, x35, x36, x37, x38, x39, x40, (f41 s0), y42, y43, y44, y45, y46, y47, y48, y49, y50, y51, y52, y53, y54, y55, y56, y57, y58, y59, y60, y61, y62, y63, x64]) := by kernel_rfl
  rw [e]
  exact loop_r (fun s j => m60_1_1_1_0_1_0_0 x0 x1 x2 x3 x4 x5 x6 x7 x8 x9 x12 x13 x14 x15 x16 x17 x18 x19 x20 x21 x22 x23 x24 x25 x26 x27 x28 x29 x30 x31 x32 x33 x34 x35 x36 x37 x38 x39 x40 x64 (f41 s) j) I μ (fun k s j h hI hw next => by rw [t60_1_1_1_0_1_0_0]; exact round k s j h hI hw next) s0 (jf #[x0, x1, x2, x3, x4, x5, x6, x7, x8, x9, y10, y11, x12, x13, x14, x15, x16, x17, x18, x19, x20, x21, x22, x23, x24, x25, x26, x27, x28, x29, x30, x31, x32, x33, x34, x35, x36, x37, x38, x39, x40, (f41 s0), y42, y43, y44, y45, y46, y47, y48, y49, y50, y51, y52, y53, y54, y55, y56, y57, y58, y59, y60, y61, y62, y63, x64]) h0

theorem t61 (K : Kont) (E : PanK) (x0 : Value)  : den Tryd.prog (sel (bodyOf Tryd.f61) []) (bodyQ Tryd.prog Tryd.f61.results.toList K E) #[x0, undef, undef, undef, undef, undef, undef, undef, undef, undef, undef, undef, undef, undef, undef, undef, undef, undef, undef, undef, undef, undef, undef, undef] =
  lp (fun k1 => den Tryd.prog (sel (bodyOf Tryd.f61) [1, 0, 1, 0, 0]) (thenD k1 (blk 0 (thenD (den Tryd.prog (sel (bodyOf Tryd.f61) [1, 1]) (bodyQ Tryd.prog Tryd.f61.results.toList K E)) (bodyQ Tryd.prog Tryd.f61.results.toList K E))))) #[x0, undef, (.bool false), (.int .i64 0), undef, undef, undef, undef, undef, undef, undef, undef, undef, undef, undef, undef, undef, undef, undef, undef, undef, undef, undef, undef] := by kernel_rfl
def m61_1_0_1_0_0 (x0 x1 x16 x17 x18 x19 x20 x21 x22 x23 : Value) (v3 : Value) (j : Nat → Value) : Env := #[x0, x1, (j 2), v3, (j 4), (j 5), (j 6), (j 7), (j 8), (j 9), (j 10), (j 11), (j 12), (j 13), (j 14), (j 15), x16, x17, x18, x19, x20, x21, x22, x23]
theorem t61_1_0_1_0_0 (K : Kont) (E : PanK) (k1 : Env → Hp → Prop) (x0 x1 x16 x17 x18 x19 x20 x21 x22 x23 v3 : Value) (j : Nat → Value) : den Tryd.prog (sel (bodyOf Tryd.f61) [1, 0, 1, 0, 0]) (thenD k1 (blk 0 (thenD (den Tryd.prog (sel (bodyOf Tryd.f61) [1, 1]) (bodyQ Tryd.prog Tryd.f61.results.toList K E)) (bodyQ Tryd.prog Tryd.f61.results.toList K E)))) (m61_1_0_1_0_0 x0 x1 x16 x17 x18 x19 x20 x21 x22 x23 v3 j) =
  pv (lenV x0) fun t1 =>
  pv (binV .none .lss v3 t1) fun t2 =>
  cnd t2 (
    pv (iaV none 2 x0 v3) fun t3 =>
    ld true 2 t3 fun t4 =>
    callv Tryd.prog (.func (.func 88) #[] #[]) #[t4] (fun t5 =>
    pv (unV .not t5) fun t6 =>
    cnd t6 (
      K (.bool false)) (
      pv (binV .none .add v3 (.int .i64 1)) fun t7 =>
      k1 (m61_1_0_1_0_0 x0 x1 x16 x17 x18 x19 x20 x21 x22 x23 t7 (jf #[x0, x1, (j 2), t7, v3, x0, t1, t2, v3, t7, x0, v3, t3, t4, t5, t6, x16, x17, x18, x19, x20, x21, x22, x23])))) E) (
    den Tryd.prog (sel (bodyOf Tryd.f61) [1, 1]) (bodyQ Tryd.prog Tryd.f61.results.toList K E) #[x0, x1, (j 2), v3, v3, x0, t1, t2, (j 8), (j 9), (j 10), (j 11), (j 12), (j 13), (j 14), (j 15), x16, x17, x18, x19, x20, x21, x22, x23]) := by kernel_rfl
theorem t61_1_1 (K : Kont) (E : PanK) (x0 x1 x2 x3 x4 x5 x6 x7 x8 x9 x10 x11 x12 x13 x14 x15 x16 x17 x18 x19 x20 x21 x22 x23 : Value)  : den Tryd.prog (sel (bodyOf Tryd.f61) [1, 1]) (bodyQ Tryd.prog Tryd.f61.results.toList K E) #[x0, x1, x2, x3, x4, x5, x6, x7, x8, x9, x10, x11, x12, x13, x14, x15, x16, x17, x18, x19, x20, x21, x22, x23] =
  pv (lenV x0) fun t1 =>
  pv (binV .none .geq t1 (.int .i64 1)) fun t2 =>
  gdK t2 true (fun k => k x0) fun t3 =>
  gdK t2 true (fun k => pv (lenV t3) k) fun t4 =>
  gdK t2 true (fun k => pv (binV .none .leq t4 (.int .i64 4)) k) fun t5 =>
  pv (pickV t2 t5 (.bool false)) fun t6 =>
  K t6 := by kernel_rfl
theorem l61_1_0_1_0_0 {K : Kont} {E : PanK} {σ : Type} {x0 x1 x16 x17 x18 x19 x20 x21 x22 x23 v3 y2 y4 y5 y6 y7 y8 y9 y10 y11 y12 y13 y14 y15 : Value} {h : Hp} (f3 : σ → Value) (I : σ → Hp → Prop) (μ : σ → Nat) (s0 : σ) (e3 : v3 = f3 s0) (h0 : h.wf → ∃ h', h.wk h' ∧ I s0 h')
  (round : ∀ (k1 : Env → Hp → Prop) (s : σ) (j : Nat → Value) (h : Hp), I s h → h.wf → (∀ s' j' h', μ s' < μ s → (h'.wf → ∃ h'', h'.wk h'' ∧ I s' h'') → k1 (m61_1_0_1_0_0 x0 x1 x16 x17 x18 x19 x20 x21 x22 x23 (f3 s') j') h') → (
  pv (lenV x0) fun t1 =>
  pv (binV .none .lss (f3 s) t1) fun t2 =>
  cnd t2 (
    pv (iaV none 2 x0 (f3 s)) fun t3 =>
    ld true 2 t3 fun t4 =>
    callv Tryd.prog (.func (.func 88) #[] #[]) #[t4] (fun t5 =>
    pv (unV .not t5) fun t6 =>
    cnd t6 (
      K (.bool false)) (
      pv (binV .none .add (f3 s) (.int .i64 1)) fun t7 =>
      k1 (m61_1_0_1_0_0 x0 x1 x16 x17 x18 x19 x20 x21 x22 x23 t7 (jf #[x0, x1, (j 2), t7, (f3 s), x0, t1, t2, (f3 s), t7, x0, (f3 s), t3, t4, t5, t6, x16, x17, x18, x19, x20, x21, x22, x23])))) E) (
    den Tryd.prog (sel (bodyOf Tryd.f61) [1, 1]) (bodyQ Tryd.prog Tryd.f61.results.toList K E) #[x0, x1, (j 2), (f3 s), (f3 s), x0, t1, t2, (j 8), (j 9), (j 10), (j 11), (j 12), (j 13), (j 14), (j 15), x16, x17, x18, x19, x20, x21, x22, x23])) h) :
  lp (fun k1 => den Tryd.prog (sel (bodyOf Tryd.f61) [1, 0, 1, 0, 0]) (thenD k1 (blk 0 (thenD (den Tryd.prog (sel (bodyOf Tryd.f61) [1, 1]) (bodyQ Tryd.prog Tryd.f61.results.toList K E)) (bodyQ Tryd.prog Tryd.f61.results.toList K E))))) #[x0, x1, y2, v3, y4, y5, y6, y7, y8, y9, y10, y11, y12, y13, y14, y15, x16, x17, x18, x19, x20, x21, x22, x23] h := by
  subst e3
  have e : (#[x0, x1, y2, (f3 s0), y4, y5, y6, y7, y8, y9, y10, y11, y12, y13, y14, y15, x16, x17, x18, x19, x20, x21, x22, x23] : Env) = m61_1_0_1_0_0 x0 x1 x16 x17 x18 x19 x20 x21 x22 x23 (f3 s0) (jf #[x0, x1, y2, (f3 s0), y4, y5, y6, y7, y8, y9, y10, y11, y12, y13, y14, y15, x16, x17, x18, x19, x20, x21, x22, x23]) := by kernel_rfl
  rw [e]
  exact loop_r (fun s j => m61_1_0_1_0_0 x0 x1 x16 x17 x18 x19 x20 x21 x22 x23 (f3 s) j) I μ (fun k s j h hI hw next => by rw [t61_1_0_1_0_0]; exact round k s j h hI hw next) s0 (jf #[x0, x1, y2, (f3 s0), y4, y5, y6, y7, y8, y9, y10, y11, y12, y13, y14, y15, x16, x17, x18, x19, x20, x21, x22, x23]) h0

theorem t62 (K : Kont) (E : PanK) (x0 x1 x2 : Value)  : den Tryd.prog (sel (bodyOf Tryd.f62) []) (bodyQ Tryd.prog Tryd.f62.results.toList K E) #[x0, x1, x2, undef, undef, undef, undef, undef, undef, undef, undef, undef, undef, undef, undef, undef, undef, undef, undef, undef, undef, undef, undef, undef, undef, undef, undef, undef, undef, undef, undef, undef, undef, undef, undef, undef, undef, undef, undef, undef, undef, undef, undef, undef, undef, undef, undef, undef, undef, undef, undef, undef, undef, undef] =
  pv (lenV x1) fun t1 =>
  pv (lenV x0) fun t2 =>
  pv (binV .none .neq t1 t2) fun t3 =>
  gdK t3 false (fun k => k x2) fun t4 =>
  gdK t3 false (fun k => pv (lenV t4) k) fun t5 =>
  gdK t3 false (fun k => k x0) fun t6 =>
  gdK t3 false (fun k => pv (lenV t6) k) fun t7 =>
  gdK t3 false (fun k => pv (binV .none .neq t5 t7) k) fun t8 =>
  pv (pickV t3 (.bool true) t8) fun t9 =>
  cnd t9 (
    K (.bool false)) (
    lp (fun k1 => den Tryd.prog (sel (bodyOf Tryd.f62) [1, 1, 0, 1, 0, 0]) (thenD k1 (blk 0 (thenD (den Tryd.prog (sel (bodyOf Tryd.f62) [1, 1, 1]) (bodyQ Tryd.prog Tryd.f62.results.toList K E)) (bodyQ Tryd.prog Tryd.f62.results.toList K E))))) #[x0, x1, x2, undef, undef, undef, (.bool false), (.int .i64 0), x1, t1, x0, t2, t3, t3, t4, t5, t6, t7, t8, t9, undef, undef, undef, undef, undef, undef, undef, undef, undef, undef, undef, undef, undef, undef, undef, undef, undef, undef, undef, undef, undef, undef, undef, undef, undef, undef, undef, undef, undef, undef, undef, undef, undef, undef]) := by kernel_rfl
def m62_1_1_0_1_0_0 (x0 x1 x2 x3 x4 x5 x8 x9 x10 x11 x12 x13 x14 x15 x16 x17 x18 x19 : Value) (v7 : Value) (j : Nat → Value) : Env := #[x0, x1, x2, x3, x4, x5, (j 6), v7, x8, x9, x10, x11, x12, x13, x14, x15, x16, x17, x18, x19, (j 20), (j 21), (j 22), (j 23), (j 24), (j 25), (j 26), (j 27), (j 28), (j 29), (j 30), (j 31), (j 32), (j 33), (j 34), (j 35), (j 36), (j 37), (j 38), (j 39), (j 40), (j 41), (j 42), (j 43), (j 44), (j 45), (j 46), (j 47), (j 48), (j 49), (j 50), (j 51), (j 52), (j 53)]
theorem t62_1_1_0_1_0_0 (K : Kont) (E : PanK) (k1 : Env → Hp → Prop) (x0 x1 x2 x3 x4 x5 x8 x9 x10 x11 x12 x13 x14 x15 x16 x17 x18 x19 v7 : Value) (j : Nat → Value) : den Tryd.prog (sel (bodyOf Tryd.f62) [1, 1, 0, 1, 0, 0]) (thenD k1 (blk 0 (thenD (den Tryd.prog (sel (bodyOf Tryd.f62) [1, 1, 1]) (bodyQ Tryd.prog Tryd.f62.results.toList K E)) (bodyQ Tryd.prog Tryd.f62.results.toList K E)))) (m62_1_1_0_1_0_0 x0 x1 x2 x3 x4 x5 x8 x9 x10 x11 x12 x13 x14 x15 x16 x17 x18 x19 v7 j) =
  pv (lenV x0) fun t1 =>
  pv (binV .none .lss v7 t1) fun t2 =>
  cnd t2 (
    pv (iaV none 1 x1 v7) fun t3 =>
    ld false 1 t3 fun t4 =>
    pv (binV .none .lss t4 (.int .i64 0)) fun t5 =>
    gdK t5 false (fun k => k x2) fun t6 =>
    gdK t5 false (fun k => k v7) fun t7 =>
    gdK t5 false (fun k => pv (iaV none 1 t6 t7) k) fun t8 =>
    gdK t5 false (fun k => ld false 1 t8 k) fun t9 =>
    gdK t5 false (fun k => k x1) fun t10 =>
    gdK t5 false (fun k => k v7) fun t11 =>
    gdK t5 false (fun k => pv (iaV none 1 t10 t11) k) fun t12 =>
    gdK t5 false (fun k => ld false 1 t12 k) fun t13 =>
    gdK t5 false (fun k => pv (binV .none .lss t9 t13) k) fun t14 =>
    pv (pickV t5 (.bool true) t14) fun t15 =>
    gdK t15 false (fun k => k x2) fun t16 =>
    gdK t15 false (fun k => k v7) fun t17 =>
    gdK t15 false (fun k => pv (iaV none 1 t16 t17) k) fun t18 =>
    gdK t15 false (fun k => ld false 1 t18 k) fun t19 =>
    gdK t15 false (fun k => k x0) fun t20 =>
    gdK t15 false (fun k => k v7) fun t21 =>
    gdK t15 false (fun k => pv (iaV none 2 t20 t21) k) fun t22 =>
    gdK t15 false (fun k => ld true 2 t22 k) fun t23 =>
    gdK t15 false (fun k => callv Tryd.prog (.func (.func 71) #[] #[]) #[t23] k E) (fun t24 h25 => (isB t15 false = true → ldV h25 false 1 t18 t19) ∧ (
      gdK t15 false (fun k => pv (binV .none .geq t19 t24) k) fun t26 =>
      pv (pickV t15 (.bool true) t26) fun t27 =>
      cnd t27 (
        K (.bool false)) (
        pv (binV .none .add v7 (.int .i64 1)) fun t28 =>
        k1 (m62_1_1_0_1_0_0 x0 x1 x2 x3 x4 x5 x8 x9 x10 x11 x12 x13 x14 x15 x16 x17 x18 x19 t28 (jf #[x0, x1, x2, x3, x4, x5, (j 6), t28, x8, x9, x10, x11, x12, x13, x14, x15, x16, x17, x18, x19, v7, x0, t1, t2, v7, t28, x1, v7, t3, t4, t5, t5, t6, t7, t8, t9, t10, t11, t12, t13, t14, t15, t15, t16, t17, t18, t19, t20, t21, t22, t23, t24, t26, t27])))) h25)) (
    den Tryd.prog (sel (bodyOf Tryd.f62) [1, 1, 1]) (bodyQ Tryd.prog Tryd.f62.results.toList K E) #[x0, x1, x2, x3, x4, x5, (j 6), v7, x8, x9, x10, x11, x12, x13, x14, x15, x16, x17, x18, x19, v7, x0, t1, t2, (j 24), (j 25), (j 26), (j 27), (j 28), (j 29), (j 30), (j 31), (j 32), (j 33), (j 34), (j 35), (j 36), (j 37), (j 38), (j 39), (j 40), (j 41), (j 42), (j 43), (j 44), (j 45), (j 46), (j 47), (j 48), (j 49), (j 50), (j 51), (j 52), (j 53)]) := by kernel_rfl
theorem t62_1_1_1 (K : Kont) (E : PanK) (x0 x1 x2 x3 x4 x5 x6 x7 x8 x9 x10 x11 x12 x13 x14 x15 x16 x17 x18 x19 x20 x21 x22 x23 x24 x25 x26 x27 x28 x29 x30 x31 x32 x33 x34 x35 x36 x37 x38 x39 x40 x41 x42 x43 x44 x45 x46 x47 x48 x49 x50 x51 x52 x53 : Value)  : den Tryd.prog (sel (bodyOf Tryd.f62) [1, 1, 1]) (bodyQ Tryd.prog Tryd.f62.results.toList K E) #[x0, x1, x2, x3, x4, x5, x6, x7, x8, x9, x10, x11, x12, x13, x14, x15, x16, x17, x18, x19, x20, x21, x22, x23, x24, x25, x26, x27, x28, x29, x30, x31, x32, x33, x34, x35, x36, x37, x38, x39, x40, x41, x42, x43, x44, x45, x46, x47, x48, x49, x50, x51, x52, x53] =
  K (.bool true) := by kernel_rfl
theorem l62_1_1_0_1_0_0 {K : Kont} {E : PanK} {σ : Type} {x0 x1 x2 x3 x4 x5 x8 x9 x10 x11 x12 x13 x14 x15 x16 x17 x18 x19 v7 y6 y20 y21 y22 y23 y24 y25 y26 y27 y28 y29 y30 y31 y32 y33 y34 y35 y36 y37 y38 y39 y40 y41 y42 y43 y44 y45 y46 y47 y48 y49 y50 y51 y52 y53 : Value} {h : Hp} (f7 : σ → Value) (I : σ → Hp → Prop) (μ : σ → Nat) (s0 : σ) (e7 : v7 = f7 s0) (h0 : h.wf → ∃ h', h.wk h' ∧ I s0 h')
  (round : ∀ (k1 : Env → Hp → Prop) (s : σ) (j : Nat → Value) (h : Hp), I s h → h.wf → (∀ s' j' h', μ s' < μ s → (h'.wf → ∃ h'', h'.wk h'' ∧ I s' h'') → k1 (m62_1_1_0_1_0_0 x0 x1 x2 x3 x4 x5 x8 x9 x10 x11 x12 x13 x14 x15 x16 x17 x18 x19 (f7 s') j') h') → (
  pv (lenV x0) fun t1 =>
  pv (binV .none .lss (f7 s) t1) fun t2 =>
  cnd t2 (
    pv (iaV none 1 x1 (f7 s)) fun t3 =>
    ld false 1 t3 fun t4 =>
    pv (binV .none .lss t4 (.int .i64 0)) fun t5 =>
    gdK t5 false (fun k => k x2) fun t6 =>
    gdK t5 false (fun k => k (f7 s)) fun t7 =>
    gdK t5 false (fun k => pv (iaV none 1 t6 t7) k) fun t8 =>
    gdK t5 false (fun k => ld false 1 t8 k) fun t9 =>
    gdK t5 false (fun k => k x1) fun t10 =>
    gdK t5 false (fun k => k (f7 s)) fun t11 =>
    gdK t5 false (fun k => pv (iaV none 1 t10 t11) k) fun t12 =>
    gdK t5 false (fun k => ld false 1 t12 k) fun t13 =>
    gdK t5 false (fun k => pv (binV .none .lss t9 t13) k) fun t14 =>
    pv (pickV t5 (.bool true) t14) fun t15 =>
    gdK t15 false (fun k => k x2) fun t16 =>
    gdK t15 false (fun k => k (f7 s)) fun t17 =>
    gdK t15 false (fun k => pv (iaV none 1 t16 t17) k) fun t18 =>
    gdK t15 false (fun k => ld false 1 t18 k) fun t19 =>
    gdK t15 false (fun k => k x0) fun t20 =>
    gdK t15 false (fun k => k (f7 s)) fun t21 =>
    gdK t15 false (fun k => pv (iaV none 2 t20 t21) k) fun t22 =>
    gdK t15 false (fun k => ld true 2 t22 k) fun t23 =>
    gdK t15 false (fun k => callv Tryd.prog (.func (.func 71) #[] #[]) #[t23] k E) (fun t24 h25 => (isB t15 false = true → ldV h25 false 1 t18 t19) ∧ (
      gdK t15 false (fun k => pv (binV .none .geq t19 t24) k) fun t26 =>
      pv (pickV t15 (.bool true) t26) fun t27 =>
      cnd t27 (
        K (.bool false)) (
        pv (binV .none .add (f7 s) (.int .i64 1)) fun t28 =>
        k1 (m62_1_1_0_1_0_0 x0 x1 x2 x3 x4 x5 x8 x9 x10 x11 x12 x13 x14 x15 x16 x17 x18 x19 t28 (jf #[x0, x1, x2, x3, x4, x5, (j 6), t28, x8, x9, x10, x11, x12, x13, x14, x15, x16, x17, x18, x19, (f7 s), x0, t1, t2, (f7 s), t28, x1, (f7 s), t3, t4, t5, t5, t6, t7, t8, t9, t10, t11, t12, t13, t14, t15, t15, t16, t17, t18, t19, t20, t21, t22, t23, t24, t26, t27])))) h25)) (
    den Tryd.prog (sel (bodyOf Tryd.f62) [1, 1, 1]) (bodyQ Tryd.prog Tryd.f62.results.toList K E) #[x0, x1, x2, x3, x4, x5, (j 6), (f7 s), x8, x9, x10, x11, x12, x13, x14, x15, x16, x17, x18, x19, (f7 s), x0, t1, t2, (j 24), (j 25), (j 26), (j 27), (j 28), (j 29), (j 30), (j 31), (j 32), (j 33), (j 34), (j 35), (j 36), (j 37), (j 38), (j 39), (j 40), (j 41), (j 42), (j 43), (j 44), (j 45), (j 46), (j 47), (j 48), (j 49), (j 50), (j 51), (j 52), (j 53)])) h) :
  lp (fun k1 => den Tryd.prog (sel (bodyOf Tryd.f62) [1, 1, 0, 1, 0, 0]) (thenD k1 (blk 0 (thenD (den Tryd.prog (sel (bodyOf Tryd.f62) [1, 1, 1]) (bodyQ Tryd.prog Tryd.f62.results.toList K E)) (bodyQ Tryd.prog Tryd.f62.results.toList K E))))) #[x0, x1, x2, x3, x4, x5, y6, v7, x8, x9, x10, x11, x12, x13, x14, x15, x16, x17, x18, x19, y20, y21, y22, y23, y24, y25, y26, y27, y28, y29, y30, y31, y32, y33, y34, y35, y36, y37, y38, y39, y40, y41, y42, y43, y44, y45, y46, y47, y48, y49, y50, y51, y52, y53] h := by
  subst e7
  have e : (#[x0, x1, x2, x3, x4, x5, y6, (f7 s0), x8, x9, x10, x11, x12, x13, x14, x15, x16, x17, x18, x19, y20, y21, y22, y23, y24, y25, y26, y27, y28, y29, y30, y31, y32, y33, y34, y35, y36, y37, y38, y39, y40, y41, y42, y43, y44, y45, y46, y47, y48, y49, y50, y51, y52, y53] : Env) = m62_1_1_0_1_0_0 x0 x1 x2 x3 x4 x5 x8 x9 x10 x11 x12 x13 x14 x15 x16 x17 x18 x19 (f7 s0) (jf #[x0, x1, x2, x3, x4, x5, y6, (f7 s0), x8, x9, x10, x11, x12, x13, x14, x15, x16, x17, x18, x19, y20, y21, y22, y23, y24, y25, y26, y27, y28, y29, y30, y31, y32, y33, y34, y35, y36, y37, y38, y39, y40, y41, y42, y43, y44, y45, y46, y47, y48, y49, y50, y51, y52, y53]) := by kernel_rfl
  rw [e]
  exact loop_r (fun s j => m62_1_1_0_1_0_0 x0 x1 x2 x3 x4 x5 x8 x9 x10 x11 x12 x13 x14 x15 x16 x17 x18 x19 (f7 s) j) I μ (fun k s j h hI hw next => by rw [t62_1_1_0_1_0_0]; exact round k s j h hI hw next) s0 (jf #[x0, x1, x2, x3, x4, x5, y6, (f7 s0), x8, x9, x10, x11, x12, x13, x14, x15, x16, x17, x18, x19, y20, y21, y22, y23, y24, y25, y26, y27, y28, y29, y30, y31, y32, y33, y34, y35, y36, y37, y38, y39, y40, y41, y42, y43, y44, y45, y46, y47, y48, y49, y50, y51, y52, y53]) h0

theorem t63 (K : Kont) (E : PanK) (x0 x1 x2 x3 : Value)  : den Tryd.prog (sel (bodyOf Tryd.f63) []) (bodyQ Tryd.prog Tryd.f63.results.toList K E) #[x0, x1, x2, x3, undef, undef, undef, undef, undef, undef, undef, undef, undef, undef, undef, undef, undef, undef, undef, undef, undef, undef, undef, undef, undef, undef, undef, undef, undef, undef, undef, undef, undef, undef, undef, undef, undef, undef, undef, undef, undef, undef, undef, undef, undef, undef, undef, undef, undef, undef, undef, undef, undef, undef, undef, undef, undef, undef, undef, undef, undef, undef, undef] =
  callv Tryd.prog (.func (.func 61) #[] #[]) #[x0] (fun t1 =>
  pv (unV .not t1) fun t2 =>
  gdK t2 false (fun k => k x1) fun t3 =>
  gdK t2 false (fun k => pv (lenV t3) k) fun t4 =>
  gdK t2 false (fun k => k x0) fun t5 =>
  gdK t2 false (fun k => pv (lenV t5) k) fun t6 =>
  gdK t2 false (fun k => pv (binV .none .neq t4 t6) k) fun t7 =>
  pv (pickV t2 (.bool true) t7) fun t8 =>
  gdK t8 false (fun k => k x2) fun t9 =>
  gdK t8 false (fun k => pv (lenV t9) k) fun t10 =>
  gdK t8 false (fun k => k x0) fun t11 =>
  gdK t8 false (fun k => pv (lenV t11) k) fun t12 =>
  gdK t8 false (fun k => pv (binV .none .neq t10 t12) k) fun t13 =>
  pv (pickV t8 (.bool true) t13) fun t14 =>
  gdK t14 false (fun k => k x3) fun t15 =>
  gdK t14 false (fun k => pv (lenV t15) k) fun t16 =>
  gdK t14 false (fun k => k x0) fun t17 =>
  gdK t14 false (fun k => pv (lenV t17) k) fun t18 =>
  gdK t14 false (fun k => pv (binV .none .neq t16 t18) k) fun t19 =>
  pv (pickV t14 (.bool true) t19) fun t20 =>
  cnd t20 (
    K (.slice none 0 0)) (
    lp (fun k1 => den Tryd.prog (sel (bodyOf Tryd.f63) [1, 1, 1, 0, 1, 0, 0]) (thenD k1 (blk 0 (thenD (den Tryd.prog (sel (bodyOf Tryd.f63) [1, 1, 1, 1]) (bodyQ Tryd.prog Tryd.f63.results.toList K E)) (bodyQ Tryd.prog Tryd.f63.results.toList K E))))) #[x0, x1, x2, x3, undef, undef, undef, undef, (.slice none 0 0), (.slice none 0 0), (.int .i64 0), x0, t1, t2, t2, t3, t4, t5, t6, t7, t8, t8, t9, t10, t11, t12, t13, t14, t14, t15, t16, t17, t18, t19, t20, undef, undef, undef, undef, undef, undef, undef, undef, undef, undef, undef, undef, undef, undef, undef, undef, undef, undef, undef, undef, undef, undef, undef, undef, undef, undef, undef, undef])) E := by kernel_rfl
def m63_1_1_1_0_1_0_0 (x0 x1 x2 x3 x4 x5 x6 x7 x8 x11 x12 x13 x14 x15 x16 x17 x18 x19 x20 x21 x22 x23 x24 x25 x26 x27 x28 x29 x30 x31 x32 x33 x34 x35 x62 : Value) (v9 v10 : Value) (j : Nat → Value) : Env := #[x0, x1, x2, x3, x4, x5, x6, x7, x8, v9, v10, x11, x12, x13, x14, x15, x16, x17, x18, x19, x20, x21, x22, x23, x24, x25, x26, x27, x28, x29, x30, x31, x32, x33, x34, x35, (j 36), (j 37), (j 38), (j 39), (j 40), (j 41), (j 42), (j 43), (j 44), (j 45), (j 46), (j 47), (j 48), (j 49), (j 50), (j 51), (j 52), (j 53), (j 54), (j 55), (j 56), (j 57), (j 58), (j 59), (j 60), (j 61), x62]
theorem t63_1_1_1_0_1_0_0 (K : Kont) (E : PanK) (k1 : Env → Hp → Prop) (x0 x1 x2 x3 x4 x5 x6 x7 x8 x11 x12 x13 x14 x15 x16 x17 x18 x19 x20 x21 x22 x23 x24 x25 x26 x27 x28 x29 x30 x31 x32 x33 x34 x35 x62 v9 v10 : Value) (j : Nat → Value) : den Tryd.prog (sel (bodyOf Tryd.f63) [1, 1, 1, 0, 1, 0, 0]) (thenD k1 (blk 0 (thenD (den Tryd.prog (sel (bodyOf Tryd.f63) [1, 1, 1, 1]) (bodyQ Tryd.prog Tryd.f63.results.toList K E)) (bodyQ Tryd.prog Tryd.f63.results.toList K E)))) (m63_1_1_1_0_1_0_0 x0 x1 x2 x3 x4 x5 x6 x7 x8 x11 x12 x13 x14 x15 x16 x17 x18 x19 x20 x21 x22 x23 x24 x25 x26 x27 x28 x29 x30 x31 x32 x33 x34 x35 x62 v9 v10 j) =
  pv (lenV x0) fun t1 =>
  pv (binV .none .lss v10 t1) fun t2 =>
  cnd t2 (
    pv (iaV none 2 x0 v10) fun t3 =>
    ld true 2 t3 fun t4 =>
    pv (iaV none 1 x1 v10) fun t5 =>
    ld false 1 t5 fun t6 =>
    pv (iaV none 1 x2 v10) fun t7 =>
    ld false 1 t7 fun t8 =>
    pv (iaV none 1 x3 v10) fun t9 =>
    ld false 1 t9 fun t10 =>
    callv Tryd.prog (.func (.func 89) #[] #[]) #[t4, t6, t8, t10] (fun t11 =>
    nws 3 1 (bsC #[(.int .i64 0)] 1 1 #[(0, t11)]) fun t12 =>
    appX 3 1 8 v9 t12 fun t13 =>
    pv (binV .none .add v10 (.int .i64 1)) fun t14 =>
    k1 (m63_1_1_1_0_1_0_0 x0 x1 x2 x3 x4 x5 x6 x7 x8 x11 x12 x13 x14 x15 x16 x17 x18 x19 x20 x21 x22 x23 x24 x25 x26 x27 x28 x29 x30 x31 x32 x33 x34 x35 x62 t13 t14 (jf #[x0, x1, x2, x3, x4, x5, x6, x7, x8, t13, t14, x11, x12, x13, x14, x15, x16, x17, x18, x19, x20, x21, x22, x23, x24, x25, x26, x27, x28, x29, x30, x31, x32, x33, x34, x35, v10, x0, t1, t2, v10, t14, v9, x0, v10, t3, t4, x1, v10, t5, t6, x2, v10, t7, t8, x3, v10, t9, t10, t11, t12, t13, x62]))) E) (
    den Tryd.prog (sel (bodyOf Tryd.f63) [1, 1, 1, 1]) (bodyQ Tryd.prog Tryd.f63.results.toList K E) #[x0, x1, x2, x3, x4, x5, x6, x7, x8, v9, v10, x11, x12, x13, x14, x15, x16, x17, x18, x19, x20, x21, x22, x23, x24, x25, x26, x27, x28, x29, x30, x31, x32, x33, x34, x35, v10, x0, t1, t2, (j 40), (j 41), (j 42), (j 43), (j 44), (j 45), (j 46), (j 47), (j 48), (j 49), (j 50), (j 51), (j 52), (j 53), (j 54), (j 55), (j 56), (j 57), (j 58), (j 59), (j 60), (j 61), x62]) := by kernel_rfl
theorem t63_1_1_1_1 (K : Kont) (E : PanK) (x0 x1 x2 x3 x4 x5 x6 x7 x8 x9 x10 x11 x12 x13 x14 x15 x16 x17 x18 x19 x20 x21 x22 x23 x24 x25 x26 x27 x28 x29 x30 x31 x32 x33 x34 x35 x36 x37 x38 x39 x40 x41 x42 x43 x44 x45 x46 x47 x48 x49 x50 x51 x52 x53 x54 x55 x56 x57 x58 x59 x60 x61 x62 : Value)  : den Tryd.prog (sel (bodyOf Tryd.f63) [1, 1, 1, 1]) (bodyQ Tryd.prog Tryd.f63.results.toList K E) #[x0, x1, x2, x3, x4, x5, x6, x7, x8, x9, x10, x11, x12, x13, x14, x15, x16, x17, x18, x19, x20, x21, x22, x23, x24, x25, x26, x27, x28, x29, x30, x31, x32, x33, x34, x35, x36, x37, x38, x39, x40, x41, x42, x43, x44, x45, x46, x47, x48, x49, x50, x51, x52, x53, x54, x55, x56, x57, x58, x59, x60, x61, x62] =
  K x9 := by kernel_rfl
theorem l63_1_1_1_0_1_0_0 {K : Kont} {E : PanK} {σ : Type} {x0 x1 x2 x3 x4 x5 x6 x7 x8 x11 x12 x13 x14 x15 x16 x17 x18 x19 x20 x21 x22 x23 x24 x25 x26 x27 x28 x29 x30 x31 x32 x33 x34 x35 x62 v9 v10 y36 y37 y38 y39 y40 y41 y42 y43 y44 y45 y46 y47 y48 y49 y50 y51 y52 y53 y54 y55 y56 y57 y58 y59 y60 y61 : Value} {h : Hp} (f9 f10 : σ → Value) (I : σ → Hp → Prop) (μ : σ → Nat) (s0 : σ) (e9 : v9 = f9 s0) (e10 : v10 = f10 s0) (h0 : h.wf → ∃ h', h.wk h' ∧ I s0 h')
  (round : ∀ (k1 : Env → Hp → Prop) (s : σ) (j : Nat → Value) (h : Hp), I s h → h.wf → (∀ s' j' h', μ s' < μ s → (h'.wf → ∃ h'', h'.wk h'' ∧ I s' h'') → k1 (m63_1_1_1_0_1_0_0 x0 x1 x2 x3 x4 x5 x6 x7 x8 x11 x12 x13 x14 x15 x16 x17 x18 x19 x20 x21 x22 x23 x24 x25 x26 x27 x28 x29 x30 x31 x32 x33 x34 x35 x62 (f9 s') (f10 s') j') h') → (
  pv (lenV x0) fun t1 =>
  pv (binV .none .lss (f10 s) t1) fun t2 =>
  cnd t2 (
    pv (iaV none 2 x0 (f10 s)) fun t3 =>
    ld true 2 t3 fun t4 =>
    pv (iaV none 1 x1 (f10 s)) fun t5 =>
    ld false 1 t5 fun t6 =>
    pv (iaV none 1 x2 (f10 s)) fun t7 =>
    ld false 1 t7 fun t8 =>
    pv (iaV none 1 x3 (f10 s)) fun t9 =>
    ld false 1 t9 fun t10 =>
    callv Tryd.prog (.func (.func 89) #[] #[]) #[t4, t6, t8, t10] (fun t11 =>
    nws 3 1 (bsC #[(.int .i64 0)] 1 1 #[(0, t11)]) fun t12 =>
    appX 3 1 8 (f9 s) t12 fun t13 =>
    pv (binV .none .add (f10 s) (.int .i64 1)) fun t14 =>
    k1 (m63_1_1_1_0_1_0_0 x0 x1 x2 x3 x4 x5 x6 x7 x8 x11 x12 x13 x14 x15 x16 x17 x18 x19 x20 x21 x22 x23 x24 x25 x26 x27 x28 x29 x30 x31 x32 x33 x34 x35 x62 t13 t14 (jf #[x0, x1, x2, x3, x4, x5, x6, x7, x8, t13, t14, x11, x12, x13, x14, x15, x16, x17, x18, x19, x20, x21, x22, x23, x24, x25, x26, x27, x28, x29, x30, x31, x32, x33, x34, x35, (f10 s), x0, t1, t2, (f10 s), t14, (f9 s), x0, (f10 s), t3, t4, x1, (f10 s), t5, t6, x2, (f10 s), t7, t8, x3, (f10 s), t9, t10, t11, t12, t13, x62]))) E) (
    den Tryd.prog (sel (bodyOf Tryd.f63) [1, 1, 1, 1]) (bodyQ Tryd.prog Tryd.f63.results.toList K E) #[x0, x1, x2, x3, x4, x5, x6, x7, x8, (f9 s), (f10 s), x11, x12, x13, x14, x15, x16, x17, x18, x19, x20, x21, x22, x23, x24, x25, x26, x27, x28, x29, x30, x31, x32, x33, x34, x35, (f10 s), x0, t1, t2, (j 40), (j 41), (j 42), (j 43), (j 44), (j 45), (j 46), (j 47), (j 48), (j 49), (j 50), (j 51), (j 52), (j 53), (j 54), (j 55), (j 56), (j 57), (j 58), (j 59), (j 60), (j 61), x62])) h) :
  lp (fun k1 => den Tryd.prog (sel (bodyOf Tryd.f63) [1, 1, 1, 0, 1, 0, 0]) (thenD k1 (blk 0 (thenD (den Tryd.prog (sel (bodyOf Tryd.f63) [1, 1, 1, 1]) (bodyQ Tryd.prog Tryd.f63.results.toList K E)) (bodyQ Tryd.prog Tryd.f63.results.toList K E))))) #[x0, x1, x2, x3, x4, x5, x6, x7, x8, v9, v10, x11, x12, x13, x14, x15, x16, x17, x18, x19, x20, x21, x22, x23, x24, x25, x26, x27, x28, x29, x30, x31, x32, x33, x34, x35, y36, y37, y38, y39, y40, y41, y42, y43, y44, y45, y46, y47, y48, y49, y50, y51, y52, y53, y54, y55, y56, y57, y58, y59, y60, y61, x62] h := by
  subst e9
  subst e10
  have e : (#[x0, x1, x2, x3, x4, x5, x6, x7, x8, (f9 s0), (f10 s0), x11, x12, x13, x14, x15, x16, x17, x18, x19, x20, x21, x22, x23, x24, x25, x26, x27, x28, x29, x30, x31, x32, x33, x34, x35, y36, y37, y38, y39, y40, y41, y42, y43, y44, y45, y46, y47, y48, y49, y50, y51, y52, y53, y54, y55, y56, y57, y58, y59, y60, y61, x62] : Env) = m63_1_1_1_0_1_0_0 x0 x1 x2 x3 x4 x5 x6 x7 x8 x11 x12 x13 x14 x15 x16 x17 x18 x19 x20 x21 x22 x23 x24 x25 x26 x27 x28 x29 x30 x31 x32 x33 x34 x35 x62 (f9 s0) (f10 s0) (jf #[x0, x1, x2, x3, x4, x5, x6, x7, x8, (f9 s0), (f10 s0), x11, x12, x13, x14, x15, x16, x17, x18, x19, x20, x21, x22, x23, x24, x25, x26, x27, x28, x29, x30, x31, x32, x33, x34, x35, y36, y37, y38, y39, y40, y41, y42, y43, y44, y45, y46, y47, y48, y49, y50, y51, y52, y53, y54, y55, y56, y57, y58, y59, y60, y61, x62]) := by kernel_rfl
  rw [e]
  exact loop_r (fun s j => m63_1_1_1_0_1_0_0 x0 x1 x2 x3 x4 x5 x6 x7 x8 x11 x12 x13 x14 x15 x16 x17 x18 x19 x20 x21 x22 x23 x24 x25 x26 x27 x28 x29 x30 x31 x32 x33 x34 x35 x62 (f9 s) (f10 s) j) I μ (fun k s j h hI hw next => by rw [t63_1_1_1_0_1_0_0]; exact round k s j h hI hw next) s0 (jf #[x0, x1, x2, x3, x4, x5, x6, x7, x8, (f9 s0), (f10 s0), x11, x12, x13, x14, x15, x16, x17, x18, x19, x20, x21, x22, x23, x24, x25, x26, x27, x28, x29, x30, x31, x32, x33, x34, x35, y36, y37, y38, y39, y40, y41, y42, y43, y44, y45, y46, y47, y48, y49, y50, y51, y52, y53, y54, y55, y56, y57, y58, y59, y60, y61, x62]) h0

theorem t68 (K : Kont) (E : PanK) (x0 : Value)  : den Tryd.prog (sel (bodyOf Tryd.f68) []) (bodyQ Tryd.prog Tryd.f68.results.toList K E) #[x0, undef, undef, undef, undef, undef, undef] =
  nw 51 (Value.cells x0).toList fun t1 =>
  pv (faV 1 t1) fun t2 =>
  ld false 1 t2 fun t3 =>
  pv (lenV t3) fun t4 =>
  pv (binV .none .add t4 (.int .i64 2)) fun t5 =>
  K t5 := by kernel_rfl

theorem t71 (K : Kont) (E : PanK) (x0 : Value)  : den Tryd.prog (sel (bodyOf Tryd.f71) []) (bodyQ Tryd.prog Tryd.f71.results.toList K E) #[x0, undef, undef, undef, undef, undef, undef] =
  nw 51 (Value.cells x0).toList fun t1 =>
  pv (faV 1 t1) fun t2 =>
  ld false 1 t2 fun t3 =>
  pv (lenV t3) fun t4 =>
  pv (binV .none .add t4 (.int .i64 2)) fun t5 =>
  K t5 := by kernel_rfl

theorem t84 (K : Kont) (E : PanK) (x0 x1 : Value)  : den Tryd.prog (sel (bodyOf Tryd.f84) []) (bodyQ Tryd.prog Tryd.f84.results.toList K E) #[x0, x1, undef, undef, undef, undef, undef, undef, undef] =
  callv Tryd.prog (.func (.func 100) #[] #[]) #[x0, x1] (fun t1 =>
  pv (binV .none .geq t1 (.int .i64 0)) fun t2 =>
  K t2) E := by kernel_rfl

theorem t85 (K : Kont) (E : PanK) (x0 : Value)  : den Tryd.prog (sel (bodyOf Tryd.f85) []) (bodyQ Tryd.prog Tryd.f85.results.toList K E) #[x0, undef, undef, undef, undef, undef] =
  nw 51 (Value.cells x0).toList fun t1 =>
  ld true 2 t1 fun t2 =>
  callv Tryd.prog (.func (.func 86) #[] #[]) #[t2] (fun t3 =>
  pv (unV .not t3) fun t4 =>
  K t4) E := by kernel_rfl

theorem t86 (K : Kont) (E : PanK) (x0 : Value)  : den Tryd.prog (sel (bodyOf Tryd.f86) []) (bodyQ Tryd.prog Tryd.f86.results.toList K E) #[x0, undef, undef, undef, undef, undef, undef, undef, undef, undef, undef, undef, undef, undef, undef, undef, undef, undef, undef, undef, undef, undef, undef, undef, undef, undef, undef, undef, undef, undef, undef, undef, undef, undef, undef, undef, undef, undef, undef, undef, undef, undef] =
  nw 51 (Value.cells x0).toList fun t1 =>
  pv (faV 0 t1) fun t2 =>
  ld false 1 t2 fun t3 =>
  pv (binV .none .lss t3 (.int .i64 1)) fun t4 =>
  gdK t4 false (fun k => pv (faV 0 t1) k) fun t5 =>
  gdK t4 false (fun k => ld false 1 t5 k) fun t6 =>
  gdK t4 false (fun k => pv (binV .none .gtr t6 (.int .i64 10000)) k) fun t7 =>
  pv (pickV t4 (.bool true) t7) fun t8 =>
  gdK t8 false (fun k => pv (faV 1 t1) k) fun t9 =>
  gdK t8 false (fun k => ld false 1 t9 k) fun t10 =>
  gdK t8 false (fun k => pv (lenV t10) k) fun t11 =>
  gdK t8 false (fun k => pv (binV .none .gtr t11 (.int .i64 4)) k) fun t12 =>
  pv (pickV t8 (.bool true) t12) fun t13 =>
  cnd t13 (
    K (.bool false)) (
    pv (faV 1 t1) fun t14 =>
    ld false 1 t14 fun t15 =>
    pv (lenV t15) fun t16 =>
    lp (fun k1 => den Tryd.prog (sel (bodyOf Tryd.f86) [1, 1, 1, 0, 1, 0, 0]) (thenD k1 (blk 0 (thenD (den Tryd.prog (sel (bodyOf Tryd.f86) [1, 1, 1, 1]) (bodyQ Tryd.prog Tryd.f86.results.toList K E)) (bodyQ Tryd.prog Tryd.f86.results.toList K E))))) #[x0, t1, (.bool false), (.int .i64 1), undef, undef, t2, t3, t4, t4, t5, t6, t7, t8, t8, t9, t10, t11, t12, t13, t14, t15, t16, (.int .i64 0), undef, undef, undef, undef, undef, undef, undef, undef, undef, undef, undef, undef, undef, undef, undef, undef, undef, undef]) := by kernel_rfl
def m86_1_1_1_0_1_0_0 (x0 x1 x4 x6 x7 x8 x9 x10 x11 x12 x13 x14 x15 x16 x17 x18 x19 x20 x21 x22 : Value) (v3 v23 : Value) (j : Nat → Value) : Env := #[x0, x1, (j 2), v3, x4, (j 5), x6, x7, x8, x9, x10, x11, x12, x13, x14, x15, x16, x17, x18, x19, x20, x21, x22, v23, (j 24), (j 25), (j 26), (j 27), (j 28), (j 29), (j 30), (j 31), (j 32), (j 33), (j 34), (j 35), (j 36), (j 37), (j 38), (j 39), (j 40), (j 41)]
theorem t86_1_1_1_0_1_0_0 (K : Kont) (E : PanK) (k1 : Env → Hp → Prop) (x0 x1 x4 x6 x7 x8 x9 x10 x11 x12 x13 x14 x15 x16 x17 x18 x19 x20 x21 x22 v3 v23 : Value) (j : Nat → Value) : den Tryd.prog (sel (bodyOf Tryd.f86) [1, 1, 1, 0, 1, 0, 0]) (thenD k1 (blk 0 (thenD (den Tryd.prog (sel (bodyOf Tryd.f86) [1, 1, 1, 1]) (bodyQ Tryd.prog Tryd.f86.results.toList K E)) (bodyQ Tryd.prog Tryd.f86.results.toList K E)))) (m86_1_1_1_0_1_0_0 x0 x1 x4 x6 x7 x8 x9 x10 x11 x12 x13 x14 x15 x16 x17 x18 x19 x20 x21 x22 v3 v23 j) =
  pv (binV .none .lss v23 x22) fun t1 =>
  cnd t1 (
    pv (iaV none 1 x21 v23) fun t2 =>
    ld false 1 t2 fun t3 =>
    pv (binV .none .leq t3 v3) fun t4 =>
    gdK t4 false (fun k => k t3) fun t5 =>
    gdK t4 false (fun k => pv (binV .none .gtr t5 (.int .i64 10000)) k) fun t6 =>
    pv (pickV t4 (.bool true) t6) fun t7 =>
    gdK t7 false (fun k => k t3) fun t8 =>
    gdK t7 false (fun k => k v3) fun t9 =>
    gdK t7 false (fun k => pv (binV .none .rem t8 t9) k) fun t10 =>
    gdK t7 false (fun k => pv (binV .none .neq t10 (.int .i64 0)) k) fun t11 =>
    pv (pickV t7 (.bool true) t11) fun t12 =>
    cnd t12 (
      K (.bool false)) (
      pv (binV .none .add v23 (.int .i64 1)) fun t13 =>
      k1 (m86_1_1_1_0_1_0_0 x0 x1 x4 x6 x7 x8 x9 x10 x11 x12 x13 x14 x15 x16 x17 x18 x19 x20 x21 x22 t3 t13 (jf #[x0, x1, (j 2), t3, x4, t3, x6, x7, x8, x9, x10, x11, x12, x13, x14, x15, x16, x17, x18, x19, x20, x21, x22, t13, t1, t2, t3, t3, v3, t4, t4, t5, t6, t7, t7, t8, t9, t10, t11, t12, t3, t13])))) (
    den Tryd.prog (sel (bodyOf Tryd.f86) [1, 1, 1, 1]) (bodyQ Tryd.prog Tryd.f86.results.toList K E) #[x0, x1, (j 2), v3, x4, (j 5), x6, x7, x8, x9, x10, x11, x12, x13, x14, x15, x16, x17, x18, x19, x20, x21, x22, v23, t1, (j 25), (j 26), (j 27), (j 28), (j 29), (j 30), (j 31), (j 32), (j 33), (j 34), (j 35), (j 36), (j 37), (j 38), (j 39), (j 40), (j 41)]) := by kernel_rfl
theorem t86_1_1_1_1 (K : Kont) (E : PanK) (x0 x1 x2 x3 x4 x5 x6 x7 x8 x9 x10 x11 x12 x13 x14 x15 x16 x17 x18 x19 x20 x21 x22 x23 x24 x25 x26 x27 x28 x29 x30 x31 x32 x33 x34 x35 x36 x37 x38 x39 x40 x41 : Value)  : den Tryd.prog (sel (bodyOf Tryd.f86) [1, 1, 1, 1]) (bodyQ Tryd.prog Tryd.f86.results.toList K E) #[x0, x1, x2, x3, x4, x5, x6, x7, x8, x9, x10, x11, x12, x13, x14, x15, x16, x17, x18, x19, x20, x21, x22, x23, x24, x25, x26, x27, x28, x29, x30, x31, x32, x33, x34, x35, x36, x37, x38, x39, x40, x41] =
  K (.bool true) := by kernel_rfl
theorem l86_1_1_1_0_1_0_0 {K : Kont} {E : PanK} {σ : Type} {x0 x1 x4 x6 x7 x8 x9 x10 x11 x12 x13 x14 x15 x16 x17 x18 x19 x20 x21 x22 v3 v23 y2 y5 y24 y25 y26 y27 y28 y29 y30 y31 y32 y33 y34 y35 y36 y37 y38 y39 y40 y41 : Value} {h : Hp} (f3 f23 : σ → Value) (I : σ → Hp → Prop) (μ : σ → Nat) (s0 : σ) (e3 : v3 = f3 s0) (e23 : v23 = f23 s0) (h0 : h.wf → ∃ h', h.wk h' ∧ I s0 h')
  (round : ∀ (k1 : Env → Hp → Prop) (s : σ) (j : Nat → Value) (h : Hp), I s h → h.wf → (∀ s' j' h', μ s' < μ s → (h'.wf → ∃ h'', h'.wk h'' ∧ I s' h'') → k1 (m86_1_1_1_0_1_0_0 x0 x1 x4 x6 x7 x8 x9 x10 x11 x12 x13 x14 x15 x16 x17 x18 x19 x20 x21 x22 (f3 s') (f23 s') j') h') → (
  pv (binV .none .lss (f23 s) x22) fun t1 =>
  cnd t1 (
    pv (iaV none 1 x21 (f23 s)) fun t2 =>
    ld false 1 t2 fun t3 =>
    pv (binV .none .leq t3 (f3 s)) fun t4 =>
    gdK t4 false (fun k => k t3) fun t5 =>
    gdK t4 false (fun k => pv (binV .none .gtr t5 (.int .i64 10000)) k) fun t6 =>
    pv (pickV t4 (.bool true) t6) fun t7 =>
    gdK t7 false (fun k => k t3) fun t8 =>
    gdK t7 false (fun k => k (f3 s)) fun t9 =>
    gdK t7 false (fun k => pv (binV .none .rem t8 t9) k) fun t10 =>
    gdK t7 false (fun k => pv (binV .none .neq t10 (.int .i64 0)) k) fun t11 =>
    pv (pickV t7 (.bool true) t11) fun t12 =>
    cnd t12 (
      K (.bool false)) (
      pv (binV .none .add (f23 s) (.int .i64 1)) fun t13 =>
      k1 (m86_1_1_1_0_1_0_0 x0 x1 x4 x6 x7 x8 x9 x10 x11 x12 x13 x14 x15 x16 x17 x18 x19 x20 x21 x22 t3 t13 (jf #[x0, x1, (j 2), t3, x4, t3, x6, x7, x8, x9, x10, x11, x12, x13, x14, x15, x16, x17, x18, x19, x20, x21, x22, t13, t1, t2, t3, t3, (f3 s), t4, t4, t5, t6, t7, t7, t8, t9, t10, t11, t12, t3, t13])))) (
    den Tryd.prog (sel (bodyOf Tryd.f86) [1, 1, 1, 1]) (bodyQ Tryd.prog Tryd.f86.results.toList K E) #[x0, x1, (j 2), (f3 s), x4, (j 5), x6, x7, x8, x9, x10, x11, x12, x13, x14, x15, x16, x17, x18, x19, x20, x21, x22, (f23 s), t1, (j 25), (j 26), (j 27), (j 28), (j 29), (j 30), (j 31), (j 32), (j 33), (j 34), (j 35), (j 36), (j 37), (j 38), (j 39), (j 40), (j 41)])) h) :
  lp (fun k1 => den Tryd.prog (sel (bodyOf Tryd.f86) [1, 1, 1, 0, 1, 0, 0]) (thenD k1 (blk 0 (thenD (den Tryd.prog (sel (bodyOf Tryd.f86) [1, 1, 1, 1]) (bodyQ Tryd.prog Tryd.f86.results.toList K E)) (bodyQ Tryd.prog Tryd.f86.results.toList K E))))) #[x0, x1, y2, v3, x4, y5, x6, x7, x8, x9, x10, x11, x12, x13, x14, x15, x16, x17, x18, x19, x20, x21, x22, v23, y24, y25, y26, y27, y28, y29, y30, y31, y32, y33, y34, y35, y36, y37, y38, y39, y40, y41] h := by
  subst e3
  subst e23
  have e : (#[x0, x1, y2, (f3 s0), x4, y5, x6, x7, x8, x9, x10, x11, x12, x13, x14, x15, x16, x17, x18, x19, x20, x21, x22, (f23 s0), y24, y25, y26, y27, y28, y29, y30, y31, y32, y33, y34, y35, y36, y37, y38, y39, y40, y41] : Env) = m86_1_1_1_0_1_0_0 x0 x1 x4 x6 x7 x8 x9 x10 x11 x12 x13 x14 x15 x16 x17 x18 x19 x20 x21 x22 (f3 s0) (f23 s0) (jf #[x0, x1, y2, (f3 s0), x4, y5, x6, x7, x8, x9, x10, x11, x12, x13, x14, x15, x16, x17, x18, x19, x20, x21, x22, (f23 s0), y24, y25, y26, y27, y28, y29, y30, y31, y32, y33, y34, y35, y36, y37, y38, y39, y40, y41]) := by kernel_rfl
  rw [e]
  exact loop_r (fun s j => m86_1_1_1_0_1_0_0 x0 x1 x4 x6 x7 x8 x9 x10 x11 x12 x13 x14 x15 x16 x17 x18 x19 x20 x21 x22 (f3 s) (f23 s) j) I μ (fun k s j h hI hw next => by rw [t86_1_1_1_0_1_0_0]; exact round k s j h hI hw next) s0 (jf #[x0, x1, y2, (f3 s0), x4, y5, x6, x7, x8, x9, x10, x11, x12, x13, x14, x15, x16, x17, x18, x19, x20, x21, x22, (f23 s0), y24, y25, y26, y27, y28, y29, y30, y31, y32, y33, y34, y35, y36, y37, y38, y39, y40, y41]) h0

theorem t87 (K : Kont) (E : PanK) (x0 x1 x2 x3 : Value)  : den Tryd.prog (sel (bodyOf Tryd.f87) []) (bodyQ Tryd.prog Tryd.f87.results.toList K E) #[x0, x1, x2, x3, undef, undef, undef, undef, undef, undef, undef, undef, undef, undef, undef, undef, undef, undef, undef, undef, undef, undef, undef, undef, undef, undef, undef, undef, undef, undef, undef, undef, undef, undef, undef, undef, undef, undef, undef, undef, undef, undef, undef, undef, undef, undef, undef, undef, undef, undef] =
  nw 51 (Value.cells x0).toList fun t1 =>
  ld true 2 t1 fun t2 =>
  callv Tryd.prog (.func (.func 86) #[] #[]) #[t2] (fun t3 =>
  pv (unV .not t3) fun t4 =>
  gdK t4 false (fun k => k x1) fun t5 =>
  gdK t4 false (fun k => pv (binV .none .lss t5 (.int .i64 0)) k) fun t6 =>
  pv (pickV t4 (.bool true) t6) fun t7 =>
  gdK t7 false (fun k => k x2) fun t8 =>
  gdK t7 false (fun k => k x1) fun t9 =>
  gdK t7 false (fun k => pv (binV .none .lss t8 t9) k) fun t10 =>
  pv (pickV t7 (.bool true) t10) fun t11 =>
  gdK t11 false (fun k => k x2) fun t12 =>
  gdK t11 false (fun k => ld true 2 t1 k) fun t13 =>
  gdK t11 false (fun k => callv Tryd.prog (.func (.func 68) #[] #[]) #[t13] k E) fun t14 =>
  gdK t11 false (fun k => pv (binV .none .geq t12 t14) k) fun t15 =>
  pv (pickV t11 (.bool true) t15) fun t16 =>
  gdK t16 false (fun k => k x3) fun t17 =>
  gdK t16 false (fun k => pv (binV .none .lss t17 (.int .i64 0)) k) fun t18 =>
  pv (pickV t16 (.bool true) t18) fun t19 =>
  cnd t19 (
    K (.int .i64 (-1))) (
    ld true 2 t1 fun t20 =>
    callv Tryd.prog (.func (.func 101) #[] #[]) #[t20, x2] (fun t21 =>
    pv (binV .none .eql x1 x2) fun t22 =>
    cnd t22 (
      K x3) (
      pv (binV .none .eql t21 (.int .i64 0)) fun t23 =>
      cnd t23 (
        K (.int .i64 0)) (
        ld true 2 t1 fun t24 =>
        callv Tryd.prog (.func (.func 101) #[] #[]) #[t24, x1] (fun t25 =>
        pv (binV .none .quo t21 t25) fun t26 =>
        pv (binV .none .quo x3 t26) fun t27 =>
        K t27) E))) E)) E := by kernel_rfl

theorem t88 (K : Kont) (E : PanK) (x0 : Value)  : den Tryd.prog (sel (bodyOf Tryd.f88) []) (bodyQ Tryd.prog Tryd.f88.results.toList K E) #[x0, undef, undef, undef, undef, undef, undef, undef, undef, undef, undef, undef, undef, undef, undef, undef, undef, undef, undef, undef, undef, undef, undef, undef, undef, undef, undef, undef, undef, undef, undef, undef, undef, undef, undef, undef, undef, undef, undef, undef, undef, undef, undef, undef, undef, undef, undef, undef, undef, undef, undef, undef, undef, undef, undef, undef, undef, undef, undef, undef, undef, undef, undef, undef, undef, undef, undef, undef, undef, undef, undef, undef] =
  nw 51 (Value.cells x0).toList fun t1 =>
  lp (fun k1 => den Tryd.prog (sel (bodyOf Tryd.f88) [1, 0, 1, 0, 0]) (thenD k1 (blk 0 (thenD (den Tryd.prog (sel (bodyOf Tryd.f88) [1, 1]) (bodyQ Tryd.prog Tryd.f88.results.toList K E)) (bodyQ Tryd.prog Tryd.f88.results.toList K E))))) #[x0, t1, (.bool false), (.int .i64 0), undef, undef, undef, undef, undef, undef, undef, undef, undef, undef, undef, undef, undef, undef, undef, undef, undef, undef, undef, undef, undef, undef, undef, undef, undef, undef, undef, undef, undef, undef, undef, undef, undef, undef, undef, undef, undef, undef, undef, undef, undef, undef, undef, undef, undef, undef, undef, undef, undef, undef, undef, undef, undef, undef, undef, undef, undef, undef, undef, undef, undef, undef, undef, undef, undef, undef, undef, undef] := by kernel_rfl
def m88_1_0_1_0_0 (x0 x1 x58 x59 x60 x61 x62 x63 x64 x65 x66 x67 x68 x69 x70 x71 : Value) (v3 : Value) (j : Nat → Value) : Env := #[x0, x1, (j 2), v3, (j 4), (j 5), (j 6), (j 7), (j 8), (j 9), (j 10), (j 11), (j 12), (j 13), (j 14), (j 15), (j 16), (j 17), (j 18), (j 19), (j 20), (j 21), (j 22), (j 23), (j 24), (j 25), (j 26), (j 27), (j 28), (j 29), (j 30), (j 31), (j 32), (j 33), (j 34), (j 35), (j 36), (j 37), (j 38), (j 39), (j 40), (j 41), (j 42), (j 43), (j 44), (j 45), (j 46), (j 47), (j 48), (j 49), (j 50), (j 51), (j 52), (j 53), (j 54), (j 55), (j 56), (j 57), x58, x59, x60, x61, x62, x63, x64, x65, x66, x67, x68, x69, x70, x71]
theorem t88_1_0_1_0_0 (K : Kont) (E : PanK) (k1 : Env → Hp → Prop) (x0 x1 x58 x59 x60 x61 x62 x63 x64 x65 x66 x67 x68 x69 x70 x71 v3 : Value) (j : Nat → Value) : den Tryd.prog (sel (bodyOf Tryd.f88) [1, 0, 1, 0, 0]) (thenD k1 (blk 0 (thenD (den Tryd.prog (sel (bodyOf Tryd.f88) [1, 1]) (bodyQ Tryd.prog Tryd.f88.results.toList K E)) (bodyQ Tryd.prog Tryd.f88.results.toList K E)))) (m88_1_0_1_0_0 x0 x1 x58 x59 x60 x61 x62 x63 x64 x65 x66 x67 x68 x69 x70 x71 v3 j) =
  pv (faV 1 x1) fun t1 =>
  ld false 1 t1 fun t2 =>
  pv (lenV t2) fun t3 =>
  pv (binV .none .lss v3 t3) fun t4 =>
  cnd t4 (
    pv (faV 1 x1) fun t5 =>
    ld false 1 t5 fun t6 =>
    pv (iaV none 1 t6 v3) fun t7 =>
    ld false 1 t7 fun t8 =>
    pv (binV .none .lss t8 (.int .i64 2)) fun t9 =>
    gdK t9 false (fun k => pv (faV 1 x1) k) fun t10 =>
    gdK t9 false (fun k => ld false 1 t10 k) fun t11 =>
    gdK t9 false (fun k => k v3) fun t12 =>
    gdK t9 false (fun k => pv (iaV none 1 t11 t12) k) fun t13 =>
    gdK t9 false (fun k => ld false 1 t13 k) fun t14 =>
    gdK t9 false (fun k => pv (binV .none .gtr t14 (.int .i64 10000)) k) fun t15 =>
    pv (pickV t9 (.bool true) t15) fun t16 =>
    gdK t16 false (fun k => k v3) fun t17 =>
    gdK t16 false (fun k => pv (binV .none .gtr t17 (.int .i64 0)) k) fun t18 =>
    gdK t16 false (fun k => k t18) fun t19 =>
    gdK t19 true (fun k => pv (faV 1 x1) k) fun t20 =>
    gdK t19 true (fun k => ld false 1 t20 k) fun t21 =>
    gdK t19 true (fun k => k v3) fun t22 =>
    gdK t19 true (fun k => pv (iaV none 1 t21 t22) k) fun t23 =>
    gdK t19 true (fun k => ld false 1 t23 k) fun t24 =>
    gdK t19 true (fun k => pv (faV 1 x1) k) fun t25 =>
    gdK t19 true (fun k => ld false 1 t25 k) fun t26 =>
    gdK t19 true (fun k => k v3) fun t27 =>
    gdK t19 true (fun k => pv (binV .none .sub t27 (.int .i64 1)) k) fun t28 =>
    gdK t19 true (fun k => pv (iaV none 1 t26 t28) k) fun t29 =>
    gdK t19 true (fun k => ld false 1 t29 k) fun t30 =>
    gdK t19 true (fun k => pv (binV .none .leq t24 t30) k) fun t31 =>
    gdK t19 true (fun k => k t31) fun t32 =>
    gdK t32 false (fun k => pv (faV 1 x1) k) fun t33 =>
    gdK t32 false (fun k => ld false 1 t33 k) fun t34 =>
    gdK t32 false (fun k => k v3) fun t35 =>
    gdK t32 false (fun k => pv (iaV none 1 t34 t35) k) fun t36 =>
    gdK t32 false (fun k => ld false 1 t36 k) fun t37 =>
    gdK t32 false (fun k => pv (faV 1 x1) k) fun t38 =>
    gdK t32 false (fun k => ld false 1 t38 k) fun t39 =>
    gdK t32 false (fun k => k v3) fun t40 =>
    gdK t32 false (fun k => pv (binV .none .sub t40 (.int .i64 1)) k) fun t41 =>
    gdK t32 false (fun k => pv (iaV none 1 t39 t41) k) fun t42 =>
    gdK t32 false (fun k => ld false 1 t42 k) fun t43 =>
    gdK t32 false (fun k => pv (binV .none .rem t37 t43) k) fun t44 =>
    gdK t32 false (fun k => pv (binV .none .neq t44 (.int .i64 0)) k) fun t45 =>
    gdK t19 true (fun k => pv (pickV t32 (.bool true) t45) k) fun t46 =>
    gdK t16 false (fun k => pv (pickV t19 t46 (.bool false)) k) fun t47 =>
    pv (pickV t16 (.bool true) t47) fun t48 =>
    cnd t48 (
      K (.bool false)) (
      pv (binV .none .add v3 (.int .i64 1)) fun t49 =>
      k1 (m88_1_0_1_0_0 x0 x1 x58 x59 x60 x61 x62 x63 x64 x65 x66 x67 x68 x69 x70 x71 t49 (jf #[x0, x1, (j 2), t49, v3, t1, t2, t3, t4, v3, t49, t5, t6, v3, t7, t8, t9, t9, t10, t11, t12, t13, t14, t15, t16, t16, t17, t18, t19, t20, t21, t22, t23, t24, t25, t26, t27, t28, t29, t30, t31, t32, t33, t34, t35, t36, t37, t38, t39, t40, t41, t42, t43, t44, t45, t46, t47, t48, x58, x59, x60, x61, x62, x63, x64, x65, x66, x67, x68, x69, x70, x71])))) (
    den Tryd.prog (sel (bodyOf Tryd.f88) [1, 1]) (bodyQ Tryd.prog Tryd.f88.results.toList K E) #[x0, x1, (j 2), v3, v3, t1, t2, t3, t4, (j 9), (j 10), (j 11), (j 12), (j 13), (j 14), (j 15), (j 16), (j 17), (j 18), (j 19), (j 20), (j 21), (j 22), (j 23), (j 24), (j 25), (j 26), (j 27), (j 28), (j 29), (j 30), (j 31), (j 32), (j 33), (j 34), (j 35), (j 36), (j 37), (j 38), (j 39), (j 40), (j 41), (j 42), (j 43), (j 44), (j 45), (j 46), (j 47), (j 48), (j 49), (j 50), (j 51), (j 52), (j 53), (j 54), (j 55), (j 56), (j 57), x58, x59, x60, x61, x62, x63, x64, x65, x66, x67, x68, x69, x70, x71]) := by kernel_rfl
theorem t88_1_1 (K : Kont) (E : PanK) (x0 x1 x2 x3 x4 x5 x6 x7 x8 x9 x10 x11 x12 x13 x14 x15 x16 x17 x18 x19 x20 x21 x22 x23 x24 x25 x26 x27 x28 x29 x30 x31 x32 x33 x34 x35 x36 x37 x38 x39 x40 x41 x42 x43 x44 x45 x46 x47 x48 x49 x50 x51 x52 x53 x54 x55 x56 x57 x58 x59 x60 x61 x62 x63 x64 x65 x66 x67 x68 x69 x70 x71 : Value)  : den Tryd.prog (sel (bodyOf Tryd.f88) [1, 1]) (bodyQ Tryd.prog Tryd.f88.results.toList K E) #[x0, x1, x2, x3, x4, x5, x6, x7, x8, x9, x10, x11, x12, x13, x14, x15, x16, x17, x18, x19, x20, x21, x22, x23, x24, x25, x26, x27, x28, x29, x30, x31, x32, x33, x34, x35, x36, x37, x38, x39, x40, x41, x42, x43, x44, x45, x46, x47, x48, x49, x50, x51, x52, x53, x54, x55, x56, x57, x58, x59, x60, x61, x62, x63, x64, x65, x66, x67, x68, x69, x70, x71] =
  pv (faV 0 x1) fun t1 =>
  ld false 1 t1 fun t2 =>
  pv (binV .none .geq t2 (.int .i64 1)) fun t3 =>
  gdK t3 true (fun k => pv (faV 0 x1) k) fun t4 =>
  gdK t3 true (fun k => ld false 1 t4 k) fun t5 =>
  gdK t3 true (fun k => pv (binV .none .leq t5 (.int .i64 10000)) k) fun t6 =>
  pv (pickV t3 t6 (.bool false)) fun t7 =>
  gdK t7 true (fun k => pv (faV 1 x1) k) fun t8 =>
  gdK t7 true (fun k => ld false 1 t8 k) fun t9 =>
  gdK t7 true (fun k => pv (lenV t9) k) fun t10 =>
  gdK t7 true (fun k => pv (binV .none .leq t10 (.int .i64 4)) k) fun t11 =>
  pv (pickV t7 t11 (.bool false)) fun t12 =>
  K t12 := by kernel_rfl
theorem l88_1_0_1_0_0 {K : Kont} {E : PanK} {σ : Type} {x0 x1 x58 x59 x60 x61 x62 x63 x64 x65 x66 x67 x68 x69 x70 x71 v3 y2 y4 y5 y6 y7 y8 y9 y10 y11 y12 y13 y14 y15 y16 y17 y18 y19 y20 y21 y22 y23 y24 y25 y26 y27 y28 y29 y30 y31 y32 y33 y34 y35 y36 y37 y38 y39 y40 y41 y42 y43 y44 y45 y46 y47 y48 y49 y50 y51 y52 y53 y54 y55 y56 y57 : Value} {h : Hp} (f3 : σ → Value) (I : σ → Hp → Prop) (μ : σ → Nat) (s0 : σ) (e3 : v3 = f3 s0) (h0 : h.wf → ∃ h', h.wk h' ∧ I s0 h')
  (round : ∀ (k1 : Env → Hp → Prop) (s : σ) (j : Nat → Value) (h : Hp), I s h → h.wf → (∀ s' j' h', μ s' < μ s → (h'.wf → ∃ h'', h'.wk h'' ∧ I s' h'') → k1 (m88_1_0_1_0_0 x0 x1 x58 x59 x60 x61 x62 x63 x64 x65 x66 x67 x68 x69 x70 x71 (f3 s') j') h') → (
  pv (faV 1 x1) fun t1 =>
  ld false 1 t1 fun t2 =>
  pv (lenV t2) fun t3 =>
  pv (binV .none .lss (f3 s) t3) fun t4 =>
  cnd t4 (
    pv (faV 1 x1) fun t5 =>
    ld false 1 t5 fun t6 =>
    pv (iaV none 1 t6 (f3 s)) fun t7 =>
    ld false 1 t7 fun t8 =>
    pv (binV .none .lss t8 (.int .i64 2)) fun t9 =>
    gdK t9 false (fun k => pv (faV 1 x1) k) fun t10 =>
    gdK t9 false (fun k => ld false 1 t10 k) fun t11 =>
    gdK t9 false (fun k => k (f3 s)) fun t12 =>
    gdK t9 false (fun k => pv (iaV none 1 t11 t12) k) fun t13 =>
    gdK t9 false (fun k => ld false 1 t13 k) fun t14 =>
    gdK t9 false (fun k => pv (binV .none .gtr t14 (.int .i64 10000)) k) fun t15 =>
    pv (pickV t9 (.bool true) t15) fun t16 =>
    gdK t16 false (fun k => k (f3 s)) fun t17 =>
    gdK t16 false (fun k => pv (binV .none .gtr t17 (.int .i64 0)) k) fun t18 =>
    gdK t16 false (fun k => k t18) fun t19 =>
    gdK t19 true (fun k => pv (faV 1 x1) k) fun t20 =>
    gdK t19 true (fun k => ld false 1 t20 k) fun t21 =>
    gdK t19 true (fun k => k (f3 s)) fun t22 =>
    gdK t19 true (fun k => pv (iaV none 1 t21 t22) k) fun t23 =>
    gdK t19 true (fun k => ld false 1 t23 k) fun t24 =>
    gdK t19 true (fun k => pv (faV 1 x1) k) fun t25 =>
    gdK t19 true (fun k => ld false 1 t25 k) fun t26 =>
    gdK t19 true (fun k => k (f3 s)) fun t27 =>
    gdK t19 true (fun k => pv (binV .none .sub t27 (.int .i64 1)) k) fun t28 =>
    gdK t19 true (fun k => pv (iaV none 1 t26 t28) k) fun t29 =>
    gdK t19 true (fun k => ld false 1 t29 k) fun t30 =>
    gdK t19 true (fun k => pv (binV .none .leq t24 t30) k) fun t31 =>
    gdK t19 true (fun k => k t31) fun t32 =>
    gdK t32 false (fun k => pv (faV 1 x1) k) fun t33 =>
    gdK t32 false (fun k => ld false 1 t33 k) fun t34 =>
    gdK t32 false (fun k => k (f3 s)) fun t35 =>
    gdK t32 false (fun k => pv (iaV none 1 t34 t35) k) fun t36 =>
    gdK t32 false (fun k => ld false 1 t36 k) fun t37 =>
    gdK t32 false (fun k => pv (faV 1 x1) k) fun t38 =>
    gdK t32 false (fun k => ld false 1 t38 k) fun t39 =>
    gdK t32 false (fun k => k (f3 s)) fun t40 =>
    gdK t32 false (fun k => pv (binV .none .sub t40 (.int .i64 1)) k) fun t41 =>
    gdK t32 false (fun k => pv (iaV none 1 t39 t41) k) fun t42 =>
    gdK t32 false (fun k => ld false 1 t42 k) fun t43 =>
    gdK t32 false (fun k => pv (binV .none .rem t37 t43) k) fun t44 =>
    gdK t32 false (fun k => pv (binV .none .neq t44 (.int .i64 0)) k) fun t45 =>
    gdK t19 true (fun k => pv (pickV t32 (.bool true) t45) k) fun t46 =>
    gdK t16 false (fun k => pv (pickV t19 t46 (.bool false)) k) fun t47 =>
    pv (pickV t16 (.bool true) t47) fun t48 =>
    cnd t48 (
      K (.bool false)) (
      pv (binV .none .add (f3 s) (.int .i64 1)) fun t49 =>
      k1 (m88_1_0_1_0_0 x0 x1 x58 x59 x60 x61 x62 x63 x64 x65 x66 x67 x68 x69 x70 x71 t49 (jf #[x0, x1, (j 2), t49, (f3 s), t1, t2, t3, t4, (f3 s), t49, t5, t6, (f3 s), t7, t8, t9, t9, t10, t11, t12, t13, t14, t15, t16, t16, t17, t18, t19, t20, t21, t22, t23, t24, t25, t26, t27, t28, t29, t30, t31, t32, t33, t34, t35, t36, t37, t38, t39, t40, t41, t42, t43, t44, t45, t46, t47, t48, x58, x59, x60, x61, x62, x63, x64, x65, x66, x67, x68, x69, x70, x71])))) (
    den Tryd.prog (sel (bodyOf Tryd.f88) [1, 1]) (bodyQ Tryd.prog Tryd.f88.results.toList K E) #[x0, x1, (j 2), (f3 s), (f3 s), t1, t2, t3, t4, (j 9), (j 10), (j 11), (j 12), (j 13), (j 14), (j 15), (j 16), (j 17), (j 18), (j 19), (j 20), (j 21), (j 22), (j 23), (j 24), (j 25), (j 26), (j 27), (j 28), (j 29), (j 30), (j 31), (j 32), (j 33), (j 34), (j 35), (j 36), (j 37), (j 38), (j 39), (j 40), (j 41), (j 42), (j 43), (j 44), (j 45), (j 46), (j 47), (j 48), (j 49), (j 50), (j 51), (j 52), (j 53), (j 54), (j 55), (j 56), (j 57), x58, x59, x60, x61, x62, x63, x64, x65, x66, x67, x68, x69, x70, x71])) h) :
  lp (fun k1 => den Tryd.prog (sel (bodyOf Tryd.f88) [1, 0, 1, 0, 0]) (thenD k1 (blk 0 (thenD (den Tryd.prog (sel (bodyOf Tryd.f88) [1, 1]) (bodyQ Tryd.prog Tryd.f88.results.toList K E)) (bodyQ Tryd.prog Tryd.f88.results.toList K E))))) #[x0, x1, y2, v3, y4, y5, y6, y7, y8, y9, y10, y11, y12, y13, y14, y15, y16, y17, y18, y19, y20, y21, y22, y23, y24, y25, y26, y27, y28, y29, y30, y31, y32, y33, y34, y35, y36, y37, y38, y39, y40, y41, y42, y43, y44, y45, y46, y47, y48, y49, y50, y51, y52, y53, y54, y55, y56, y57, x58, x59, x60, x61, x62, x63, x64, x65, x66, x67, x68, x69, x70, x71] h := by
  subst e3
  have e : (#[x0, x1, y2, (f3 s0), y4, y5, y6, y7, y8, y9, y10, y11, y12, y13, y14, y15, y16, y17, y18, y19, y20, y21, y22, y23, y24, y25, y26, y27, y28, y29, y30, y31, y32, y33, y34, y35, y36, y37, y38, y39, y40, y41, y42, y43, y44, y45, y46, y47, y48, y49, y50, y51, y52, y53, y54, y55, y56, y57, x58, x59, x60, x61, x62, x63, x64, x65, x66, x67, x68, x69, x70, x71] : Env) = m88_1_0_1_0_0 x0 x1 x58 x59 x60 x61 x62 x63 x64 x65 x66 x67 x68 x69 x70 x71 (f3 s0) (jf #[x0, x1, y2, (f3 s0), y4, y5, y6, y7, y8, y9, y10, y11, y12, y13, y14, y15, y16, y17, y18, y19, y20, y21, y22, y23, y24, y25, y26, y27, y28, y29, y30, y31, y32, y33, y34, y35, y36, y37, y38, y39, y40, y41, y42, y43, y44, y45, y46, y47, y48, y49, y50, y51, y52, y53, y54, y55, y56, y57, x58, x59, x60, x61, x62, x63, x64, x65, x66, x67, x68, x69, x70, x71]) := by kernel_rfl
  rw [e]
  exact loop_r (fun s j => m88_1_0_1_0_0 x0 x1 x58 x59 x60 x61 x62 x63 x64 x65 x66 x67 x68 x69 x70 x71 (f3 s) j) I μ (fun k s j h hI hw next => by rw [t88_1_0_1_0_0]; exact round k s j h hI hw next) s0 (jf #[x0, x1, y2, (f3 s0), y4, y5, y6, y7, y8, y9, y10, y11, y12, y13, y14, y15, y16, y17, y18, y19, y20, y21, y22, y23, y24, y25, y26, y27, y28, y29, y30, y31, y32, y33, y34, y35, y36, y37, y38, y39, y40, y41, y42, y43, y44, y45, y46, y47, y48, y49, y50, y51, y52, y53, y54, y55, y56, y57, x58, x59, x60, x61, x62, x63, x64, x65, x66, x67, x68, x69, x70, x71]) h0

theorem t89 (K : Kont) (E : PanK) (x0 x1 x2 x3 : Value)  : den Tryd.prog (sel (bodyOf Tryd.f89) []) (bodyQ Tryd.prog Tryd.f89.results.toList K E) #[x0, x1, x2, x3, undef, undef, undef, undef, undef, undef, undef, undef, undef, undef, undef, undef, undef, undef, undef, undef, undef, undef, undef, undef, undef, undef, undef, undef, undef, undef, undef, undef, undef, undef, undef, undef, undef, undef, undef, undef, undef, undef, undef, undef, undef, undef, undef, undef, undef, undef, undef, undef, undef, undef, undef, undef, undef, undef, undef, undef, undef, undef, undef, undef, undef] =
  nw 51 (Value.cells x0).toList fun t1 =>
  ld true 2 t1 fun t2 =>
  callv Tryd.prog (.func (.func 88) #[] #[]) #[t2] (fun t3 =>
  pv (unV .not t3) fun t4 =>
  gdK t4 false (fun k => k x1) fun t5 =>
  gdK t4 false (fun k => pv (binV .none .lss t5 (.int .i64 0)) k) fun t6 =>
  pv (pickV t4 (.bool true) t6) fun t7 =>
  gdK t7 false (fun k => k x2) fun t8 =>
  gdK t7 false (fun k => k x1) fun t9 =>
  gdK t7 false (fun k => pv (binV .none .lss t8 t9) k) fun t10 =>
  pv (pickV t7 (.bool true) t10) fun t11 =>
  gdK t11 false (fun k => k x2) fun t12 =>
  gdK t11 false (fun k => ld true 2 t1 k) fun t13 =>
  gdK t11 false (fun k => callv Tryd.prog (.func (.func 71) #[] #[]) #[t13] k E) fun t14 =>
  gdK t11 false (fun k => pv (binV .none .geq t12 t14) k) fun t15 =>
  pv (pickV t11 (.bool true) t15) fun t16 =>
  gdK t16 false (fun k => k x3) fun t17 =>
  gdK t16 false (fun k => pv (binV .none .lss t17 (.int .i64 0)) k) fun t18 =>
  pv (pickV t16 (.bool true) t18) fun t19 =>
  cnd t19 (
    K (.int .i64 (-1))) (
    pv (binV .none .eql x1 x2) fun t20 =>
    cnd t20 (
      K x3) (
      ld true 2 t1 fun t21 =>
      callv Tryd.prog (.func (.func 71) #[] #[]) #[t21] (fun t22 =>
      pv (binV .none .sub t22 (.int .i64 1)) fun t23 =>
      pv (binV .none .eql x2 t23) fun t24 =>
      cnd t24 (
        K (.int .i64 0)) (
        pv (binV .none .eql x1 (.int .i64 0)) fun t25 =>
        cnd t25 (
          pv (faV 1 t1) fun t26 =>
          ld false 1 t26 fun t27 =>
          pv (binV .none .sub x2 (.int .i64 1)) fun t28 =>
          pv (iaV none 1 t27 t28) fun t29 =>
          ld false 1 t29 fun t30 =>
          pv (binV .none .quo x3 t30) fun t31 =>
          K t31) (
          pv (faV 1 t1) fun t32 =>
          ld false 1 t32 fun t33 =>
          pv (binV .none .sub x2 (.int .i64 1)) fun t34 =>
          pv (iaV none 1 t33 t34) fun t35 =>
          ld false 1 t35 fun t36 =>
          pv (faV 1 t1) fun t37 =>
          ld false 1 t37 fun t38 =>
          pv (binV .none .sub x1 (.int .i64 1)) fun t39 =>
          pv (iaV none 1 t38 t39) fun t40 =>
          ld false 1 t40 fun t41 =>
          pv (binV .none .quo t36 t41) fun t42 =>
          pv (binV .none .quo x3 t42) fun t43 =>
          K t43))) E))) E := by kernel_rfl

theorem t100 (K : Kont) (E : PanK) (x0 x1 : Value)  : den Tryd.prog (sel (bodyOf Tryd.f100) []) (bodyQ Tryd.prog Tryd.f100.results.toList K E) #[x0, x1, undef, undef, undef, undef, undef, undef, undef, undef, undef, undef, undef, undef, undef, undef, undef, undef, undef] =
  pv (lenV x0) fun t1 =>
  lp (fun k1 => den Tryd.prog (sel (bodyOf Tryd.f100) [1, 0, 1, 0, 0]) (thenD k1 (blk 0 (thenD (den Tryd.prog (sel (bodyOf Tryd.f100) [1, 1]) (bodyQ Tryd.prog Tryd.f100.results.toList K E)) (bodyQ Tryd.prog Tryd.f100.results.toList K E))))) #[x0, x1, undef, undef, (.int .i64 0), undef, x0, t1, (.int .i64 0), undef, undef, undef, undef, undef, undef, undef, undef, undef, undef] := by kernel_rfl
def m100_1_0_1_0_0 (x0 x1 x2 x3 x6 x7 : Value) (v8 : Value) (j : Nat → Value) : Env := #[x0, x1, x2, x3, (j 4), (j 5), x6, x7, v8, (j 9), (j 10), (j 11), (j 12), (j 13), (j 14), (j 15), (j 16), (j 17), (j 18)]
theorem t100_1_0_1_0_0 (K : Kont) (E : PanK) (k1 : Env → Hp → Prop) (x0 x1 x2 x3 x6 x7 v8 : Value) (j : Nat → Value) : den Tryd.prog (sel (bodyOf Tryd.f100) [1, 0, 1, 0, 0]) (thenD k1 (blk 0 (thenD (den Tryd.prog (sel (bodyOf Tryd.f100) [1, 1]) (bodyQ Tryd.prog Tryd.f100.results.toList K E)) (bodyQ Tryd.prog Tryd.f100.results.toList K E)))) (m100_1_0_1_0_0 x0 x1 x2 x3 x6 x7 v8 j) =
  pv (binV .none .lss v8 x7) fun t1 =>
  cnd t1 (
    pv (iaV none 2 x0 v8) fun t2 =>
    ld true 2 t2 fun t3 =>
    callv Tryd.prog x1 #[t3] (fun t4 =>
    cnd t4 (
      K v8) (
      pv (binV .none .add v8 (.int .i64 1)) fun t5 =>
      k1 (m100_1_0_1_0_0 x0 x1 x2 x3 x6 x7 t5 (jf #[x0, x1, x2, x3, (j 4), v8, x6, x7, t5, t1, v8, x1, x0, v8, t2, t3, t4, (j 17), t5])))) E) (
    den Tryd.prog (sel (bodyOf Tryd.f100) [1, 1]) (bodyQ Tryd.prog Tryd.f100.results.toList K E) #[x0, x1, x2, x3, (j 4), (j 5), x6, x7, v8, t1, (j 10), (j 11), (j 12), (j 13), (j 14), (j 15), (j 16), (j 17), (j 18)]) := by kernel_rfl
theorem t100_1_1 (K : Kont) (E : PanK) (x0 x1 x2 x3 x4 x5 x6 x7 x8 x9 x10 x11 x12 x13 x14 x15 x16 x17 x18 : Value)  : den Tryd.prog (sel (bodyOf Tryd.f100) [1, 1]) (bodyQ Tryd.prog Tryd.f100.results.toList K E) #[x0, x1, x2, x3, x4, x5, x6, x7, x8, x9, x10, x11, x12, x13, x14, x15, x16, x17, x18] =
  K (.int .i64 (-1)) := by kernel_rfl
theorem l100_1_0_1_0_0 {K : Kont} {E : PanK} {σ : Type} {x0 x1 x2 x3 x6 x7 v8 y4 y5 y9 y10 y11 y12 y13 y14 y15 y16 y17 y18 : Value} {h : Hp} (f8 : σ → Value) (I : σ → Hp → Prop) (μ : σ → Nat) (s0 : σ) (e8 : v8 = f8 s0) (h0 : h.wf → ∃ h', h.wk h' ∧ I s0 h')
  (round : ∀ (k1 : Env → Hp → Prop) (s : σ) (j : Nat → Value) (h : Hp), I s h → h.wf → (∀ s' j' h', μ s' < μ s → (h'.wf → ∃ h'', h'.wk h'' ∧ I s' h'') → k1 (m100_1_0_1_0_0 x0 x1 x2 x3 x6 x7 (f8 s') j') h') → (
  pv (binV .none .lss (f8 s) x7) fun t1 =>
  cnd t1 (
    pv (iaV none 2 x0 (f8 s)) fun t2 =>
    ld true 2 t2 fun t3 =>
    callv Tryd.prog x1 #[t3] (fun t4 =>
    cnd t4 (
      K (f8 s)) (
      pv (binV .none .add (f8 s) (.int .i64 1)) fun t5 =>
      k1 (m100_1_0_1_0_0 x0 x1 x2 x3 x6 x7 t5 (jf #[x0, x1, x2, x3, (j 4), (f8 s), x6, x7, t5, t1, (f8 s), x1, x0, (f8 s), t2, t3, t4, (j 17), t5])))) E) (
    den Tryd.prog (sel (bodyOf Tryd.f100) [1, 1]) (bodyQ Tryd.prog Tryd.f100.results.toList K E) #[x0, x1, x2, x3, (j 4), (j 5), x6, x7, (f8 s), t1, (j 10), (j 11), (j 12), (j 13), (j 14), (j 15), (j 16), (j 17), (j 18)])) h) :
  lp (fun k1 => den Tryd.prog (sel (bodyOf Tryd.f100) [1, 0, 1, 0, 0]) (thenD k1 (blk 0 (thenD (den Tryd.prog (sel (bodyOf Tryd.f100) [1, 1]) (bodyQ Tryd.prog Tryd.f100.results.toList K E)) (bodyQ Tryd.prog Tryd.f100.results.toList K E))))) #[x0, x1, x2, x3, y4, y5, x6, x7, v8, y9, y10, y11, y12, y13, y14, y15, y16, y17, y18] h := by
  subst e8
  have e : (#[x0, x1, x2, x3, y4, y5, x6, x7, (f8 s0), y9, y10, y11, y12, y13, y14, y15, y16, y17, y18] : Env) = m100_1_0_1_0_0 x0 x1 x2 x3 x6 x7 (f8 s0) (jf #[x0, x1, x2, x3, y4, y5, x6, x7, (f8 s0), y9, y10, y11, y12, y13, y14, y15, y16, y17, y18]) := by kernel_rfl
  rw [e]
  exact loop_r (fun s j => m100_1_0_1_0_0 x0 x1 x2 x3 x6 x7 (f8 s) j) I μ (fun k s j h hI hw next => by rw [t100_1_0_1_0_0]; exact round k s j h hI hw next) s0 (jf #[x0, x1, x2, x3, y4, y5, x6, x7, (f8 s0), y9, y10, y11, y12, y13, y14, y15, y16, y17, y18]) h0

theorem t101 (K : Kont) (E : PanK) (x0 x1 : Value)  : den Tryd.prog (sel (bodyOf Tryd.f101) []) (bodyQ Tryd.prog Tryd.f101.results.toList K E) #[x0, x1, undef, undef, undef, undef, undef, undef, undef, undef, undef, undef, undef, undef, undef, undef, undef, undef, undef, undef] =
  nw 51 (Value.cells x0).toList fun t1 =>
  pv (binV .none .eql x1 (.int .i64 0)) fun t2 =>
  cnd t2 (
    K (.int .i64 1)) (
    pv (faV 1 t1) fun t3 =>
    ld false 1 t3 fun t4 =>
    pv (lenV t4) fun t5 =>
    pv (binV .none .gtr x1 t5) fun t6 =>
    cnd t6 (
      K (.int .i64 0)) (
      pv (faV 1 t1) fun t7 =>
      ld false 1 t7 fun t8 =>
      pv (binV .none .sub x1 (.int .i64 1)) fun t9 =>
      pv (iaV none 1 t8 t9) fun t10 =>
      ld false 1 t10 fun t11 =>
      K t11)) := by kernel_rfl

end Go.Proofs.YthpacapdaembpaaDoor.T
open Go Go.RowKit Go.Proofs.YthpacapdaembpaaDoor.K Go.Proofs.YthpacapdaembpaaDoor.T
set_option linter.unusedVariables false
set_option linter.unusedSimpArgs false
namespace Go.Proofs.YthpacapdaembpaaDoor.A
variable {F F' : Nat → Option (List Value)} {M M' : Nat → Option Chunk} {N N' : Nat} {K : Kont} {E : PanK}
/-! ### Dimensions -/
/-- May divisors be, behind one? -/
def chk (last : Int) : List Int → Bool
  | [] => true
  | x :: l => decide (¬ (x ≤ last ∨ x > 10000 ∨ x % last ≠ 0)) && chk x l
def okDim (d : Dm) : Bool := decide (1 ≤ d.1 ∧ d.1 ≤ 10000 ∧ d.2.length ≤ 4) && chk 1 d.2
theorem chk_cons {last x : Int} {l : List Int} (h : chk last (x :: l) = true) : last < x ∧ x ≤ 10000 ∧ last ∣ x ∧ chk x l = true := by
  simp only [chk, Bool.and_eq_true] at h
  have := of_decide_eq_true h.1
  exact ⟨by omega, by omega, Int.dvd_of_emod_eq_zero (by omega), h.2⟩
theorem chk_get : ∀ {l : List Int} {last : Int}, chk last l = true → ∀ (i : Nat) (h : i < l.length), last < l[i] ∧ l[i] ≤ 10000 ∧ last ∣ l[i] ∧ chk l[i] (l.drop (i + 1)) = true
  | [], _, _, i, h => by simp at h
  | x :: l, last, hc, 0, h => by obtain ⟨a, b, c, d⟩ := chk_cons hc; exact ⟨a, b, c, by simpa using d⟩
  | x :: l, last, hc, i + 1, h => by
    obtain ⟨a, b, c, d⟩ := chk_cons hc
    obtain ⟨e, f, g, k⟩ := chk_get d i (by simpa using h)
    simp only [List.getElem_cons_succ, List.drop_succ_cons]
    exact ⟨by omega, f, Int.dvd_trans c g, k⟩
theorem chk_lt {l : List Int} (hc : chk 1 l = true) {i j : Nat} (hij : i < j) (hj : j < l.length) : l[i] < l[j] ∧ l[i] ∣ l[j] ∧ 0 < l[i] := by
  obtain ⟨a, b, c, d⟩ := chk_get hc i (by omega)
  have h := chk_get d (j - (i + 1)) (by rw [List.length_drop]; omega)
  simp only [List.getElem_drop] at h
  have e : i + 1 + (j - (i + 1)) = j := by omega
  simp only [e] at h
  exact ⟨h.1, h.2.2.1, by omega⟩
def prevD (l : List Int) (i : Nat) : Int := if h : 0 < i ∧ i ≤ l.length then l[i - 1] else 1
theorem chk_at {l : List Int} {i : Nat} (h : i < l.length) : chk (prevD l i) (l.drop i) = (decide (¬ (l[i] ≤ prevD l i ∨ l[i] > 10000 ∨ l[i] % prevD l i ≠ 0)) && chk (prevD l (i + 1)) (l.drop (i + 1))) := by
  rw [List.drop_eq_getElem_cons h]
  simp only [chk]
  congr 2
  unfold prevD
  rw [dif_pos ⟨by omega, by omega⟩]
  simp
theorem rem_i {e : EqK} {k : IntKind} {a b : Int} {h : Hp} (ha : 0 ≤ a) (hb : 0 < b) (kk : K (.int k (a % b)) h) : pv (binV e .rem (.int k a) (.int k b)) K h :=
  ⟨_, by rw [inV]; simp only [intV]; rw [if_neg (by omega)], by rw [Int.tmod_eq_emod_of_nonneg ha]; exact kk⟩
theorem quo_i {e : EqK} {a b : Int} {h : Hp} (ha : 0 ≤ a) (ha2 : a ≤ 9223372036854775807) (hb : 0 < b) (kk : K (.int .i64 (a / b)) h) : pv (binV e .quo (.int .i64 a) (.int .i64 b)) K h :=
  ⟨_, by rw [inV]; simp only [intV]; rw [if_neg (by omega)], by
    rw [Int.tdiv_eq_ediv_of_nonneg ha, wrap_in (by have := Int.ediv_nonneg ha (Int.le_of_lt hb); omega) (by have := Int.ediv_le_self b ha; omega)]; exact kk⟩
/-- dims.right -/
theorem dright_c {cs : List Value} {d : Dm} (hd : dimD F cs d) (k : ∀ N', N ≤ N' → (Hp.mk F M N').wf → K (.bool (okDim d)) ⟨F, M, N'⟩) :
    callv Tryd.prog (.func (.func 86) #[] #[]) #[.agg cs.toArray] K E ⟨F, M, N⟩ := by
  refine callv_of_text mixed Tryd.func86 (by kernel_rfl) (t86 _ E _) (fun hw => ?_)
  have hm := hw.m
  obtain ⟨v, rfl, hv, hvl⟩ := hd
  refine nw_r (cs := [.int .i64 d.1, v]) (fun b hb => ?_)
  have fin : ∀ v', v' = okDim d → ∀ h', h' = (⟨F, upd M b (some (.cells 51 [.int .i64 d.1, v] 2)), b + 1⟩ : Hp) → h'.wf → ∃ h'', h'.wk h'' ∧ (h''.wf → K (.bool v') h'') := fun v' e h' e' hc => by
    subst e; subst e'
    exact ⟨⟨F, M, b + 1⟩, wk_end hc, fun hw' => k _ (by omega) hw'⟩
  unfold okDim at fin
  have no : ¬ (1 ≤ d.1 ∧ d.1 ≤ 10000 ∧ d.2.length ≤ 4) → false = (decide (1 ≤ d.1 ∧ d.1 ≤ 10000 ∧ d.2.length ≤ 4) && chk 1 d.2) := fun h => by rw [decide_eq_false h]; rfl
  try simp only [gdTT, gdFF, gdTF, gdFT, pvS, pickT, pickF, faP, lenS, capS, nilP, exA, exB, exC, notB, cndT, cndF, Bool.not_true, Bool.not_false, Nat.zero_add, Nat.add_zero]
  refine ldM (v := .int .i64 d.1) ?_
  refine lss_r (fun h1 => ?_) (fun h1 => ?_)
  · try simp only [gdTT, gdFF, gdTF, gdFT, pvS, pickT, pickF, faP, lenS, capS, nilP, exA, exB, exC, notB, cndT, cndF, Bool.not_true, Bool.not_false, Nat.zero_add, Nat.add_zero]
    exact fin _ (no (by omega)) _ rfl
  try simp only [gdTT, gdFF, gdTF, gdFT, pvS, pickT, pickF, faP, lenS, capS, nilP, exA, exB, exC, notB, cndT, cndF, Bool.not_true, Bool.not_false, Nat.zero_add, Nat.add_zero]
  refine ldM (v := .int .i64 d.1) ?_
  refine gtr_r (fun h2 => ?_) (fun h2 => ?_)
  · try simp only [gdTT, gdFF, gdTF, gdFT, pvS, pickT, pickF, faP, lenS, capS, nilP, exA, exB, exC, notB, cndT, cndF, Bool.not_true, Bool.not_false, Nat.zero_add, Nat.add_zero]
    exact fin _ (no (by omega)) _ rfl
  try simp only [gdTT, gdFF, gdTF, gdFT, pvS, pickT, pickF, faP, lenS, capS, nilP, exA, exB, exC, notB, cndT, cndF, Bool.not_true, Bool.not_false, Nat.zero_add, Nat.add_zero]
  refine ldM (v := v) (lenF_r hv ?_)
  refine gtr_r (fun h3 => ?_) (fun h3 => ?_)
  · try simp only [gdTT, gdFF, gdTF, gdFT, pvS, pickT, pickF, faP, lenS, capS, nilP, exA, exB, exC, notB, cndT, cndF, Bool.not_true, Bool.not_false, Nat.zero_add, Nat.add_zero]
    exact fin _ (no (by omega)) _ rfl
  try simp only [gdTT, gdFF, gdTF, gdFT, pvS, pickT, pickF, faP, lenS, capS, nilP, exA, exB, exC, notB, cndT, cndF, Bool.not_true, Bool.not_false, Nat.zero_add, Nat.add_zero]
  refine ldM (v := v) (lenF_r hv ?_)
  rw [decide_eq_true ⟨by omega, by omega, by omega⟩, Bool.true_and] at fin
  refine l86_1_1_1_0_1_0_0 (σ := Nat) (fun i => .int .i64 (prevD d.2 i)) (fun i => .int .i64 (i : Nat)) (fun i h => h = ⟨F, upd M b (some (.cells 51 [.int .i64 d.1, v] 2)), b + 1⟩ ∧ i ≤ d.2.length ∧ chk 1 d.2 = chk (prevD d.2 i) (d.2.drop i) ∧ 1 ≤ prevD d.2 i) (fun i => d.2.length - i) 0 rfl rfl
    (fun hw1 => ⟨_, wk_refl hw1, rfl, Nat.zero_le _, rfl, by simp [prevD]⟩) (fun k1 i j h1' hI hw1 next => ?_)
  obtain ⟨rfl, hi, he, hp⟩ := hI
  refine lss_r (fun hlt => ?_) (fun hge => ?_)
  · have h4 : i < d.2.length := by omega
    rw [chk_at h4] at he
    try simp only [gdTT, gdFF, gdTF, gdFT, pvS, pickT, pickF, faP, lenS, capS, nilP, exA, exB, exC, notB, cndT, cndF, Bool.not_true, Bool.not_false, Nat.zero_add, Nat.add_zero]
    refine ixn_r hv h4 fun p => ?_
    refine leq_r (fun h5 => ?_) (fun h5 => ?_)
    · try simp only [gdTT, gdFF, gdTF, gdFT, pvS, pickT, pickF, faP, lenS, capS, nilP, exA, exB, exC, notB, cndT, cndF, Bool.not_true, Bool.not_false, Nat.zero_add, Nat.add_zero]
      exact fin _ (by rw [he, decide_eq_false (by omega)]; rfl) _ rfl
    try simp only [gdTT, gdFF, gdTF, gdFT, pvS, pickT, pickF, faP, lenS, capS, nilP, exA, exB, exC, notB, cndT, cndF, Bool.not_true, Bool.not_false, Nat.zero_add, Nat.add_zero]
    refine gtr_r (fun h6 => ?_) (fun h6 => ?_)
    · try simp only [gdTT, gdFF, gdTF, gdFT, pvS, pickT, pickF, faP, lenS, capS, nilP, exA, exB, exC, notB, cndT, cndF, Bool.not_true, Bool.not_false, Nat.zero_add, Nat.add_zero]
      exact fin _ (by rw [he, decide_eq_false (by omega)]; rfl) _ rfl
    try simp only [gdTT, gdFF, gdTF, gdFT, pvS, pickT, pickF, faP, lenS, capS, nilP, exA, exB, exC, notB, cndT, cndF, Bool.not_true, Bool.not_false, Nat.zero_add, Nat.add_zero]
    refine rem_i (by omega) (by omega) ?_
    refine neq_r (fun h7 => ?_) (fun h7 => ?_)
    · try simp only [gdTT, gdFF, gdTF, gdFT, pvS, pickT, pickF, faP, lenS, capS, nilP, exA, exB, exC, notB, cndT, cndF, Bool.not_true, Bool.not_false, Nat.zero_add, Nat.add_zero]
      exact fin _ (by rw [he, decide_eq_false (by omega)]; rfl) _ rfl
    try simp only [gdTT, gdFF, gdTF, gdFT, pvS, pickT, pickF, faP, lenS, capS, nilP, exA, exB, exC, notB, cndT, cndF, Bool.not_true, Bool.not_false, Nat.zero_add, Nat.add_zero]
    refine inc_r (by omega) ?_
    have e2 : prevD d.2 (i + 1) = d.2[i] := by unfold prevD; rw [dif_pos ⟨by omega, by omega⟩]; simp
    rw [← e2]
    exact next (i + 1) _ _ (by omega) (fun hw2 => ⟨_, wk_refl hw2, rfl, h4, by rw [he, decide_eq_true (by omega)]; rfl, by rw [e2]; omega⟩)
  · try simp only [gdTT, gdFF, gdTF, gdFT, pvS, pickT, pickF, faP, lenS, capS, nilP, exA, exB, exC, notB, cndT, cndF, Bool.not_true, Bool.not_false, Nat.zero_add, Nat.add_zero]
    rw [t86_1_1_1_1]
    exact fin _ (by rw [he, List.drop_eq_nil_of_le (by omega)]; rfl) _ rfl
/-- one, of the reference -/
theorem rone_c {cs : List Value} {d : Dm} (hd : dimD F cs d) (k : ∀ N', N ≤ N' → (Hp.mk F M N').wf → K (.bool (okDim d)) ⟨F, M, N'⟩) :
    callv Tryd.prog (.func (.func 88) #[] #[]) #[.agg cs.toArray] K E ⟨F, M, N⟩ := by
  refine callv_of_text mixed Tryd.func88 (by kernel_rfl) (t88 _ E _) (fun hw => ?_)
  have hm := hw.m
  obtain ⟨v, rfl, hv, hvl⟩ := hd
  refine nw_r (cs := [.int .i64 d.1, v]) (fun b hb => ?_)
  have fin : ∀ v', v' = okDim d → ∀ h', h' = (⟨F, upd M b (some (.cells 51 [.int .i64 d.1, v] 2)), b + 1⟩ : Hp) → h'.wf → ∃ h'', h'.wk h'' ∧ (h''.wf → K (.bool v') h'') := fun v' e h' e' hc => by
    subst e; subst e'
    exact ⟨⟨F, M, b + 1⟩, wk_end hc, fun hw' => k _ (by omega) hw'⟩
  unfold okDim at fin
  have no : ¬ (1 ≤ d.1 ∧ d.1 ≤ 10000 ∧ d.2.length ≤ 4) → false = (decide (1 ≤ d.1 ∧ d.1 ≤ 10000 ∧ d.2.length ≤ 4) && chk 1 d.2) := fun h => by rw [decide_eq_false h]; rfl
  have no2 : chk 1 d.2 = false → false = (decide (1 ≤ d.1 ∧ d.1 ≤ 10000 ∧ d.2.length ≤ 4) && chk 1 d.2) := fun h => by rw [h]; simp
  refine l88_1_0_1_0_0 (σ := Nat) (fun i => .int .i64 (i : Nat)) (fun i h => h = ⟨F, upd M b (some (.cells 51 [.int .i64 d.1, v] 2)), b + 1⟩ ∧ i ≤ d.2.length ∧ chk 1 d.2 = chk (prevD d.2 i) (d.2.drop i) ∧ 1 ≤ prevD d.2 i ∧ (0 < i → 2 ≤ prevD d.2 i)) (fun i => d.2.length - i) 0 rfl
    (fun hw1 => ⟨_, wk_refl hw1, rfl, Nat.zero_le _, rfl, by simp [prevD], fun h => by omega⟩) (fun k1 i j h1' hI hw1 next => ?_)
  obtain ⟨rfl, hi, he, hp, hp2⟩ := hI
  try simp only [gdTT, gdFF, gdTF, gdFT, pvS, pickT, pickF, faP, lenS, capS, nilP, exA, exB, exC, notB, cndT, cndF, Bool.not_true, Bool.not_false, Nat.zero_add, Nat.add_zero]
  refine ldM (v := v) (lenF_r hv ?_)
  refine lss_r (fun hlt => ?_) (fun hge => ?_)
  · have h4 : i < d.2.length := by omega
    rw [chk_at h4] at he
    try simp only [gdTT, gdFF, gdTF, gdFT, pvS, pickT, pickF, faP, lenS, capS, nilP, exA, exB, exC, notB, cndT, cndF, Bool.not_true, Bool.not_false, Nat.zero_add, Nat.add_zero]
    refine ldM (v := v) (ixn_r hv h4 fun p => ?_)
    refine lss_r (fun h5 => ?_) (fun h5 => ?_)
    · try simp only [gdTT, gdFF, gdTF, gdFT, pvS, pickT, pickF, faP, lenS, capS, nilP, exA, exB, exC, notB, cndT, cndF, Bool.not_true, Bool.not_false, Nat.zero_add, Nat.add_zero]
      exact fin _ (no2 (by rw [he, decide_eq_false (by rcases Nat.eq_zero_or_pos i with h0 | h0; subst h0; have : prevD d.2 0 = 1 := by simp [prevD]
                                                       omega; have := hp2 h0; omega)]; rfl)) _ rfl
    try simp only [gdTT, gdFF, gdTF, gdFT, pvS, pickT, pickF, faP, lenS, capS, nilP, exA, exB, exC, notB, cndT, cndF, Bool.not_true, Bool.not_false, Nat.zero_add, Nat.add_zero]
    refine ldM (v := v) (ixn_r hv h4 fun p => ?_)
    refine gtr_r (fun h6 => ?_) (fun h6 => ?_)
    · try simp only [gdTT, gdFF, gdTF, gdFT, pvS, pickT, pickF, faP, lenS, capS, nilP, exA, exB, exC, notB, cndT, cndF, Bool.not_true, Bool.not_false, Nat.zero_add, Nat.add_zero]
      exact fin _ (no2 (by rw [he, decide_eq_false (by omega)]; rfl)) _ rfl
    try simp only [gdTT, gdFF, gdTF, gdFT, pvS, pickT, pickF, faP, lenS, capS, nilP, exA, exB, exC, notB, cndT, cndF, Bool.not_true, Bool.not_false, Nat.zero_add, Nat.add_zero]
    have e2 : prevD d.2 (i + 1) = d.2[i] := by unfold prevD; rw [dif_pos ⟨by omega, by omega⟩]; simp
    refine gtr_r (fun hi0 => ?_) (fun hi0 => ?_)
    · have e3 : prevD d.2 i = d.2[i - 1] := by unfold prevD; rw [dif_pos ⟨by omega, by omega⟩]
      try simp only [gdTT, gdFF, gdTF, gdFT, pvS, pickT, pickF, faP, lenS, capS, nilP, exA, exB, exC, notB, cndT, cndF, Bool.not_true, Bool.not_false, Nat.zero_add, Nat.add_zero]
      refine ldM (v := v) (ixn_r hv h4 fun p => ?_)
      refine ldM (v := v) (sub_n (b := 1) (by omega) (by omega) (ixn_r hv (show i - 1 < d.2.length by omega) fun p => ?_))
      rw [← e3]
      refine leq_r (fun h7 => ?_) (fun h7 => ?_)
      · try simp only [gdTT, gdFF, gdTF, gdFT, pvS, pickT, pickF, faP, lenS, capS, nilP, exA, exB, exC, notB, cndT, cndF, Bool.not_true, Bool.not_false, Nat.zero_add, Nat.add_zero]
        exact fin _ (no2 (by rw [he, decide_eq_false (by omega)]; rfl)) _ rfl
      try simp only [gdTT, gdFF, gdTF, gdFT, pvS, pickT, pickF, faP, lenS, capS, nilP, exA, exB, exC, notB, cndT, cndF, Bool.not_true, Bool.not_false, Nat.zero_add, Nat.add_zero]
      refine ldM (v := v) (ixn_r hv h4 fun p => ?_)
      refine ldM (v := v) (sub_n (b := 1) (by omega) (by omega) (ixn_r hv (show i - 1 < d.2.length by omega) fun p => ?_))
      rw [← e3]
      refine rem_i (by omega) (by omega) ?_
      refine neq_r (fun h8 => ?_) (fun h8 => ?_)
      · try simp only [gdTT, gdFF, gdTF, gdFT, pvS, pickT, pickF, faP, lenS, capS, nilP, exA, exB, exC, notB, cndT, cndF, Bool.not_true, Bool.not_false, Nat.zero_add, Nat.add_zero]
        exact fin _ (no2 (by rw [he, decide_eq_false (by omega)]; rfl)) _ rfl
      try simp only [gdTT, gdFF, gdTF, gdFT, pvS, pickT, pickF, faP, lenS, capS, nilP, exA, exB, exC, notB, cndT, cndF, Bool.not_true, Bool.not_false, Nat.zero_add, Nat.add_zero]
      refine inc_r (by omega) ?_
      exact next (i + 1) _ _ (by omega) (fun hw2 => ⟨_, wk_refl hw2, rfl, h4, by rw [he, decide_eq_true (by omega)]; rfl, by rw [e2]; omega, fun _ => by rw [e2]; omega⟩)
    · have e3 : prevD d.2 i = 1 := by unfold prevD; rw [dif_neg (by omega)]
      try simp only [gdTT, gdFF, gdTF, gdFT, pvS, pickT, pickF, faP, lenS, capS, nilP, exA, exB, exC, notB, cndT, cndF, Bool.not_true, Bool.not_false, Nat.zero_add, Nat.add_zero]
      refine inc_r (by omega) ?_
      exact next (i + 1) _ _ (by omega) (fun hw2 => ⟨_, wk_refl hw2, rfl, h4, by rw [he, decide_eq_true (by rw [e3]; omega)]; rfl, by rw [e2]; omega, fun _ => by rw [e2]; omega⟩)
  · try simp only [gdTT, gdFF, gdTF, gdFT, pvS, pickT, pickF, faP, lenS, capS, nilP, exA, exB, exC, notB, cndT, cndF, Bool.not_true, Bool.not_false, Nat.zero_add, Nat.add_zero]
    rw [t88_1_1]
    have hch : chk 1 d.2 = true := by rw [he, List.drop_eq_nil_of_le (by omega)]; rfl
    try simp only [gdTT, gdFF, gdTF, gdFT, pvS, pickT, pickF, faP, lenS, capS, nilP, exA, exB, exC, notB, cndT, cndF, Bool.not_true, Bool.not_false, Nat.zero_add, Nat.add_zero]
    refine ldM (v := .int .i64 d.1) ?_
    refine geq_r (fun h1 => ?_) (fun h1 => ?_)
    · try simp only [gdTT, gdFF, gdTF, gdFT, pvS, pickT, pickF, faP, lenS, capS, nilP, exA, exB, exC, notB, cndT, cndF, Bool.not_true, Bool.not_false, Nat.zero_add, Nat.add_zero]
      refine ldM (v := .int .i64 d.1) ?_
      refine leq_r (fun h2 => ?_) (fun h2 => ?_)
      · try simp only [gdTT, gdFF, gdTF, gdFT, pvS, pickT, pickF, faP, lenS, capS, nilP, exA, exB, exC, notB, cndT, cndF, Bool.not_true, Bool.not_false, Nat.zero_add, Nat.add_zero]
        refine ldM (v := v) (lenF_r hv ?_)
        refine leq_r (fun h3 => ?_) (fun h3 => ?_)
        · try simp only [gdTT, gdFF, gdTF, gdFT, pvS, pickT, pickF, faP, lenS, capS, nilP, exA, exB, exC, notB, cndT, cndF, Bool.not_true, Bool.not_false, Nat.zero_add, Nat.add_zero]
          exact fin _ (by rw [hch, decide_eq_true ⟨by omega, by omega, by omega⟩]; rfl) _ rfl
        · try simp only [gdTT, gdFF, gdTF, gdFT, pvS, pickT, pickF, faP, lenS, capS, nilP, exA, exB, exC, notB, cndT, cndF, Bool.not_true, Bool.not_false, Nat.zero_add, Nat.add_zero]
          exact fin _ (no (by omega)) _ rfl
      · try simp only [gdTT, gdFF, gdTF, gdFT, pvS, pickT, pickF, faP, lenS, capS, nilP, exA, exB, exC, notB, cndT, cndF, Bool.not_true, Bool.not_false, Nat.zero_add, Nat.add_zero]
        exact fin _ (no (by omega)) _ rfl
    · try simp only [gdTT, gdFF, gdTF, gdFT, pvS, pickT, pickF, faP, lenS, capS, nilP, exA, exB, exC, notB, cndT, cndF, Bool.not_true, Bool.not_false, Nat.zero_add, Nat.add_zero]
      exact fin _ (no (by omega)) _ rfl
end Go.Proofs.YthpacapdaembpaaDoor.A
open Go Go.RowKit Go.Proofs.YthpacapdaembpaaDoor.K Go.Proofs.YthpacapdaembpaaDoor.T
set_option linter.unusedVariables false
set_option linter.unusedSimpArgs false
namespace Go.Proofs.YthpacapdaembpaaDoor.A
variable {F F' : Nat → Option (List Value)} {M M' : Nat → Option Chunk} {N N' : Nat} {K : Kont} {E : PanK}
theorem levels_c {cs : List Value} {d : Dm} (hd : dimD F cs d) (k : ∀ N', N ≤ N' → (Hp.mk F M N').wf → K (.int .i64 ((d.2.length + 2 : Nat) : Int)) ⟨F, M, N'⟩) :
    callv Tryd.prog (.func (.func 68) #[] #[]) #[.agg cs.toArray] K E ⟨F, M, N⟩ := by
  refine callv_of_text mixed Tryd.func68 (by kernel_rfl) (t68 _ E _) (fun hw => ?_)
  have hm := hw.m
  obtain ⟨v, rfl, hv, hvl⟩ := hd
  refine nw_r (cs := [.int .i64 d.1, v]) (fun b hb => ?_)
  try simp only [gdTT, gdFF, gdTF, gdFT, pvS, pickT, pickF, faP, lenS, capS, nilP, exA, exB, exC, notB, cndT, cndF, Bool.not_true, Bool.not_false, Nat.zero_add, Nat.add_zero]
  refine ldM (v := v) (lenF_r hv ?_)
  refine add_n (b := 2) (by omega) fun hc => ?_
  exact ⟨⟨F, M, b + 1⟩, wk_end hc, fun hw' => k _ (by omega) hw'⟩
theorem rlevels_c {cs : List Value} {d : Dm} (hd : dimD F cs d) (k : ∀ N', N ≤ N' → (Hp.mk F M N').wf → K (.int .i64 ((d.2.length + 2 : Nat) : Int)) ⟨F, M, N'⟩) :
    callv Tryd.prog (.func (.func 71) #[] #[]) #[.agg cs.toArray] K E ⟨F, M, N⟩ := by
  refine callv_of_text mixed Tryd.func71 (by kernel_rfl) (t71 _ E _) (fun hw => ?_)
  have hm := hw.m
  obtain ⟨v, rfl, hv, hvl⟩ := hd
  refine nw_r (cs := [.int .i64 d.1, v]) (fun b hb => ?_)
  try simp only [gdTT, gdFF, gdTF, gdFT, pvS, pickT, pickF, faP, lenS, capS, nilP, exA, exB, exC, notB, cndT, cndF, Bool.not_true, Bool.not_false, Nat.zero_add, Nat.add_zero]
  refine ldM (v := v) (lenF_r hv ?_)
  refine add_n (b := 2) (by omega) fun hc => ?_
  exact ⟨⟨F, M, b + 1⟩, wk_end hc, fun hw' => k _ (by omega) hw'⟩
theorem nright_c {cs : List Value} {d : Dm} (hd : dimD F cs d) (k : ∀ N', N ≤ N' → (Hp.mk F M N').wf → K (.bool (!okDim d)) ⟨F, M, N'⟩) :
    callv Tryd.prog (.func (.func 85) #[] #[]) #[.agg cs.toArray] K E ⟨F, M, N⟩ := by
  refine callv_of_text mixed Tryd.func85 (by kernel_rfl) (t85 _ E _) (fun hw => ?_)
  have hm := hw.m
  have hd' := hd
  obtain ⟨v, rfl, hv, hvl⟩ := hd
  refine nw_r (cs := [.int .i64 d.1, v]) (fun b hb => ?_)
  refine ldMa (vs := [.int .i64 d.1, v]) ?_
  refine dright_c hd' (fun N1 hN1 hw1 => ?_)
  try simp only [gdTT, gdFF, gdTF, gdFT, pvS, pickT, pickF, faP, lenS, capS, nilP, exA, exB, exC, notB, cndT, cndF, Bool.not_true, Bool.not_false, Nat.zero_add, Nat.add_zero]
  exact fun hc => ⟨⟨F, M, N1⟩, wk_end hc, fun hw' => k _ (by omega) hw'⟩
def okDims (l : List Dm) : Bool := decide (0 < l.length ∧ l.length ≤ 4) && l.all okDim
theorem dimidx_c {v : Value} {l : List Dm} (hv : dimsD F v l) (hl : l.length ≤ 140737488351232) (k : ∀ (r : Int) N', N ≤ N' → (Hp.mk F M N').wf → (decide (r ≥ 0) = !l.all okDim) → K (.int .i64 r) ⟨F, M, N'⟩) :
    callv Tryd.prog (.func (.func 100) #[] #[]) #[v, .func (.func 85) #[] #[]] K E ⟨F, M, N⟩ := by
  refine callv_of_text mixed Tryd.func100 (by kernel_rfl) (t100 _ E _ _) (fun hw => ?_)
  obtain ⟨rows, hv1, hv2⟩ := hv
  refine lenF_r hv1 ?_
  refine l100_1_0_1_0_0 (σ := Nat) (fun i => .int .i64 (i : Nat)) (fun i h => ∃ N', h = ⟨F, M, N'⟩ ∧ N ≤ N' ∧ i ≤ l.length ∧ l.all okDim = (l.drop i).all okDim) (fun i => l.length - i) 0 rfl
    (fun hw1 => ⟨_, wk_refl hw1, N, rfl, Nat.le_refl _, Nat.zero_le _, rfl⟩) (fun k1 i j h1 hI hw1 next => ?_)
  obtain ⟨N1, rfl, hN1, hi, he⟩ := hI
  refine lss_r (fun hlt => ?_) (fun hge => ?_)
  · have h1 : i < l.length := by omega
    try simp only [gdTT, gdFF, gdTF, gdFT, pvS, pickT, pickF, faP, lenS, capS, nilP, exA, exB, exC, notB, cndT, cndF, Bool.not_true, Bool.not_false, Nat.zero_add, Nat.add_zero]
    refine row_r hv1 hv2 (by decide) h1 fun p r _ hR _ _ => nright_c hR (fun N2 hN2 hw2 => ?_)
    rw [List.drop_eq_getElem_cons h1, List.all_cons] at he
    cases hn : okDim l[i]
    · try simp only [gdTT, gdFF, gdTF, gdFT, pvS, pickT, pickF, faP, lenS, capS, nilP, exA, exB, exC, notB, cndT, cndF, Bool.not_true, Bool.not_false, Nat.zero_add, Nat.add_zero]
      refine fun hc => ⟨_, wk_refl hc, fun hw' => k _ _ (by omega) hw' ?_⟩
      rw [he, hn, decide_eq_true (by omega)]; rfl
    · try simp only [gdTT, gdFF, gdTF, gdFT, pvS, pickT, pickF, faP, lenS, capS, nilP, exA, exB, exC, notB, cndT, cndF, Bool.not_true, Bool.not_false, Nat.zero_add, Nat.add_zero]
      refine inc_r (by omega) ?_
      refine next (i + 1) _ _ (by omega) (fun hw3 => ⟨_, wk_refl hw3, N2, rfl, by omega, by omega, ?_⟩)
      rw [he, hn, Bool.true_and]
  · try simp only [gdTT, gdFF, gdTF, gdFT, pvS, pickT, pickF, faP, lenS, capS, nilP, exA, exB, exC, notB, cndT, cndF, Bool.not_true, Bool.not_false, Nat.zero_add, Nat.add_zero]
    rw [t100_1_1]
    refine fun hc => ⟨_, wk_refl hc, fun hw' => k _ _ hN1 hw' ?_⟩
    rw [he, List.drop_eq_nil_of_le (by omega)]; rfl
/-- dims.Sound -/
theorem dsound_c {v : Value} {l : List Dm} (hv : dimsD F v l) (hl : l.length ≤ 140737488351232) (k : ∀ N', N ≤ N' → (Hp.mk F M N').wf → K (.bool (okDims l)) ⟨F, M, N'⟩) :
    callv Tryd.prog (.func (.func 57) #[] #[]) #[v] K E ⟨F, M, N⟩ := by
  refine callv_of_text mixed Tryd.func57 (by kernel_rfl) (t57 _ E _) (fun hw => ?_)
  have hlv : lenV v = some (.int .i64 (l.length : Nat)) := by obtain ⟨a, c, rfl⟩ := hv.form; rfl
  have fin : ∀ v', v' = okDims l → ∀ N', N ≤ N' → ∀ h', h' = (⟨F, M, N'⟩ : Hp) → h'.wf → ∃ h'', h'.wk h'' ∧ (h''.wf → K (.bool v') h'') := fun v' e N' hN h' e' hc => by
    subst e; subst e'
    exact ⟨_, wk_refl hc, fun hw' => k _ hN hw'⟩
  unfold okDims at fin
  simp only [hlv]
  try simp only [gdTT, gdFF, gdTF, gdFT, pvS, pickT, pickF, faP, lenS, capS, nilP, exA, exB, exC, notB, cndT, cndF, Bool.not_true, Bool.not_false, Nat.zero_add, Nat.add_zero]
  refine gtr_r (fun h1 => ?_) (fun h1 => ?_)
  · try simp only [gdTT, gdFF, gdTF, gdFT, pvS, pickT, pickF, faP, lenS, capS, nilP, exA, exB, exC, notB, cndT, cndF, Bool.not_true, Bool.not_false, Nat.zero_add, Nat.add_zero]
    simp only [hlv]
    try simp only [gdTT, gdFF, gdTF, gdFT, pvS, pickT, pickF, faP, lenS, capS, nilP, exA, exB, exC, notB, cndT, cndF, Bool.not_true, Bool.not_false, Nat.zero_add, Nat.add_zero]
    refine leq_r (fun h2 => ?_) (fun h2 => ?_)
    · rw [decide_eq_true ⟨by omega, by omega⟩, Bool.true_and] at fin
      try simp only [gdTT, gdFF, gdTF, gdFT, pvS, pickT, pickF, faP, lenS, capS, nilP, exA, exB, exC, notB, cndT, cndF, Bool.not_true, Bool.not_false, Nat.zero_add, Nat.add_zero]
      refine callv_of_text mixed Tryd.func84 (by kernel_rfl) (t84 _ E _ _) (fun hw => ?_)
      refine dimidx_c hv hl (fun r N1 hN1 hw1 hr => ?_)
      cases ha : l.all okDim
      · rw [ha] at hr
        refine geq_t (by simpa using hr) fun hc => ⟨_, wk_refl hc, fun hw' => ?_⟩
        try simp only [gdTT, gdFF, gdTF, gdFT, pvS, pickT, pickF, faP, lenS, capS, nilP, exA, exB, exC, notB, cndT, cndF, Bool.not_true, Bool.not_false, Nat.zero_add, Nat.add_zero]
        exact fin _ (by rw [ha]) _ hN1 _ rfl
      · rw [ha] at hr
        refine geq_f (by simpa using hr) fun hc => ⟨_, wk_refl hc, fun hw' => ?_⟩
        try simp only [gdTT, gdFF, gdTF, gdFT, pvS, pickT, pickF, faP, lenS, capS, nilP, exA, exB, exC, notB, cndT, cndF, Bool.not_true, Bool.not_false, Nat.zero_add, Nat.add_zero]
        exact fin _ (by rw [ha]) _ hN1 _ rfl
    · try simp only [gdTT, gdFF, gdTF, gdFT, pvS, pickT, pickF, faP, lenS, capS, nilP, exA, exB, exC, notB, cndT, cndF, Bool.not_true, Bool.not_false, Nat.zero_add, Nat.add_zero]
      exact fin _ (by rw [decide_eq_false (by omega)]; rfl) _ (Nat.le_refl _) _ rfl
  · try simp only [gdTT, gdFF, gdTF, gdFT, pvS, pickT, pickF, faP, lenS, capS, nilP, exA, exB, exC, notB, cndT, cndF, Bool.not_true, Bool.not_false, Nat.zero_add, Nat.add_zero]
    exact fin _ (by rw [decide_eq_false (by omega)]; rfl) _ (Nat.le_refl _) _ rfl
/-- Sound of dimensions, of the reference -/
theorem rdsound_c {v : Value} {l : List Dm} (hv : dimsD F v l) (hl : l.length ≤ 140737488351232) (k : ∀ N', N ≤ N' → (Hp.mk F M N').wf → K (.bool (okDims l)) ⟨F, M, N'⟩) :
    callv Tryd.prog (.func (.func 61) #[] #[]) #[v] K E ⟨F, M, N⟩ := by
  refine callv_of_text mixed Tryd.func61 (by kernel_rfl) (t61 _ E _) (fun hw => ?_)
  obtain ⟨rows, hv1, hv2⟩ := hv
  have hlv : lenV v = some (.int .i64 (l.length : Nat)) := by obtain ⟨a, c, rfl, _⟩ := hv1.form; rfl
  have fin : ∀ v', v' = okDims l → ∀ N', N ≤ N' → ∀ h', h' = (⟨F, M, N'⟩ : Hp) → h'.wf → ∃ h'', h'.wk h'' ∧ (h''.wf → K (.bool v') h'') := fun v' e N' hN h' e' hc => by
    subst e; subst e'
    exact ⟨_, wk_refl hc, fun hw' => k _ hN hw'⟩
  unfold okDims at fin
  refine l61_1_0_1_0_0 (σ := Nat) (fun i => .int .i64 (i : Nat)) (fun i h => ∃ N', h = ⟨F, M, N'⟩ ∧ N ≤ N' ∧ i ≤ l.length ∧ l.all okDim = (l.drop i).all okDim) (fun i => l.length - i) 0 rfl
    (fun hw1 => ⟨_, wk_refl hw1, N, rfl, Nat.le_refl _, Nat.zero_le _, rfl⟩) (fun k1 i j h1 hI hw1 next => ?_)
  obtain ⟨N1, rfl, hN1, hi, he⟩ := hI
  simp only [hlv]
  try simp only [gdTT, gdFF, gdTF, gdFT, pvS, pickT, pickF, faP, lenS, capS, nilP, exA, exB, exC, notB, cndT, cndF, Bool.not_true, Bool.not_false, Nat.zero_add, Nat.add_zero]
  refine lss_r (fun hlt => ?_) (fun hge => ?_)
  · have h1 : i < l.length := by omega
    try simp only [gdTT, gdFF, gdTF, gdFT, pvS, pickT, pickF, faP, lenS, capS, nilP, exA, exB, exC, notB, cndT, cndF, Bool.not_true, Bool.not_false, Nat.zero_add, Nat.add_zero]
    refine row_r hv1 hv2 (by decide) h1 fun p r _ hR _ _ => rone_c hR (fun N2 hN2 hw2 => ?_)
    rw [List.drop_eq_getElem_cons h1, List.all_cons] at he
    cases hn : okDim l[i]
    · try simp only [gdTT, gdFF, gdTF, gdFT, pvS, pickT, pickF, faP, lenS, capS, nilP, exA, exB, exC, notB, cndT, cndF, Bool.not_true, Bool.not_false, Nat.zero_add, Nat.add_zero]
      exact fin _ (by rw [he, hn]; simp) _ (by omega) _ rfl
    · try simp only [gdTT, gdFF, gdTF, gdFT, pvS, pickT, pickF, faP, lenS, capS, nilP, exA, exB, exC, notB, cndT, cndF, Bool.not_true, Bool.not_false, Nat.zero_add, Nat.add_zero]
      refine inc_r (by omega) ?_
      refine next (i + 1) _ _ (by omega) (fun hw3 => ⟨_, wk_refl hw3, N2, rfl, by omega, by omega, ?_⟩)
      rw [he, hn, Bool.true_and]
  · try simp only [gdTT, gdFF, gdTF, gdFT, pvS, pickT, pickF, faP, lenS, capS, nilP, exA, exB, exC, notB, cndT, cndF, Bool.not_true, Bool.not_false, Nat.zero_add, Nat.add_zero]
    rw [t61_1_1]
    rw [List.drop_eq_nil_of_le (by omega)] at he
    rw [he] at fin
    simp only [hlv]
    try simp only [gdTT, gdFF, gdTF, gdFT, pvS, pickT, pickF, faP, lenS, capS, nilP, exA, exB, exC, notB, cndT, cndF, Bool.not_true, Bool.not_false, Nat.zero_add, Nat.add_zero]
    refine geq_r (fun h1 => ?_) (fun h1 => ?_)
    · try simp only [gdTT, gdFF, gdTF, gdFT, pvS, pickT, pickF, faP, lenS, capS, nilP, exA, exB, exC, notB, cndT, cndF, Bool.not_true, Bool.not_false, Nat.zero_add, Nat.add_zero]
      simp only [hlv]
      try simp only [gdTT, gdFF, gdTF, gdFT, pvS, pickT, pickF, faP, lenS, capS, nilP, exA, exB, exC, notB, cndT, cndF, Bool.not_true, Bool.not_false, Nat.zero_add, Nat.add_zero]
      refine leq_r (fun h2 => ?_) (fun h2 => ?_)
      · try simp only [gdTT, gdFF, gdTF, gdFT, pvS, pickT, pickF, faP, lenS, capS, nilP, exA, exB, exC, notB, cndT, cndF, Bool.not_true, Bool.not_false, Nat.zero_add, Nat.add_zero]
        exact fin _ (by rw [decide_eq_true ⟨by omega, by omega⟩]; rfl) _ hN1 _ rfl
      · try simp only [gdTT, gdFF, gdTF, gdFT, pvS, pickT, pickF, faP, lenS, capS, nilP, exA, exB, exC, notB, cndT, cndF, Bool.not_true, Bool.not_false, Nat.zero_add, Nat.add_zero]
        exact fin _ (by rw [decide_eq_false (by omega)]; rfl) _ hN1 _ rfl
    · try simp only [gdTT, gdFF, gdTF, gdFT, pvS, pickT, pickF, faP, lenS, capS, nilP, exA, exB, exC, notB, cndT, cndF, Bool.not_true, Bool.not_false, Nat.zero_add, Nat.add_zero]
      exact fin _ (by rw [decide_eq_false (by omega)]; rfl) _ hN1 _ rfl
/-- What members are divided by at a level (0: all are one). -/
def byF (d : Dm) (lv : Int) : Int := if lv = 0 then 1 else if lv > d.2.length then 0 else d.2.getD (lv - 1).toNat 0
/-- dims.by -/
theorem by_c {cs : List Value} {d : Dm} {lv : Int} (hd : dimD F cs d) (h0 : 0 ≤ lv) (k : ∀ N', N ≤ N' → (Hp.mk F M N').wf → K (.int .i64 (byF d lv)) ⟨F, M, N'⟩) :
    callv Tryd.prog (.func (.func 101) #[] #[]) #[.agg cs.toArray, .int .i64 lv] K E ⟨F, M, N⟩ := by
  refine callv_of_text mixed Tryd.func101 (by kernel_rfl) (t101 _ E _ _) (fun hw => ?_)
  have hm := hw.m
  obtain ⟨v, rfl, hv, hvl⟩ := hd
  refine nw_r (cs := [.int .i64 d.1, v]) (fun b hb => ?_)
  have fin : ∀ v', v' = byF d lv → ∀ h', h' = (⟨F, upd M b (some (.cells 51 [.int .i64 d.1, v] 2)), b + 1⟩ : Hp) → h'.wf → ∃ h'', h'.wk h'' ∧ (h''.wf → K (.int .i64 v') h'') := fun v' e h' e' hc => by
    subst e; subst e'
    exact ⟨⟨F, M, b + 1⟩, wk_end hc, fun hw' => k _ (by omega) hw'⟩
  unfold byF at fin
  refine eql_r (fun h1 => ?_) (fun h1 => ?_)
  · try simp only [gdTT, gdFF, gdTF, gdFT, pvS, pickT, pickF, faP, lenS, capS, nilP, exA, exB, exC, notB, cndT, cndF, Bool.not_true, Bool.not_false, Nat.zero_add, Nat.add_zero]
    exact fin _ (by rw [if_pos h1]) _ rfl
  · rw [if_neg h1] at fin
    try simp only [gdTT, gdFF, gdTF, gdFT, pvS, pickT, pickF, faP, lenS, capS, nilP, exA, exB, exC, notB, cndT, cndF, Bool.not_true, Bool.not_false, Nat.zero_add, Nat.add_zero]
    refine ldM (v := v) (lenF_r hv ?_)
    refine gtr_r (fun h2 => ?_) (fun h2 => ?_)
    · try simp only [gdTT, gdFF, gdTF, gdFT, pvS, pickT, pickF, faP, lenS, capS, nilP, exA, exB, exC, notB, cndT, cndF, Bool.not_true, Bool.not_false, Nat.zero_add, Nat.add_zero]
      exact fin _ (by rw [if_pos h2]) _ rfl
    · try simp only [gdTT, gdFF, gdTF, gdFT, pvS, pickT, pickF, faP, lenS, capS, nilP, exA, exB, exC, notB, cndT, cndF, Bool.not_true, Bool.not_false, Nat.zero_add, Nat.add_zero]
      refine ldM (v := v) (sub_r (by omega) (by omega) ?_)
      have h3 : (lv - 1).toNat < d.2.length := by omega
      rw [show lv - 1 = (((lv - 1).toNat : Nat) : Int) by omega]
      refine ixn_r hv h3 fun p => ?_
      exact fin _ (by rw [if_neg h2, List.getD_eq_getElem?_getD, List.getElem?_eq_getElem h3]; rfl) _ rfl
/-- A member of a level that holds another level's. -/
def upF (d : Dm) (a b v : Int) : Int := if okDim d = false ∨ a < 0 ∨ b < a ∨ b ≥ d.2.length + 2 ∨ v < 0 then -1 else if a = b then v else if byF d b = 0 then 0 else v / (byF d b / byF d a)
theorem byF_pos {d : Dm} (hd : okDim d = true) {a : Int} (h0 : 0 ≤ a) (h1 : a ≤ d.2.length) : 0 < byF d a ∧ byF d a ≤ 10000 := by
  unfold okDim at hd
  rw [Bool.and_eq_true] at hd
  unfold byF
  split
  · decide
  · rename_i hne
    rw [if_neg (by omega)]
    have h3 : (a - 1).toNat < d.2.length := by omega
    rw [List.getD_eq_getElem?_getD, List.getElem?_eq_getElem h3]
    obtain ⟨x, y, _, _⟩ := chk_get hd.2 _ h3
    simp only [Option.getD_some]; omega
theorem byF_lt {d : Dm} (hd : okDim d = true) {a b : Int} (h0 : 0 ≤ a) (h1 : a < b) (h2 : b ≤ d.2.length) : byF d a < byF d b ∧ byF d a ∣ byF d b := by
  have hd' := hd
  unfold okDim at hd
  rw [Bool.and_eq_true] at hd
  have h3 : (b - 1).toNat < d.2.length := by omega
  have eb : byF d b = d.2[(b - 1).toNat] := by
    unfold byF
    rw [if_neg (by omega), if_neg (by omega), List.getD_eq_getElem?_getD, List.getElem?_eq_getElem h3]; rfl
  obtain ⟨x, y, z, _⟩ := chk_get hd.2 _ h3
  by_cases ha : a = 0
  · have ea : byF d a = 1 := by unfold byF; rw [if_pos ha]
    rw [ea, eb]
    exact ⟨x, z⟩
  · have h4 : (a - 1).toNat < d.2.length := by omega
    have ea : byF d a = d.2[(a - 1).toNat] := by
      unfold byF
      rw [if_neg ha, if_neg (by omega), List.getD_eq_getElem?_getD, List.getElem?_eq_getElem h4]; rfl
    rw [ea, eb]
    obtain ⟨p, q, _⟩ := chk_lt hd.2 (i := (a - 1).toNat) (j := (b - 1).toNat) (by omega) h3
    exact ⟨p, q⟩
theorem byF_div {d : Dm} (hd : okDim d = true) {a b : Int} (h0 : 0 ≤ a) (h1 : a < b) (h2 : b ≤ d.2.length) : 0 < byF d b / byF d a ∧ byF d b / byF d a ≤ 10000 := by
  obtain ⟨x, y⟩ := byF_pos hd (a := a) h0 (by omega)
  obtain ⟨z, w⟩ := byF_pos hd (a := b) (by omega) h2
  obtain ⟨p, q⟩ := byF_lt hd h0 h1 h2
  refine ⟨?_, ?_⟩
  · obtain ⟨c, hc⟩ := q
    rw [hc, Int.mul_ediv_cancel_left _ (by omega)]
    rw [hc] at z
    exact Int.pos_of_mul_pos_right z (by omega)
  · have := Int.ediv_le_self (byF d a) (show 0 ≤ byF d b by omega); omega
end Go.Proofs.YthpacapdaembpaaDoor.A
open Go Go.RowKit Go.Proofs.YthpacapdaembpaaDoor.K Go.Proofs.YthpacapdaembpaaDoor.T
set_option linter.unusedVariables false
set_option linter.unusedSimpArgs false
namespace Go.Proofs.YthpacapdaembpaaDoor.A
variable {F F' : Nat → Option (List Value)} {M M' : Nat → Option Chunk} {N N' : Nat} {K : Kont} {E : PanK}
theorem upF_no {d : Dm} {a b v : Int} (h : okDim d = false ∨ a < 0 ∨ b < a ∨ b ≥ d.2.length + 2 ∨ v < 0) : upF d a b v = -1 := if_pos h
/-- dims.Up -/
theorem up_c {cs : List Value} {d : Dm} {a b v : Int} (hd : dimD F cs d) (hb : i64 b) (hv : v ≤ 9223372036854775807) (k : ∀ N', N ≤ N' → (Hp.mk F M N').wf → K (.int .i64 (upF d a b v)) ⟨F, M, N'⟩) :
    callv Tryd.prog (.func (.func 87) #[] #[]) #[.agg cs.toArray, .int .i64 a, .int .i64 b, .int .i64 v] K E ⟨F, M, N⟩ := by
  refine callv_of_text mixed Tryd.func87 (by kernel_rfl) (t87 _ E _ _ _ _) (fun hw => ?_)
  have hm := hw.m
  have hd' := hd
  obtain ⟨u, rfl, hu, hul⟩ := hd
  refine nw_r (cs := [.int .i64 d.1, u]) (fun bx hbx => ?_)
  have fin : ∀ v', v' = upF d a b v → ∀ N', bx + 1 ≤ N' → ∀ h', h' = (⟨F, upd M bx (some (.cells 51 [.int .i64 d.1, u] 2)), N'⟩ : Hp) → h'.wf → ∃ h'', h'.wk h'' ∧ (h''.wf → K (.int .i64 v') h'') := fun v' e N' hN h' e' hc => by
    subst e; subst e'
    exact ⟨⟨F, M, N'⟩, wk_end hc, fun hw' => k _ (by omega) hw'⟩
  refine ldMa (vs := [.int .i64 d.1, u]) ?_
  refine dright_c hd' (fun N1 hN1 hw1 => ?_)
  cases hok : okDim d
  · try simp only [gdTT, gdFF, gdTF, gdFT, pvS, pickT, pickF, faP, lenS, capS, nilP, exA, exB, exC, notB, cndT, cndF, Bool.not_true, Bool.not_false, Nat.zero_add, Nat.add_zero]
    exact fin _ (upF_no (.inl hok)).symm _ hN1 _ rfl
  try simp only [gdTT, gdFF, gdTF, gdFT, pvS, pickT, pickF, faP, lenS, capS, nilP, exA, exB, exC, notB, cndT, cndF, Bool.not_true, Bool.not_false, Nat.zero_add, Nat.add_zero]
  refine lss_r (fun h1 => ?_) (fun h1 => ?_)
  · try simp only [gdTT, gdFF, gdTF, gdFT, pvS, pickT, pickF, faP, lenS, capS, nilP, exA, exB, exC, notB, cndT, cndF, Bool.not_true, Bool.not_false, Nat.zero_add, Nat.add_zero]
    exact fin _ (upF_no (.inr (.inl h1))).symm _ hN1 _ rfl
  try simp only [gdTT, gdFF, gdTF, gdFT, pvS, pickT, pickF, faP, lenS, capS, nilP, exA, exB, exC, notB, cndT, cndF, Bool.not_true, Bool.not_false, Nat.zero_add, Nat.add_zero]
  refine lss_r (fun h2 => ?_) (fun h2 => ?_)
  · try simp only [gdTT, gdFF, gdTF, gdFT, pvS, pickT, pickF, faP, lenS, capS, nilP, exA, exB, exC, notB, cndT, cndF, Bool.not_true, Bool.not_false, Nat.zero_add, Nat.add_zero]
    exact fin _ (upF_no (.inr (.inr (.inl h2)))).symm _ hN1 _ rfl
  try simp only [gdTT, gdFF, gdTF, gdFT, pvS, pickT, pickF, faP, lenS, capS, nilP, exA, exB, exC, notB, cndT, cndF, Bool.not_true, Bool.not_false, Nat.zero_add, Nat.add_zero]
  refine ldMa (vs := [.int .i64 d.1, u]) ?_
  refine levels_c hd' (fun N2 hN2 hw2 => ?_)
  refine geq_r (fun h3 => ?_) (fun h3 => ?_)
  · try simp only [gdTT, gdFF, gdTF, gdFT, pvS, pickT, pickF, faP, lenS, capS, nilP, exA, exB, exC, notB, cndT, cndF, Bool.not_true, Bool.not_false, Nat.zero_add, Nat.add_zero]
    exact fin _ (upF_no (.inr (.inr (.inr (.inl (by omega)))))).symm _ (by omega) _ rfl
  try simp only [gdTT, gdFF, gdTF, gdFT, pvS, pickT, pickF, faP, lenS, capS, nilP, exA, exB, exC, notB, cndT, cndF, Bool.not_true, Bool.not_false, Nat.zero_add, Nat.add_zero]
  refine lss_r (fun h4 => ?_) (fun h4 => ?_)
  · try simp only [gdTT, gdFF, gdTF, gdFT, pvS, pickT, pickF, faP, lenS, capS, nilP, exA, exB, exC, notB, cndT, cndF, Bool.not_true, Bool.not_false, Nat.zero_add, Nat.add_zero]
    exact fin _ (upF_no (.inr (.inr (.inr (.inr h4))))).symm _ (by omega) _ rfl
  try simp only [gdTT, gdFF, gdTF, gdFT, pvS, pickT, pickF, faP, lenS, capS, nilP, exA, exB, exC, notB, cndT, cndF, Bool.not_true, Bool.not_false, Nat.zero_add, Nat.add_zero]
  have e0 : upF d a b v = if a = b then v else if byF d b = 0 then 0 else v / (byF d b / byF d a) := by
    unfold upF
    rw [if_neg (by rw [hok]; simp; omega)]
  rw [e0] at fin
  refine ldMa (vs := [.int .i64 d.1, u]) ?_
  refine by_c hd' (by omega) (fun N3 hN3 hw3 => ?_)
  refine eql_r (fun h5 => ?_) (fun h5 => ?_)
  · try simp only [gdTT, gdFF, gdTF, gdFT, pvS, pickT, pickF, faP, lenS, capS, nilP, exA, exB, exC, notB, cndT, cndF, Bool.not_true, Bool.not_false, Nat.zero_add, Nat.add_zero]
    exact fin _ (by rw [if_pos h5]) _ (by omega) _ rfl
  rw [if_neg h5] at fin
  try simp only [gdTT, gdFF, gdTF, gdFT, pvS, pickT, pickF, faP, lenS, capS, nilP, exA, exB, exC, notB, cndT, cndF, Bool.not_true, Bool.not_false, Nat.zero_add, Nat.add_zero]
  refine eql_r (fun h6 => ?_) (fun h6 => ?_)
  · try simp only [gdTT, gdFF, gdTF, gdFT, pvS, pickT, pickF, faP, lenS, capS, nilP, exA, exB, exC, notB, cndT, cndF, Bool.not_true, Bool.not_false, Nat.zero_add, Nat.add_zero]
    exact fin _ (by rw [if_pos h6]) _ (by omega) _ rfl
  rw [if_neg h6] at fin
  try simp only [gdTT, gdFF, gdTF, gdFT, pvS, pickT, pickF, faP, lenS, capS, nilP, exA, exB, exC, notB, cndT, cndF, Bool.not_true, Bool.not_false, Nat.zero_add, Nat.add_zero]
  refine ldMa (vs := [.int .i64 d.1, u]) ?_
  refine by_c hd' (by omega) (fun N4 hN4 hw4 => ?_)
  have hbl : b ≤ d.2.length := by
    by_cases h : b ≤ d.2.length
    · exact h
    · exact absurd (by unfold byF; rw [if_neg (by omega), if_pos (by omega)]) h6
  obtain ⟨p, q⟩ := byF_pos hok (a := b) (by omega) hbl
  obtain ⟨p', q'⟩ := byF_pos hok (a := a) (by omega) (by omega)
  obtain ⟨r, s⟩ := byF_div hok (a := a) (b := b) (by omega) (by omega) hbl
  refine quo_i (by omega) (by omega) p' (quo_i (by omega) (by omega) r ?_)
  exact fin _ rfl _ (by omega) _ rfl
/-- Up, of the reference -/
theorem rup_c {cs : List Value} {d : Dm} {a b v : Int} (hd : dimD F cs d) (hb : i64 b) (hv : v ≤ 9223372036854775807) (k : ∀ N', N ≤ N' → (Hp.mk F M N').wf → K (.int .i64 (upF d a b v)) ⟨F, M, N'⟩) :
    callv Tryd.prog (.func (.func 89) #[] #[]) #[.agg cs.toArray, .int .i64 a, .int .i64 b, .int .i64 v] K E ⟨F, M, N⟩ := by
  refine callv_of_text mixed Tryd.func89 (by kernel_rfl) (t89 _ E _ _ _ _) (fun hw => ?_)
  have hm := hw.m
  have hd' := hd
  obtain ⟨u, rfl, hu, hul⟩ := hd
  refine nw_r (cs := [.int .i64 d.1, u]) (fun bx hbx => ?_)
  have fin : ∀ v', v' = upF d a b v → ∀ N', bx + 1 ≤ N' → ∀ h', h' = (⟨F, upd M bx (some (.cells 51 [.int .i64 d.1, u] 2)), N'⟩ : Hp) → h'.wf → ∃ h'', h'.wk h'' ∧ (h''.wf → K (.int .i64 v') h'') := fun v' e N' hN h' e' hc => by
    subst e; subst e'
    exact ⟨⟨F, M, N'⟩, wk_end hc, fun hw' => k _ (by omega) hw'⟩
  refine ldMa (vs := [.int .i64 d.1, u]) ?_
  refine rone_c hd' (fun N1 hN1 hw1 => ?_)
  cases hok : okDim d
  · try simp only [gdTT, gdFF, gdTF, gdFT, pvS, pickT, pickF, faP, lenS, capS, nilP, exA, exB, exC, notB, cndT, cndF, Bool.not_true, Bool.not_false, Nat.zero_add, Nat.add_zero]
    exact fin _ (upF_no (.inl hok)).symm _ hN1 _ rfl
  try simp only [gdTT, gdFF, gdTF, gdFT, pvS, pickT, pickF, faP, lenS, capS, nilP, exA, exB, exC, notB, cndT, cndF, Bool.not_true, Bool.not_false, Nat.zero_add, Nat.add_zero]
  refine lss_r (fun h1 => ?_) (fun h1 => ?_)
  · try simp only [gdTT, gdFF, gdTF, gdFT, pvS, pickT, pickF, faP, lenS, capS, nilP, exA, exB, exC, notB, cndT, cndF, Bool.not_true, Bool.not_false, Nat.zero_add, Nat.add_zero]
    exact fin _ (upF_no (.inr (.inl h1))).symm _ hN1 _ rfl
  try simp only [gdTT, gdFF, gdTF, gdFT, pvS, pickT, pickF, faP, lenS, capS, nilP, exA, exB, exC, notB, cndT, cndF, Bool.not_true, Bool.not_false, Nat.zero_add, Nat.add_zero]
  refine lss_r (fun h2 => ?_) (fun h2 => ?_)
  · try simp only [gdTT, gdFF, gdTF, gdFT, pvS, pickT, pickF, faP, lenS, capS, nilP, exA, exB, exC, notB, cndT, cndF, Bool.not_true, Bool.not_false, Nat.zero_add, Nat.add_zero]
    exact fin _ (upF_no (.inr (.inr (.inl h2)))).symm _ hN1 _ rfl
  try simp only [gdTT, gdFF, gdTF, gdFT, pvS, pickT, pickF, faP, lenS, capS, nilP, exA, exB, exC, notB, cndT, cndF, Bool.not_true, Bool.not_false, Nat.zero_add, Nat.add_zero]
  refine ldMa (vs := [.int .i64 d.1, u]) ?_
  refine rlevels_c hd' (fun N2 hN2 hw2 => ?_)
  refine geq_r (fun h3 => ?_) (fun h3 => ?_)
  · try simp only [gdTT, gdFF, gdTF, gdFT, pvS, pickT, pickF, faP, lenS, capS, nilP, exA, exB, exC, notB, cndT, cndF, Bool.not_true, Bool.not_false, Nat.zero_add, Nat.add_zero]
    exact fin _ (upF_no (.inr (.inr (.inr (.inl (by omega)))))).symm _ (by omega) _ rfl
  try simp only [gdTT, gdFF, gdTF, gdFT, pvS, pickT, pickF, faP, lenS, capS, nilP, exA, exB, exC, notB, cndT, cndF, Bool.not_true, Bool.not_false, Nat.zero_add, Nat.add_zero]
  refine lss_r (fun h4 => ?_) (fun h4 => ?_)
  · try simp only [gdTT, gdFF, gdTF, gdFT, pvS, pickT, pickF, faP, lenS, capS, nilP, exA, exB, exC, notB, cndT, cndF, Bool.not_true, Bool.not_false, Nat.zero_add, Nat.add_zero]
    exact fin _ (upF_no (.inr (.inr (.inr (.inr h4))))).symm _ (by omega) _ rfl
  try simp only [gdTT, gdFF, gdTF, gdFT, pvS, pickT, pickF, faP, lenS, capS, nilP, exA, exB, exC, notB, cndT, cndF, Bool.not_true, Bool.not_false, Nat.zero_add, Nat.add_zero]
  have e0 : upF d a b v = if a = b then v else if byF d b = 0 then 0 else v / (byF d b / byF d a) := by
    unfold upF
    rw [if_neg (by rw [hok]; simp; omega)]
  rw [e0] at fin
  refine eql_r (fun h5 => ?_) (fun h5 => ?_)
  · try simp only [gdTT, gdFF, gdTF, gdFT, pvS, pickT, pickF, faP, lenS, capS, nilP, exA, exB, exC, notB, cndT, cndF, Bool.not_true, Bool.not_false, Nat.zero_add, Nat.add_zero]
    exact fin _ (by rw [if_pos h5]) _ (by omega) _ rfl
  rw [if_neg h5] at fin
  try simp only [gdTT, gdFF, gdTF, gdFT, pvS, pickT, pickF, faP, lenS, capS, nilP, exA, exB, exC, notB, cndT, cndF, Bool.not_true, Bool.not_false, Nat.zero_add, Nat.add_zero]
  refine ldMa (vs := [.int .i64 d.1, u]) ?_
  refine rlevels_c hd' (fun N3 hN3 hw3 => ?_)
  refine sub_n (b := 1) (by omega) (by omega) ?_
  refine eql_r (fun h6 => ?_) (fun h6 => ?_)
  · have e : byF d b = 0 := by unfold byF; rw [if_neg (by omega), if_pos (by omega)]
    try simp only [gdTT, gdFF, gdTF, gdFT, pvS, pickT, pickF, faP, lenS, capS, nilP, exA, exB, exC, notB, cndT, cndF, Bool.not_true, Bool.not_false, Nat.zero_add, Nat.add_zero]
    exact fin _ (by rw [if_pos e]) _ (by omega) _ rfl
  have hbl : b ≤ d.2.length := by omega
  obtain ⟨p, q⟩ := byF_pos hok (a := b) (by omega) hbl
  obtain ⟨r, s⟩ := byF_div hok (a := a) (b := b) (by omega) (by omega) hbl
  rw [if_neg (by omega)] at fin
  have h7 : (b - 1).toNat < d.2.length := by omega
  have eb : byF d b = d.2[(b - 1).toNat] := by
    unfold byF
    rw [if_neg (by omega), if_neg (by omega), List.getD_eq_getElem?_getD, List.getElem?_eq_getElem h7]; rfl
  try simp only [gdTT, gdFF, gdTF, gdFT, pvS, pickT, pickF, faP, lenS, capS, nilP, exA, exB, exC, notB, cndT, cndF, Bool.not_true, Bool.not_false, Nat.zero_add, Nat.add_zero]
  refine eql_r (fun h8 => ?_) (fun h8 => ?_)
  · have ea : byF d a = 1 := by unfold byF; rw [if_pos h8]
    try simp only [gdTT, gdFF, gdTF, gdFT, pvS, pickT, pickF, faP, lenS, capS, nilP, exA, exB, exC, notB, cndT, cndF, Bool.not_true, Bool.not_false, Nat.zero_add, Nat.add_zero]
    refine ldM (v := u) (sub_r (by omega) (by omega) ?_)
    rw [show b - 1 = (((b - 1).toNat : Nat) : Int) by omega]
    refine ixn_r hu h7 fun p => ?_
    rw [← eb]
    refine quo_i (by omega) (by omega) (by omega) ?_
    exact fin _ (by rw [ea, Int.ediv_one]) _ (by omega) _ rfl
  · have h9 : (a - 1).toNat < d.2.length := by omega
    have ea : byF d a = d.2[(a - 1).toNat] := by
      unfold byF
      rw [if_neg h8, if_neg (by omega), List.getD_eq_getElem?_getD, List.getElem?_eq_getElem h9]; rfl
    obtain ⟨p', q'⟩ := byF_pos hok (a := a) (by omega) (by omega)
    try simp only [gdTT, gdFF, gdTF, gdFT, pvS, pickT, pickF, faP, lenS, capS, nilP, exA, exB, exC, notB, cndT, cndF, Bool.not_true, Bool.not_false, Nat.zero_add, Nat.add_zero]
    refine ldM (v := u) (sub_r (by omega) (by omega) ?_)
    rw [show b - 1 = (((b - 1).toNat : Nat) : Int) by omega]
    refine ixn_r hu h7 fun p => ?_
    refine ldM (v := u) (sub_r (by omega) (by omega) ?_)
    rw [show a - 1 = (((a - 1).toNat : Nat) : Int) by omega]
    refine ixn_r hu h9 fun p => ?_
    rw [← eb, ← ea]
    refine quo_i (by omega) (by omega) p' (quo_i (by omega) (by omega) r ?_)
    exact fin _ rfl _ (by omega) _ rfl
end Go.Proofs.YthpacapdaembpaaDoor.A
open Go Go.RowKit Go.Proofs.YthpacapdaembpaaDoor.K Go.Proofs.YthpacapdaembpaaDoor.T
set_option linter.unusedVariables false
set_option linter.unusedSimpArgs false
namespace Go.Proofs.YthpacapdaembpaaDoor.A
variable {F F' : Nat → Option (List Value)} {M M' : Nat → Option Chunk} {N N' : Nat} {K : Kont} {E : PanK}
def atL (l : List Dm) (a b c : List Int) : List Int := l.mapIdx fun i d => upF d (a.getD i 0) (b.getD i 0) (c.getD i 0)
def atOK (l : List Dm) (a b c : List Int) : Bool := okDims l && decide (a.length = l.length ∧ b.length = l.length ∧ c.length = l.length)
/-- A key at levels. -/
def atF (l : List Dm) (a b c : List Int) : List Int := if atOK l a b c = true then atL l a b c else []
theorem atL_len (l : List Dm) (a b c : List Int) : (atL l a b c).length = l.length := by simp [atL]
theorem atL_take (l : List Dm) (a b c : List Int) {i : Nat} (h : i < l.length) (ha : i < a.length) (hb : i < b.length) (hc : i < c.length) : atL (l.take (i + 1)) a b c = atL (l.take i) a b c ++ [upF l[i] a[i] b[i] c[i]] := by
  unfold atL
  rw [List.take_add_one, List.getElem?_eq_getElem h, Option.toList_some, List.mapIdx_concat, List.length_take, Nat.min_eq_left (by omega)]
  simp only [List.getD_eq_getElem?_getD, List.getElem?_eq_getElem ha, List.getElem?_eq_getElem hb, List.getElem?_eq_getElem hc, Option.getD_some]
theorem upF_rng {d : Dm} {a b v : Int} (hv : i64 v) : i64 (upF d a b v) := by
  unfold upF
  split
  · exact ⟨by omega, by omega⟩
  · split
    · exact hv
    · split
      · exact ⟨by omega, by omega⟩
      · rename_i h1 h2 h3
        have hok : okDim d = true := by cases h : okDim d; exact absurd (.inl h) h1; rfl
        have h1' : ¬ (a < 0 ∨ b < a ∨ b ≥ d.2.length + 2 ∨ v < 0) := fun h => h1 (.inr h)
        have hbl : b ≤ d.2.length := by
          by_cases h : b ≤ d.2.length
          · exact h
          · exact absurd (by unfold byF; rw [if_neg (by omega), if_pos (by omega)]) h3
        obtain ⟨r, s⟩ := byF_div hok (a := a) (b := b) (by omega) (by omega) hbl
        have x := Int.ediv_nonneg (show 0 ≤ v by omega) (show 0 ≤ byF d b / byF d a by omega)
        have y := Int.ediv_le_self (byF d b / byF d a) (show 0 ≤ v by omega)
        have := hv.2
        exact ⟨by omega, by omega⟩
theorem rep_set {X : List Int} {i n : Nat} (hX : X.length = n) (hi : i < n) : (ic (X.take i) ++ List.replicate (n - i) (Value.int .i64 0)).set i (.int .i64 (X[i]'(by omega))) = ic (X.take (i + 1)) ++ List.replicate (n - (i + 1)) (.int .i64 0) := by
  have hl : (ic (X.take i)).length = i := by simp [ic]; omega
  rw [List.set_append_right _ _ (by omega), hl, Nat.sub_self, show n - i = (n - (i + 1)) + 1 by omega, List.replicate_succ, List.set_cons_zero, List.take_add_one, List.getElem?_eq_getElem (by omega), Option.toList_some]
  unfold ic
  rw [List.map_append, List.append_assoc]
  rfl
set_option maxRecDepth 10000 in
/-- dims.At -/
theorem at_c {u va vb vc : Value} {l : List Dm} {a b c : List Int} (hu : dimsD F u l) (hl : l.length ≤ 140737488351232) (ha : sF F 1 va a.length (ic a)) (hb : sF F 1 vb b.length (ic b)) (hc : sF F 1 vc c.length (ic c)) (hbi : ∀ x ∈ b, i64 x) (hci : ∀ x ∈ c, i64 x)
    (k : ∀ v' F' N', (Hp.mk F' M N').wf → subF F F' → N ≤ N' → sF F' 1 v' (atF l a b c).length (ic (atF l a b c)) → K v' ⟨F', M, N'⟩) :
    callv Tryd.prog (.func (.func 60) #[] #[]) #[u, va, vb, vc] K E ⟨F, M, N⟩ := by
  refine callv_of_text mixed Tryd.func60 (by kernel_rfl) (t60 _ E _ _ _ _) (fun hw => ?_)
  have hm : clean M N := hw.m
  have hlu : lenV u = some (.int .i64 (l.length : Nat)) := by obtain ⟨a, c, rfl⟩ := hu.form; rfl
  have hla : lenV va = some (.int .i64 (a.length : Nat)) := by obtain ⟨a, c, rfl, _⟩ := ha.form; rfl
  have hlb : lenV vb = some (.int .i64 (b.length : Nat)) := by obtain ⟨a, c, rfl, _⟩ := hb.form; rfl
  have hlc : lenV vc = some (.int .i64 (c.length : Nat)) := by obtain ⟨a, c, rfl, _⟩ := hc.form; rfl
  refine dsound_c hu hl (fun N1 hN1 hw1 => ?_)
  have no : atOK l a b c = false → ∀ h', h' = (⟨F, M, N1⟩ : Hp) → h'.wf → ∃ h'', h'.wk h'' ∧ (h''.wf → K (.slice none 0 0) h'') := fun e h' e' hc => by
    subst e'
    have e2 : atF l a b c = [] := by unfold atF; rw [e]; rfl
    exact ⟨_, wk_refl hc, fun hw' => k _ _ _ hw' (subF.refl _) hN1 (by rw [e2]; exact sF.nil _ _ _)⟩
  cases hok : okDims l
  · try simp only [gdTT, gdFF, gdTF, gdFT, pvS, pickT, pickF, faP, lenS, capS, nilP, exA, exB, exC, notB, cndT, cndF, Bool.not_true, Bool.not_false, Nat.zero_add, Nat.add_zero]
    exact no (by unfold atOK; rw [hok]; rfl) _ rfl
  try simp only [gdTT, gdFF, gdTF, gdFT, pvS, pickT, pickF, faP, lenS, capS, nilP, exA, exB, exC, notB, cndT, cndF, Bool.not_true, Bool.not_false, Nat.zero_add, Nat.add_zero]
  simp only [hla, hlu]
  try simp only [gdTT, gdFF, gdTF, gdFT, pvS, pickT, pickF, faP, lenS, capS, nilP, exA, exB, exC, notB, cndT, cndF, Bool.not_true, Bool.not_false, Nat.zero_add, Nat.add_zero]
  refine neq_r (fun h1 => ?_) (fun h1 => ?_)
  · try simp only [gdTT, gdFF, gdTF, gdFT, pvS, pickT, pickF, faP, lenS, capS, nilP, exA, exB, exC, notB, cndT, cndF, Bool.not_true, Bool.not_false, Nat.zero_add, Nat.add_zero]
    exact no (by unfold atOK; rw [decide_eq_false (by omega)]; simp) _ rfl
  try simp only [gdTT, gdFF, gdTF, gdFT, pvS, pickT, pickF, faP, lenS, capS, nilP, exA, exB, exC, notB, cndT, cndF, Bool.not_true, Bool.not_false, Nat.zero_add, Nat.add_zero]
  simp only [hlb, hlu]
  try simp only [gdTT, gdFF, gdTF, gdFT, pvS, pickT, pickF, faP, lenS, capS, nilP, exA, exB, exC, notB, cndT, cndF, Bool.not_true, Bool.not_false, Nat.zero_add, Nat.add_zero]
  refine neq_r (fun h2 => ?_) (fun h2 => ?_)
  · try simp only [gdTT, gdFF, gdTF, gdFT, pvS, pickT, pickF, faP, lenS, capS, nilP, exA, exB, exC, notB, cndT, cndF, Bool.not_true, Bool.not_false, Nat.zero_add, Nat.add_zero]
    exact no (by unfold atOK; rw [decide_eq_false (by omega)]; simp) _ rfl
  try simp only [gdTT, gdFF, gdTF, gdFT, pvS, pickT, pickF, faP, lenS, capS, nilP, exA, exB, exC, notB, cndT, cndF, Bool.not_true, Bool.not_false, Nat.zero_add, Nat.add_zero]
  simp only [hlc, hlu]
  try simp only [gdTT, gdFF, gdTF, gdFT, pvS, pickT, pickF, faP, lenS, capS, nilP, exA, exB, exC, notB, cndT, cndF, Bool.not_true, Bool.not_false, Nat.zero_add, Nat.add_zero]
  refine neq_r (fun h3 => ?_) (fun h3 => ?_)
  · try simp only [gdTT, gdFF, gdTF, gdFT, pvS, pickT, pickF, faP, lenS, capS, nilP, exA, exB, exC, notB, cndT, cndF, Bool.not_true, Bool.not_false, Nat.zero_add, Nat.add_zero]
    exact no (by unfold atOK; rw [decide_eq_false (by omega)]; simp) _ rfl
  have hat : atF l a b c = atL l a b c := by unfold atF atOK; rw [hok, decide_eq_true ⟨by omega, by omega, by omega⟩]; rfl
  have hl4 : l.length ≤ 4 := by unfold okDims at hok; rw [Bool.and_eq_true] at hok; exact (of_decide_eq_true hok.1).2
  rw [hat] at k
  try simp only [gdTT, gdFF, gdTF, gdFT, pvS, pickT, pickF, faP, lenS, capS, nilP, exA, exB, exC, notB, cndT, cndF, Bool.not_true, Bool.not_false, Nat.zero_add, Nat.add_zero]
  refine ⟨_, l.length, _, l.length, rfl, rfl, Nat.le_refl _, by omega, by unfold maxLen; omega, fun b0 hb0' => ?_⟩
  have hb0 : N1 ≤ b0 := hb0'
  obtain ⟨rows, hu1, hu2⟩ := hu
  have hAl := atL_len l a b c
  simp only [hlu]
  try simp only [gdTT, gdFF, gdTF, gdFT, pvS, pickT, pickF, faP, lenS, capS, nilP, exA, exB, exC, notB, cndT, cndF, Bool.not_true, Bool.not_false, Nat.zero_add, Nat.add_zero]
  have hflat : ∀ n : Nat, (List.replicate n [(Value.int .i64 0)]).flatten = List.replicate n (Value.int .i64 0) := fun n => by
    induction n with
    | zero => rfl
    | succ n ih => rw [List.replicate_succ, List.flatten_cons, ih]; rfl
  refine l60_1_1_1_0_1_0_0 (σ := Nat) (fun i => .int .i64 (i : Nat))
    (fun i h => ∃ M' N', h = ⟨F, M', N'⟩ ∧ b0 < N' ∧ (∀ q, q < N → M' q = M q) ∧ clean M' N' ∧ i ≤ l.length ∧ M' b0 = some (.cells 3 (ic ((atL l a b c).take i) ++ List.replicate (l.length - i) (.int .i64 0)) l.length)) (fun i => l.length - i) 0 rfl
    (fun hw2 => ⟨_, wk_refl hw2, _, _, rfl, Nat.lt_succ_self _, fun q hq => upd_ne _ _ (by omega), (hm.up hN1).new hb0 _, Nat.zero_le _, by
      show upd M b0 _ b0 = _
      rw [upd_same, hflat]
      simp [ic]⟩) (fun k1 i j h1' hI hw2 next => ?_)
  obtain ⟨M2, N2, rfl, hbN, hM2, hm2, hi, hb2⟩ := hI
  refine lss_r (fun hlt => ?_) (fun hge => ?_)
  · have h4 : i < l.length := by omega
    try simp only [gdTT, gdFF, gdTF, gdFT, pvS, pickT, pickF, faP, lenS, capS, nilP, exA, exB, exC, notB, cndT, cndF, Bool.not_true, Bool.not_false, Nat.zero_add, Nat.add_zero]
    refine row_r hu1 hu2 (by decide) h4 fun p r _ hR hr2 hr1 => ?_
    have hR' := hR
    obtain ⟨kv, rfl, hkv, hkl⟩ := hR
    refine nw_r (fun b1 hb1 => ?_)
    refine stM (cs' := [.int .i64 l[i].1, kv]) ?_ (upd_same _ _ _) rfl rfl hr1
    rw [upd_upd]
    refine ldMa (vs := [.int .i64 l[i].1, kv]) ?_ (upd_same _ _ _)
    refine ixn_r ha (show i < a.length by omega) fun p => ixn_r hb (show i < b.length by omega) fun p => ixn_r hc (show i < c.length by omega) fun p => ?_
    refine up_c hR' (hbi _ (List.getElem_mem _)) (hci _ (List.getElem_mem _)).2 (fun N3 hN3 hw3 => ?_)
    have hXi : (atL l a b c)[i]'(by omega) = upF l[i] a[i] b[i] c[i] := by
      simp only [atL, List.getElem_mapIdx, List.getD_eq_getElem?_getD, List.getElem?_eq_getElem (show i < a.length by omega), List.getElem?_eq_getElem (show i < b.length by omega), List.getElem?_eq_getElem (show i < c.length by omega), Option.getD_some]
    rw [← hXi]
    refine iaN_r (by omega) ?_
    have hlen : (ic ((atL l a b c).take i) ++ List.replicate (l.length - i) (Value.int .i64 0)).length = l.length := by simp [ic, hAl]; omega
    refine stM (cs' := ic ((atL l a b c).take (i + 1)) ++ List.replicate (l.length - (i + 1)) (.int .i64 0)) ?_ ((upd_ne _ _ (by omega)).trans hb2) (by
      rw [Nat.zero_add, Nat.mul_one]
      exact (splice_one (by omega) _).trans (rep_set hAl h4)) rfl (List.all_eq_true.1 rfl) (by rw [hlen]; omega)
    refine inc_r (by omega) ?_
    exact next (i + 1) _ _ (by omega) (fun hw4 => ⟨_, wk_refl hw4, _, N3, rfl, by omega, fun q hq => (upd_ne _ _ (by omega)).trans ((upd_ne _ _ (by omega)).trans (hM2 q hq)), hw4.m, h4, upd_same _ _ _⟩)
  · try simp only [gdTT, gdFF, gdTF, gdFT, pvS, pickT, pickF, faP, lenS, capS, nilP, exA, exB, exC, notB, cndT, cndF, Bool.not_true, Bool.not_false, Nat.zero_add, Nat.add_zero]
    rw [t60_1_1_1_1]
    have e : i = l.length := by omega
    rw [e, List.take_of_length_le (by omega), Nat.sub_self, List.replicate_zero, List.append_nil] at hb2
    refine fun hc' => ⟨_, frz_wf hm hM2 hc', fun hw' => k _ _ _ hw' (subF_frzAll hc') (by omega) ?_⟩
    rw [hAl]
    exact sF_lit (frz_at (by omega) hb2) (by simp [ic, hAl]) (Nat.le_refl _)
/-- At, of the reference -/
theorem rat_c {u va vb vc : Value} {l : List Dm} {a b c : List Int} (hu : dimsD F u l) (hl : l.length ≤ 140737488351232) (ha : sF F 1 va a.length (ic a)) (hb : sF F 1 vb b.length (ic b)) (hc : sF F 1 vc c.length (ic c)) (hbi : ∀ x ∈ b, i64 x) (hci : ∀ x ∈ c, i64 x)
    (k : ∀ v' F' N', (Hp.mk F' M N').wf → subF F F' → N ≤ N' → sF F' 1 v' (atF l a b c).length (ic (atF l a b c)) → K v' ⟨F', M, N'⟩) :
    callv Tryd.prog (.func (.func 63) #[] #[]) #[u, va, vb, vc] K E ⟨F, M, N⟩ := by
  refine callv_of_text mixed Tryd.func63 (by kernel_rfl) (t63 _ E _ _ _ _) (fun hw => ?_)
  have hm : clean M N := hw.m
  have hlu : lenV u = some (.int .i64 (l.length : Nat)) := by obtain ⟨a, c, rfl⟩ := hu.form; rfl
  have hla : lenV va = some (.int .i64 (a.length : Nat)) := by obtain ⟨a, c, rfl, _⟩ := ha.form; rfl
  have hlb : lenV vb = some (.int .i64 (b.length : Nat)) := by obtain ⟨a, c, rfl, _⟩ := hb.form; rfl
  have hlc : lenV vc = some (.int .i64 (c.length : Nat)) := by obtain ⟨a, c, rfl, _⟩ := hc.form; rfl
  refine rdsound_c hu hl (fun N1 hN1 hw1 => ?_)
  have no : atOK l a b c = false → ∀ h', h' = (⟨F, M, N1⟩ : Hp) → h'.wf → ∃ h'', h'.wk h'' ∧ (h''.wf → K (.slice none 0 0) h'') := fun e h' e' hc => by
    subst e'
    have e2 : atF l a b c = [] := by unfold atF; rw [e]; rfl
    exact ⟨_, wk_refl hc, fun hw' => k _ _ _ hw' (subF.refl _) hN1 (by rw [e2]; exact sF.nil _ _ _)⟩
  cases hok : okDims l
  · try simp only [gdTT, gdFF, gdTF, gdFT, pvS, pickT, pickF, faP, lenS, capS, nilP, exA, exB, exC, notB, cndT, cndF, Bool.not_true, Bool.not_false, Nat.zero_add, Nat.add_zero]
    exact no (by unfold atOK; rw [hok]; rfl) _ rfl
  try simp only [gdTT, gdFF, gdTF, gdFT, pvS, pickT, pickF, faP, lenS, capS, nilP, exA, exB, exC, notB, cndT, cndF, Bool.not_true, Bool.not_false, Nat.zero_add, Nat.add_zero]
  simp only [hla, hlu]
  try simp only [gdTT, gdFF, gdTF, gdFT, pvS, pickT, pickF, faP, lenS, capS, nilP, exA, exB, exC, notB, cndT, cndF, Bool.not_true, Bool.not_false, Nat.zero_add, Nat.add_zero]
  refine neq_r (fun h1 => ?_) (fun h1 => ?_)
  · try simp only [gdTT, gdFF, gdTF, gdFT, pvS, pickT, pickF, faP, lenS, capS, nilP, exA, exB, exC, notB, cndT, cndF, Bool.not_true, Bool.not_false, Nat.zero_add, Nat.add_zero]
    exact no (by unfold atOK; rw [decide_eq_false (by omega)]; simp) _ rfl
  try simp only [gdTT, gdFF, gdTF, gdFT, pvS, pickT, pickF, faP, lenS, capS, nilP, exA, exB, exC, notB, cndT, cndF, Bool.not_true, Bool.not_false, Nat.zero_add, Nat.add_zero]
  simp only [hlb, hlu]
  try simp only [gdTT, gdFF, gdTF, gdFT, pvS, pickT, pickF, faP, lenS, capS, nilP, exA, exB, exC, notB, cndT, cndF, Bool.not_true, Bool.not_false, Nat.zero_add, Nat.add_zero]
  refine neq_r (fun h2 => ?_) (fun h2 => ?_)
  · try simp only [gdTT, gdFF, gdTF, gdFT, pvS, pickT, pickF, faP, lenS, capS, nilP, exA, exB, exC, notB, cndT, cndF, Bool.not_true, Bool.not_false, Nat.zero_add, Nat.add_zero]
    exact no (by unfold atOK; rw [decide_eq_false (by omega)]; simp) _ rfl
  try simp only [gdTT, gdFF, gdTF, gdFT, pvS, pickT, pickF, faP, lenS, capS, nilP, exA, exB, exC, notB, cndT, cndF, Bool.not_true, Bool.not_false, Nat.zero_add, Nat.add_zero]
  simp only [hlc, hlu]
  try simp only [gdTT, gdFF, gdTF, gdFT, pvS, pickT, pickF, faP, lenS, capS, nilP, exA, exB, exC, notB, cndT, cndF, Bool.not_true, Bool.not_false, Nat.zero_add, Nat.add_zero]
  refine neq_r (fun h3 => ?_) (fun h3 => ?_)
  · try simp only [gdTT, gdFF, gdTF, gdFT, pvS, pickT, pickF, faP, lenS, capS, nilP, exA, exB, exC, notB, cndT, cndF, Bool.not_true, Bool.not_false, Nat.zero_add, Nat.add_zero]
    exact no (by unfold atOK; rw [decide_eq_false (by omega)]; simp) _ rfl
  have hat : atF l a b c = atL l a b c := by unfold atF atOK; rw [hok, decide_eq_true ⟨by omega, by omega, by omega⟩]; rfl
  have hl4 : l.length ≤ 4 := by unfold okDims at hok; rw [Bool.and_eq_true] at hok; exact (of_decide_eq_true hok.1).2
  rw [hat] at k
  try simp only [gdTT, gdFF, gdTF, gdFT, pvS, pickT, pickF, faP, lenS, capS, nilP, exA, exB, exC, notB, cndT, cndF, Bool.not_true, Bool.not_false, Nat.zero_add, Nat.add_zero]
  obtain ⟨rows, hu1, hu2⟩ := hu
  have hAl := atL_len l a b c
  have hm1 := hm.up hN1
  refine l63_1_1_1_0_1_0_0 (σ := Nat × Value) (fun s => s.2) (fun s => .int .i64 (s.1 : Nat))
    (fun s h => ∃ M' N', h = ⟨F, M', N'⟩ ∧ N ≤ N' ∧ (∀ q, q < N → M' q = M q) ∧ clean M' N' ∧ s.1 ≤ l.length ∧ own M' N 3 1 s.2 s.1 (ic (atL (l.take s.1) a b c))) (fun s => l.length - s.1) (0, .slice none 0 0) rfl rfl
    (fun hw2 => ⟨_, wk_refl hw2, M, N1, rfl, hN1, fun _ _ => rfl, hm1, Nat.zero_le _, own.nil⟩) (fun k1 s j h1' hI hw2 next => ?_)
  obtain ⟨M2, N2, rfl, hN2, hM2, hm2, hi, ho2⟩ := hI
  simp only [hlu]
  try simp only [gdTT, gdFF, gdTF, gdFT, pvS, pickT, pickF, faP, lenS, capS, nilP, exA, exB, exC, notB, cndT, cndF, Bool.not_true, Bool.not_false, Nat.zero_add, Nat.add_zero]
  refine lss_r (fun hlt => ?_) (fun hge => ?_)
  · have h4 : s.1 < l.length := by omega
    try simp only [gdTT, gdFF, gdTF, gdFT, pvS, pickT, pickF, faP, lenS, capS, nilP, exA, exB, exC, notB, cndT, cndF, Bool.not_true, Bool.not_false, Nat.zero_add, Nat.add_zero]
    refine row_r hu1 hu2 (by decide) h4 fun p r _ hR hr2 hr1 => ?_
    refine ixn_r ha (show s.1 < a.length by omega) fun p => ixn_r hb (show s.1 < b.length by omega) fun p => ixn_r hc (show s.1 < c.length by omega) fun p => ?_
    refine rup_c hR (hbi _ (List.getElem_mem _)) (hci _ (List.getElem_mem _)).2 (fun N3 hN3 hw3 => ?_)
    refine push_r (new := [.int .i64 (upF l[s.1] a[s.1] b[s.1] c[s.1])]) ho2 (hm2.up hN3) (by omega) (by kernel_rfl) rfl (List.all_eq_true.1 rfl) (by omega) (by unfold maxLen; omega) (fun p v' M3 N3' h4' h5 h6 h7 => ?_)
    refine inc_r (by omega) ?_
    refine next (s.1 + 1, v') _ _ (by simp only; omega) (fun hw3 => ⟨_, wk_refl hw3, M3, N3', rfl, by omega, fun q hq => ((h5 q (fun e => by have := (ho2.ge q e).1; omega) (by omega)).1).trans (hM2 q hq), h7, h4, ?_⟩)
    simp only
    rw [atL_take l a b c h4 (by omega) (by omega) (by omega)]
    simpa [ic] using h4'
  · try simp only [gdTT, gdFF, gdTF, gdFT, pvS, pickT, pickF, faP, lenS, capS, nilP, exA, exB, exC, notB, cndT, cndF, Bool.not_true, Bool.not_false, Nat.zero_add, Nat.add_zero]
    rw [t63_1_1_1_1]
    rw [List.take_of_length_le (by omega)] at ho2
    refine fun hc' => ⟨_, frz_wf hm hM2 hc', fun hw' => k _ _ _ hw' (subF_frzAll hc') hN2 ?_⟩
    have := ho2.rd.frz hc' (fun b hb => .inl (ho2.ge b hb).1)
    rw [hAl]
    rw [show s.1 = l.length by omega] at this
    exact this
end Go.Proofs.YthpacapdaembpaaDoor.A
open Go Go.RowKit Go.Proofs.YthpacapdaembpaaDoor.K Go.Proofs.YthpacapdaembpaaDoor.T
set_option linter.unusedVariables false
set_option linter.unusedSimpArgs false
namespace Go.Proofs.YthpacapdaembpaaDoor.A
variable {F F' : Nat → Option (List Value)} {M M' : Nat → Option Chunk} {N N' : Nat} {K : Kont} {E : PanK}
end Go.Proofs.YthpacapdaembpaaDoor.A
open Go
set_option linter.unusedVariables false
set_option linter.unusedSimpArgs false
namespace Go.Proofs.YthpacapdaembpaaDoor.A

/-! ### What numbers come to -/
def isMin (m : Int) (l : List Int) : Prop := m ∈ l ∧ ∀ x ∈ l, m ≤ x
def isMax (m : Int) (l : List Int) : Prop := m ∈ l ∧ ∀ x ∈ l, x ≤ m
/-- The cell of numbers (one at least). -/
structure isCell (c : CE) (l : List Int) : Prop where
  n : c.n = l.length
  s : c.s = IntKind.i64.wrap l.sum
  lo : isMin c.lo l
  hi : isMax c.hi l
theorem isCell.ne {c : CE} {l : List Int} (h : isCell c l) : l ≠ [] := fun e => by have := h.lo.1; rw [e] at this; cases this
theorem isCell.pos {c : CE} {l : List Int} (h : isCell c l) : 0 < c.n := by
  have := List.length_pos_iff.2 h.ne
  rw [h.n]; omega
theorem isCell.one {v : Int} (h0 : -9223372036854775808 ≤ v) (h1 : v ≤ 9223372036854775807) : isCell ⟨1, v, v, v⟩ [v] :=
  ⟨rfl, by simp only [List.sum_cons, List.sum_nil]; rw [IntKind.wrap_i64]; omega, ⟨by simp, fun x hx => by simp at hx; simp only; omega⟩, ⟨by simp, fun x hx => by simp at hx; simp only; omega⟩⟩
theorem wrap_add (a b : Int) : IntKind.i64.wrap (IntKind.i64.wrap a + IntKind.i64.wrap b) = IntKind.i64.wrap (a + b) := by
  simp only [IntKind.wrap_i64]; omega
theorem sum_app (a b : List Int) : (a ++ b).sum = a.sum + b.sum := by simp
theorem isCell.merge {a b : CE} {la lb : List Int} (ha : isCell a la) (hb : isCell b lb) (hl : la.length + lb.length < 9223372036854775808) : isCell (a.merge b) (la ++ lb) := by
  have h1 := ha.pos
  have h2 := hb.pos
  have e : a.merge b = ⟨IntKind.i64.wrap (a.n + b.n), IntKind.i64.wrap (a.s + b.s), if b.lo < a.lo then b.lo else a.lo, if b.hi > a.hi then b.hi else a.hi⟩ := by
    unfold CE.merge CE.add
    rw [if_neg (by omega), if_neg (by omega), if_neg (fun e => by rw [e] at h2; simp at h2), if_neg (fun e => by rw [e] at h1; simp at h1)]
  rw [e]
  refine ⟨?_, ?_, ⟨?_, fun x hx => ?_⟩, ⟨?_, fun x hx => ?_⟩⟩
  · simp only
    rw [ha.n, hb.n, IntKind.wrap_i64, List.length_append]; omega
  · simp only
    rw [ha.s, hb.s, wrap_add, sum_app]
  · simp only
    split
    · exact List.mem_append_right _ hb.lo.1
    · exact List.mem_append_left _ ha.lo.1
  · simp only
    rcases List.mem_append.1 hx with hx | hx
    · have := ha.lo.2 x hx; split <;> omega
    · have := hb.lo.2 x hx; split <;> omega
  · simp only
    split
    · exact List.mem_append_right _ hb.hi.1
    · exact List.mem_append_left _ ha.hi.1
  · simp only
    rcases List.mem_append.1 hx with hx | hx
    · have := ha.hi.2 x hx; split <;> omega
    · have := hb.hi.2 x hx; split <;> omega
/-- The order of numbers does not matter. -/
theorem isCell.perm {c d : CE} {l m : List Int} (h : isCell c l) (k : isCell d m) (p : l.Perm m) : c = d := by
  obtain ⟨c1, c2, c3, c4⟩ := c
  obtain ⟨d1, d2, d3, d4⟩ := d
  have e1 : c1 = d1 := by have a := h.n; have b := k.n; simp only at a b; rw [a, b, p.length_eq]
  have e2 : c2 = d2 := by
    have a := h.s; have b := k.s; simp only at a b
    rw [a, b]
    congr 1
    exact p.foldr_eq' (fun x _ y _ z => by omega) 0
  have e3 : c3 = d3 := by
    have a := h.lo.2 d3 (p.mem_iff.2 k.lo.1)
    have b := k.lo.2 c3 (p.mem_iff.1 h.lo.1)
    simp only at a b; omega
  have e4 : c4 = d4 := by
    have a := h.hi.2 d4 (p.mem_iff.2 k.hi.1)
    have b := k.hi.2 c4 (p.mem_iff.1 h.hi.1)
    simp only at a b; omega
  rw [e1, e2, e3, e4]
/-- Numbers at keys. -/
abbrev KV := List Int × List Int
/-- All numbers at a key, in order. -/
def valsAt (ls : List KV) (k : List Int) : List Int := (ls.filter fun x => decide (x.1 = k)).flatMap (·.2)
theorem valsAt_cons (x : KV) (ls : List KV) (k : List Int) : valsAt (x :: ls) k = (if x.1 = k then x.2 else []) ++ valsAt ls k := by
  unfold valsAt
  rw [List.filter_cons]
  by_cases h : x.1 = k
  · simp [h]
  · simp [h]
theorem valsAt_app (a b : List KV) (k : List Int) : valsAt (a ++ b) k = valsAt a k ++ valsAt b k := by simp [valsAt]
theorem valsAt_snoc (ls : List KV) (x : KV) (k : List Int) : valsAt (ls ++ [x]) k = valsAt ls k ++ (if x.1 = k then x.2 else []) := by
  rw [valsAt_app, valsAt_cons]; simp [valsAt]
/-- How many numbers. -/
def sizeL (ls : List KV) : Nat := (ls.map (·.2.length)).sum
theorem sizeL_app (a b : List KV) : sizeL (a ++ b) = sizeL a + sizeL b := by simp [sizeL]
theorem valsAt_len (ls : List KV) (k : List Int) : (valsAt ls k).length ≤ sizeL ls := by
  induction ls with
  | nil => simp [valsAt, sizeL]
  | cons x ls ih =>
    rw [valsAt_cons]
    simp only [sizeL, List.map_cons, List.sum_cons, List.length_append] at ih ⊢
    split
    · omega
    · simp; omega
/-- Rows, and the numbers that they tell. -/
def tells (rows : List Rw) (ls : List KV) : Prop := rows.length = ls.length ∧ ∀ (i : Nat) (r : Rw) (l : KV), rows[i]? = some r → ls[i]? = some l → r.1 = l.1 ∧ isCell r.2 l.2
theorem tells.nil : tells [] [] := ⟨rfl, fun i r l h => by simp at h⟩
theorem tells.cons {r : Rw} {l : KV} {rows : List Rw} {ls : List KV} (h1 : r.1 = l.1) (h2 : isCell r.2 l.2) (h : tells rows ls) : tells (r :: rows) (l :: ls) := by
  refine ⟨by simp [h.1], fun i r' l' hr hl => ?_⟩
  cases i with
  | zero => simp at hr hl; subst hr; subst hl; exact ⟨h1, h2⟩
  | succ i => exact h.2 i r' l' (by simpa using hr) (by simpa using hl)
theorem tells.uncons {r : Rw} {l : KV} {rows : List Rw} {ls : List KV} (h : tells (r :: rows) (l :: ls)) : r.1 = l.1 ∧ isCell r.2 l.2 ∧ tells rows ls :=
  ⟨(h.2 0 r l rfl rfl).1, (h.2 0 r l rfl rfl).2, by have := h.1; simp at this; exact this, fun i r' l' hr hl => h.2 (i + 1) r' l' (by simpa using hr) (by simpa using hl)⟩
theorem tells.app {r1 r2 : List Rw} {l1 l2 : List KV} (h1 : tells r1 l1) (h2 : tells r2 l2) : tells (r1 ++ r2) (l1 ++ l2) := by
  induction r1 generalizing l1 with
  | nil =>
    cases l1 with
    | nil => simpa using h2
    | cons _ _ => have := h1.1; simp at this
  | cons r r1 ih =>
    cases l1 with
    | nil => have := h1.1; simp at this
    | cons l l1 => obtain ⟨a, b, c⟩ := h1.uncons; exact .cons a b (ih c)
/-- What a table has at a key. -/
def hasAt (t : List Rw) (ls : List KV) : Prop := ∀ k, match look t k with
  | none => valsAt ls k = []
  | some c => isCell c (valsAt ls k)
theorem hasAt.layR {t : List Rw} {ls : List KV} (h : hasAt t ls) (hs : srt t) {k : List Int} {c : CE} {l : List Int} (hc : isCell c l) (hn : sizeL ls + l.length < 9223372036854775808) : hasAt (layR t k c) (ls ++ [(k, l)]) := by
  intro q
  rw [layR_look k c q hs, valsAt_snoc]
  have hq := h q
  by_cases e : k = q
  · subst e
    simp only [if_true]
    cases hl : look t k with
    | none => rw [hl] at hq; simp only at hq; simp only [mrg]; rw [hq, List.nil_append]; exact hc
    | some c' =>
      rw [hl] at hq; simp only at hq; simp only [mrg]
      exact hq.merge hc (by have := valsAt_len ls k; omega)
  · simp only [if_neg e, List.append_nil]
    exact hq
theorem hasAt.nil : hasAt [] [] := fun k => by simp [look, valsAt]
theorem fold_hasAt : ∀ (rows : List Rw) (ls : List KV) (t : List Rw) (ls0 : List KV), tells rows ls → hasAt t ls0 → srt t → sizeL ls0 + sizeL ls < 9223372036854775808 → hasAt (rows.foldl (fun t r => layR t r.1 r.2) t) (ls0 ++ ls)
  | [], [], t, ls0, _, h, _, _ => by simpa using h
  | [], _ :: _, _, _, h, _, _, _ => by have := h.1; simp at this
  | _ :: _, [], _, _, h, _, _, _ => by have := h.1; simp at this
  | r :: rows, (k, l) :: ls, t, ls0, h, ht, hs, hn => by
    obtain ⟨a, b, c⟩ := h.uncons
    simp only at a b
    have hn' : sizeL ls0 + (l.length + sizeL ls) < 9223372036854775808 := by simpa [sizeL] using hn
    subst a
    have h1 := ht.layR hs (k := r.1) b (by omega)
    have h2 := fold_hasAt rows ls _ _ c h1 (layR_srt hs) (by rw [sizeL_app]; simp [sizeL] at hn' ⊢; omega)
    rw [List.append_assoc] at h2
    exact h2
theorem tab_hasAt {rows : List Rw} {ls : List KV} (h : tells rows ls) (hn : sizeL ls < 9223372036854775808) : hasAt (tab rows) ls := by
  have := fold_hasAt rows ls [] [] h hasAt.nil .nil (by simpa [sizeL] using hn)
  rw [List.nil_append] at this
  exact this
/-- A table tells what it has. -/
theorem hasAt.tells {t : List Rw} {ls : List KV} (h : hasAt t ls) (hs : srt t) : tells t (t.map fun r => (r.1, valsAt ls r.1)) := by
  refine ⟨by simp, fun i r l hr hl => ?_⟩
  rw [List.getElem?_map, hr] at hl
  simp at hl
  subst hl
  refine ⟨rfl, ?_⟩
  have := h r.1
  rw [(look_some hs.nodup (c := r.2)).2 (List.mem_of_getElem? hr)] at this
  exact this
/-- Two tables that have the same numbers at each key, in whichever order, are one. -/
theorem hasAt.ext {t u : List Rw} {ls ms : List KV} (h : hasAt t ls) (k : hasAt u ms) (ht : srt t) (hu : srt u) (hp : ∀ q, (valsAt ls q).Perm (valsAt ms q)) : t = u := by
  refine srt_ext ht hu fun q => ?_
  have h1 := h q
  have h2 := k q
  have hpq := hp q
  cases a : look t q with
  | none =>
    rw [a] at h1; simp only at h1
    cases b : look u q with
    | none => rfl
    | some d => rw [b] at h2; simp only at h2; rw [h1] at hpq; exact absurd hpq.symm.eq_nil h2.ne
  | some c =>
    rw [a] at h1; simp only at h1
    cases b : look u q with
    | none => rw [b] at h2; simp only at h2; rw [h2] at hpq; exact absurd hpq.eq_nil h1.ne
    | some d => rw [b] at h2; simp only at h2; rw [h1.perm h2 hpq]
/-- The numbers of facts. -/
def kvF (f : List Int × Int) : KV := (f.1, [f.2])
theorem tells_facts : ∀ {l : List (List Int × Int)}, (∀ f ∈ l, -9223372036854775808 ≤ f.2 ∧ f.2 ≤ 9223372036854775807) → tells (l.map fun f => (f.1, (⟨1, f.2, f.2, f.2⟩ : CE))) (l.map kvF)
  | [], _ => .nil
  | f :: l, h => .cons rfl (isCell.one (h f (by simp)).1 (h f (by simp)).2) (tells_facts fun x hx => h x (by simp [hx]))
theorem sizeL_facts (l : List (List Int × Int)) : sizeL (l.map kvF) = l.length := by
  induction l with
  | nil => rfl
  | cons f l ih => simp only [sizeL, kvF, List.map_cons, List.sum_cons, List.length_cons, List.length_nil] at ih ⊢; omega
theorem valsAt_perm {a b : List KV} (p : a.Perm b) (k : List Int) : (valsAt a k).Perm (valsAt b k) := (p.filter _).flatMap_right _
theorem mem_keys {t : List Rw} {ls : List KV} (h : hasAt t ls) (hs : srt t) {r : Rw} (hr : r ∈ t) : (∃ x ∈ ls, x.1 = r.1) ∧ isCell r.2 (valsAt ls r.1) := by
  have h1 := h r.1
  rw [(look_some hs.nodup (c := r.2)).2 hr] at h1
  simp only at h1
  refine ⟨?_, h1⟩
  have hne := h1.ne
  unfold valsAt at hne
  cases hf : ls.filter (fun x => decide (x.1 = r.1)) with
  | nil => rw [hf] at hne; exact absurd rfl hne
  | cons x m =>
    have hx : x ∈ ls.filter (fun x => decide (x.1 = r.1)) := by rw [hf]; simp
    obtain ⟨a, b⟩ := List.mem_filter.1 hx
    exact ⟨x, a, of_decide_eq_true b⟩
end Go.Proofs.YthpacapdaembpaaDoor.A
open Go Go.RowKit Go.Proofs.YthpacapdaembpaaDoor.K Go.Proofs.YthpacapdaembpaaDoor.T
set_option linter.unusedVariables false
set_option linter.unusedSimpArgs false
namespace Go.Proofs.YthpacapdaembpaaDoor.A
variable {F F' : Nat → Option (List Value)} {M M' : Nat → Option Chunk} {N N' : Nat} {K : Kont} {E : PanK}
theorem isCell.ok {c : CE} {l : List Int} (h : isCell c l) (hl : ∀ x ∈ l, i64 x) : c.ok = true := by
  have hp := h.pos
  unfold CE.ok
  rw [if_neg (by omega)]
  refine decide_eq_true ⟨h.hi.2 _ h.lo.1, ?_⟩
  by_cases h1 : c.n > 1
  · exact .inl h1
  · right
    have hn := h.n
    match l, h, hl, hn with
    | [], h, _, _ => exact absurd rfl h.ne
    | [x], h, hl, _ =>
      have a := h.lo.1; have b := h.hi.1; have s := h.s
      simp at a b
      have hx := hl x (by simp)
      simp only [List.sum_cons, List.sum_nil] at s
      rw [show x + 0 = x by omega, wrap_in hx.1 hx.2] at s
      exact ⟨by rw [s, a], by rw [a, b]⟩
    | x :: y :: l, _, _, hn => simp at hn; omega
theorem soundT_of {p : Int} : ∀ {t : List Rw}, (∀ r ∈ t, okRow p r = true) → srt t → soundT p t = true := by
  have key : ∀ (t : List Rw) (o : Option (List Int)), (∀ r ∈ t, okRow p r = true) → srt t → (∀ k, o = some k → ∀ r ∈ t, kcmp k r.1 < 0) → soundL p o t = true := by
    intro t
    induction t with
    | nil => intro o _ _ _; rfl
    | cons r t ih =>
      intro o h hs ho
      have hs' := List.pairwise_cons.1 hs
      simp only [soundL]
      rw [h r (by simp), ih (some r.1) (fun x hx => h x (by simp [hx])) hs'.2 (fun k e x hx => by cases e; exact hs'.1 x hx)]
      cases o with
      | none => rfl
      | some k => simp only; rw [decide_eq_true (ho k rfl r (by simp))]; rfl
  intro t h hs
  exact key t none h hs (fun k e => by cases e)
theorem okRow_of {r : Rw} {p : Int} {l : List Int} (h1 : (r.1.length : Int) = p) (h2 : ∀ x ∈ r.1, 0 ≤ x) (h3 : isCell r.2 l) (h4 : ∀ x ∈ l, i64 x) : okRow p r = true := by
  unfold okRow
  have hn : anyNeg r.1 = false := by
    unfold anyNeg
    rw [List.any_eq_false]
    intro x hx; have := h2 x hx; simp; omega
  rw [decide_eq_true h1, decide_eq_true h3.pos, h3.ok h4, hn]; rfl
/-- Dimensions whose keys may be told. -/
def goodDims (l : List Dm) : Prop := 0 < l.length ∧ l.length ≤ 4 ∧ ∀ d ∈ l, 0 < d.1 ∧ d.1 ≤ 200
theorem dimsOf_good (m : List (Int × List Int)) (hc : ∀ c ∈ m, 0 ≤ c.1 ∧ c.1 < 65536) : goodDims (dimsOf m) := by
  unfold dimsOf
  split
  · exact ⟨by decide, by decide, fun d hd => by simp at hd; subst hd; decide⟩
  · rename_i h
    refine ⟨?_, by rw [List.length_map, List.length_take]; omega, fun d hd => ?_⟩
    · have := List.length_pos_iff.2 h
      rw [List.length_map, List.length_take]; omega
    · obtain ⟨c, hc', rfl⟩ := List.mem_map.1 hd
      have := hc c (List.mem_of_mem_take hc')
      simp only [dimOf]; omega
theorem keyOf_get {l : List Dm} {c : List Int} {x : Int} (h : x ∈ keyOf l c) : ∃ (i : Nat) (hi : i < l.length), x = (c.getD i 0) % l[i].1 := by
  obtain ⟨i, hi, rfl⟩ := List.mem_iff_getElem.1 h
  rw [keyOf_len] at hi
  exact ⟨i, hi, by simp [keyOf]⟩
theorem keyOf_ok {l : List Dm} (hl : goodDims l) (c : List Int) : ∀ x ∈ keyOf l c, 0 ≤ x ∧ x < 200 := fun x hx => by
  obtain ⟨i, hi, rfl⟩ := keyOf_get hx
  obtain ⟨h1, h2⟩ := hl.2.2 l[i] (List.getElem_mem _)
  have a := Int.emod_nonneg (c.getD i 0) (show l[i].1 ≠ 0 by omega)
  have b := Int.emod_lt_of_pos (c.getD i 0) h1
  omega
theorem factsOf_mem {l : List Dm} {ks : List (List Int)} {v : List Int} {f : Fc} (h : f ∈ factsOf l ks v) : (∃ c, f.1 = keyOf l c) ∧ (f.2 = 0 ∨ f.2 ∈ v) := by
  obtain ⟨i, hi, rfl⟩ := List.mem_iff_getElem.1 h
  refine ⟨⟨(ks.take 200)[i]'(by simpa [factsOf] using hi), by simp [factsOf]⟩, ?_⟩
  simp only [factsOf, List.getElem_mapIdx]
  rw [List.getD_eq_getElem?_getD]
  cases hv : v[i % v.length]? with
  | none => exact .inl rfl
  | some x => exact .inr (List.mem_of_getElem? hv)
theorem facts_i64 {l : List Dm} {ks : List (List Int)} {v : List Int} (hv : ∀ x ∈ v, i64 x) : ∀ f ∈ factsOf l ks v, i64 f.2 := fun f hf => by
  rcases (factsOf_mem hf).2 with h | h
  · rw [h]; exact ⟨by omega, by omega⟩
  · exact hv _ h
theorem facts_okK {l : List Dm} (hl : goodDims l) {ks : List (List Int)} {v : List Int} : ∀ f ∈ factsOf l ks v, okK f.1 := fun f hf => by
  obtain ⟨c, hc⟩ := (factsOf_mem hf).1
  rw [hc]
  refine ⟨by rw [keyOf_len]; have := hl.2.1; omega, fun x hx => ?_⟩
  have := keyOf_ok hl c x hx
  exact ⟨by omega, by omega⟩
theorem valsAt_mem {ls : List KV} {k : List Int} {x : Int} (h : x ∈ valsAt ls k) : ∃ l ∈ ls, l.1 = k ∧ x ∈ l.2 := by
  unfold valsAt at h
  obtain ⟨l, hl, hx⟩ := List.mem_flatMap.1 h
  obtain ⟨h1, h2⟩ := List.mem_filter.1 hl
  exact ⟨l, h1, of_decide_eq_true h2, hx⟩
/-- The table of facts: what it has. -/
theorem tabF_hasAt {l : List Fc} (h : ∀ f ∈ l, i64 f.2) (hn : l.length < 9223372036854775808) : hasAt (tab (l.map fr1)) (l.map kvF) :=
  tab_hasAt (tells_facts h) (by rw [sizeL_facts]; exact hn)
end Go.Proofs.YthpacapdaembpaaDoor.A
open Go Go.RowKit Go.Proofs.YthpacapdaembpaaDoor.K Go.Proofs.YthpacapdaembpaaDoor.T
set_option linter.unusedVariables false
set_option linter.unusedSimpArgs false
namespace Go.Proofs.YthpacapdaembpaaDoor.A
variable {F F' : Nat → Option (List Value)} {M M' : Nat → Option Chunk} {N N' : Nat} {K : Kont} {E : PanK}
/-- May it go from a level to another one? -/
def lvs : List Dm → List Int → List Int → Bool
  | d :: l, a :: x, b :: y => decide (¬ (a < 0 ∨ b < a ∨ b ≥ d.2.length + 2)) && lvs l x y
  | _, _, _ => true
def levF (l : List Dm) (a b : List Int) : Bool := decide (a.length = l.length ∧ b.length = l.length) && lvs l a b
theorem lvs_at {l : List Dm} {a b : List Int} {i : Nat} (h : i < l.length) (ha : i < a.length) (hb : i < b.length) : lvs (l.drop i) (a.drop i) (b.drop i) = (decide (¬ (a[i] < 0 ∨ b[i] < a[i] ∨ b[i] ≥ l[i].2.length + 2)) && lvs (l.drop (i + 1)) (a.drop (i + 1)) (b.drop (i + 1))) := by
  rw [List.drop_eq_getElem_cons h, List.drop_eq_getElem_cons ha, List.drop_eq_getElem_cons hb]
  rfl
/-- table.goes -/
theorem goes_c {u va vb : Value} {l : List Dm} {a b : List Int} (hu : dimsD F u l) (hl : l.length ≤ 140737488351232) (ha : sF F 1 va a.length (ic a)) (hb : sF F 1 vb b.length (ic b)) (k : ∀ N', N ≤ N' → (Hp.mk F M N').wf → K (.bool (levF l a b)) ⟨F, M, N'⟩) :
    callv Tryd.prog (.func (.func 58) #[] #[]) #[u, va, vb] K E ⟨F, M, N⟩ := by
  refine callv_of_text mixed Tryd.func58 (by kernel_rfl) (t58 _ E _ _ _) (fun hw => ?_)
  have hm : clean M N := hw.m
  have hlu : lenV u = some (.int .i64 (l.length : Nat)) := by obtain ⟨a, c, rfl⟩ := hu.form; rfl
  have hla : lenV va = some (.int .i64 (a.length : Nat)) := by obtain ⟨a, c, rfl, _⟩ := ha.form; rfl
  have hlb : lenV vb = some (.int .i64 (b.length : Nat)) := by obtain ⟨a, c, rfl, _⟩ := hb.form; rfl
  have fin0 : ∀ v', v' = levF l a b → ∀ N', N ≤ N' → ∀ h', h' = (⟨F, M, N'⟩ : Hp) → h'.wf → ∃ h'', h'.wk h'' ∧ (h''.wf → K (.bool v') h'') := fun v' e N' hN h' e' hc => by
    subst e; subst e'
    exact ⟨_, wk_refl hc, fun hw' => k _ hN hw'⟩
  unfold levF at fin0
  try simp only [hla, hlu]
  try simp only [gdTT, gdFF, gdTF, gdFT, pvS, pickT, pickF, faP, lenS, capS, nilP, exA, exB, exC, notB, cndT, cndF, Bool.not_true, Bool.not_false, Nat.zero_add, Nat.add_zero]
  refine neq_r (fun h1 => ?_) (fun h1 => ?_)
  · try simp only [gdTT, gdFF, gdTF, gdFT, pvS, pickT, pickF, faP, lenS, capS, nilP, exA, exB, exC, notB, cndT, cndF, Bool.not_true, Bool.not_false, Nat.zero_add, Nat.add_zero]
    exact fin0 _ (by rw [decide_eq_false (by omega)]; rfl) _ (Nat.le_refl _) _ rfl
  try simp only [gdTT, gdFF, gdTF, gdFT, pvS, pickT, pickF, faP, lenS, capS, nilP, exA, exB, exC, notB, cndT, cndF, Bool.not_true, Bool.not_false, Nat.zero_add, Nat.add_zero]
  try simp only [hlb, hlu]
  try simp only [gdTT, gdFF, gdTF, gdFT, pvS, pickT, pickF, faP, lenS, capS, nilP, exA, exB, exC, notB, cndT, cndF, Bool.not_true, Bool.not_false, Nat.zero_add, Nat.add_zero]
  refine neq_r (fun h2 => ?_) (fun h2 => ?_)
  · try simp only [gdTT, gdFF, gdTF, gdFT, pvS, pickT, pickF, faP, lenS, capS, nilP, exA, exB, exC, notB, cndT, cndF, Bool.not_true, Bool.not_false, Nat.zero_add, Nat.add_zero]
    exact fin0 _ (by rw [decide_eq_false (by omega)]; rfl) _ (Nat.le_refl _) _ rfl
  have e3 : levF l a b = lvs l a b := by unfold levF; rw [decide_eq_true ⟨by omega, by omega⟩, Bool.true_and]
  rw [e3] at k
  clear fin0
  try simp only [gdTT, gdFF, gdTF, gdFT, pvS, pickT, pickF, faP, lenS, capS, nilP, exA, exB, exC, notB, cndT, cndF, Bool.not_true, Bool.not_false, Nat.zero_add, Nat.add_zero]
  obtain ⟨rows, hu1, hu2⟩ := hu
  try simp only [hlu]
  try simp only [gdTT, gdFF, gdTF, gdFT, pvS, pickT, pickF, faP, lenS, capS, nilP, exA, exB, exC, notB, cndT, cndF, Bool.not_true, Bool.not_false, Nat.zero_add, Nat.add_zero]
  refine l58_1_1_0_1_0_0 (σ := Nat) (fun i => .int .i64 (i : Nat)) (fun i h => ∃ N', h = ⟨F, M, N'⟩ ∧ N ≤ N' ∧ i ≤ l.length ∧ lvs l a b = lvs (l.drop i) (a.drop i) (b.drop i)) (fun i => l.length - i) 0 rfl
    (fun hw1 => ⟨_, wk_refl hw1, N, rfl, Nat.le_refl _, Nat.zero_le _, rfl⟩) (fun k1 i j h1' hI hw1 next => ?_)
  obtain ⟨N1, rfl, hN1, hi, he⟩ := hI
  refine lss_r (fun hlt => ?_) (fun hge => ?_)
  · have h3 : i < l.length := by omega
    have h4 : i < a.length := by omega
    have h5 : i < b.length := by omega
    rw [lvs_at h3 h4 h5] at he
    try simp only [gdTT, gdFF, gdTF, gdFT, pvS, pickT, pickF, faP, lenS, capS, nilP, exA, exB, exC, notB, cndT, cndF, Bool.not_true, Bool.not_false, Nat.zero_add, Nat.add_zero]
    refine row_r hu1 hu2 (by decide) h3 fun p r _ hR hr2 hr1 => ?_
    have hR' := hR
    obtain ⟨kv, rfl, hkv, hkl⟩ := hR
    refine nw_r (fun b1 hb1 => ?_)
    refine stM (cs' := [.int .i64 l[i].1, kv]) ?_ (upd_same _ _ _) rfl rfl hr1
    rw [upd_upd]
    have fin : ∀ v', v' = lvs l a b → ∀ N', b1 + 1 ≤ N' → ∀ h', h' = (⟨F, upd M b1 (some (.cells 51 [.int .i64 l[i].1, kv] 2)), N'⟩ : Hp) → h'.wf → ∃ h'', h'.wk h'' ∧ (h''.wf → K (.bool v') h'') := fun v' e N' hN h' e' hc => by
      subst e; subst e'
      exact ⟨⟨F, M, N'⟩, wk_drop hc (subM_drop (subM_refl _) (hm _ (by omega))), fun hw' => k _ (by omega) hw'⟩
    refine ixn_r ha h4 fun p => ?_
    refine lss_r (fun h6 => ?_) (fun h6 => ?_)
    · try simp only [gdTT, gdFF, gdTF, gdFT, pvS, pickT, pickF, faP, lenS, capS, nilP, exA, exB, exC, notB, cndT, cndF, Bool.not_true, Bool.not_false, Nat.zero_add, Nat.add_zero]
      refine ⟨fun h => by simp [isB] at h, ?_⟩
      exact fin _ (by rw [he, decide_eq_false (by omega)]; rfl) _ (Nat.le_refl _) _ rfl
    try simp only [gdTT, gdFF, gdTF, gdFT, pvS, pickT, pickF, faP, lenS, capS, nilP, exA, exB, exC, notB, cndT, cndF, Bool.not_true, Bool.not_false, Nat.zero_add, Nat.add_zero]
    refine ixn_r hb h5 fun p => ixn_r ha h4 fun p => ?_
    refine lss_r (fun h7 => ?_) (fun h7 => ?_)
    · try simp only [gdTT, gdFF, gdTF, gdFT, pvS, pickT, pickF, faP, lenS, capS, nilP, exA, exB, exC, notB, cndT, cndF, Bool.not_true, Bool.not_false, Nat.zero_add, Nat.add_zero]
      refine ⟨fun h => by simp [isB] at h, ?_⟩
      exact fin _ (by rw [he, decide_eq_false (by omega)]; rfl) _ (Nat.le_refl _) _ rfl
    try simp only [gdTT, gdFF, gdTF, gdFT, pvS, pickT, pickF, faP, lenS, capS, nilP, exA, exB, exC, notB, cndT, cndF, Bool.not_true, Bool.not_false, Nat.zero_add, Nat.add_zero]
    obtain ⟨bb, bo, bc, bcs, hvb, hbF, hbx⟩ := ints_at hb h5
    subst hvb
    refine iaN_r h5 (ld_r (ldV_c (row_F hbF) hbx) ?_)
    refine ldMa (vs := [.int .i64 l[i].1, kv]) ?_ (upd_same _ _ _)
    refine levels_c hR' (fun N2 hN2 hw2 => ?_)
    refine ⟨fun _ => ldV_c (row_F hbF) hbx, ?_⟩
    refine geq_r (fun h8 => ?_) (fun h8 => ?_)
    · try simp only [gdTT, gdFF, gdTF, gdFT, pvS, pickT, pickF, faP, lenS, capS, nilP, exA, exB, exC, notB, cndT, cndF, Bool.not_true, Bool.not_false, Nat.zero_add, Nat.add_zero]
      exact fin _ (by rw [he, decide_eq_false (by omega)]; rfl) _ hN2 _ rfl
    try simp only [gdTT, gdFF, gdTF, gdFT, pvS, pickT, pickF, faP, lenS, capS, nilP, exA, exB, exC, notB, cndT, cndF, Bool.not_true, Bool.not_false, Nat.zero_add, Nat.add_zero]
    refine inc_r (by omega) ?_
    exact next (i + 1) _ _ (by omega) (fun hw3 => ⟨_, wk_drop hw3 (subM_drop (subM_refl M) (hm _ (by omega))), N2, rfl, by omega, h3, by rw [he, decide_eq_true (by omega)]; rfl⟩)
  · try simp only [gdTT, gdFF, gdTF, gdFT, pvS, pickT, pickF, faP, lenS, capS, nilP, exA, exB, exC, notB, cndT, cndF, Bool.not_true, Bool.not_false, Nat.zero_add, Nat.add_zero]
    rw [t58_1_1_1]
    rw [show lvs l a b = true by rw [he, List.drop_eq_nil_of_le (show l.length ≤ i by omega)]; rfl] at k
    exact fun hc => ⟨_, wk_refl hc, fun hw' => k _ hN1 hw'⟩
/-- levels, of the reference -/
theorem rgoes_c {u va vb : Value} {l : List Dm} {a b : List Int} (hu : dimsD F u l) (hl : l.length ≤ 140737488351232) (ha : sF F 1 va a.length (ic a)) (hb : sF F 1 vb b.length (ic b)) (k : ∀ N', N ≤ N' → (Hp.mk F M N').wf → K (.bool (levF l a b)) ⟨F, M, N'⟩) :
    callv Tryd.prog (.func (.func 62) #[] #[]) #[u, va, vb] K E ⟨F, M, N⟩ := by
  refine callv_of_text mixed Tryd.func62 (by kernel_rfl) (t62 _ E _ _ _) (fun hw => ?_)
  have hm : clean M N := hw.m
  have hlu : lenV u = some (.int .i64 (l.length : Nat)) := by obtain ⟨a, c, rfl⟩ := hu.form; rfl
  have hla : lenV va = some (.int .i64 (a.length : Nat)) := by obtain ⟨a, c, rfl, _⟩ := ha.form; rfl
  have hlb : lenV vb = some (.int .i64 (b.length : Nat)) := by obtain ⟨a, c, rfl, _⟩ := hb.form; rfl
  have fin : ∀ v', v' = levF l a b → ∀ N', N ≤ N' → ∀ h', h' = (⟨F, M, N'⟩ : Hp) → h'.wf → ∃ h'', h'.wk h'' ∧ (h''.wf → K (.bool v') h'') := fun v' e N' hN h' e' hc => by
    subst e; subst e'
    exact ⟨_, wk_refl hc, fun hw' => k _ hN hw'⟩
  unfold levF at fin
  try simp only [hla, hlu]
  try simp only [gdTT, gdFF, gdTF, gdFT, pvS, pickT, pickF, faP, lenS, capS, nilP, exA, exB, exC, notB, cndT, cndF, Bool.not_true, Bool.not_false, Nat.zero_add, Nat.add_zero]
  refine neq_r (fun h1 => ?_) (fun h1 => ?_)
  · try simp only [gdTT, gdFF, gdTF, gdFT, pvS, pickT, pickF, faP, lenS, capS, nilP, exA, exB, exC, notB, cndT, cndF, Bool.not_true, Bool.not_false, Nat.zero_add, Nat.add_zero]
    exact fin _ (by rw [decide_eq_false (by omega)]; rfl) _ (Nat.le_refl _) _ rfl
  try simp only [gdTT, gdFF, gdTF, gdFT, pvS, pickT, pickF, faP, lenS, capS, nilP, exA, exB, exC, notB, cndT, cndF, Bool.not_true, Bool.not_false, Nat.zero_add, Nat.add_zero]
  try simp only [hlb, hlu]
  try simp only [gdTT, gdFF, gdTF, gdFT, pvS, pickT, pickF, faP, lenS, capS, nilP, exA, exB, exC, notB, cndT, cndF, Bool.not_true, Bool.not_false, Nat.zero_add, Nat.add_zero]
  refine neq_r (fun h2 => ?_) (fun h2 => ?_)
  · try simp only [gdTT, gdFF, gdTF, gdFT, pvS, pickT, pickF, faP, lenS, capS, nilP, exA, exB, exC, notB, cndT, cndF, Bool.not_true, Bool.not_false, Nat.zero_add, Nat.add_zero]
    exact fin _ (by rw [decide_eq_false (by omega)]; rfl) _ (Nat.le_refl _) _ rfl
  rw [decide_eq_true ⟨by omega, by omega⟩, Bool.true_and] at fin
  try simp only [gdTT, gdFF, gdTF, gdFT, pvS, pickT, pickF, faP, lenS, capS, nilP, exA, exB, exC, notB, cndT, cndF, Bool.not_true, Bool.not_false, Nat.zero_add, Nat.add_zero]
  obtain ⟨rows, hu1, hu2⟩ := hu
  refine l62_1_1_0_1_0_0 (σ := Nat) (fun i => .int .i64 (i : Nat)) (fun i h => ∃ N', h = ⟨F, M, N'⟩ ∧ N ≤ N' ∧ i ≤ l.length ∧ lvs l a b = lvs (l.drop i) (a.drop i) (b.drop i)) (fun i => l.length - i) 0 rfl
    (fun hw1 => ⟨_, wk_refl hw1, N, rfl, Nat.le_refl _, Nat.zero_le _, rfl⟩) (fun k1 i j h1' hI hw1 next => ?_)
  obtain ⟨N1, rfl, hN1, hi, he⟩ := hI
  try simp only [hlu]
  try simp only [gdTT, gdFF, gdTF, gdFT, pvS, pickT, pickF, faP, lenS, capS, nilP, exA, exB, exC, notB, cndT, cndF, Bool.not_true, Bool.not_false, Nat.zero_add, Nat.add_zero]
  refine lss_r (fun hlt => ?_) (fun hge => ?_)
  · have h3 : i < l.length := by omega
    have h4 : i < a.length := by omega
    have h5 : i < b.length := by omega
    rw [lvs_at h3 h4 h5] at he
    try simp only [gdTT, gdFF, gdTF, gdFT, pvS, pickT, pickF, faP, lenS, capS, nilP, exA, exB, exC, notB, cndT, cndF, Bool.not_true, Bool.not_false, Nat.zero_add, Nat.add_zero]
    refine ixn_r ha h4 fun p => ?_
    refine lss_r (fun h6 => ?_) (fun h6 => ?_)
    · try simp only [gdTT, gdFF, gdTF, gdFT, pvS, pickT, pickF, faP, lenS, capS, nilP, exA, exB, exC, notB, cndT, cndF, Bool.not_true, Bool.not_false, Nat.zero_add, Nat.add_zero]
      refine ⟨fun h => by simp [isB] at h, ?_⟩
      exact fin _ (by rw [he, decide_eq_false (by omega)]; rfl) _ hN1 _ rfl
    try simp only [gdTT, gdFF, gdTF, gdFT, pvS, pickT, pickF, faP, lenS, capS, nilP, exA, exB, exC, notB, cndT, cndF, Bool.not_true, Bool.not_false, Nat.zero_add, Nat.add_zero]
    refine ixn_r hb h5 fun p => ixn_r ha h4 fun p => ?_
    refine lss_r (fun h7 => ?_) (fun h7 => ?_)
    · try simp only [gdTT, gdFF, gdTF, gdFT, pvS, pickT, pickF, faP, lenS, capS, nilP, exA, exB, exC, notB, cndT, cndF, Bool.not_true, Bool.not_false, Nat.zero_add, Nat.add_zero]
      refine ⟨fun h => by simp [isB] at h, ?_⟩
      exact fin _ (by rw [he, decide_eq_false (by omega)]; rfl) _ hN1 _ rfl
    try simp only [gdTT, gdFF, gdTF, gdFT, pvS, pickT, pickF, faP, lenS, capS, nilP, exA, exB, exC, notB, cndT, cndF, Bool.not_true, Bool.not_false, Nat.zero_add, Nat.add_zero]
    obtain ⟨bb, bo, bc, bcs, hvb, hbF, hbx⟩ := ints_at hb h5
    subst hvb
    refine iaN_r h5 (ld_r (ldV_c (row_F hbF) hbx) ?_)
    refine row_r hu1 hu2 (by decide) h3 fun p r _ hR hr2 hr1 => ?_
    refine rlevels_c hR (fun N2 hN2 hw2 => ?_)
    refine ⟨fun _ => ldV_c (row_F hbF) hbx, ?_⟩
    refine geq_r (fun h8 => ?_) (fun h8 => ?_)
    · try simp only [gdTT, gdFF, gdTF, gdFT, pvS, pickT, pickF, faP, lenS, capS, nilP, exA, exB, exC, notB, cndT, cndF, Bool.not_true, Bool.not_false, Nat.zero_add, Nat.add_zero]
      exact fin _ (by rw [he, decide_eq_false (by omega)]; rfl) _ (by omega) _ rfl
    try simp only [gdTT, gdFF, gdTF, gdFT, pvS, pickT, pickF, faP, lenS, capS, nilP, exA, exB, exC, notB, cndT, cndF, Bool.not_true, Bool.not_false, Nat.zero_add, Nat.add_zero]
    refine inc_r (by omega) ?_
    exact next (i + 1) _ _ (by omega) (fun hw3 => ⟨_, wk_refl hw3, N2, rfl, by omega, h3, by rw [he, decide_eq_true (by omega)]; rfl⟩)
  · try simp only [gdTT, gdFF, gdTF, gdFT, pvS, pickT, pickF, faP, lenS, capS, nilP, exA, exB, exC, notB, cndT, cndF, Bool.not_true, Bool.not_false, Nat.zero_add, Nat.add_zero]
    rw [t62_1_1_1]
    exact fin _ (by rw [he, List.drop_eq_nil_of_le (show l.length ≤ i by omega)]; rfl) _ hN1 _ rfl
end Go.Proofs.YthpacapdaembpaaDoor.A
open Go Go.RowKit Go.Proofs.YthpacapdaembpaaDoor.K Go.Proofs.YthpacapdaembpaaDoor.T
set_option linter.unusedVariables false
set_option linter.unusedSimpArgs false
namespace Go.Proofs.YthpacapdaembpaaDoor.A
variable {F F' : Nat → Option (List Value)} {M M' : Nat → Option Chunk} {N N' : Nat} {K : Kont} {E : PanK}
/-- Why a table may not be rolled. -/
def rollE (l : List Dm) (t : List Rw) (a b : List Int) : Nat := if okDims l = false then 30 else if levF l a b = false then 40 else if soundT l.length t = false then 1 else 0
def rollRows (l : List Dm) (t : List Rw) (a b : List Int) : List Rw := t.map fun r => (atF l a b r.1, r.2)
def rollT (l : List Dm) (t : List Rw) (a b : List Int) : List Rw := if rollE l t a b = 0 then tab (rollRows l t a b) else []
theorem atF_len (l : List Dm) (a b c : List Int) : (atF l a b c).length ≤ l.length := by unfold atF; split; rw [atL_len]; omega; simp
theorem atF_rng {l : List Dm} {a b c : List Int} (hc : ∀ x ∈ c, i64 x) : ∀ x ∈ atF l a b c, i64 x := by
  unfold atF
  split
  · intro x hx
    obtain ⟨i, hi, rfl⟩ := List.mem_iff_getElem.1 hx
    simp only [atL, List.getElem_mapIdx]
    refine upF_rng ?_
    rw [List.getD_eq_getElem?_getD]
    cases h : c[i]? with
    | none => exact ⟨by simp, by simp⟩
    | some x => exact hc _ (List.mem_of_getElem? h)
  · intro x hx; cases hx
theorem okDims_len {l : List Dm} (h : okDims l = true) : l.length ≤ 4 := by unfold okDims at h; rw [Bool.and_eq_true] at h; exact (of_decide_eq_true h.1).2
/-- table.Roll$1 -/
theorem rollk_c {b1 b2 b3 : Nat} {u va vb kv : Value} {l : List Dm} {a b c : List Int} {e1 e2 e3 : TypeId} (h1 : M b1 = some (.cells e1 [u] 1)) (h2 : M b2 = some (.cells e2 [va] 1)) (h3 : M b3 = some (.cells e3 [vb] 1)) (hu : dimsD F u l) (hl : l.length ≤ 140737488351232) (ha : sF F 1 va a.length (ic a)) (hb : sF F 1 vb b.length (ic b)) (hc : sF F 1 kv c.length (ic c)) (hbi : ∀ x ∈ b, i64 x) (hci : ∀ x ∈ c, i64 x)
    (k : ∀ v' F' N', (Hp.mk F' M N').wf → subF F F' → N ≤ N' → sF F' 1 v' (atF l a b c).length (ic (atF l a b c)) → K v' ⟨F', M, N'⟩) :
    callv Tryd.prog (.func (.func 59) #[] #[.pointer (some ⟨b1, 0, none⟩), .pointer (some ⟨b2, 0, none⟩), .pointer (some ⟨b3, 0, none⟩)]) #[kv] K E ⟨F, M, N⟩ := by
  refine callv_of_text mixed Tryd.func59 (by kernel_rfl) (t59 _ E _ _ _ _) (fun hw => ?_)
  refine ldM (v := u) (ldM (v := va) (ldM (v := vb) ?_))
  refine at_c hu hl ha hb hc hbi hci (fun v' F' N' hw' hF hN h4 hc' => ⟨_, wk_refl hc', fun hw'' => k v' F' N' hw'' hF hN h4⟩)
/-- table.Roll -/
theorem troll_c {u vt va vb : Value} {l : List Dm} {t : List Rw} {a b : List Int} (hu : dimsD F u l) (hl : l.length ≤ 140737488351232) (ht : tblD F vt t) (htl : t.length ≤ 1000000000) (ha : sF F 1 va a.length (ic a)) (hb : sF F 1 vb b.length (ic b)) (hbi : ∀ x ∈ b, i64 x) (hti : ∀ r ∈ t, ∀ x ∈ r.1, i64 x)
    (k : ∀ v' F' N', (Hp.mk F' M N').wf → subF F F' → N ≤ N' → tblD F' v' (rollT l t a b) → K (.tuple #[v', .int .u16 ((rollE l t a b : Nat) : Int)]) ⟨F', M, N'⟩) :
    callv Tryd.prog (.func (.func 31) #[] #[]) #[u, vt, va, vb] K E ⟨F, M, N⟩ := by
  refine callv_of_text mixed Tryd.func31 (by kernel_rfl) (t31 _ E _ _ _ _) (fun hw => ?_)
  have hm : clean M N := hw.m
  have hlu : lenV u = some (.int .i64 (l.length : Nat)) := by obtain ⟨a, c, rfl⟩ := hu.form; rfl
  obtain ⟨ua, uc, hup⟩ := hu.form
  obtain ⟨aa, ac, hap, _⟩ := ha.form
  obtain ⟨ba, bc, hbp, _⟩ := hb.form
  refine nw_r (cs := [u]) (fun b1 hb1 => ?_) (by rw [hup]; rfl)
  refine nw_r (cs := [va]) (fun b2 hb2 => ?_) (by rw [hap]; rfl)
  refine nw_r (cs := [vb]) (fun b3 hb3 => ?_) (by rw [hbp]; rfl)
  generalize hM3 : upd (upd (upd M b1 _) b2 _) b3 _ = M3
  have g1 : M3 b1 = some (.cells 28 [u] 1) := by rw [← hM3]; exact (upd_ne _ _ (by omega)).trans ((upd_ne _ _ (by omega)).trans (upd_same _ _ _))
  have g2 : M3 b2 = some (.cells 37 [va] 1) := by rw [← hM3]; exact (upd_ne _ _ (by omega)).trans (upd_same _ _ _)
  have g3 : M3 b3 = some (.cells 37 [vb] 1) := by rw [← hM3]; exact upd_same _ _ _
  have hMM : ∀ q, q < N → M3 q = M q := fun q hq => by rw [← hM3]; exact (upd_ne _ _ (by omega)).trans ((upd_ne _ _ (by omega)).trans (upd_ne _ _ (by omega)))
  have bad : ∀ e, rollE l t a b = e → e ≠ 0 → ∀ N', N ≤ N' → ∀ h', h' = (⟨F, M3, N'⟩ : Hp) → h'.wf → ∃ h'', h'.wk h'' ∧ (h''.wf → K (.tuple #[.slice none 0 0, .int .u16 (e : Nat)]) h'') := fun e h1 h2 N' hN h' e' hc => by
    subst e'
    refine ⟨_, frz_wf hm hMM hc, fun hw' => ?_⟩
    have e2 : rollT l t a b = [] := by unfold rollT; rw [if_neg (by rw [h1]; exact h2)]
    have := k (.slice none 0 0) _ N' hw' (subF_frzAll hc) hN (by rw [e2]; exact tblD.nil)
    rw [h1] at this; exact this
  refine ldM (v := u) ?_ g1
  refine dsound_c hu hl (fun N1 hN1 hw1 => ?_)
  cases hok : okDims l
  · try simp only [gdTT, gdFF, gdTF, gdFT, pvS, pickT, pickF, faP, lenS, capS, nilP, exA, exB, exC, notB, cndT, cndF, Bool.not_true, Bool.not_false, Nat.zero_add, Nat.add_zero]
    exact bad 30 (by unfold rollE; rw [hok]; rfl) (by decide) _ (by omega) _ rfl
  try simp only [gdTT, gdFF, gdTF, gdFT, pvS, pickT, pickF, faP, lenS, capS, nilP, exA, exB, exC, notB, cndT, cndF, Bool.not_true, Bool.not_false, Nat.zero_add, Nat.add_zero]
  refine ldM (v := u) (ldM (v := va) (ldM (v := vb) ?_ g3) g2) g1
  refine goes_c hu hl ha hb (fun N2 hN2 hw2 => ?_)
  cases hlv : levF l a b
  · try simp only [gdTT, gdFF, gdTF, gdFT, pvS, pickT, pickF, faP, lenS, capS, nilP, exA, exB, exC, notB, cndT, cndF, Bool.not_true, Bool.not_false, Nat.zero_add, Nat.add_zero]
    exact bad 40 (by unfold rollE; rw [hok, hlv]; rfl) (by decide) _ (by omega) _ rfl
  try simp only [gdTT, gdFF, gdTF, gdFT, pvS, pickT, pickF, faP, lenS, capS, nilP, exA, exB, exC, notB, cndT, cndF, Bool.not_true, Bool.not_false, Nat.zero_add, Nat.add_zero]
  refine ldM (v := u) ?_ g1
  simp only [hlu]
  try simp only [gdTT, gdFF, gdTF, gdFT, pvS, pickT, pickF, faP, lenS, capS, nilP, exA, exB, exC, notB, cndT, cndF, Bool.not_true, Bool.not_false, Nat.zero_add, Nat.add_zero]
  refine tsound_c ht (by omega) (fun N3 hN3 hw3 => ?_)
  cases hst : soundT l.length t
  · try simp only [gdTT, gdFF, gdTF, gdFT, pvS, pickT, pickF, faP, lenS, capS, nilP, exA, exB, exC, notB, cndT, cndF, Bool.not_true, Bool.not_false, Nat.zero_add, Nat.add_zero]
    exact bad 1 (by unfold rollE; rw [hok, hlv, hst]; rfl) (by decide) _ (by omega) _ rfl
  try simp only [gdTT, gdFF, gdTF, gdFT, pvS, pickT, pickF, faP, lenS, capS, nilP, exA, exB, exC, notB, cndT, cndF, Bool.not_true, Bool.not_false, Nat.zero_add, Nat.add_zero]
  have e0 : rollE l t a b = 0 := by unfold rollE; rw [hok, hlv, hst]; rfl
  have e1 : rollT l t a b = tab (rollRows l t a b) := by unfold rollT; rw [if_pos e0]
  rw [e0, e1] at k
  have hl4 := okDims_len hok
  refine tof_c (f := fun q => atF l a b q) ht htl (fun r hr => ⟨by have := atF_len l a b r.1; omega, atF_rng (hti r hr)⟩) (fun F1 M1 N1' r kv hr hF1 hM1 hN1' hm1 hkv hkl hK => ?_) (fun v' F' N' hw' hF hN ht' => ?_)
  · exact rollk_c ((hM1 b1 (by omega)).trans g1) ((hM1 b2 (by omega)).trans g2) ((hM1 b3 (by omega)).trans g3) (hu.mono hF1) hl (ha.mono hF1) (hb.mono hF1) hkv hbi (hti r hr) hK
  · refine fun hc => ⟨_, frz_wf hm hMM hc, fun hw'' => k v' _ N' hw'' (hF.trans (subF_frzAll hc)) (by omega) (ht'.mono (subF_frzAll hc))⟩
/-- Roll, of the reference -/
theorem rroll_c {u vt va vb : Value} {l : List Dm} {t : List Rw} {a b : List Int} (hu : dimsD F u l) (hl : l.length ≤ 140737488351232) (ht : tblD F vt t) (htl : t.length ≤ 1000000000) (ha : sF F 1 va a.length (ic a)) (hb : sF F 1 vb b.length (ic b)) (hbi : ∀ x ∈ b, i64 x) (hti : ∀ r ∈ t, ∀ x ∈ r.1, i64 x)
    (k : ∀ v' F' N', (Hp.mk F' M N').wf → subF F F' → N ≤ N' → tblD F' v' (rollT l t a b) → K (.tuple #[v', .int .i64 ((rollE l t a b : Nat) : Int)]) ⟨F', M, N'⟩) :
    callv Tryd.prog (.func (.func 32) #[] #[]) #[u, vt, va, vb] K E ⟨F, M, N⟩ := by
  refine callv_of_text mixed Tryd.func32 (by kernel_rfl) (t32 _ E _ _ _ _) (fun hw => ?_)
  have hm : clean M N := hw.m
  have hlu : lenV u = some (.int .i64 (l.length : Nat)) := by obtain ⟨a, c, rfl⟩ := hu.form; rfl
  have bad : ∀ e, rollE l t a b = e → e ≠ 0 → ∀ N', N ≤ N' → ∀ h', h' = (⟨F, M, N'⟩ : Hp) → h'.wf → ∃ h'', h'.wk h'' ∧ (h''.wf → K (.tuple #[.slice none 0 0, .int .i64 (e : Nat)]) h'') := fun e h1 h2 N' hN h' e' hc => by
    subst e'
    refine ⟨_, wk_refl hc, fun hw' => ?_⟩
    have e2 : rollT l t a b = [] := by unfold rollT; rw [if_neg (by rw [h1]; exact h2)]
    have := k (.slice none 0 0) _ N' hw' (subF.refl _) hN (by rw [e2]; exact tblD.nil)
    rw [h1] at this; exact this
  refine rdsound_c hu hl (fun N1 hN1 hw1 => ?_)
  cases hok : okDims l
  · try simp only [gdTT, gdFF, gdTF, gdFT, pvS, pickT, pickF, faP, lenS, capS, nilP, exA, exB, exC, notB, cndT, cndF, Bool.not_true, Bool.not_false, Nat.zero_add, Nat.add_zero]
    exact bad 30 (by unfold rollE; rw [hok]; rfl) (by decide) _ (by omega) _ rfl
  try simp only [gdTT, gdFF, gdTF, gdFT, pvS, pickT, pickF, faP, lenS, capS, nilP, exA, exB, exC, notB, cndT, cndF, Bool.not_true, Bool.not_false, Nat.zero_add, Nat.add_zero]
  refine rgoes_c hu hl ha hb (fun N2 hN2 hw2 => ?_)
  cases hlv : levF l a b
  · try simp only [gdTT, gdFF, gdTF, gdFT, pvS, pickT, pickF, faP, lenS, capS, nilP, exA, exB, exC, notB, cndT, cndF, Bool.not_true, Bool.not_false, Nat.zero_add, Nat.add_zero]
    exact bad 40 (by unfold rollE; rw [hok, hlv]; rfl) (by decide) _ (by omega) _ rfl
  try simp only [gdTT, gdFF, gdTF, gdFT, pvS, pickT, pickF, faP, lenS, capS, nilP, exA, exB, exC, notB, cndT, cndF, Bool.not_true, Bool.not_false, Nat.zero_add, Nat.add_zero]
  simp only [hlu]
  try simp only [gdTT, gdFF, gdTF, gdFT, pvS, pickT, pickF, faP, lenS, capS, nilP, exA, exB, exC, notB, cndT, cndF, Bool.not_true, Bool.not_false, Nat.zero_add, Nat.add_zero]
  refine rtsound_c ht (by omega) (fun N3 hN3 hw3 => ?_)
  cases hst : soundT l.length t
  · try simp only [gdTT, gdFF, gdTF, gdFT, pvS, pickT, pickF, faP, lenS, capS, nilP, exA, exB, exC, notB, cndT, cndF, Bool.not_true, Bool.not_false, Nat.zero_add, Nat.add_zero]
    exact bad 1 (by unfold rollE; rw [hok, hlv, hst]; rfl) (by decide) _ (by omega) _ rfl
  try simp only [gdTT, gdFF, gdTF, gdFT, pvS, pickT, pickF, faP, lenS, capS, nilP, exA, exB, exC, notB, cndT, cndF, Bool.not_true, Bool.not_false, Nat.zero_add, Nat.add_zero]
  have e0 : rollE l t a b = 0 := by unfold rollE; rw [hok, hlv, hst]; rfl
  have e1 : rollT l t a b = tab (rollRows l t a b) := by unfold rollT; rw [if_pos e0]
  rw [e0, e1] at k
  have hl4 := okDims_len hok
  obtain ⟨rows, ht1, ht2⟩ := ht
  have hlt : lenV vt = some (.int .i64 (t.length : Nat)) := by obtain ⟨a, c, rfl, _⟩ := ht1.form; rfl
  refine l32_1_1_1_1_1_0_1_0_0 (σ := Nat × Value) (fun s => s.2) (fun s => .int .i64 (s.1 : Nat)) (fun s h => ∃ F' N', h = ⟨F', M, N'⟩ ∧ subF F F' ∧ N ≤ N' ∧ s.1 ≤ t.length ∧ tblD F' s.2 (tab (rollRows l (t.take s.1) a b))) (fun s => t.length - s.1) (0, .slice none 0 0) rfl rfl
    (fun hw1 => ⟨_, wk_refl hw1, F, N3, rfl, subF.refl _, by omega, Nat.zero_le _, tblD.nil⟩) (fun k1 s j h1' hI hw1 next => ?_)
  obtain ⟨F1, N4, rfl, hF, hN, hi, hts⟩ := hI
  simp only [hlt]
  try simp only [gdTT, gdFF, gdTF, gdFT, pvS, pickT, pickF, faP, lenS, capS, nilP, exA, exB, exC, notB, cndT, cndF, Bool.not_true, Bool.not_false, Nat.zero_add, Nat.add_zero]
  refine lss_r (fun hlt' => ?_) (fun hge => ?_)
  · have h1 : s.1 < t.length := by omega
    try simp only [gdTT, gdFF, gdTF, gdFT, pvS, pickT, pickF, faP, lenS, capS, nilP, exA, exB, exC, notB, cndT, cndF, Bool.not_true, Bool.not_false, Nat.zero_add, Nat.add_zero]
    obtain ⟨bq, o, c, cs, r, rfl, hFb, hrr, ⟨kv, hr, hkv, hkl⟩, hrl, hr1, hle, htk, hj⟩ := row_at (ht1.mono hF) (ht2.mono fun _ _ h => h.mono hF) (by decide) h1
    subst hr
    refine iaN_r h1 ?_
    try simp only [gdTT, gdFF, gdTF, gdFT, pvS, pickT, pickF, faP, lenS, capS, nilP, exA, exB, exC, notB, cndT, cndF, Bool.not_true, Bool.not_false, Nat.zero_add, Nat.add_zero]
    refine ld_r (ldV_c (row_F hFb) (hj 0 (by decide))) ?_
    refine iaN_r h1 ?_
    try simp only [gdTT, gdFF, gdTF, gdFT, pvS, pickT, pickF, faP, lenS, capS, nilP, exA, exB, exC, notB, cndT, cndF, Bool.not_true, Bool.not_false, Nat.zero_add, Nat.add_zero]
    have hcell : (cs.drop (o + s.1 * 5 + 1)).take 4 = t[s.1].2.cs := by
      have e5 := congrArg (List.drop 1) htk
      rw [List.drop_take, List.drop_drop] at e5
      simpa using e5
    refine ld_r (ldV_a (row_F hFb) (by omega) hcell) ?_
    refine rat_c (hu.mono hF) hl (ha.mono hF) (hb.mono hF) hkv hbi (hti _ (List.getElem_mem _)) (fun v2 F2 N5 hw5 hF2 hN5 hv2 => ?_)
    refine ⟨ldV_a (row_F (hF2 _ _ hFb)) (by omega) hcell, ?_⟩
    obtain ⟨va2, vc2, hvf2, _⟩ := hv2.form
    refine pv_r (v := .agg (v2 :: t[s.1].2.cs).toArray) (by rw [hvf2]; kernel_rfl) ?_
    have hln := tab_len (rollRows l (t.take s.1) a b)
    rw [rollRows, List.length_map, List.length_take] at hln
    refine rlay_c (hts.mono hF2) hv2 (by have := atF_len l a b t[s.1].1; omega) (by unfold rollRows; omega) (fun v' F3 N6 hw6 hF3 hN6 ht' => ?_)
    refine inc_r (by omega) ?_
    refine next (s.1 + 1, v') _ _ (by simp only; omega) (fun hw7 => ⟨_, wk_refl hw7, F3, N6, rfl, (hF.trans hF2).trans hF3, by omega, h1, ?_⟩)
    simp only
    have e6 := tab_take (fun r : Rw => (atF l a b r.1, r.2)) t h1
    unfold rollRows at ht' ⊢
    rw [e6]
    exact ht'
  · try simp only [gdTT, gdFF, gdTF, gdFT, pvS, pickT, pickF, faP, lenS, capS, nilP, exA, exB, exC, notB, cndT, cndF, Bool.not_true, Bool.not_false, Nat.zero_add, Nat.add_zero]
    rw [t32_1_1_1_1_1_1]
    rw [List.take_of_length_le (by omega)] at hts
    exact fun hc => ⟨_, wk_refl hc, fun hw' => k _ _ _ hw' hF hN hts⟩
end Go.Proofs.YthpacapdaembpaaDoor.A
open Go Go.RowKit Go.Proofs.YthpacapdaembpaaDoor.K
set_option linter.unusedVariables false
set_option maxRecDepth 100000
namespace Go.Proofs.YthpacapdaembpaaDoor.T
end Go.Proofs.YthpacapdaembpaaDoor.T
open Go Go.RowKit Go.Proofs.YthpacapdaembpaaDoor.K Go.Proofs.YthpacapdaembpaaDoor.T
set_option linter.unusedVariables false
set_option linter.unusedSimpArgs false
namespace Go.Proofs.YthpacapdaembpaaDoor.A
variable {F F' : Nat → Option (List Value)} {M M' : Nat → Option Chunk} {N N' : Nat} {K : Kont} {E : PanK}
theorem rollT_len (l : List Dm) (t : List Rw) (a b : List Int) : (rollT l t a b).length ≤ t.length := by
  unfold rollT
  split
  · have := tab_len (rollRows l t a b); simp only [rollRows, List.length_map] at this ⊢; exact this
  · simp
/-- Levels, as choices say, not below others. -/
def levOf (l : List Dm) (c least : List Int) : List Int := l.mapIdx fun i d => least.getD i 0 + (c.getD i 0) % (d.2.length + 2 - least.getD i 0)
theorem levOf_len (l : List Dm) (c m : List Int) : (levOf l c m).length = l.length := by simp [levOf]
theorem levOf_take (l : List Dm) (c m : List Int) {i : Nat} (h : i < l.length) : levOf (l.take (i + 1)) c m = levOf (l.take i) c m ++ [m.getD i 0 + (c.getD i 0) % (l[i].2.length + 2 - m.getD i 0)] := by
  unfold levOf
  rw [List.take_add_one, List.getElem?_eq_getElem h, Option.toList_some, List.mapIdx_concat, List.length_take, Nat.min_eq_left (by omega)]
/-- Levels that may be. -/
def okLev (l : List Dm) (m : List Int) : Prop := ∀ (i : Nat) (h : i < l.length), 0 ≤ m.getD i 0 ∧ m.getD i 0 < l[i].2.length + 2
theorem levOf_ok {l : List Dm} {c m : List Int} (hm : okLev l m) : okLev l (levOf l c m) ∧ ∀ (i : Nat) (h : i < l.length), m.getD i 0 ≤ (levOf l c m).getD i 0 := by
  have key : ∀ (i : Nat) (h : i < l.length), (levOf l c m).getD i 0 = m.getD i 0 + (c.getD i 0) % (l[i].2.length + 2 - m.getD i 0) := fun i h => by
    rw [List.getD_eq_getElem?_getD (l := levOf l c m), List.getElem?_eq_getElem (by rw [levOf_len]; exact h)]
    simp [levOf]
  refine ⟨fun i h => ?_, fun i h => ?_⟩
  · obtain ⟨a, b⟩ := hm i h
    rw [key i h]
    have x := Int.emod_nonneg (c.getD i 0) (show (l[i].2.length + 2 - m.getD i 0 : Int) ≠ 0 by omega)
    have y := Int.emod_lt_of_pos (c.getD i 0) (show (0 : Int) < l[i].2.length + 2 - m.getD i 0 by omega)
    omega
  · obtain ⟨a, b⟩ := hm i h
    rw [key i h]
    have x := Int.emod_nonneg (c.getD i 0) (show (l[i].2.length + 2 - m.getD i 0 : Int) ≠ 0 by omega)
    omega
end Go.Proofs.YthpacapdaembpaaDoor.A
open Go Go.RowKit Go.Proofs.YthpacapdaembpaaDoor.K Go.Proofs.YthpacapdaembpaaDoor.T
set_option linter.unusedVariables false
set_option linter.unusedSimpArgs false
namespace Go.Proofs.YthpacapdaembpaaDoor.A
variable {F F' : Nat → Option (List Value)} {M M' : Nat → Option Chunk} {N N' : Nat} {K : Kont} {E : PanK}
/-- What ends a round of Levels. -/
theorem lgen_fin {B s len : Nat} {n lo g h : Int} {v : Value} {pre : List Int} {X : Value → Value → Value → Value → Value → Kont} (ho : own M B 3 1 v s (ic pre)) (hm : clean M N) (hB : B ≤ N) (hs : s ≤ 1000000) (hlen : len ≤ 1000000) (hn : g = n) (hlo : h = lo) (g0 : 0 ≤ g) (g1 : g < 65536) (h0 : 0 ≤ h) (h1 : h < len + 2)
    (k : ∀ a b c d e v' M' N', own M' B 3 1 v' (s + 1) (ic (pre ++ [h + g % (len + 2 - h)])) → (∀ q, q < B → M' q = M q) → N ≤ N' → clean M' N' → X a b c d e v' ⟨F, M', N'⟩) :
    pv (binV .none .add (.int .i64 (len : Nat)) (.int .i64 2)) (fun t5 => pv (binV .none .sub t5 (.int .i64 lo)) fun t6 => pv (binV .none .rem (.int .i64 n) t6) fun t7 => pv (binV .none .add (.int .i64 lo) t7) fun t8 =>
      nws 3 1 (bsC #[(.int .i64 0)] 1 1 #[(0, t8)]) fun t9 => appX 3 1 8 v t9 fun t10 => X t5 t6 t7 t8 t9 t10) ⟨F, M, N⟩ := by
  subst hn; subst hlo
  refine add_n (b := 2) (by omega) (sub_r (by omega) (by omega) ?_)
  have y0 := Int.emod_nonneg g (show ((len + 2 : Nat) : Int) - h ≠ 0 by omega)
  have y1 := Int.emod_lt_of_pos g (show 0 < ((len + 2 : Nat) : Int) - h by omega)
  refine rem_i (by omega) (by omega) (add_r (by omega) (by omega) ?_)
  refine push_r (new := [.int .i64 (h + g % (((len + 2 : Nat) : Int) - h))]) ho hm hB (by kernel_rfl) rfl (List.all_eq_true.1 rfl) (by omega) (by unfold maxLen; omega) (fun p v' M3 N3 h4 h5 h6 h7 => ?_)
  refine k _ _ _ _ _ v' M3 N3 (by simpa [ic] using h4) (fun q hq => (h5 q (fun e => by have := (ho.ge q e).1; omega) (by omega)).1) h6 h7
set_option maxRecDepth 10000 in
/-- Levels, of stratumlaw03 -/
theorem lgen_c {u v w : Value} {l : List Dm} {c m : List Int} (hu : dimsD F u l) (hv : sF F 1 v c.length (ick .u8 c)) (hw' : sF F 1 w m.length (ic m)) (hl : l.length ≤ 1000000) (hdv : ∀ d ∈ l, d.2.length ≤ 1000000) (hc : ∀ x ∈ c, 0 ≤ x ∧ x < 256) (hm' : okLev l m) (hcl : c.length ≤ 140737488351232) (hml : m.length ≤ 140737488351232)
    (k : ∀ v' F' N', (Hp.mk F' M N').wf → subF F F' → N ≤ N' → sF F' 1 v' (levOf l c m).length (ic (levOf l c m)) → K v' ⟨F', M, N'⟩) :
    callv Tryd.prog (.func (.func 33) #[] #[]) #[u, v, w] K E ⟨F, M, N⟩ := by
  refine callv_of_text mixed Tryd.func33 (by kernel_rfl) (t33 _ E _ _ _) (fun hw => ?_)
  have hm : clean M N := hw.m
  obtain ⟨rows, hu1, hu2⟩ := hu
  have hlu : lenV u = some (.int .i64 (l.length : Nat)) := by obtain ⟨a, c, rfl, _⟩ := hu1.form; rfl
  have hlv : lenV v = some (.int .i64 (c.length : Nat)) := by obtain ⟨a, c, rfl, _⟩ := hv.form; rfl
  have hlw : lenV w = some (.int .i64 (m.length : Nat)) := by obtain ⟨a, c, rfl, _⟩ := hw'.form; rfl
  refine l33_1_1_0_1_0_0 (σ := Nat × Value) (fun s => s.2) (fun s => .int .i64 (s.1 : Nat))
    (fun s h => ∃ M' N', h = ⟨F, M', N'⟩ ∧ N ≤ N' ∧ (∀ q, q < N → M' q = M q) ∧ clean M' N' ∧ s.1 ≤ l.length ∧ own M' N 3 1 s.2 s.1 (ic (levOf (l.take s.1) c m))) (fun s => l.length - s.1) (0, .slice none 0 0) rfl rfl
    (fun hw2 => ⟨_, wk_refl hw2, M, N, rfl, Nat.le_refl _, fun _ _ => rfl, hm, Nat.zero_le _, own.nil⟩) (fun k1 s j h1 hI hw2 next => ?_)
  obtain ⟨M2, N2, rfl, hN2, hM2, hm2, hi, ho2⟩ := hI
  simp only [hlu, hlv]
  try simp only [gdTT, gdFF, gdTF, gdFT, pvS, pickT, pickF, faP, lenS, capS, nilP, exA, exB, exC, notB, cndT, cndF, Bool.not_true, Bool.not_false, Nat.zero_add, Nat.add_zero]
  refine lss_r (fun hlt => ?_) (fun hge => ?_)
  · have h1 : s.1 < l.length := by omega
    obtain ⟨l0, l1⟩ := hm' s.1 h1
    have hdl := hdv l[s.1] (List.getElem_mem _)
    have hg : 0 ≤ c.getD s.1 0 ∧ c.getD s.1 0 < 65536 := by
      rw [List.getD_eq_getElem?_getD]
      cases h : c[s.1]? with
      | none => simp
      | some x => have := hc x (List.mem_of_getElem? h); simp only [Option.getD_some]; omega
    try simp only [gdTT, gdFF, gdTF, gdFT, pvS, pickT, pickF, faP, lenS, capS, nilP, exA, exB, exC, notB, cndT, cndF, Bool.not_true, Bool.not_false, Nat.zero_add, Nat.add_zero]
    refine lss_r (fun hlt2 => ?_) (fun hge2 => ?_)
    have h2 : s.1 < c.length := by omega
    try simp only [gdTT, gdFF, gdTF, gdFT, pvS, pickT, pickF, faP, lenS, capS, nilP, exA, exB, exC, notB, cndT, cndF, Bool.not_true, Bool.not_false, Nat.zero_add, Nat.add_zero]
    refine ixk_r hv h2 fun p => ?_
    obtain ⟨x0, x1⟩ := hc c[s.1] (List.getElem_mem _)
    obtain ⟨n, hn, hnc⟩ : ∃ n : Nat, c[s.1] = (n : Int) ∧ c.getD s.1 0 = (n : Int) := ⟨c[s.1].toNat, by omega, by rw [List.getD_eq_getElem?_getD, List.getElem?_eq_getElem h2, Option.getD_some]; omega⟩
    rw [hn]
    refine cv_i64 (a := n) (by omega) ?_
    rotate_left
    try simp only [gdTT, gdFF, gdTF, gdFT, pvS, pickT, pickF, faP, lenS, capS, nilP, exA, exB, exC, notB, cndT, cndF, Bool.not_true, Bool.not_false, Nat.zero_add, Nat.add_zero]
    have hnc : c.getD s.1 0 = (0 : Int) := by rw [List.getD_eq_getElem?_getD, List.getElem?_eq_none (by omega)]; rfl
    all_goals
      rw [t33_1_1_0_1_0_0_1_0_0_1_1_1]
      simp only [hlw]
      try simp only [gdTT, gdFF, gdTF, gdFT, pvS, pickT, pickF, faP, lenS, capS, nilP, exA, exB, exC, notB, cndT, cndF, Bool.not_true, Bool.not_false, Nat.zero_add, Nat.add_zero]
      refine lss_r (fun hlt3 => ?_) (fun hge3 => ?_)
      have h3 : s.1 < m.length := by omega
      try simp only [gdTT, gdFF, gdTF, gdFT, pvS, pickT, pickF, faP, lenS, capS, nilP, exA, exB, exC, notB, cndT, cndF, Bool.not_true, Bool.not_false, Nat.zero_add, Nat.add_zero]
      refine ixn_r hw' h3 fun p => ?_
      have hlo2 : m.getD s.1 0 = m[s.1] := by rw [List.getD_eq_getElem?_getD, List.getElem?_eq_getElem h3, Option.getD_some]
      rotate_left
      try simp only [gdTT, gdFF, gdTF, gdFT, pvS, pickT, pickF, faP, lenS, capS, nilP, exA, exB, exC, notB, cndT, cndF, Bool.not_true, Bool.not_false, Nat.zero_add, Nat.add_zero]
      have hlo2 : m.getD s.1 0 = (0 : Int) := by rw [List.getD_eq_getElem?_getD, List.getElem?_eq_none (by omega)]; rfl
      all_goals
        rw [t33_1_1_0_1_0_0_1_0_0_1_1_1_1]
        refine fld_r hu1 hu2 (by decide) h1 (off := 1) (by decide) fun p q r x hR _ hx => ?_
        obtain ⟨kv, rfl, hkv', hkl⟩ := hR
        simp at hx
        subst hx
        refine lenF_r hkv' ?_
        refine lgen_fin ho2 hm2 hN2 (by omega) hdl hnc hlo2 hg.1 hg.2 l0 l1 (fun _ _ _ _ _ v' M3 N3 h4 h5 h6 h7 => ?_)
        rw [t33_1_1_0_1_0_0_1_1]
        refine inc_r (by omega) ?_
        refine next (s.1 + 1, v') _ _ (by simp only; omega) (fun hw3 => ⟨_, wk_refl hw3, M3, N3, rfl, by omega, fun q hq => (h5 q hq).trans (hM2 q hq), h7, h1, ?_⟩)
        simp only
        rw [levOf_take l c m h1]
        exact h4
  · try simp only [gdTT, gdFF, gdTF, gdFT, pvS, pickT, pickF, faP, lenS, capS, nilP, exA, exB, exC, notB, cndT, cndF, Bool.not_true, Bool.not_false, Nat.zero_add, Nat.add_zero]
    rw [t33_1_1_1]
    rw [List.take_of_length_le (by omega)] at ho2
    refine fun hc' => ⟨_, frz_wf hm hM2 hc', fun hw' => k _ _ _ hw' (subF_frzAll hc') hN2 ?_⟩
    have := ho2.rd.frz hc' (fun b hb => .inl (ho2.ge b hb).1)
    rw [levOf_len]
    rw [show s.1 = l.length by omega] at this
    exact this
end Go.Proofs.YthpacapdaembpaaDoor.A
open Go
set_option linter.unusedVariables false
set_option linter.unusedSimpArgs false
namespace Go.Proofs.YthpacapdaembpaaDoor.A
theorem hasAt.congr {t : List Rw} {ls ms : List KV} (h : hasAt t ls) (e : ∀ k, valsAt ls k = valsAt ms k) : hasAt t ms := fun k => by rw [← e k]; exact h k
theorem valsAt_map (g : List Int → List Int) : ∀ {t : List Rw}, nodup t → ∀ k, valsAt (t.map fun r => (r.1, g r.1)) k = (look t k).elim [] (fun _ => g k)
  | [], _, k => by simp [valsAt, look]
  | (k1, c1) :: t, h, k => by
    have h' := List.pairwise_cons.1 h
    have ih := valsAt_map g h'.2 k
    rw [List.map_cons, valsAt_cons, ih]
    by_cases e : k1 = k
    · subst e
      have hn : look t k1 = none := look_none.2 fun x hx e => h'.1 x hx e.symm
      simp [look, hn]
    · simp [look, e]
/-- The numbers that a table tells. -/
def toldBy (t : List Rw) (ls : List KV) : List KV := t.map fun r => (r.1, valsAt ls r.1)
theorem toldBy_vals {t : List Rw} {ls : List KV} (h : hasAt t ls) (hs : srt t) (k : List Int) : valsAt (toldBy t ls) k = valsAt ls k := by
  unfold toldBy
  rw [valsAt_map (fun q => valsAt ls q) hs.nodup k]
  have := h k
  cases hl : look t k with
  | none => rw [hl] at this; simp only at this; rw [this]; rfl
  | some c => rfl
theorem toldBy_size (t : List Rw) (ls : List KV) : sizeL (toldBy t ls) ≤ t.length * sizeL ls := by
  induction t with
  | nil => simp [toldBy, sizeL]
  | cons r t ih =>
    have h1 := valsAt_len ls r.1
    simp only [toldBy, List.map_cons, sizeL, List.sum_cons, List.length_cons, Nat.succ_mul] at ih h1 ⊢
    omega
/-- Tables, one behind the other, as one. -/
theorem merge_hasAt {t u : List Rw} {ls ms : List KV} (h : hasAt t ls) (k : hasAt u ms) (ht : srt t) (hu : srt u) (hn : t.length * sizeL ls + u.length * sizeL ms < 9223372036854775808) : hasAt (tab (t ++ u)) (ls ++ ms) := by
  have h1 := h.tells ht
  have h2 := k.tells hu
  have h3 := tab_hasAt (h1.app h2) (by
    rw [sizeL_app]
    have := toldBy_size t ls
    have := toldBy_size u ms
    unfold toldBy at *
    omega)
  refine h3.congr fun q => ?_
  have a := toldBy_vals h ht q
  have b := toldBy_vals k hu q
  unfold toldBy at a b
  rw [valsAt_app, valsAt_app, a, b]
/-- How many numbers a table has. -/
def total (t : List Rw) : Int := (t.map fun r => r.2.n).sum
end Go.Proofs.YthpacapdaembpaaDoor.A
open Go Go.RowKit Go.Proofs.YthpacapdaembpaaDoor.K Go.Proofs.YthpacapdaembpaaDoor.T
set_option linter.unusedVariables false
set_option linter.unusedSimpArgs false
namespace Go.Proofs.YthpacapdaembpaaDoor.A
variable {F F' : Nat → Option (List Value)} {M M' : Nat → Option Chunk} {N N' : Nat} {K : Kont} {E : PanK}
theorem isMin.perm {m : Int} {l l' : List Int} (h : isMin m l) (p : l.Perm l') : isMin m l' := ⟨p.mem_iff.1 h.1, fun x hx => h.2 x (p.mem_iff.2 hx)⟩
theorem isMax.perm {m : Int} {l l' : List Int} (h : isMax m l) (p : l.Perm l') : isMax m l' := ⟨p.mem_iff.1 h.1, fun x hx => h.2 x (p.mem_iff.2 hx)⟩
theorem isCell.swap {c : CE} {l m : List Int} (h : isCell c l) (p : l.Perm m) : isCell c m :=
  ⟨by rw [h.n, p.length_eq], by rw [h.s]; congr 1; exact p.foldr_eq' (fun x _ y _ z => by omega) 0, h.lo.perm p, h.hi.perm p⟩
theorem hasAt.perm {t : List Rw} {ls ms : List KV} (h : hasAt t ls) (e : ∀ k, (valsAt ls k).Perm (valsAt ms k)) : hasAt t ms := fun k => by
  have h1 := h k
  have h2 := e k
  cases hl : look t k with
  | none => rw [hl] at h1; simp only at h1; simp only; rw [h1] at h2; exact h2.symm.eq_nil
  | some c => rw [hl] at h1; exact h1.swap h2
/-- Numbers at other keys. -/
def reK (f : List Int → List Int) (ls : List KV) : List KV := ls.map fun x => (f x.1, x.2)
theorem reK_size (f : List Int → List Int) (ls : List KV) : sizeL (reK f ls) = sizeL ls := by
  induction ls with
  | nil => rfl
  | cons x ls ih => simp only [sizeL, reK, List.map_cons, List.sum_cons] at ih ⊢; rw [ih]
theorem reK_app (f : List Int → List Int) (a b : List KV) : reK f (a ++ b) = reK f a ++ reK f b := by simp [reK]
/-- A table's numbers, each key's together, are the numbers. -/
theorem regroup (f : List Int → List Int) (ls : List KV) (k : List Int) : ∀ (t : List Rw), nodup t →
    (valsAt (reK f (t.map fun r => (r.1, valsAt ls r.1))) k).Perm (valsAt (reK f (ls.filter fun x => decide (∃ r ∈ t, r.1 = x.1))) k)
  | [], _ => by
    have : ls.filter (fun x => decide (∃ r ∈ ([] : List Rw), r.1 = x.1)) = [] := by simp
    rw [this]; exact List.Perm.refl _
  | r :: t, h => by
    have h' := List.pairwise_cons.1 h
    have ih := regroup f ls k t h'.2
    rw [List.map_cons]
    have e1 : reK f ((r.1, valsAt ls r.1) :: t.map fun r => (r.1, valsAt ls r.1)) = (f r.1, valsAt ls r.1) :: reK f (t.map fun r => (r.1, valsAt ls r.1)) := rfl
    rw [e1, valsAt_cons]
    have key : ∀ (ls : List KV), (valsAt (reK f (ls.filter fun x => decide (∃ q ∈ r :: t, q.1 = x.1))) k).Perm ((if f r.1 = k then valsAt ls r.1 else []) ++ valsAt (reK f (ls.filter fun x => decide (∃ q ∈ t, q.1 = x.1))) k) := by
      intro ls
      induction ls with
      | nil => simp [reK, valsAt]
      | cons x ls ih2 =>
        rw [List.filter_cons, List.filter_cons, valsAt_cons]
        by_cases hx : x.1 = r.1
        · have a1 : (∃ q ∈ r :: t, q.1 = x.1) := ⟨r, by simp, hx.symm⟩
          have a2 : ¬ ∃ q ∈ t, q.1 = x.1 := fun ⟨q, hq, e⟩ => h'.1 q hq (by rw [e, hx])
          simp only [decide_eq_true a1, decide_eq_false a2, if_true, Bool.false_eq_true, if_false]
          rw [if_pos hx]
          have e2 : reK f (x :: ls.filter fun x => decide (∃ q ∈ r :: t, q.1 = x.1)) = (f x.1, x.2) :: reK f (ls.filter fun x => decide (∃ q ∈ r :: t, q.1 = x.1)) := rfl
          rw [e2, valsAt_cons]
          simp only [hx]
          by_cases hk : f r.1 = k
          · rw [if_pos hk, if_pos hk] at *
            rw [List.append_assoc]
            exact List.Perm.append_left _ ih2
          · rw [if_neg hk, if_neg hk] at *
            exact ih2
        · rw [if_neg hx, List.nil_append]
          by_cases h2 : ∃ q ∈ t, q.1 = x.1
          · have a1 : (∃ q ∈ r :: t, q.1 = x.1) := by obtain ⟨q, hq, e⟩ := h2; exact ⟨q, by simp [hq], e⟩
            simp only [decide_eq_true a1, decide_eq_true h2, if_true]
            have e2 : ∀ (l : List KV), reK f (x :: l) = (f x.1, x.2) :: reK f l := fun _ => rfl
            rw [e2, e2, valsAt_cons, valsAt_cons]
            refine (List.Perm.append_left _ ih2).trans ?_
            rw [← List.append_assoc, ← List.append_assoc]
            exact List.Perm.append_right _ List.perm_append_comm
          · have a1 : ¬ (∃ q ∈ r :: t, q.1 = x.1) := fun ⟨q, hq, e⟩ => by
              rcases List.mem_cons.1 hq with rfl | hq
              · exact hx e.symm
              · exact h2 ⟨q, hq, e⟩
            simp only [decide_eq_false a1, decide_eq_false h2, Bool.false_eq_true, if_false]
            exact ih2
    exact (List.Perm.append_left _ ih).trans (key ls).symm
theorem valsAt_empties (f : List Int → List Int) (p : KV → Bool) (k : List Int) : ∀ (ls : List KV), (∀ x ∈ ls, p x = false → x.2 = []) → valsAt (reK f (ls.filter p)) k = valsAt (reK f ls) k
  | [], _ => rfl
  | x :: ls, h => by
    have ih := valsAt_empties f p k ls (fun y hy => h y (by simp [hy]))
    have e2 : ∀ (l : List KV), reK f (x :: l) = (f x.1, x.2) :: reK f l := fun _ => rfl
    rw [List.filter_cons, e2, valsAt_cons]
    cases hp : p x
    · rw [h x (by simp) hp]
      simpa using ih
    · simp only [if_true]
      rw [e2, valsAt_cons, ih]
theorem hasAt.regroup {t : List Rw} {ls : List KV} (h : hasAt t ls) (hs : srt t) (f : List Int → List Int) (k : List Int) : (valsAt (reK f (toldBy t ls)) k).Perm (valsAt (reK f ls) k) := by
  have h1 := A.regroup f ls k t hs.nodup
  rw [valsAt_empties f _ k ls] at h1
  · exact h1
  · intro x hx hp
    have hn : ¬ ∃ r ∈ t, r.1 = x.1 := of_decide_eq_false hp
    have h2 := h x.1
    rw [look_none.2 (fun r hr e => hn ⟨r, hr, e⟩)] at h2
    simp only at h2
    cases hx2 : x.2 with
    | nil => rfl
    | cons v vs =>
      have : v ∈ valsAt ls x.1 := by
        unfold valsAt
        exact List.mem_flatMap.2 ⟨x, List.mem_filter.2 ⟨hx, by simp⟩, by rw [hx2]; simp⟩
      rw [h2] at this; cases this
/-- A table rolled. -/
theorem roll_hasAt {t : List Rw} {ls : List KV} (h : hasAt t ls) (hs : srt t) (f : List Int → List Int) (hn : t.length * sizeL ls < 9223372036854775808) : hasAt (tab (t.map fun r => (f r.1, r.2))) (reK f ls) := by
  have h1 := h.tells hs
  have h2 : tells (t.map fun r => (f r.1, r.2)) (reK f (toldBy t ls)) := by
    refine ⟨by simp [reK, toldBy], fun i r l hr hl => ?_⟩
    rw [List.getElem?_map] at hr
    unfold reK at hl
    rw [List.getElem?_map] at hl
    cases ht : t[i]? with
    | none => rw [ht] at hr; cases hr
    | some x =>
      cases ho : (toldBy t ls)[i]? with
      | none => rw [ho] at hl; cases hl
      | some y =>
        rw [ht] at hr; rw [ho] at hl
        simp at hr hl
        subst hr; subst hl
        obtain ⟨a, b⟩ := h1.2 i x y ht ho
        exact ⟨by simp only; rw [a], b⟩
  have h3 := tab_hasAt h2 (by
    rw [reK_size]
    have := toldBy_size t ls
    omega)
  exact h3.perm (fun k => h.regroup hs f k)
/-- Keys of dimensions. -/
def goodKey (l : List Dm) (k : List Int) : Prop := k.length = l.length ∧ ∀ x ∈ k, 0 ≤ x ∧ x ≤ 1000000
/-- A table that tells numbers at keys of dimensions. -/
structure goodT (l : List Dm) (t : List Rw) (ls : List KV) : Prop where
  has : hasAt t ls
  srt : srt t
  key : ∀ x ∈ ls, goodKey l x.1
  val : ∀ x ∈ ls, ∀ v ∈ x.2, i64 v
theorem goodT.row {l : List Dm} {t : List Rw} {ls : List KV} (h : goodT l t ls) {r : Rw} (hr : r ∈ t) : goodKey l r.1 ∧ isCell r.2 (valsAt ls r.1) ∧ ∀ v ∈ valsAt ls r.1, i64 v := by
  obtain ⟨⟨x, hx, e⟩, h2⟩ := mem_keys h.has h.srt hr
  refine ⟨e ▸ h.key x hx, h2, fun v hv => ?_⟩
  obtain ⟨y, hy, _, hv'⟩ := valsAt_mem hv
  exact h.val y hy v hv'
theorem goodT.sound {l : List Dm} {t : List Rw} {ls : List KV} (h : goodT l t ls) : soundT l.length t = true := by
  refine soundT_of (fun r hr => ?_) h.srt
  obtain ⟨a, b, c⟩ := h.row hr
  exact okRow_of (by rw [a.1]) (fun x hx => (a.2 x hx).1) b c
theorem goodT.i64 {l : List Dm} {t : List Rw} {ls : List KV} (h : goodT l t ls) : ∀ r ∈ t, ∀ x ∈ r.1, A.i64 x := fun r hr x hx => by
  have := (h.row hr).1.2 x hx
  exact ⟨by omega, by omega⟩
theorem goodT.okK {l : List Dm} (hl : l.length ≤ 1000) {t : List Rw} {ls : List KV} (h : goodT l t ls) : ∀ r ∈ t, A.okK r.1 := fun r hr =>
  ⟨by rw [(h.row hr).1.1]; omega, h.i64 r hr⟩
theorem goodT.ext {l : List Dm} {t u : List Rw} {ls ms : List KV} (h : goodT l t ls) (k : goodT l u ms) (hp : ∀ q, (valsAt ls q).Perm (valsAt ms q)) : t = u := h.has.ext k.has h.srt k.srt hp
theorem goodT.facts {l : List Dm} (hl : goodDims l) {ks : List (List Int)} {v : List Int} (hv : ∀ x ∈ v, A.i64 x) : goodT l (tab ((factsOf l ks v).map fr1)) ((factsOf l ks v).map kvF) := by
  refine ⟨tabF_hasAt (facts_i64 hv) (by rw [factsOf_len]; omega), tab_srt _, fun x hx => ?_, fun x hx y hy => ?_⟩
  · obtain ⟨f, hf, rfl⟩ := List.mem_map.1 hx
    obtain ⟨c, hc⟩ := (factsOf_mem hf).1
    simp only [kvF]
    rw [hc]
    exact ⟨keyOf_len l c, fun x hx => by have := keyOf_ok hl c x hx; omega⟩
  · obtain ⟨f, hf, rfl⟩ := List.mem_map.1 hx
    simp [kvF] at hy
    rw [hy]; exact facts_i64 hv f hf
theorem goodT.merge {l : List Dm} {t u : List Rw} {ls ms : List KV} (h : goodT l t ls) (k : goodT l u ms) (hn : t.length * sizeL ls + u.length * sizeL ms < 9223372036854775808) : goodT l (tab (t ++ u)) (ls ++ ms) :=
  ⟨merge_hasAt h.has k.has h.srt k.srt hn, tab_srt _, fun x hx => (List.mem_append.1 hx).elim (h.key x) (k.key x), fun x hx => (List.mem_append.1 hx).elim (h.val x) (k.val x)⟩
theorem goodT.roll {l : List Dm} {t : List Rw} {ls : List KV} (h : goodT l t ls) (f : List Int → List Int) (hf : ∀ k, goodKey l k → goodKey l (f k)) (hn : t.length * sizeL ls < 9223372036854775808) : goodT l (tab (t.map fun r => (f r.1, r.2))) (reK f ls) :=
  ⟨roll_hasAt h.has h.srt f hn, tab_srt _, fun x hx => by obtain ⟨y, hy, rfl⟩ := List.mem_map.1 hx; exact hf _ (h.key y hy), fun x hx => by obtain ⟨y, hy, rfl⟩ := List.mem_map.1 hx; exact h.val y hy⟩
end Go.Proofs.YthpacapdaembpaaDoor.A
open Go Go.RowKit Go.Proofs.YthpacapdaembpaaDoor.K Go.Proofs.YthpacapdaembpaaDoor.T
set_option linter.unusedVariables false
set_option linter.unusedSimpArgs false
namespace Go.Proofs.YthpacapdaembpaaDoor.A
variable {F F' : Nat → Option (List Value)} {M M' : Nat → Option Chunk} {N N' : Nat} {K : Kont} {E : PanK}
theorem divL_chk : ∀ (l : List Nat) (a : Nat), 1 ≤ a → a * 5 ^ l.length ≤ 10000 → chk a ((divL a l).map (fun n : Nat => (n : Int))) = true
  | [], a, _, _ => rfl
  | b :: l, a, h, hn => by
    have h1 : a * (2 + b % 4) ≤ a * 5 := Nat.mul_le_mul_left _ (by omega)
    have h2 : a * 2 ≤ a * (2 + b % 4) := Nat.mul_le_mul_left _ (by omega)
    have h5 : 1 ≤ 5 ^ l.length := Nat.one_le_pow _ _ (by decide)
    have h3 : a * 5 * 5 ^ l.length ≤ 10000 := by rw [List.length_cons, Nat.pow_succ, Nat.mul_comm (5 ^ l.length) 5, ← Nat.mul_assoc] at hn; exact hn
    have h4 : a * (2 + b % 4) * 5 ^ l.length ≤ 10000 := Nat.le_trans (Nat.mul_le_mul_right _ h1) h3
    have h6 : a * 5 * 1 ≤ 10000 := Nat.le_trans (Nat.mul_le_mul_left _ h5) h3
    simp only [divL, List.map_cons, chk]
    rw [divL_chk l (a * (2 + b % 4)) (by omega) h4, Bool.and_true]
    refine decide_eq_true ?_
    have h7 : ((a * (2 + b % 4) : Nat) : Int) % (a : Int) = 0 := by rw [← Int.natCast_emod, Nat.mul_mod_right]; rfl
    omega
theorem dimOf_ok {c : Int × List Int} (hc : 0 ≤ c.1 ∧ c.1 < 65536) : okDim (dimOf c) = true := by
  unfold okDim
  have hl : ((c.2.take 4).map Int.toNat).length ≤ 4 := by simp; omega
  have h1 : chk 1 (dimOf c).2 = true := by
    refine divL_chk _ 1 (Nat.le_refl _) ?_
    rw [Nat.one_mul]
    exact Nat.le_trans (Nat.pow_le_pow_right (by decide) hl) (by decide)
  have h2 : (dimOf c).2.length ≤ 4 := by simp only [dimOf, List.length_map, divL_len]; simp; omega
  have h3 : 1 ≤ (dimOf c).1 ∧ (dimOf c).1 ≤ 10000 := by simp only [dimOf]; omega
  rw [h1, decide_eq_true ⟨h3.1, h3.2, h2⟩]; rfl
theorem dimsOf_ok {m : List (Int × List Int)} (hc : ∀ c ∈ m, 0 ≤ c.1 ∧ c.1 < 65536) : okDims (dimsOf m) = true := by
  have hg := dimsOf_good m hc
  unfold okDims
  rw [decide_eq_true ⟨hg.1, hg.2.1⟩, Bool.true_and, List.all_eq_true]
  intro d hd
  unfold dimsOf at hd
  split at hd
  · simp at hd; subst hd; decide +kernel
  · obtain ⟨c, hc', rfl⟩ := List.mem_map.1 hd
    exact dimOf_ok (hc c (List.mem_of_mem_take hc'))
/-- Levels from which one may go to others. -/
def upLev (l : List Dm) (a b : List Int) : Prop := a.length = l.length ∧ b.length = l.length ∧ ∀ (i : Nat) (h : i < l.length), 0 ≤ a.getD i 0 ∧ a.getD i 0 ≤ b.getD i 0 ∧ b.getD i 0 < l[i].2.length + 2
theorem lvs_of : ∀ {l : List Dm} {a b : List Int}, upLev l a b → lvs l a b = true
  | [], _, _, _ => by simp [lvs]
  | d :: l, [], _, h => by have := h.1; simp at this
  | d :: l, _ :: _, [], h => by have := h.2.1; simp at this
  | d :: l, x :: a, y :: b, h => by
    simp only [lvs]
    have h0 := h.2.2 0 (by simp)
    simp at h0
    rw [lvs_of (l := l) (a := a) (b := b) ⟨by have := h.1; simp at this; exact this, by have := h.2.1; simp at this; exact this, fun i hi => by
      have := h.2.2 (i + 1) (by simp; exact hi)
      simpa using this⟩, Bool.and_true]
    exact decide_eq_true (by omega)
theorem levF_of {l : List Dm} {a b : List Int} (h : upLev l a b) : levF l a b = true := by
  unfold levF
  rw [lvs_of h, decide_eq_true ⟨h.1, h.2.1⟩]; rfl
def zeros (n : Nat) : List Int := List.replicate n 0
theorem zeros_get (n i : Nat) : (zeros n).getD i 0 = 0 := by
  unfold zeros
  rw [List.getD_eq_getElem?_getD, List.getElem?_replicate]
  split <;> rfl
theorem zeros_up {l : List Dm} {m : List Int} (hl : m.length = l.length) (h : okLev l m) : upLev l (zeros l.length) m :=
  ⟨by simp [zeros], hl, fun i hi => by rw [zeros_get]; have := h i hi; omega⟩
theorem nil_ok (l : List Dm) : okLev l [] := fun i h => by simp; omega
theorem okDims_all {l : List Dm} (h : okDims l = true) : ∀ d ∈ l, okDim d = true := by
  unfold okDims at h
  rw [Bool.and_eq_true] at h
  exact List.all_eq_true.1 h.2
theorem upF_of {d : Dm} (hd : okDim d = true) {a b v : Int} (h0 : 0 ≤ a) (h1 : a ≤ b) (h2 : b < d.2.length + 2) (hv : 0 ≤ v) : upF d a b v = if a = b then v else if byF d b = 0 then 0 else v / (byF d b / byF d a) := by
  unfold upF
  rw [if_neg (by rw [hd]; simp; omega)]
theorem byF_zero {d : Dm} (hd : okDim d = true) {b : Int} (h0 : 0 ≤ b) : byF d b = 0 ↔ b > d.2.length := by
  constructor
  · intro h
    by_cases hb : b ≤ d.2.length
    · have := (byF_pos hd h0 hb).1; omega
    · omega
  · intro h
    unfold byF
    rw [if_neg (by omega), if_pos h]
theorem upF_good {d : Dm} (hd : okDim d = true) {a b v : Int} (h0 : 0 ≤ a) (h1 : a ≤ b) (h2 : b < d.2.length + 2) (hv : 0 ≤ v) : 0 ≤ upF d a b v ∧ upF d a b v ≤ v := by
  rw [upF_of hd h0 h1 h2 hv]
  split
  · exact ⟨hv, Int.le_refl _⟩
  · split
    · exact ⟨Int.le_refl _, hv⟩
    · rename_i h3 h4
      have hb : b ≤ d.2.length := by
        by_cases h : b ≤ d.2.length
        · exact h
        · exact absurd ((byF_zero hd (by omega)).2 (by omega)) h4
      obtain ⟨r, s⟩ := byF_div hd (a := a) (b := b) h0 (by omega) hb
      exact ⟨Int.ediv_nonneg hv (by omega), Int.ediv_le_self _ hv⟩
theorem atF_eq {l : List Dm} (hl : okDims l = true) {a b k : List Int} (h : upLev l a b) (hk : k.length = l.length) : atF l a b k = atL l a b k := by
  unfold atF atOK
  rw [hl, decide_eq_true ⟨h.1, h.2.1, hk⟩]; rfl
theorem atL_get {l : List Dm} {a b k : List Int} {i : Nat} (h : i < l.length) : (atL l a b k)[i]? = some (upF l[i] (a.getD i 0) (b.getD i 0) (k.getD i 0)) := by
  simp [atL, h]
theorem atF_good {l : List Dm} (hl : okDims l = true) {a b : List Int} (h : upLev l a b) (k : List Int) (hk : goodKey l k) : goodKey l (atF l a b k) := by
  rw [atF_eq hl h hk.1]
  refine ⟨atL_len l a b k, fun x hx => ?_⟩
  obtain ⟨i, hi, rfl⟩ := List.mem_iff_getElem.1 hx
  rw [atL_len] at hi
  have e := atL_get (a := a) (b := b) (k := k) hi
  rw [List.getElem?_eq_getElem (by rw [atL_len]; exact hi)] at e
  injection e with e
  rw [e]
  obtain ⟨h1, h2, h3⟩ := h.2.2 i hi
  have hki := hk.2 (k[i]'(by rw [hk.1]; exact hi)) (List.getElem_mem _)
  have e2 : k.getD i 0 = k[i]'(by rw [hk.1]; exact hi) := by rw [List.getD_eq_getElem?_getD, List.getElem?_eq_getElem (by rw [hk.1]; exact hi)]; rfl
  rw [e2]
  have := upF_good (okDims_all hl l[i] (List.getElem_mem _)) h1 h2 h3 hki.1
  omega
/-- A table of such may be rolled. -/
theorem goodT.rolled {l : List Dm} (hl : okDims l = true) {t : List Rw} {ls : List KV} (h : goodT l t ls) {a b : List Int} (hab : upLev l a b) (hn : t.length * sizeL ls < 9223372036854775808) : rollE l t a b = 0 ∧ goodT l (rollT l t a b) (reK (atF l a b) ls) := by
  have e0 : rollE l t a b = 0 := by unfold rollE; rw [hl, levF_of hab, h.sound]; rfl
  refine ⟨e0, ?_⟩
  unfold rollT
  rw [if_pos e0]
  exact h.roll (atF l a b) (fun k hk => atF_good hl hab k hk) hn
end Go.Proofs.YthpacapdaembpaaDoor.A
open Go Go.RowKit Go.Proofs.YthpacapdaembpaaDoor.K Go.Proofs.YthpacapdaembpaaDoor.T
set_option linter.unusedVariables false
set_option linter.unusedSimpArgs false
namespace Go.Proofs.YthpacapdaembpaaDoor.A
variable {F F' : Nat → Option (List Value)} {M M' : Nat → Option Chunk} {N N' : Nat} {K : Kont} {E : PanK}
theorem mkz_r {n : Nat} (hn : n ≤ 1000000) (k : ∀ b, N ≤ b → K (.slice (some ⟨b, 0, none⟩) n n) ⟨F, upd M b (some (.cells 3 (ic (zeros n)) n)), b + 1⟩) : mks 3 [(.int .i64 0)] 1 8 (.int .i64 (n : Nat)) (.int .i64 (n : Nat)) K ⟨F, M, N⟩ := by
  refine ⟨_, n, _, n, rfl, rfl, Nat.le_refl _, by omega, by unfold maxLen; omega, fun b hb => ?_⟩
  have hflat : ∀ n : Nat, (List.replicate n [(Value.int .i64 0)]).flatten = ic (zeros n) := fun n => by
    induction n with
    | zero => rfl
    | succ n ih => rw [List.replicate_succ, List.flatten_cons, ih]; rfl
  rw [hflat, Nat.mul_one]
  exact k b hb
theorem small4 {a b c d : Nat} (h1 : a ≤ 1000) (h2 : b ≤ 1000) (h3 : c ≤ 1000) (h4 : d ≤ 1000) : a * b + c * d < 9223372036854775808 := by
  have := Nat.mul_le_mul h1 h2
  have := Nat.mul_le_mul h3 h4
  omega
theorem small2 {a b : Nat} (h1 : a ≤ 1000) (h2 : b ≤ 1000) : a * b < 9223372036854775808 := by
  have := Nat.mul_le_mul h1 h2
  omega
theorem zeros_len (n : Nat) : (zeros n).length = n := by simp [zeros]
theorem okLev_i64 {l : List Dm} {m : List Int} (hl : m.length = l.length) (h : okLev l m) (hd : ∀ d ∈ l, d.2.length ≤ 1000000) : ∀ x ∈ m, i64 x := fun x hx => by
  obtain ⟨i, hi, rfl⟩ := List.mem_iff_getElem.1 hx
  have h1 := h i (by omega)
  have h2 := hd (l[i]'(by omega)) (List.getElem_mem _)
  rw [List.getD_eq_getElem?_getD, List.getElem?_eq_getElem hi] at h1
  simp only [Option.getD_some] at h1
  exact ⟨by omega, by omega⟩
theorem okDim_div {d : Dm} (h : okDim d = true) : d.2.length ≤ 4 := by unfold okDim at h; rw [Bool.and_eq_true] at h; exact (of_decide_eq_true h.1).2.2
end Go.Proofs.YthpacapdaembpaaDoor.A
open Go Go.RowKit Go.Proofs.YthpacapdaembpaaDoor.K Go.Proofs.YthpacapdaembpaaDoor.T
set_option linter.unusedVariables false
set_option linter.unusedSimpArgs false
namespace Go.Proofs.YthpacapdaembpaaDoor.A
variable {F F' : Nat → Option (List Value)} {M M' : Nat → Option Chunk} {N N' : Nat} {K : Kont} {E : PanK}
end Go.Proofs.YthpacapdaembpaaDoor.A
open Go Go.RowKit Go.Proofs.YthpacapdaembpaaDoor.K Go.Proofs.YthpacapdaembpaaDoor.T
set_option linter.unusedVariables false
set_option linter.unusedSimpArgs false
namespace Go.Proofs.YthpacapdaembpaaDoor.A
variable {F F' : Nat → Option (List Value)} {M M' : Nat → Option Chunk} {N N' : Nat} {K : Kont} {E : PanK}
theorem wf_i64 {x : Int} (h : (Lit.int .i64 x).wf = true) : i64 x := by
  have h' : -9223372036854775808 ≤ x ∧ x ≤ 9223372036854775807 := by simpa [Lit.wf, IntKind.min, IntKind.max, IntKind.signed, IntKind.bits] using h
  exact h'
theorem rowsF_all {α : Type} {R : List Value → α → Prop} {sz : Nat} {rows : List (List Value)} {xs : List α} (h : rowsF R sz rows xs) : ∀ x ∈ xs, ∃ r, R r x := fun x hx => by
  obtain ⟨i, hi, rfl⟩ := List.mem_iff_getElem.1 hx
  obtain ⟨r, _, h2, _⟩ := h.get (List.getElem?_eq_getElem hi)
  exact ⟨r, h2⟩
theorem keyI {cs : List Value} {l : List Int} (h : rS 1 (rI .i64) F cs l) : ∃ v, cs = [v] ∧ sF F 1 v l.length (ic l) ∧ (∀ x ∈ l, i64 x) ∧ l.length ≤ 140737488351232 := by
  obtain ⟨v, rows, rfl, h2⟩ := h
  obtain ⟨h3, h4, h5⟩ := rS_ints ⟨v, rows, rfl, h2⟩
  exact ⟨v, rfl, h3, fun x hx => wf_i64 (h4 x hx), h5⟩
end Go.Proofs.YthpacapdaembpaaDoor.A
open Go Go.RowKit Go.Proofs.YthpacapdaembpaaDoor.K Go.Proofs.YthpacapdaembpaaDoor.T
set_option linter.unusedVariables false
set_option linter.unusedSimpArgs false
namespace Go.Proofs.YthpacapdaembpaaDoor.A
variable {F F' : Nat → Option (List Value)} {M M' : Nat → Option Chunk} {N N' : Nat} {K : Kont} {E : PanK}
/-- A table as it comes in. -/
abbrev rCell : (Nat → Option (List Value)) → List Value → Int × Int × Int × Int → Prop := rP (rI .i64) (rP (rI .i64) (rP (rI .i64) (rI .i64)))
abbrev rRow : (Nat → Option (List Value)) → List Value → List Int × Int × Int × Int × Int → Prop := rP (rS 1 (rI .i64)) rCell
def toRw (y : List Int × Int × Int × Int × Int) : Rw := (y.1, ⟨y.2.1, y.2.2.1, y.2.2.2.1, y.2.2.2.2⟩)
theorem row_of {cs : List Value} {y : List Int × Int × Int × Int × Int} (h : rRow F cs y) : rowD F cs (toRw y) ∧ ∀ x ∈ y.1, i64 x := by
  obtain ⟨c1, c2, e, ha, c3, c4, e2, ⟨rfl, _⟩, c5, c6, e3, ⟨rfl, _⟩, c7, c8, e4, ⟨rfl, _⟩, ⟨rfl, _⟩⟩ := h
  obtain ⟨u, rfl, h1, h2, h3⟩ := keyI ha
  exact ⟨⟨u, by rw [e, e2, e3, e4]; rfl, h1, h3⟩, h2⟩
theorem all2_map {α β γ : Type} {R : α → γ → Prop} (f : β → γ) {xs : List α} {ys : List β} (h : all2 (fun a b => R a (f b)) xs ys) : all2 R xs (ys.map f) :=
  ⟨by simp [h.1], fun i x y hx hy => by
    rw [List.getElem?_map] at hy
    cases hb : ys[i]? with
    | none => rw [hb] at hy; cases hy
    | some b => rw [hb] at hy; simp at hy; subst hy; exact h.2 i x b hx hb⟩
theorem rowsF_map {α β : Type} {R : List Value → β → Prop} {sz : Nat} (f : α → β) {rows : List (List Value)} {xs : List α} (h : rowsF (fun r x => R r (f x)) sz rows xs) : rowsF R sz rows (xs.map f) := ⟨h.len, h.one, all2_map f h.all⟩
theorem table_of {v : Value} {y : List (List Int × Int × Int × Int × Int)} (h : rS 5 rRow F [v] y) : tblD F v (y.map toRw) ∧ (y.map toRw).length ≤ 140737488351232 ∧ ∀ r ∈ y.map toRw, ∀ x ∈ r.1, i64 x := by
  obtain ⟨v', rows, e, hv, hr, hl⟩ := h
  injection e with e _
  subst e
  have hr' : rowsF (fun r x => rowD F r (toRw x) ∧ ∀ z ∈ x.1, i64 z) 5 rows y := hr.mono fun r f h => row_of h
  refine ⟨⟨rows, by rw [List.length_map]; exact hv, rowsF_map toRw (hr'.mono fun _ _ h => h.1)⟩, by rw [List.length_map]; exact hl, fun r hr2 => ?_⟩
  obtain ⟨x, hx, rfl⟩ := List.mem_map.1 hr2
  obtain ⟨c, hc⟩ := rowsF_all hr' x hx
  exact hc.2
theorem fin_true {f : FuncId} {args : Array Value} {W : World} (h : call Tryd.prog f args (fun v _ => v = .bool true) (fun _ _ => False) (h0 W)) : Calls Tryd.prog f args W fun e w' => e = .returned (.bool true) ∧ Below W.heap.size W w' :=
  (calls0 (K := fun v => v = .bool true) h).mono fun e w' ⟨⟨v, he, hv⟩, hb⟩ => ⟨by rw [he, hv], hb⟩
end Go.Proofs.YthpacapdaembpaaDoor.A
open Go Go.RowKit Go.Proofs.YthpacapdaembpaaDoor.K Go.Proofs.YthpacapdaembpaaDoor.T
set_option linter.unusedVariables false
set_option linter.unusedSimpArgs false
namespace Go.Proofs.YthpacapdaembpaaDoor.A
variable {F F' : Nat → Option (List Value)} {M M' : Nat → Option Chunk} {N N' : Nat} {K : Kont} {E : PanK}
theorem wf_u16 {x : Int} (h : (Lit.int .u16 x).wf = true) : 0 ≤ x ∧ x < 65536 := by
  have h' : 0 ≤ x ∧ x ≤ 65535 := by simpa [Lit.wf, IntKind.min, IntKind.max, IntKind.signed, IntKind.bits] using h
  omega
theorem wf_u8 {x : Int} (h : (Lit.int .u8 x).wf = true) : 0 ≤ x ∧ x < 256 := by
  have h' : 0 ≤ x ∧ x ≤ 255 := by simpa [Lit.wf, IntKind.min, IntKind.max, IntKind.signed, IntKind.bits] using h
  omega
theorem listK {kk : IntKind} {cs : List Value} {l : List Int} (h : rS 1 (rI kk) F cs l) : ∃ v, cs = [v] ∧ sF F 1 v l.length (ick kk l) ∧ (∀ x ∈ l, (Lit.int kk x).wf = true) ∧ l.length ≤ 140737488351232 := by
  obtain ⟨v, rows, rfl, h2⟩ := h
  obtain ⟨h3, h4, h5⟩ := rS_ints ⟨v, rows, rfl, h2⟩
  exact ⟨v, rfl, h3, h4, h5⟩
theorem list_of {kk : IntKind} {v : Value} {l : List Int} (h : rS 1 (rI kk) F [v] l) : sF F 1 v l.length (ick kk l) ∧ (∀ x ∈ l, (Lit.int kk x).wf = true) ∧ l.length ≤ 140737488351232 := by
  obtain ⟨u, e, h⟩ := listK h
  injection e with e _
  subst e; exact h
theorem lists_of {kk : IntKind} {v : Value} {ls : List (List Int)} (h : rS 1 (rS 1 (rI kk)) F [v] ls) : kksD kk F v ls ∧ ls.length ≤ 140737488351232 ∧ ∀ l ∈ ls, ∀ x ∈ l, (Lit.int kk x).wf = true := by
  obtain ⟨v', rows, e, hv, hr, hl⟩ := h
  injection e with e _
  subst e
  have hr' : rowsF (fun r c => (∃ u, r = [u] ∧ sF F 1 u c.length (ick kk c) ∧ c.length ≤ 140737488351232) ∧ ∀ x ∈ c, (Lit.int kk x).wf = true) 1 rows ls := hr.mono fun r c h => by
    obtain ⟨u, rfl, h1, h2, h3⟩ := listK h
    exact ⟨⟨u, rfl, h1, h3⟩, h2⟩
  exact ⟨⟨rows, hv, hr'.mono fun _ _ h => h.1⟩, hl, fun l hl => by obtain ⟨r, h⟩ := rowsF_all hr' l hl; exact h.2⟩
abbrev rCut : (Nat → Option (List Value)) → List Value → Int × List Int → Prop := rP (rI .u16) (rS 1 (rI .u8))
theorem cuts_of {v : Value} {y : List (Int × List Int)} (h : rS 2 rCut F [v] y) : cutsD F v y ∧ y.length ≤ 140737488351232 ∧ ∀ c ∈ y, (0 ≤ c.1 ∧ c.1 < 65536) ∧ ∀ x ∈ c.2, 0 ≤ x ∧ x < 256 := by
  obtain ⟨v', rows, e, hv, hr, hl⟩ := h
  injection e with e _
  subst e
  have hr' : rowsF (fun r f => cutD F r f ∧ (0 ≤ f.1 ∧ f.1 < 65536) ∧ ∀ x ∈ f.2, 0 ≤ x ∧ x < 256) 2 rows y := hr.mono fun r f ⟨c1, c2, e, ⟨ha, hb⟩, hc⟩ => by
    obtain ⟨u, rfl, h1, h2, h3⟩ := listK hc
    exact ⟨⟨u, by rw [e, ha]; rfl, h1, h3⟩, wf_u16 hb, fun x hx => wf_u8 (h2 x hx)⟩
  exact ⟨⟨rows, hv, hr'.mono fun _ _ h => h.1⟩, hl, fun c hc => by obtain ⟨r, h⟩ := rowsF_all hr' c hc; exact h.2⟩
end Go.Proofs.YthpacapdaembpaaDoor.A
open Go Go.RowKit Go.Proofs.YthpacapdaembpaaDoor.K Go.Proofs.YthpacapdaembpaaDoor.T
set_option linter.unusedVariables false
set_option linter.unusedSimpArgs false
namespace Go.Proofs.YthpacapdaembpaaDoor.A
variable {F F' : Nat → Option (List Value)} {M M' : Nat → Option Chunk} {N N' : Nat} {K : Kont} {E : PanK}
abbrev rDim : (Nat → Option (List Value)) → List Value → Int × List Int → Prop := rP (rI .i64) (rS 1 (rI .i64))
theorem dims_of {v : Value} {y : List (Int × List Int)} (h : rS 2 rDim F [v] y) : dimsD F v y ∧ y.length ≤ 140737488351232 ∧ (∀ d ∈ y, d.2.length ≤ 140737488351232) := by
  obtain ⟨v', rows, e, hv, hr, hl⟩ := h
  injection e with e _
  subst e
  have hr' : rowsF (fun r f => dimD F r f) 2 rows y := hr.mono fun r f ⟨c1, c2, e, ⟨ha, hb⟩, hc⟩ => by
    obtain ⟨u, rfl, h1, h2, h3⟩ := listK hc
    exact ⟨u, by rw [e, ha]; rfl, h1, h3⟩
  exact ⟨⟨rows, hv, hr'⟩, hl, fun d hd => by obtain ⟨r, ⟨_, _, _, h⟩⟩ := rowsF_all hr' d hd; exact h⟩
end Go.Proofs.YthpacapdaembpaaDoor.A
