import Derived.Test.YthpacapdaembpaaDoorProg
import Derived.Test.YthpacapdaembpaaDoorK16
open Go Go.RowKit Go.Proofs.YthpacapdaembpaaDoor.K
set_option linter.unusedVariables false
set_option maxRecDepth 100000
namespace Go.Proofs.YthpacapdaembpaaDoor.T
theorem t20 (K : Kont) (E : PanK) (x0 : Value)  : den Tryd.prog (sel (bodyOf Tryd.f20) []) (bodyQ Tryd.prog Tryd.f20.results.toList K E) #[x0, undef, undef, undef, undef, undef, undef, undef, undef, undef, undef, undef, undef, undef, undef, undef, undef, undef, undef, undef, undef, undef, undef] =
  callv Tryd.prog (.func (.func 44) #[] #[]) #[] (fun t1 =>
  pv (lenV x0) fun t2 =>
  lp (fun k1 => den Tryd.prog (sel (bodyOf Tryd.f20) [1, 1, 0, 1, 0, 0]) (thenD k1 (blk 0 (thenD (den Tryd.prog (sel (bodyOf Tryd.f20) [1, 1, 1]) (bodyQ Tryd.prog Tryd.f20.results.toList K E)) (bodyQ Tryd.prog Tryd.f20.results.toList K E))))) #[x0, undef, (.slice none 0 0), t1, undef, undef, t1, x0, t2, (.int .i64 0), undef, undef, undef, undef, undef, undef, undef, undef, undef, undef, undef, undef, undef]) E := by kernel_rfl
def m20_1_1_0_1_0_0 (x0 x1 x2 x3 x4 x6 x7 x8 x21 x22 : Value) (v9 : Value) (j : Nat → Value) : Env := #[x0, x1, x2, x3, x4, (j 5), x6, x7, x8, v9, (j 10), (j 11), (j 12), (j 13), (j 14), (j 15), (j 16), (j 17), (j 18), (j 19), (j 20), x21, x22]
theorem t20_1_1_0_1_0_0 (K : Kont) (E : PanK) (k1 : Env → Hp → Prop) (x0 x1 x2 x3 x4 x6 x7 x8 x21 x22 v9 : Value) (j : Nat → Value) : den Tryd.prog (sel (bodyOf Tryd.f20) [1, 1, 0, 1, 0, 0]) (thenD k1 (blk 0 (thenD (den Tryd.prog (sel (bodyOf Tryd.f20) [1, 1, 1]) (bodyQ Tryd.prog Tryd.f20.results.toList K E)) (bodyQ Tryd.prog Tryd.f20.results.toList K E)))) (m20_1_1_0_1_0_0 x0 x1 x2 x3 x4 x6 x7 x8 x21 x22 v9 j) =
  pv (binV .none .lss v9 x8) fun t1 =>
  cnd t1 (
    pv (iaV none 2 x7 v9) fun t2 =>
    ld true 2 t2 fun t3 =>
    nw 39 [(.slice none 0 0), (.int .i64 0)] fun t4 =>
    st 2 t4 t3 fun _ =>
    pv (faV 0 t4) fun t5 =>
    ld false 1 t5 fun t6 =>
    pv (faV 1 t4) fun t7 =>
    ld false 1 t7 fun t8 =>
    callv Tryd.prog (.func (.func 46) #[] #[]) #[t8] (fun t9 h10 => (ldV h10 false 1 t5 t6) ∧ (
      callv Tryd.prog (.func (.func 45) #[] #[]) #[x3, t6, t9] (fun t11 =>
      pv (binV .none .add v9 (.int .i64 1)) fun t12 =>
      k1 (m20_1_1_0_1_0_0 x0 x1 x2 x3 x4 x6 x7 x8 x21 x22 t12 (jf #[x0, x1, x2, x3, x4, t4, x6, x7, x8, t12, t1, t2, t3, x3, t5, t6, t7, t8, t9, t11, t12, x21, x22]))) E) h10) E) (
    den Tryd.prog (sel (bodyOf Tryd.f20) [1, 1, 1]) (bodyQ Tryd.prog Tryd.f20.results.toList K E) #[x0, x1, x2, x3, x4, (j 5), x6, x7, x8, v9, t1, (j 11), (j 12), (j 13), (j 14), (j 15), (j 16), (j 17), (j 18), (j 19), (j 20), x21, x22]) := by kernel_rfl
theorem t20_1_1_1 (K : Kont) (E : PanK) (x0 x1 x2 x3 x4 x5 x6 x7 x8 x9 x10 x11 x12 x13 x14 x15 x16 x17 x18 x19 x20 x21 x22 : Value)  : den Tryd.prog (sel (bodyOf Tryd.f20) [1, 1, 1]) (bodyQ Tryd.prog Tryd.f20.results.toList K E) #[x0, x1, x2, x3, x4, x5, x6, x7, x8, x9, x10, x11, x12, x13, x14, x15, x16, x17, x18, x19, x20, x21, x22] =
  callv Tryd.prog (.func (.func 47) #[] #[]) #[x3] (fun t1 =>
  K t1) E := by kernel_rfl
theorem l20_1_1_0_1_0_0 {K : Kont} {E : PanK} {σ : Type} {x0 x1 x2 x3 x4 x6 x7 x8 x21 x22 v9 y5 y10 y11 y12 y13 y14 y15 y16 y17 y18 y19 y20 : Value} {h : Hp} (f9 : σ → Value) (I : σ → Hp → Prop) (μ : σ → Nat) (s0 : σ) (e9 : v9 = f9 s0) (h0 : h.wf → ∃ h', h.wk h' ∧ I s0 h')
  (round : ∀ (k1 : Env → Hp → Prop) (s : σ) (j : Nat → Value) (h : Hp), I s h → h.wf → (∀ s' j' h', μ s' < μ s → (h'.wf → ∃ h'', h'.wk h'' ∧ I s' h'') → k1 (m20_1_1_0_1_0_0 x0 x1 x2 x3 x4 x6 x7 x8 x21 x22 (f9 s') j') h') → (
  pv (binV .none .lss (f9 s) x8) fun t1 =>
  cnd t1 (
    pv (iaV none 2 x7 (f9 s)) fun t2 =>
    ld true 2 t2 fun t3 =>
    nw 39 [(.slice none 0 0), (.int .i64 0)] fun t4 =>
    st 2 t4 t3 fun _ =>
    pv (faV 0 t4) fun t5 =>
    ld false 1 t5 fun t6 =>
    pv (faV 1 t4) fun t7 =>
    ld false 1 t7 fun t8 =>
    callv Tryd.prog (.func (.func 46) #[] #[]) #[t8] (fun t9 h10 => (ldV h10 false 1 t5 t6) ∧ (
      callv Tryd.prog (.func (.func 45) #[] #[]) #[x3, t6, t9] (fun t11 =>
      pv (binV .none .add (f9 s) (.int .i64 1)) fun t12 =>
      k1 (m20_1_1_0_1_0_0 x0 x1 x2 x3 x4 x6 x7 x8 x21 x22 t12 (jf #[x0, x1, x2, x3, x4, t4, x6, x7, x8, t12, t1, t2, t3, x3, t5, t6, t7, t8, t9, t11, t12, x21, x22]))) E) h10) E) (
    den Tryd.prog (sel (bodyOf Tryd.f20) [1, 1, 1]) (bodyQ Tryd.prog Tryd.f20.results.toList K E) #[x0, x1, x2, x3, x4, (j 5), x6, x7, x8, (f9 s), t1, (j 11), (j 12), (j 13), (j 14), (j 15), (j 16), (j 17), (j 18), (j 19), (j 20), x21, x22])) h) :
  lp (fun k1 => den Tryd.prog (sel (bodyOf Tryd.f20) [1, 1, 0, 1, 0, 0]) (thenD k1 (blk 0 (thenD (den Tryd.prog (sel (bodyOf Tryd.f20) [1, 1, 1]) (bodyQ Tryd.prog Tryd.f20.results.toList K E)) (bodyQ Tryd.prog Tryd.f20.results.toList K E))))) #[x0, x1, x2, x3, x4, y5, x6, x7, x8, v9, y10, y11, y12, y13, y14, y15, y16, y17, y18, y19, y20, x21, x22] h := by
  subst e9
  have e : (#[x0, x1, x2, x3, x4, y5, x6, x7, x8, (f9 s0), y10, y11, y12, y13, y14, y15, y16, y17, y18, y19, y20, x21, x22] : Env) = m20_1_1_0_1_0_0 x0 x1 x2 x3 x4 x6 x7 x8 x21 x22 (f9 s0) (jf #[x0, x1, x2, x3, x4, y5, x6, x7, x8, (f9 s0), y10, y11, y12, y13, y14, y15, y16, y17, y18, y19, y20, x21, x22]) := by kernel_rfl
  rw [e]
  exact loop_r (fun s j => m20_1_1_0_1_0_0 x0 x1 x2 x3 x4 x6 x7 x8 x21 x22 (f9 s) j) I μ (fun k s j h hI hw next => by rw [t20_1_1_0_1_0_0]; exact round k s j h hI hw next) s0 (jf #[x0, x1, x2, x3, x4, y5, x6, x7, x8, (f9 s0), y10, y11, y12, y13, y14, y15, y16, y17, y18, y19, y20, x21, x22]) h0

theorem t22 (K : Kont) (E : PanK) (x0 x1 : Value)  : den Tryd.prog (sel (bodyOf Tryd.f22) []) (bodyQ Tryd.prog Tryd.f22.results.toList K E) #[x0, x1, undef, undef, undef, undef, undef, undef, undef, undef, undef, undef, undef, undef, undef, undef, undef, undef, undef, undef, undef, undef, undef, undef, undef, undef, undef, undef, undef, undef, undef, undef, undef] =
  pv (lenV x0) fun t1 =>
  lp (fun k1 => den Tryd.prog (sel (bodyOf Tryd.f22) [1, 0, 1, 0, 0]) (thenD k1 (blk 0 (thenD (den Tryd.prog (sel (bodyOf Tryd.f22) [1, 1]) (bodyQ Tryd.prog Tryd.f22.results.toList K E)) (bodyQ Tryd.prog Tryd.f22.results.toList K E))))) #[x0, x1, undef, undef, (.bool false), undef, undef, x0, t1, (.int .i64 0), undef, undef, undef, undef, undef, undef, undef, undef, undef, undef, undef, undef, undef, undef, undef, undef, undef, undef, undef, undef, undef, undef, undef] := by kernel_rfl
def m22_1_0_1_0_0 (x0 x1 x2 x3 x7 x8 : Value) (v9 : Value) (j : Nat → Value) : Env := #[x0, x1, x2, x3, (j 4), (j 5), (j 6), x7, x8, v9, (j 10), (j 11), (j 12), (j 13), (j 14), (j 15), (j 16), (j 17), (j 18), (j 19), (j 20), (j 21), (j 22), (j 23), (j 24), (j 25), (j 26), (j 27), (j 28), (j 29), (j 30), (j 31), (j 32)]
theorem t22_1_0_1_0_0 (K : Kont) (E : PanK) (k1 : Env → Hp → Prop) (x0 x1 x2 x3 x7 x8 v9 : Value) (j : Nat → Value) : den Tryd.prog (sel (bodyOf Tryd.f22) [1, 0, 1, 0, 0]) (thenD k1 (blk 0 (thenD (den Tryd.prog (sel (bodyOf Tryd.f22) [1, 1]) (bodyQ Tryd.prog Tryd.f22.results.toList K E)) (bodyQ Tryd.prog Tryd.f22.results.toList K E)))) (m22_1_0_1_0_0 x0 x1 x2 x3 x7 x8 v9 j) =
  pv (binV .none .lss v9 x8) fun t1 =>
  cnd t1 (
    pv (iaV none 5 x7 v9) fun t2 =>
    ld true 5 t2 fun t3 =>
    nw 43 [(.slice none 0 0), (.int .i64 0), (.int .i64 0), (.int .i64 0), (.int .i64 0)] fun t4 =>
    st 5 t4 t3 fun _ =>
    ld true 5 t4 fun t5 =>
    callv Tryd.prog (.func (.func 49) #[] #[]) #[t5, x1] (fun t6 =>
    pv (unV .not t6) fun t7 =>
    gdK t7 false (fun k => k v9) fun t8 =>
    gdK t7 false (fun k => pv (binV .none .gtr t8 (.int .i64 0)) k) fun t9 =>
    gdK t7 false (fun k => k t9) fun t10 =>
    gdK t10 true (fun k => k x0) fun t11 =>
    gdK t10 true (fun k => k v9) fun t12 =>
    gdK t10 true (fun k => pv (binV .none .sub t12 (.int .i64 1)) k) fun t13 =>
    gdK t10 true (fun k => pv (iaV none 5 t11 t13) k) fun t14 =>
    gdK t10 true (fun k => ld true 5 t14 k) fun t15 =>
    gdK t10 true (fun k => ld true 5 t4 k) fun t16 =>
    gdK t10 true (fun k => callv Tryd.prog (.func (.func 50) #[] #[]) #[t15, t16] k E) fun t17 =>
    gdK t10 true (fun k => pv (binV .none .geq t17 (.int .i64 0)) k) fun t18 =>
    gdK t7 false (fun k => pv (pickV t10 t18 (.bool false)) k) fun t19 =>
    pv (pickV t7 (.bool true) t19) fun t20 =>
    cnd t20 (
      K (.bool false)) (
      pv (binV .none .add v9 (.int .i64 1)) fun t21 =>
      k1 (m22_1_0_1_0_0 x0 x1 x2 x3 x7 x8 t21 (jf #[x0, x1, x2, x3, (j 4), v9, t4, x7, x8, t21, t1, v9, t2, t3, t5, x1, t6, t7, t7, t8, t9, t10, t11, t12, t13, t14, t15, t16, t17, t18, t19, t20, t21])))) E) (
    den Tryd.prog (sel (bodyOf Tryd.f22) [1, 1]) (bodyQ Tryd.prog Tryd.f22.results.toList K E) #[x0, x1, x2, x3, (j 4), (j 5), (j 6), x7, x8, v9, t1, (j 11), (j 12), (j 13), (j 14), (j 15), (j 16), (j 17), (j 18), (j 19), (j 20), (j 21), (j 22), (j 23), (j 24), (j 25), (j 26), (j 27), (j 28), (j 29), (j 30), (j 31), (j 32)]) := by kernel_rfl
theorem t22_1_1 (K : Kont) (E : PanK) (x0 x1 x2 x3 x4 x5 x6 x7 x8 x9 x10 x11 x12 x13 x14 x15 x16 x17 x18 x19 x20 x21 x22 x23 x24 x25 x26 x27 x28 x29 x30 x31 x32 : Value)  : den Tryd.prog (sel (bodyOf Tryd.f22) [1, 1]) (bodyQ Tryd.prog Tryd.f22.results.toList K E) #[x0, x1, x2, x3, x4, x5, x6, x7, x8, x9, x10, x11, x12, x13, x14, x15, x16, x17, x18, x19, x20, x21, x22, x23, x24, x25, x26, x27, x28, x29, x30, x31, x32] =
  K (.bool true) := by kernel_rfl
theorem l22_1_0_1_0_0 {K : Kont} {E : PanK} {σ : Type} {x0 x1 x2 x3 x7 x8 v9 y4 y5 y6 y10 y11 y12 y13 y14 y15 y16 y17 y18 y19 y20 y21 y22 y23 y24 y25 y26 y27 y28 y29 y30 y31 y32 : Value} {h : Hp} (f9 : σ → Value) (I : σ → Hp → Prop) (μ : σ → Nat) (s0 : σ) (e9 : v9 = f9 s0) (h0 : h.wf → ∃ h', h.wk h' ∧ I s0 h')
  (round : ∀ (k1 : Env → Hp → Prop) (s : σ) (j : Nat → Value) (h : Hp), I s h → h.wf → (∀ s' j' h', μ s' < μ s → (h'.wf → ∃ h'', h'.wk h'' ∧ I s' h'') → k1 (m22_1_0_1_0_0 x0 x1 x2 x3 x7 x8 (f9 s') j') h') → (
  pv (binV .none .lss (f9 s) x8) fun t1 =>
  cnd t1 (
    pv (iaV none 5 x7 (f9 s)) fun t2 =>
    ld true 5 t2 fun t3 =>
    nw 43 [(.slice none 0 0), (.int .i64 0), (.int .i64 0), (.int .i64 0), (.int .i64 0)] fun t4 =>
    st 5 t4 t3 fun _ =>
    ld true 5 t4 fun t5 =>
    callv Tryd.prog (.func (.func 49) #[] #[]) #[t5, x1] (fun t6 =>
    pv (unV .not t6) fun t7 =>
    gdK t7 false (fun k => k (f9 s)) fun t8 =>
    gdK t7 false (fun k => pv (binV .none .gtr t8 (.int .i64 0)) k) fun t9 =>
    gdK t7 false (fun k => k t9) fun t10 =>
    gdK t10 true (fun k => k x0) fun t11 =>
    gdK t10 true (fun k => k (f9 s)) fun t12 =>
    gdK t10 true (fun k => pv (binV .none .sub t12 (.int .i64 1)) k) fun t13 =>
    gdK t10 true (fun k => pv (iaV none 5 t11 t13) k) fun t14 =>
    gdK t10 true (fun k => ld true 5 t14 k) fun t15 =>
    gdK t10 true (fun k => ld true 5 t4 k) fun t16 =>
    gdK t10 true (fun k => callv Tryd.prog (.func (.func 50) #[] #[]) #[t15, t16] k E) fun t17 =>
    gdK t10 true (fun k => pv (binV .none .geq t17 (.int .i64 0)) k) fun t18 =>
    gdK t7 false (fun k => pv (pickV t10 t18 (.bool false)) k) fun t19 =>
    pv (pickV t7 (.bool true) t19) fun t20 =>
    cnd t20 (
      K (.bool false)) (
      pv (binV .none .add (f9 s) (.int .i64 1)) fun t21 =>
      k1 (m22_1_0_1_0_0 x0 x1 x2 x3 x7 x8 t21 (jf #[x0, x1, x2, x3, (j 4), (f9 s), t4, x7, x8, t21, t1, (f9 s), t2, t3, t5, x1, t6, t7, t7, t8, t9, t10, t11, t12, t13, t14, t15, t16, t17, t18, t19, t20, t21])))) E) (
    den Tryd.prog (sel (bodyOf Tryd.f22) [1, 1]) (bodyQ Tryd.prog Tryd.f22.results.toList K E) #[x0, x1, x2, x3, (j 4), (j 5), (j 6), x7, x8, (f9 s), t1, (j 11), (j 12), (j 13), (j 14), (j 15), (j 16), (j 17), (j 18), (j 19), (j 20), (j 21), (j 22), (j 23), (j 24), (j 25), (j 26), (j 27), (j 28), (j 29), (j 30), (j 31), (j 32)])) h) :
  lp (fun k1 => den Tryd.prog (sel (bodyOf Tryd.f22) [1, 0, 1, 0, 0]) (thenD k1 (blk 0 (thenD (den Tryd.prog (sel (bodyOf Tryd.f22) [1, 1]) (bodyQ Tryd.prog Tryd.f22.results.toList K E)) (bodyQ Tryd.prog Tryd.f22.results.toList K E))))) #[x0, x1, x2, x3, y4, y5, y6, x7, x8, v9, y10, y11, y12, y13, y14, y15, y16, y17, y18, y19, y20, y21, y22, y23, y24, y25, y26, y27, y28, y29, y30, y31, y32] h := by
  subst e9
  have e : (#[x0, x1, x2, x3, y4, y5, y6, x7, x8, (f9 s0), y10, y11, y12, y13, y14, y15, y16, y17, y18, y19, y20, y21, y22, y23, y24, y25, y26, y27, y28, y29, y30, y31, y32] : Env) = m22_1_0_1_0_0 x0 x1 x2 x3 x7 x8 (f9 s0) (jf #[x0, x1, x2, x3, y4, y5, y6, x7, x8, (f9 s0), y10, y11, y12, y13, y14, y15, y16, y17, y18, y19, y20, y21, y22, y23, y24, y25, y26, y27, y28, y29, y30, y31, y32]) := by kernel_rfl
  rw [e]
  exact loop_r (fun s j => m22_1_0_1_0_0 x0 x1 x2 x3 x7 x8 (f9 s) j) I μ (fun k s j h hI hw next => by rw [t22_1_0_1_0_0]; exact round k s j h hI hw next) s0 (jf #[x0, x1, x2, x3, y4, y5, y6, x7, x8, (f9 s0), y10, y11, y12, y13, y14, y15, y16, y17, y18, y19, y20, y21, y22, y23, y24, y25, y26, y27, y28, y29, y30, y31, y32]) h0

theorem t27 (K : Kont) (E : PanK) (x0 x1 : Value)  : den Tryd.prog (sel (bodyOf Tryd.f27) []) (bodyQ Tryd.prog Tryd.f27.results.toList K E) #[x0, x1, undef, undef, undef, undef, undef, undef, undef, undef] =
  nws 22 2 (bsC #[(.slice none 0 0)] 1 2 #[(0, x0), (1, x1)]) fun t1 =>
  callv Tryd.prog (.func (.func 55) #[] #[]) #[t1] (fun t2 =>
  callv Tryd.prog (.func (.func 54) #[] #[]) #[t2, (.func (.func 56) #[] #[])] (fun t3 =>
  K t3) E) E := by kernel_rfl

theorem t44 (K : Kont) (E : PanK)  : den Tryd.prog (sel (bodyOf Tryd.f44) []) (bodyQ Tryd.prog Tryd.f44.results.toList K E) #[undef, undef, undef, undef] =
  mkm fun t1 =>
  pv (bdC #[(.slice none 0 0), (.map none)] [(0, 1), (1, 1)] #[(1, t1)]) fun t2 =>
  nw 108 (Value.cells t2).toList fun t3 =>
  K t3 := by kernel_rfl

theorem t45 (K : Kont) (E : PanK) (x0 x1 x2 : Value)  : den Tryd.prog (sel (bodyOf Tryd.f45) []) (bodyQ Tryd.prog Tryd.f45.results.toList K E) #[x0, x1, x2, undef, undef, undef, undef, undef, undef, undef, undef, undef, undef, undef, undef, undef, undef, undef, undef, undef, undef, undef, undef, undef, undef, undef, undef, undef, undef, undef, undef, undef, undef, undef, undef, undef, undef, undef, undef, undef, undef, undef, undef, undef, undef, undef, undef, undef, undef, undef, undef, undef, undef, undef, undef, undef, undef, undef, undef, undef, undef] =
  nw 41 (Value.cells x2).toList fun t1 =>
  callv Tryd.prog (.func (.func 74) #[] #[]) #[x1] (fun t2 =>
  pv (nilV x0) fun t3 =>
  pv (faV 1 t3) fun t4 =>
  ld false 1 t4 fun t5 =>
  lkp Tryd.prog 106 t5 t2 true fun t6 =>
  pv (exV 0 t6) fun t7 =>
  pv (exV 1 t6) fun t8 =>
  cnd t8 (
    pv (nilV x0) fun t9 =>
    pv (faV 0 t9) fun t10 =>
    ld false 1 t10 fun t11 =>
    pv (nilV x0) fun t12 =>
    pv (faV 0 t12) fun t13 =>
    ld false 1 t13 fun t14 =>
    pv (iaV none 5 t14 t7) fun t15 =>
    pv (faV 1 t15) fun t16 =>
    ld true 4 t16 fun t17 =>
    ld true 4 t1 fun t18 =>
    callv Tryd.prog (.func (.func 75) #[] #[]) #[t17, t18] (fun t19 h20 => (ldV h20 false 1 t10 t11) ∧ (
      pv (iaV none 5 t11 t7) fun t21 =>
      pv (faV 1 t21) fun t22 =>
      st 4 t22 t19 fun _ =>
      K (.tuple #[])) h20) E) (
    pv (nilV x0) fun t23 =>
    pv (faV 1 t23) fun t24 =>
    ld false 1 t24 fun t25 =>
    pv (nilV x0) fun t26 =>
    pv (faV 0 t26) fun t27 =>
    ld false 1 t27 fun t28 =>
    pv (lenV t28) fun t29 =>
    mup Tryd.prog 106 t25 t2 t29 fun _ =>
    pv (nilV x0) fun t30 =>
    pv (faV 0 t30) fun t31 =>
    ld false 1 t31 fun t32 =>
    ld true 4 t1 fun t33 =>
    callv Tryd.prog (.func (.func 76) #[] #[]) #[x1] (fun t34 h35 => (ldV h35 true 4 t1 t33) ∧ (ldV h35 false 1 t31 t32) ∧ (
      pv (bdC #[(.slice none 0 0), (.int .i64 0), (.int .i64 0), (.int .i64 0), (.int .i64 0)] [(0, 1), (1, 4)] #[(0, t34), (1, t33)]) fun t36 =>
      nws 43 1 (bsC #[(.slice none 0 0), (.int .i64 0), (.int .i64 0), (.int .i64 0), (.int .i64 0)] 5 1 #[(0, t36)]) (fun t37 h38 => (ldV h38 false 1 t31 t32) ∧ (
        appX 43 5 56 t32 t37 fun t39 =>
        pv (nilV x0) fun t40 =>
        pv (faV 0 t40) fun t41 =>
        st 1 t41 t39 fun _ =>
        K (.tuple #[])) h38)) h35) E)) E := by kernel_rfl

theorem t46 (K : Kont) (E : PanK) (x0 : Value)  : den Tryd.prog (sel (bodyOf Tryd.f46) []) (bodyQ Tryd.prog Tryd.f46.results.toList K E) #[x0, undef, undef, undef, undef, undef, undef] =
  nw 41 [(.int .i64 0), (.int .i64 0), (.int .i64 0), (.int .i64 0)] fun t1 =>
  pv (bdC #[(.int .i64 0), (.int .i64 0), (.int .i64 0), (.int .i64 0)] [(0, 1), (1, 1), (2, 1), (3, 1)] #[(0, (.int .i64 1)), (1, x0), (2, x0), (3, x0)]) fun t2 =>
  st 4 t1 t2 fun _ =>
  ld true 4 t1 fun t3 =>
  K t3 := by kernel_rfl

theorem t47 (K : Kont) (E : PanK) (x0 : Value)  : den Tryd.prog (sel (bodyOf Tryd.f47) []) (bodyQ Tryd.prog Tryd.f47.results.toList K E) #[x0, undef, undef, undef, undef, undef, undef, undef, undef, undef, undef, undef] =
  pv (nilV x0) fun t1 =>
  pv (faV 0 t1) fun t2 =>
  ld false 1 t2 fun t3 =>
  callv Tryd.prog (.func (.func 77) #[] #[]) #[t3, (.func (.func 50) #[] #[])] (fun t4 =>
  pv (nilV x0) fun t5 =>
  pv (faV 0 t5) fun t6 =>
  ld false 1 t6 fun t7 =>
  K t7) E := by kernel_rfl

theorem t49 (K : Kont) (E : PanK) (x0 x1 : Value)  : den Tryd.prog (sel (bodyOf Tryd.f49) []) (bodyQ Tryd.prog Tryd.f49.results.toList K E) #[x0, x1, undef, undef, undef, undef, undef, undef, undef, undef, undef, undef, undef, undef, undef, undef, undef, undef, undef, undef, undef, undef, undef, undef, undef, undef, undef] =
  nw 43 (Value.cells x0).toList fun t1 =>
  pv (faV 0 t1) fun t2 =>
  ld false 1 t2 fun t3 =>
  pv (lenV t3) fun t4 =>
  pv (binV .none .eql t4 x1) fun t5 =>
  gdK t5 true (fun k => pv (faV 1 t1) k) fun t6 =>
  gdK t5 true (fun k => pv (faV 0 t6) k) fun t7 =>
  gdK t5 true (fun k => ld false 1 t7 k) fun t8 =>
  gdK t5 true (fun k => pv (binV .none .gtr t8 (.int .i64 0)) k) fun t9 =>
  pv (pickV t5 t9 (.bool false)) fun t10 =>
  gdK t10 true (fun k => pv (faV 1 t1) k) fun t11 =>
  gdK t10 true (fun k => ld true 4 t11 k) fun t12 =>
  gdK t10 true (fun k => callv Tryd.prog (.func (.func 78) #[] #[]) #[t12] k E) fun t13 =>
  pv (pickV t10 t13 (.bool false)) fun t14 =>
  gdK t14 true (fun k => pv (faV 0 t1) k) fun t15 =>
  gdK t14 true (fun k => ld false 1 t15 k) fun t16 =>
  gdK t14 true (fun k => callv Tryd.prog (.func (.func 79) #[] #[]) #[t16, (.func (.func 80) #[] #[])] k E) fun t17 =>
  gdK t14 true (fun k => pv (unV .not t17) k) fun t18 =>
  pv (pickV t14 t18 (.bool false)) fun t19 =>
  K t19 := by kernel_rfl

theorem t50 (K : Kont) (E : PanK) (x0 x1 : Value)  : den Tryd.prog (sel (bodyOf Tryd.f50) []) (bodyQ Tryd.prog Tryd.f50.results.toList K E) #[x0, x1, undef, undef, undef, undef, undef, undef, undef, undef] =
  nw 43 (Value.cells x0).toList fun t1 =>
  nw 43 (Value.cells x1).toList fun t2 =>
  pv (faV 0 t1) fun t3 =>
  ld false 1 t3 fun t4 =>
  pv (faV 0 t2) fun t5 =>
  ld false 1 t5 fun t6 =>
  callv Tryd.prog (.func (.func 81) #[] #[]) #[t4, t6] (fun t7 =>
  K t7) E := by kernel_rfl

theorem t54 (K : Kont) (E : PanK) (x0 x1 : Value)  : den Tryd.prog (sel (bodyOf Tryd.f54) []) (bodyQ Tryd.prog Tryd.f54.results.toList K E) #[x0, x1, undef, undef, undef, undef, undef, undef, undef, undef, undef, undef, undef, undef, undef, undef, undef, undef, undef, undef, undef, undef, undef, undef, undef, undef] =
  callv Tryd.prog (.func (.func 44) #[] #[]) #[] (fun t1 =>
  pv (lenV x0) fun t2 =>
  lp (fun k1 => den Tryd.prog (sel (bodyOf Tryd.f54) [1, 1, 0, 1, 0, 0]) (thenD k1 (blk 0 (thenD (den Tryd.prog (sel (bodyOf Tryd.f54) [1, 1, 1]) (bodyQ Tryd.prog Tryd.f54.results.toList K E)) (bodyQ Tryd.prog Tryd.f54.results.toList K E))))) #[x0, x1, undef, undef, (.slice none 0 0), t1, undef, undef, t1, x0, t2, (.int .i64 0), undef, undef, undef, undef, undef, undef, undef, undef, undef, undef, undef, undef, undef, undef]) E := by kernel_rfl
def m54_1_1_0_1_0_0 (x0 x1 x2 x3 x4 x5 x6 x8 x9 x10 x24 x25 : Value) (v11 : Value) (j : Nat → Value) : Env := #[x0, x1, x2, x3, x4, x5, x6, (j 7), x8, x9, x10, v11, (j 12), (j 13), (j 14), (j 15), (j 16), (j 17), (j 18), (j 19), (j 20), (j 21), (j 22), (j 23), x24, x25]
theorem t54_1_1_0_1_0_0 (K : Kont) (E : PanK) (k1 : Env → Hp → Prop) (x0 x1 x2 x3 x4 x5 x6 x8 x9 x10 x24 x25 v11 : Value) (j : Nat → Value) : den Tryd.prog (sel (bodyOf Tryd.f54) [1, 1, 0, 1, 0, 0]) (thenD k1 (blk 0 (thenD (den Tryd.prog (sel (bodyOf Tryd.f54) [1, 1, 1]) (bodyQ Tryd.prog Tryd.f54.results.toList K E)) (bodyQ Tryd.prog Tryd.f54.results.toList K E)))) (m54_1_1_0_1_0_0 x0 x1 x2 x3 x4 x5 x6 x8 x9 x10 x24 x25 v11 j) =
  pv (binV .none .lss v11 x10) fun t1 =>
  cnd t1 (
    pv (iaV none 5 x9 v11) fun t2 =>
    ld true 5 t2 fun t3 =>
    nw 43 [(.slice none 0 0), (.int .i64 0), (.int .i64 0), (.int .i64 0), (.int .i64 0)] fun t4 =>
    st 5 t4 t3 fun _ =>
    pv (faV 0 t4) fun t5 =>
    ld false 1 t5 fun t6 =>
    pv (faV 1 t4) fun t7 =>
    ld true 4 t7 fun t8 =>
    callv Tryd.prog x1 #[t6] (fun t9 h10 => (ldV h10 true 4 t7 t8) ∧ (
      callv Tryd.prog (.func (.func 45) #[] #[]) #[x5, t9, t8] (fun t11 =>
      pv (binV .none .add v11 (.int .i64 1)) fun t12 =>
      k1 (m54_1_1_0_1_0_0 x0 x1 x2 x3 x4 x5 x6 x8 x9 x10 x24 x25 t12 (jf #[x0, x1, x2, x3, x4, x5, x6, t4, x8, x9, x10, t12, t1, t2, t3, x5, x1, t5, t6, t9, t7, t8, t11, t12, x24, x25]))) E) h10) E) (
    den Tryd.prog (sel (bodyOf Tryd.f54) [1, 1, 1]) (bodyQ Tryd.prog Tryd.f54.results.toList K E) #[x0, x1, x2, x3, x4, x5, x6, (j 7), x8, x9, x10, v11, t1, (j 13), (j 14), (j 15), (j 16), (j 17), (j 18), (j 19), (j 20), (j 21), (j 22), (j 23), x24, x25]) := by kernel_rfl
theorem t54_1_1_1 (K : Kont) (E : PanK) (x0 x1 x2 x3 x4 x5 x6 x7 x8 x9 x10 x11 x12 x13 x14 x15 x16 x17 x18 x19 x20 x21 x22 x23 x24 x25 : Value)  : den Tryd.prog (sel (bodyOf Tryd.f54) [1, 1, 1]) (bodyQ Tryd.prog Tryd.f54.results.toList K E) #[x0, x1, x2, x3, x4, x5, x6, x7, x8, x9, x10, x11, x12, x13, x14, x15, x16, x17, x18, x19, x20, x21, x22, x23, x24, x25] =
  callv Tryd.prog (.func (.func 47) #[] #[]) #[x5] (fun t1 =>
  K t1) E := by kernel_rfl
theorem l54_1_1_0_1_0_0 {K : Kont} {E : PanK} {σ : Type} {x0 x1 x2 x3 x4 x5 x6 x8 x9 x10 x24 x25 v11 y7 y12 y13 y14 y15 y16 y17 y18 y19 y20 y21 y22 y23 : Value} {h : Hp} (f11 : σ → Value) (I : σ → Hp → Prop) (μ : σ → Nat) (s0 : σ) (e11 : v11 = f11 s0) (h0 : h.wf → ∃ h', h.wk h' ∧ I s0 h')
  (round : ∀ (k1 : Env → Hp → Prop) (s : σ) (j : Nat → Value) (h : Hp), I s h → h.wf → (∀ s' j' h', μ s' < μ s → (h'.wf → ∃ h'', h'.wk h'' ∧ I s' h'') → k1 (m54_1_1_0_1_0_0 x0 x1 x2 x3 x4 x5 x6 x8 x9 x10 x24 x25 (f11 s') j') h') → (
  pv (binV .none .lss (f11 s) x10) fun t1 =>
  cnd t1 (
    pv (iaV none 5 x9 (f11 s)) fun t2 =>
    ld true 5 t2 fun t3 =>
    nw 43 [(.slice none 0 0), (.int .i64 0), (.int .i64 0), (.int .i64 0), (.int .i64 0)] fun t4 =>
    st 5 t4 t3 fun _ =>
    pv (faV 0 t4) fun t5 =>
    ld false 1 t5 fun t6 =>
    pv (faV 1 t4) fun t7 =>
    ld true 4 t7 fun t8 =>
    callv Tryd.prog x1 #[t6] (fun t9 h10 => (ldV h10 true 4 t7 t8) ∧ (
      callv Tryd.prog (.func (.func 45) #[] #[]) #[x5, t9, t8] (fun t11 =>
      pv (binV .none .add (f11 s) (.int .i64 1)) fun t12 =>
      k1 (m54_1_1_0_1_0_0 x0 x1 x2 x3 x4 x5 x6 x8 x9 x10 x24 x25 t12 (jf #[x0, x1, x2, x3, x4, x5, x6, t4, x8, x9, x10, t12, t1, t2, t3, x5, x1, t5, t6, t9, t7, t8, t11, t12, x24, x25]))) E) h10) E) (
    den Tryd.prog (sel (bodyOf Tryd.f54) [1, 1, 1]) (bodyQ Tryd.prog Tryd.f54.results.toList K E) #[x0, x1, x2, x3, x4, x5, x6, (j 7), x8, x9, x10, (f11 s), t1, (j 13), (j 14), (j 15), (j 16), (j 17), (j 18), (j 19), (j 20), (j 21), (j 22), (j 23), x24, x25])) h) :
  lp (fun k1 => den Tryd.prog (sel (bodyOf Tryd.f54) [1, 1, 0, 1, 0, 0]) (thenD k1 (blk 0 (thenD (den Tryd.prog (sel (bodyOf Tryd.f54) [1, 1, 1]) (bodyQ Tryd.prog Tryd.f54.results.toList K E)) (bodyQ Tryd.prog Tryd.f54.results.toList K E))))) #[x0, x1, x2, x3, x4, x5, x6, y7, x8, x9, x10, v11, y12, y13, y14, y15, y16, y17, y18, y19, y20, y21, y22, y23, x24, x25] h := by
  subst e11
  have e : (#[x0, x1, x2, x3, x4, x5, x6, y7, x8, x9, x10, (f11 s0), y12, y13, y14, y15, y16, y17, y18, y19, y20, y21, y22, y23, x24, x25] : Env) = m54_1_1_0_1_0_0 x0 x1 x2 x3 x4 x5 x6 x8 x9 x10 x24 x25 (f11 s0) (jf #[x0, x1, x2, x3, x4, x5, x6, y7, x8, x9, x10, (f11 s0), y12, y13, y14, y15, y16, y17, y18, y19, y20, y21, y22, y23, x24, x25]) := by kernel_rfl
  rw [e]
  exact loop_r (fun s j => m54_1_1_0_1_0_0 x0 x1 x2 x3 x4 x5 x6 x8 x9 x10 x24 x25 (f11 s) j) I μ (fun k s j h hI hw next => by rw [t54_1_1_0_1_0_0]; exact round k s j h hI hw next) s0 (jf #[x0, x1, x2, x3, x4, x5, x6, y7, x8, x9, x10, (f11 s0), y12, y13, y14, y15, y16, y17, y18, y19, y20, y21, y22, y23, x24, x25]) h0

theorem t55 (K : Kont) (E : PanK) (x0 : Value)  : den Tryd.prog (sel (bodyOf Tryd.f55) []) (bodyQ Tryd.prog Tryd.f55.results.toList K E) #[x0, undef, undef, undef, undef, undef, undef, undef, undef, undef, undef, undef, undef, undef, undef, undef, undef, undef, undef, undef, undef, undef, undef, undef, undef, undef, undef, undef, undef, undef, undef, undef, undef, undef, undef, undef] =
  pv (lenV x0) fun t1 =>
  lp (fun k1 => den Tryd.prog (sel (bodyOf Tryd.f55) [1, 1, 0, 1, 0, 0]) (thenD k1 (blk 0 (thenD (den Tryd.prog (sel (bodyOf Tryd.f55) [1, 1, 1]) (bodyQ Tryd.prog Tryd.f55.results.toList K E)) (bodyQ Tryd.prog Tryd.f55.results.toList K E))))) #[x0, undef, (.slice none 0 0), (.int .i64 0), undef, undef, undef, undef, undef, x0, t1, (.int .i64 0), undef, undef, undef, undef, undef, undef, undef, undef, undef, undef, undef, undef, undef, undef, undef, undef, undef, undef, undef, undef, undef, undef, undef, undef] := by kernel_rfl
def m55_1_1_0_1_0_0 (x0 x1 x2 x4 x6 x7 x8 x9 x10 x23 x24 x25 x26 x27 x28 x29 x30 x31 x32 x33 x34 x35 : Value) (v3 v11 : Value) (j : Nat → Value) : Env := #[x0, x1, x2, v3, x4, (j 5), x6, x7, x8, x9, x10, v11, (j 12), (j 13), (j 14), (j 15), (j 16), (j 17), (j 18), (j 19), (j 20), (j 21), (j 22), x23, x24, x25, x26, x27, x28, x29, x30, x31, x32, x33, x34, x35]
theorem t55_1_1_0_1_0_0 (K : Kont) (E : PanK) (k1 : Env → Hp → Prop) (x0 x1 x2 x4 x6 x7 x8 x9 x10 x23 x24 x25 x26 x27 x28 x29 x30 x31 x32 x33 x34 x35 v3 v11 : Value) (j : Nat → Value) : den Tryd.prog (sel (bodyOf Tryd.f55) [1, 1, 0, 1, 0, 0]) (thenD k1 (blk 0 (thenD (den Tryd.prog (sel (bodyOf Tryd.f55) [1, 1, 1]) (bodyQ Tryd.prog Tryd.f55.results.toList K E)) (bodyQ Tryd.prog Tryd.f55.results.toList K E)))) (m55_1_1_0_1_0_0 x0 x1 x2 x4 x6 x7 x8 x9 x10 x23 x24 x25 x26 x27 x28 x29 x30 x31 x32 x33 x34 x35 v3 v11 j) =
  pv (binV .none .lss v11 x10) fun t1 =>
  cnd t1 (
    pv (iaV none 1 x9 v11) fun t2 =>
    ld false 1 t2 fun t3 =>
    pv (lenV t3) fun t4 =>
    pv (binV .none .add v3 t4) fun t5 =>
    pv (binV .none .lss t5 (.int .i64 0)) fun t6 =>
    cnd t6 (
      pv (ifcV 9 (.string ⟨#[108, 101, 110, 32, 111, 117, 116, 32, 111, 102, 32, 114, 97, 110, 103, 101]⟩)) fun t7 =>
      pnc t7 E fun _ =>
      den Tryd.prog (sel (bodyOf Tryd.f55) [1, 1, 0, 1, 0, 0, 1, 1, 1]) (thenD k1 (blk 0 (thenD (den Tryd.prog (sel (bodyOf Tryd.f55) [1, 1, 1]) (bodyQ Tryd.prog Tryd.f55.results.toList K E)) (bodyQ Tryd.prog Tryd.f55.results.toList K E)))) #[x0, x1, x2, t5, x4, t3, x6, x7, x8, x9, x10, v11, t1, t2, t3, v3, t3, t4, t5, t5, t6, t7, (j 22), x23, x24, x25, x26, x27, x28, x29, x30, x31, x32, x33, x34, x35]) (
      den Tryd.prog (sel (bodyOf Tryd.f55) [1, 1, 0, 1, 0, 0, 1, 1, 1]) (thenD k1 (blk 0 (thenD (den Tryd.prog (sel (bodyOf Tryd.f55) [1, 1, 1]) (bodyQ Tryd.prog Tryd.f55.results.toList K E)) (bodyQ Tryd.prog Tryd.f55.results.toList K E)))) #[x0, x1, x2, t5, x4, t3, x6, x7, x8, x9, x10, v11, t1, t2, t3, v3, t3, t4, t5, t5, t6, (j 21), (j 22), x23, x24, x25, x26, x27, x28, x29, x30, x31, x32, x33, x34, x35])) (
    den Tryd.prog (sel (bodyOf Tryd.f55) [1, 1, 1]) (bodyQ Tryd.prog Tryd.f55.results.toList K E) #[x0, x1, x2, v3, x4, (j 5), x6, x7, x8, x9, x10, v11, t1, (j 13), (j 14), (j 15), (j 16), (j 17), (j 18), (j 19), (j 20), (j 21), (j 22), x23, x24, x25, x26, x27, x28, x29, x30, x31, x32, x33, x34, x35]) := by kernel_rfl
theorem t55_1_1_1 (K : Kont) (E : PanK) (x0 x1 x2 x3 x4 x5 x6 x7 x8 x9 x10 x11 x12 x13 x14 x15 x16 x17 x18 x19 x20 x21 x22 x23 x24 x25 x26 x27 x28 x29 x30 x31 x32 x33 x34 x35 : Value)  : den Tryd.prog (sel (bodyOf Tryd.f55) [1, 1, 1]) (bodyQ Tryd.prog Tryd.f55.results.toList K E) #[x0, x1, x2, x3, x4, x5, x6, x7, x8, x9, x10, x11, x12, x13, x14, x15, x16, x17, x18, x19, x20, x21, x22, x23, x24, x25, x26, x27, x28, x29, x30, x31, x32, x33, x34, x35] =
  callv Tryd.prog (.func (.func 83) #[] #[]) #[(.slice none 0 0), x3] (fun t1 =>
  pv (lenV x0) fun t2 =>
  lp (fun k1 => den Tryd.prog (sel (bodyOf Tryd.f55) [1, 1, 1, 1, 0, 1, 0, 0]) (thenD k1 (blk 2 (thenD (den Tryd.prog (sel (bodyOf Tryd.f55) [1, 1, 1, 1, 1]) (bodyQ Tryd.prog Tryd.f55.results.toList K E)) (bodyQ Tryd.prog Tryd.f55.results.toList K E))))) #[x0, x1, x2, x3, x4, x5, t1, x7, x8, x9, x10, x11, x12, x13, x14, x15, x16, x17, x18, x19, x20, x21, x22, x3, t1, x0, t2, (.int .i64 0), x28, x29, x30, x31, x32, x33, x34, x35]) E := by kernel_rfl
theorem t55_1_1_0_1_0_0_1_1_1 (K : Kont) (E : PanK) (k1 : Env → Hp → Prop) (x0 x1 x2 x3 x4 x5 x6 x7 x8 x9 x10 x11 x12 x13 x14 x15 x16 x17 x18 x19 x20 x21 x22 x23 x24 x25 x26 x27 x28 x29 x30 x31 x32 x33 x34 x35 : Value)  : den Tryd.prog (sel (bodyOf Tryd.f55) [1, 1, 0, 1, 0, 0, 1, 1, 1]) (thenD k1 (blk 0 (thenD (den Tryd.prog (sel (bodyOf Tryd.f55) [1, 1, 1]) (bodyQ Tryd.prog Tryd.f55.results.toList K E)) (bodyQ Tryd.prog Tryd.f55.results.toList K E)))) #[x0, x1, x2, x3, x4, x5, x6, x7, x8, x9, x10, x11, x12, x13, x14, x15, x16, x17, x18, x19, x20, x21, x22, x23, x24, x25, x26, x27, x28, x29, x30, x31, x32, x33, x34, x35] =
  pv (binV .none .add x11 (.int .i64 1)) fun t1 =>
  k1 (m55_1_1_0_1_0_0 x0 x1 x2 x4 x6 x7 x8 x9 x10 x23 x24 x25 x26 x27 x28 x29 x30 x31 x32 x33 x34 x35 x3 t1 (jf #[x0, x1, x2, x3, x4, x5, x6, x7, x8, x9, x10, t1, x12, x13, x14, x15, x16, x17, x18, x19, x20, x21, t1, x23, x24, x25, x26, x27, x28, x29, x30, x31, x32, x33, x34, x35])) := by kernel_rfl
def m55_1_1_1_1_0_1_0_0 (x0 x1 x2 x3 x4 x5 x7 x9 x10 x11 x12 x13 x14 x15 x16 x17 x18 x19 x20 x21 x22 x23 x24 x25 x26 x35 : Value) (v6 v27 : Value) (j : Nat → Value) : Env := #[x0, x1, x2, x3, x4, x5, v6, x7, (j 8), x9, x10, x11, x12, x13, x14, x15, x16, x17, x18, x19, x20, x21, x22, x23, x24, x25, x26, v27, (j 28), (j 29), (j 30), (j 31), (j 32), (j 33), (j 34), x35]
theorem t55_1_1_1_1_0_1_0_0 (K : Kont) (E : PanK) (k1 : Env → Hp → Prop) (x0 x1 x2 x3 x4 x5 x7 x9 x10 x11 x12 x13 x14 x15 x16 x17 x18 x19 x20 x21 x22 x23 x24 x25 x26 x35 v6 v27 : Value) (j : Nat → Value) : den Tryd.prog (sel (bodyOf Tryd.f55) [1, 1, 1, 1, 0, 1, 0, 0]) (thenD k1 (blk 2 (thenD (den Tryd.prog (sel (bodyOf Tryd.f55) [1, 1, 1, 1, 1]) (bodyQ Tryd.prog Tryd.f55.results.toList K E)) (bodyQ Tryd.prog Tryd.f55.results.toList K E)))) (m55_1_1_1_1_0_1_0_0 x0 x1 x2 x3 x4 x5 x7 x9 x10 x11 x12 x13 x14 x15 x16 x17 x18 x19 x20 x21 x22 x23 x24 x25 x26 x35 v6 v27 j) =
  pv (binV .none .lss v27 x26) fun t1 =>
  cnd t1 (
    pv (iaV none 1 x25 v27) fun t2 =>
    ld false 1 t2 fun t3 =>
    appX 43 5 56 v6 t3 fun t4 =>
    pv (binV .none .add v27 (.int .i64 1)) fun t5 =>
    k1 (m55_1_1_1_1_0_1_0_0 x0 x1 x2 x3 x4 x5 x7 x9 x10 x11 x12 x13 x14 x15 x16 x17 x18 x19 x20 x21 x22 x23 x24 x25 x26 x35 t4 t5 (jf #[x0, x1, x2, x3, x4, x5, t4, x7, t3, x9, x10, x11, x12, x13, x14, x15, x16, x17, x18, x19, x20, x21, x22, x23, x24, x25, x26, t5, t1, t2, t3, v6, t3, t4, t5, x35]))) (
    den Tryd.prog (sel (bodyOf Tryd.f55) [1, 1, 1, 1, 1]) (bodyQ Tryd.prog Tryd.f55.results.toList K E) #[x0, x1, x2, x3, x4, x5, v6, x7, (j 8), x9, x10, x11, x12, x13, x14, x15, x16, x17, x18, x19, x20, x21, x22, x23, x24, x25, x26, v27, t1, (j 29), (j 30), (j 31), (j 32), (j 33), (j 34), x35]) := by kernel_rfl
theorem t55_1_1_1_1_1 (K : Kont) (E : PanK) (x0 x1 x2 x3 x4 x5 x6 x7 x8 x9 x10 x11 x12 x13 x14 x15 x16 x17 x18 x19 x20 x21 x22 x23 x24 x25 x26 x27 x28 x29 x30 x31 x32 x33 x34 x35 : Value)  : den Tryd.prog (sel (bodyOf Tryd.f55) [1, 1, 1, 1, 1]) (bodyQ Tryd.prog Tryd.f55.results.toList K E) #[x0, x1, x2, x3, x4, x5, x6, x7, x8, x9, x10, x11, x12, x13, x14, x15, x16, x17, x18, x19, x20, x21, x22, x23, x24, x25, x26, x27, x28, x29, x30, x31, x32, x33, x34, x35] =
  K x6 := by kernel_rfl
theorem l55_1_1_0_1_0_0 {K : Kont} {E : PanK} {σ : Type} {x0 x1 x2 x4 x6 x7 x8 x9 x10 x23 x24 x25 x26 x27 x28 x29 x30 x31 x32 x33 x34 x35 v3 v11 y5 y12 y13 y14 y15 y16 y17 y18 y19 y20 y21 y22 : Value} {h : Hp} (f3 f11 : σ → Value) (I : σ → Hp → Prop) (μ : σ → Nat) (s0 : σ) (e3 : v3 = f3 s0) (e11 : v11 = f11 s0) (h0 : h.wf → ∃ h', h.wk h' ∧ I s0 h')
  (round : ∀ (k1 : Env → Hp → Prop) (s : σ) (j : Nat → Value) (h : Hp), I s h → h.wf → (∀ s' j' h', μ s' < μ s → (h'.wf → ∃ h'', h'.wk h'' ∧ I s' h'') → k1 (m55_1_1_0_1_0_0 x0 x1 x2 x4 x6 x7 x8 x9 x10 x23 x24 x25 x26 x27 x28 x29 x30 x31 x32 x33 x34 x35 (f3 s') (f11 s') j') h') → (
  pv (binV .none .lss (f11 s) x10) fun t1 =>
  cnd t1 (
    pv (iaV none 1 x9 (f11 s)) fun t2 =>
    ld false 1 t2 fun t3 =>
    pv (lenV t3) fun t4 =>
    pv (binV .none .add (f3 s) t4) fun t5 =>
    pv (binV .none .lss t5 (.int .i64 0)) fun t6 =>
    cnd t6 (
      pv (ifcV 9 (.string ⟨#[108, 101, 110, 32, 111, 117, 116, 32, 111, 102, 32, 114, 97, 110, 103, 101]⟩)) fun t7 =>
      pnc t7 E fun _ =>
      den Tryd.prog (sel (bodyOf Tryd.f55) [1, 1, 0, 1, 0, 0, 1, 1, 1]) (thenD k1 (blk 0 (thenD (den Tryd.prog (sel (bodyOf Tryd.f55) [1, 1, 1]) (bodyQ Tryd.prog Tryd.f55.results.toList K E)) (bodyQ Tryd.prog Tryd.f55.results.toList K E)))) #[x0, x1, x2, t5, x4, t3, x6, x7, x8, x9, x10, (f11 s), t1, t2, t3, (f3 s), t3, t4, t5, t5, t6, t7, (j 22), x23, x24, x25, x26, x27, x28, x29, x30, x31, x32, x33, x34, x35]) (
      den Tryd.prog (sel (bodyOf Tryd.f55) [1, 1, 0, 1, 0, 0, 1, 1, 1]) (thenD k1 (blk 0 (thenD (den Tryd.prog (sel (bodyOf Tryd.f55) [1, 1, 1]) (bodyQ Tryd.prog Tryd.f55.results.toList K E)) (bodyQ Tryd.prog Tryd.f55.results.toList K E)))) #[x0, x1, x2, t5, x4, t3, x6, x7, x8, x9, x10, (f11 s), t1, t2, t3, (f3 s), t3, t4, t5, t5, t6, (j 21), (j 22), x23, x24, x25, x26, x27, x28, x29, x30, x31, x32, x33, x34, x35])) (
    den Tryd.prog (sel (bodyOf Tryd.f55) [1, 1, 1]) (bodyQ Tryd.prog Tryd.f55.results.toList K E) #[x0, x1, x2, (f3 s), x4, (j 5), x6, x7, x8, x9, x10, (f11 s), t1, (j 13), (j 14), (j 15), (j 16), (j 17), (j 18), (j 19), (j 20), (j 21), (j 22), x23, x24, x25, x26, x27, x28, x29, x30, x31, x32, x33, x34, x35])) h) :
  lp (fun k1 => den Tryd.prog (sel (bodyOf Tryd.f55) [1, 1, 0, 1, 0, 0]) (thenD k1 (blk 0 (thenD (den Tryd.prog (sel (bodyOf Tryd.f55) [1, 1, 1]) (bodyQ Tryd.prog Tryd.f55.results.toList K E)) (bodyQ Tryd.prog Tryd.f55.results.toList K E))))) #[x0, x1, x2, v3, x4, y5, x6, x7, x8, x9, x10, v11, y12, y13, y14, y15, y16, y17, y18, y19, y20, y21, y22, x23, x24, x25, x26, x27, x28, x29, x30, x31, x32, x33, x34, x35] h := by
  subst e3
  subst e11
  have e : (#[x0, x1, x2, (f3 s0), x4, y5, x6, x7, x8, x9, x10, (f11 s0), y12, y13, y14, y15, y16, y17, y18, y19, y20, y21, y22, x23, x24, x25, x26, x27, x28, x29, x30, x31, x32, x33, x34, x35] : Env) = m55_1_1_0_1_0_0 x0 x1 x2 x4 x6 x7 x8 x9 x10 x23 x24 x25 x26 x27 x28 x29 x30 x31 x32 x33 x34 x35 (f3 s0) (f11 s0) (jf #[x0, x1, x2, (f3 s0), x4, y5, x6, x7, x8, x9, x10, (f11 s0), y12, y13, y14, y15, y16, y17, y18, y19, y20, y21, y22, x23, x24, x25, x26, x27, x28, x29, x30, x31, x32, x33, x34, x35]) := by kernel_rfl
  rw [e]
  exact loop_r (fun s j => m55_1_1_0_1_0_0 x0 x1 x2 x4 x6 x7 x8 x9 x10 x23 x24 x25 x26 x27 x28 x29 x30 x31 x32 x33 x34 x35 (f3 s) (f11 s) j) I μ (fun k s j h hI hw next => by rw [t55_1_1_0_1_0_0]; exact round k s j h hI hw next) s0 (jf #[x0, x1, x2, (f3 s0), x4, y5, x6, x7, x8, x9, x10, (f11 s0), y12, y13, y14, y15, y16, y17, y18, y19, y20, y21, y22, x23, x24, x25, x26, x27, x28, x29, x30, x31, x32, x33, x34, x35]) h0
theorem l55_1_1_1_1_0_1_0_0 {K : Kont} {E : PanK} {σ : Type} {x0 x1 x2 x3 x4 x5 x7 x9 x10 x11 x12 x13 x14 x15 x16 x17 x18 x19 x20 x21 x22 x23 x24 x25 x26 x35 v6 v27 y8 y28 y29 y30 y31 y32 y33 y34 : Value} {h : Hp} (f6 f27 : σ → Value) (I : σ → Hp → Prop) (μ : σ → Nat) (s0 : σ) (e6 : v6 = f6 s0) (e27 : v27 = f27 s0) (h0 : h.wf → ∃ h', h.wk h' ∧ I s0 h')
  (round : ∀ (k1 : Env → Hp → Prop) (s : σ) (j : Nat → Value) (h : Hp), I s h → h.wf → (∀ s' j' h', μ s' < μ s → (h'.wf → ∃ h'', h'.wk h'' ∧ I s' h'') → k1 (m55_1_1_1_1_0_1_0_0 x0 x1 x2 x3 x4 x5 x7 x9 x10 x11 x12 x13 x14 x15 x16 x17 x18 x19 x20 x21 x22 x23 x24 x25 x26 x35 (f6 s') (f27 s') j') h') → (
  pv (binV .none .lss (f27 s) x26) fun t1 =>
  cnd t1 (
    pv (iaV none 1 x25 (f27 s)) fun t2 =>
    ld false 1 t2 fun t3 =>
    appX 43 5 56 (f6 s) t3 fun t4 =>
    pv (binV .none .add (f27 s) (.int .i64 1)) fun t5 =>
    k1 (m55_1_1_1_1_0_1_0_0 x0 x1 x2 x3 x4 x5 x7 x9 x10 x11 x12 x13 x14 x15 x16 x17 x18 x19 x20 x21 x22 x23 x24 x25 x26 x35 t4 t5 (jf #[x0, x1, x2, x3, x4, x5, t4, x7, t3, x9, x10, x11, x12, x13, x14, x15, x16, x17, x18, x19, x20, x21, x22, x23, x24, x25, x26, t5, t1, t2, t3, (f6 s), t3, t4, t5, x35]))) (
    den Tryd.prog (sel (bodyOf Tryd.f55) [1, 1, 1, 1, 1]) (bodyQ Tryd.prog Tryd.f55.results.toList K E) #[x0, x1, x2, x3, x4, x5, (f6 s), x7, (j 8), x9, x10, x11, x12, x13, x14, x15, x16, x17, x18, x19, x20, x21, x22, x23, x24, x25, x26, (f27 s), t1, (j 29), (j 30), (j 31), (j 32), (j 33), (j 34), x35])) h) :
  lp (fun k1 => den Tryd.prog (sel (bodyOf Tryd.f55) [1, 1, 1, 1, 0, 1, 0, 0]) (thenD k1 (blk 2 (thenD (den Tryd.prog (sel (bodyOf Tryd.f55) [1, 1, 1, 1, 1]) (bodyQ Tryd.prog Tryd.f55.results.toList K E)) (bodyQ Tryd.prog Tryd.f55.results.toList K E))))) #[x0, x1, x2, x3, x4, x5, v6, x7, y8, x9, x10, x11, x12, x13, x14, x15, x16, x17, x18, x19, x20, x21, x22, x23, x24, x25, x26, v27, y28, y29, y30, y31, y32, y33, y34, x35] h := by
  subst e6
  subst e27
  have e : (#[x0, x1, x2, x3, x4, x5, (f6 s0), x7, y8, x9, x10, x11, x12, x13, x14, x15, x16, x17, x18, x19, x20, x21, x22, x23, x24, x25, x26, (f27 s0), y28, y29, y30, y31, y32, y33, y34, x35] : Env) = m55_1_1_1_1_0_1_0_0 x0 x1 x2 x3 x4 x5 x7 x9 x10 x11 x12 x13 x14 x15 x16 x17 x18 x19 x20 x21 x22 x23 x24 x25 x26 x35 (f6 s0) (f27 s0) (jf #[x0, x1, x2, x3, x4, x5, (f6 s0), x7, y8, x9, x10, x11, x12, x13, x14, x15, x16, x17, x18, x19, x20, x21, x22, x23, x24, x25, x26, (f27 s0), y28, y29, y30, y31, y32, y33, y34, x35]) := by kernel_rfl
  rw [e]
  exact loop_r (fun s j => m55_1_1_1_1_0_1_0_0 x0 x1 x2 x3 x4 x5 x7 x9 x10 x11 x12 x13 x14 x15 x16 x17 x18 x19 x20 x21 x22 x23 x24 x25 x26 x35 (f6 s) (f27 s) j) I μ (fun k s j h hI hw next => by rw [t55_1_1_1_1_0_1_0_0]; exact round k s j h hI hw next) s0 (jf #[x0, x1, x2, x3, x4, x5, (f6 s0), x7, y8, x9, x10, x11, x12, x13, x14, x15, x16, x17, x18, x19, x20, x21, x22, x23, x24, x25, x26, (f27 s0), y28, y29, y30, y31, y32, y33, y34, x35]) h0

theorem t56 (K : Kont) (E : PanK) (x0 : Value)  : den Tryd.prog (sel (bodyOf Tryd.f56) []) (bodyQ Tryd.prog Tryd.f56.results.toList K E) #[x0, undef, undef, undef] =
  K x0 := by kernel_rfl

theorem t74 (K : Kont) (E : PanK) (x0 : Value)  : den Tryd.prog (sel (bodyOf Tryd.f74) []) (bodyQ Tryd.prog Tryd.f74.results.toList K E) #[x0, undef, undef, undef, undef, undef, undef, undef, undef, undef, undef, undef, undef, undef, undef, undef, undef, undef, undef, undef, undef] =
  pv (lenV x0) fun t1 =>
  lp (fun k1 => den Tryd.prog (sel (bodyOf Tryd.f74) [1, 1, 0, 1, 0, 0]) (thenD k1 (blk 0 (thenD (den Tryd.prog (sel (bodyOf Tryd.f74) [1, 1, 1]) (bodyQ Tryd.prog Tryd.f74.results.toList K E)) (bodyQ Tryd.prog Tryd.f74.results.toList K E))))) #[x0, undef, (.string ⟨#[]⟩), (.slice none 0 0), undef, undef, x0, t1, (.int .i64 0), undef, undef, undef, undef, undef, undef, undef, undef, undef, undef, undef, undef] := by kernel_rfl
def m74_1_1_0_1_0_0 (x0 x1 x2 x4 x6 x7 x19 x20 : Value) (v3 v8 : Value) (j : Nat → Value) : Env := #[x0, x1, x2, v3, x4, (j 5), x6, x7, v8, (j 9), (j 10), (j 11), (j 12), (j 13), (j 14), (j 15), (j 16), (j 17), (j 18), x19, x20]
theorem t74_1_1_0_1_0_0 (K : Kont) (E : PanK) (k1 : Env → Hp → Prop) (x0 x1 x2 x4 x6 x7 x19 x20 v3 v8 : Value) (j : Nat → Value) : den Tryd.prog (sel (bodyOf Tryd.f74) [1, 1, 0, 1, 0, 0]) (thenD k1 (blk 0 (thenD (den Tryd.prog (sel (bodyOf Tryd.f74) [1, 1, 1]) (bodyQ Tryd.prog Tryd.f74.results.toList K E)) (bodyQ Tryd.prog Tryd.f74.results.toList K E)))) (m74_1_1_0_1_0_0 x0 x1 x2 x4 x6 x7 x19 x20 v3 v8 j) =
  pv (binV .none .lss v8 x7) fun t1 =>
  cnd t1 (
    pv (iaV none 1 x6 v8) fun t2 =>
    ld false 1 t2 fun t3 =>
    callv Tryd.prog (.func (.func 94) #[] #[]) #[v3, t3, (.int .i64 36)] (fun t4 =>
    nws 5 1 (bsC #[(.int .u8 0)] 1 1 #[(0, (.int .u8 32))]) fun t5 =>
    appX 5 1 1 t4 t5 fun t6 =>
    pv (binV .none .add v8 (.int .i64 1)) fun t7 =>
    k1 (m74_1_1_0_1_0_0 x0 x1 x2 x4 x6 x7 x19 x20 t6 t7 (jf #[x0, x1, x2, t6, x4, t3, x6, x7, t7, t1, t2, t3, v3, t3, t4, t4, t5, t6, t7, x19, x20]))) E) (
    den Tryd.prog (sel (bodyOf Tryd.f74) [1, 1, 1]) (bodyQ Tryd.prog Tryd.f74.results.toList K E) #[x0, x1, x2, v3, x4, (j 5), x6, x7, v8, t1, (j 10), (j 11), (j 12), (j 13), (j 14), (j 15), (j 16), (j 17), (j 18), x19, x20]) := by kernel_rfl
theorem t74_1_1_1 (K : Kont) (E : PanK) (x0 x1 x2 x3 x4 x5 x6 x7 x8 x9 x10 x11 x12 x13 x14 x15 x16 x17 x18 x19 x20 : Value)  : den Tryd.prog (sel (bodyOf Tryd.f74) [1, 1, 1]) (bodyQ Tryd.prog Tryd.f74.results.toList K E) #[x0, x1, x2, x3, x4, x5, x6, x7, x8, x9, x10, x11, x12, x13, x14, x15, x16, x17, x18, x19, x20] =
  bs x3 fun t1 =>
  K t1 := by kernel_rfl
theorem l74_1_1_0_1_0_0 {K : Kont} {E : PanK} {σ : Type} {x0 x1 x2 x4 x6 x7 x19 x20 v3 v8 y5 y9 y10 y11 y12 y13 y14 y15 y16 y17 y18 : Value} {h : Hp} (f3 f8 : σ → Value) (I : σ → Hp → Prop) (μ : σ → Nat) (s0 : σ) (e3 : v3 = f3 s0) (e8 : v8 = f8 s0) (h0 : h.wf → ∃ h', h.wk h' ∧ I s0 h')
  (round : ∀ (k1 : Env → Hp → Prop) (s : σ) (j : Nat → Value) (h : Hp), I s h → h.wf → (∀ s' j' h', μ s' < μ s → (h'.wf → ∃ h'', h'.wk h'' ∧ I s' h'') → k1 (m74_1_1_0_1_0_0 x0 x1 x2 x4 x6 x7 x19 x20 (f3 s') (f8 s') j') h') → (
  pv (binV .none .lss (f8 s) x7) fun t1 =>
  cnd t1 (
    pv (iaV none 1 x6 (f8 s)) fun t2 =>
    ld false 1 t2 fun t3 =>
    callv Tryd.prog (.func (.func 94) #[] #[]) #[(f3 s), t3, (.int .i64 36)] (fun t4 =>
    nws 5 1 (bsC #[(.int .u8 0)] 1 1 #[(0, (.int .u8 32))]) fun t5 =>
    appX 5 1 1 t4 t5 fun t6 =>
    pv (binV .none .add (f8 s) (.int .i64 1)) fun t7 =>
    k1 (m74_1_1_0_1_0_0 x0 x1 x2 x4 x6 x7 x19 x20 t6 t7 (jf #[x0, x1, x2, t6, x4, t3, x6, x7, t7, t1, t2, t3, (f3 s), t3, t4, t4, t5, t6, t7, x19, x20]))) E) (
    den Tryd.prog (sel (bodyOf Tryd.f74) [1, 1, 1]) (bodyQ Tryd.prog Tryd.f74.results.toList K E) #[x0, x1, x2, (f3 s), x4, (j 5), x6, x7, (f8 s), t1, (j 10), (j 11), (j 12), (j 13), (j 14), (j 15), (j 16), (j 17), (j 18), x19, x20])) h) :
  lp (fun k1 => den Tryd.prog (sel (bodyOf Tryd.f74) [1, 1, 0, 1, 0, 0]) (thenD k1 (blk 0 (thenD (den Tryd.prog (sel (bodyOf Tryd.f74) [1, 1, 1]) (bodyQ Tryd.prog Tryd.f74.results.toList K E)) (bodyQ Tryd.prog Tryd.f74.results.toList K E))))) #[x0, x1, x2, v3, x4, y5, x6, x7, v8, y9, y10, y11, y12, y13, y14, y15, y16, y17, y18, x19, x20] h := by
  subst e3
  subst e8
  have e : (#[x0, x1, x2, (f3 s0), x4, y5, x6, x7, (f8 s0), y9, y10, y11, y12, y13, y14, y15, y16, y17, y18, x19, x20] : Env) = m74_1_1_0_1_0_0 x0 x1 x2 x4 x6 x7 x19 x20 (f3 s0) (f8 s0) (jf #[x0, x1, x2, (f3 s0), x4, y5, x6, x7, (f8 s0), y9, y10, y11, y12, y13, y14, y15, y16, y17, y18, x19, x20]) := by kernel_rfl
  rw [e]
  exact loop_r (fun s j => m74_1_1_0_1_0_0 x0 x1 x2 x4 x6 x7 x19 x20 (f3 s) (f8 s) j) I μ (fun k s j h hI hw next => by rw [t74_1_1_0_1_0_0]; exact round k s j h hI hw next) s0 (jf #[x0, x1, x2, (f3 s0), x4, y5, x6, x7, (f8 s0), y9, y10, y11, y12, y13, y14, y15, y16, y17, y18, x19, x20]) h0

theorem t75 (K : Kont) (E : PanK) (x0 x1 : Value)  : den Tryd.prog (sel (bodyOf Tryd.f75) []) (bodyQ Tryd.prog Tryd.f75.results.toList K E) #[x0, x1, undef, undef, undef, undef, undef, undef, undef, undef, undef, undef, undef, undef, undef, undef, undef, undef, undef, undef, undef, undef] =
  nw 41 (Value.cells x0).toList fun t1 =>
  nw 41 (Value.cells x1).toList fun t2 =>
  nw 41 [(.int .i64 0), (.int .i64 0), (.int .i64 0), (.int .i64 0)] fun t3 =>
  pv (faV 0 t1) fun t4 =>
  ld false 1 t4 fun t5 =>
  pv (binV .none .eql (.int .i64 0) t5) fun t6 =>
  cnd t6 (
    ld true 4 t2 fun t7 =>
    st 4 t3 t7 fun _ =>
    ld true 4 t3 fun t8 =>
    K t8) (
    pv (faV 0 t2) fun t9 =>
    ld false 1 t9 fun t10 =>
    pv (binV .none .eql (.int .i64 0) t10) fun t11 =>
    cnd t11 (
      ld true 4 t1 fun t12 =>
      st 4 t3 t12 fun _ =>
      ld true 4 t3 fun t13 =>
      K t13) (
      ld true 4 t1 fun t14 =>
      pv (bdC #[(.int .i64 0), (.int .i64 0), (.int .i64 0), (.int .i64 0)] [(0, 4)] #[(0, t14)]) fun t15 =>
      nw 122 [(.int .i64 0), (.int .i64 0), (.int .i64 0), (.int .i64 0)] fun t16 =>
      st 4 t16 t15 fun _ =>
      ld true 4 t2 fun t17 =>
      callv Tryd.prog (.func (.func 95) #[] #[]) #[t16, t17] (fun t18 =>
      pv (faV 0 t16) fun t19 =>
      ld true 4 t19 fun t20 =>
      st 4 t3 t20 fun _ =>
      ld true 4 t3 fun t21 =>
      K t21) E)) := by kernel_rfl

theorem t76 (K : Kont) (E : PanK) (x0 : Value)  : den Tryd.prog (sel (bodyOf Tryd.f76) []) (bodyQ Tryd.prog Tryd.f76.results.toList K E) #[x0, undef, undef, undef, undef, undef, undef, undef] =
  pv (binV .slc .eql x0 (.slice none 0 0)) fun t1 =>
  cnd t1 (
    K (.slice none 0 0)) (
    nws 3 0 (bsC #[(.int .i64 0)] 1 0 #[]) fun t2 =>
    appX 3 1 8 t2 x0 fun t3 =>
    K t3) := by kernel_rfl

theorem t78 (K : Kont) (E : PanK) (x0 : Value)  : den Tryd.prog (sel (bodyOf Tryd.f78) []) (bodyQ Tryd.prog Tryd.f78.results.toList K E) #[x0, undef, undef, undef, undef, undef, undef, undef, undef, undef, undef, undef, undef, undef, undef, undef, undef, undef, undef, undef, undef, undef, undef, undef] =
  nw 41 (Value.cells x0).toList fun t1 =>
  pv (faV 0 t1) fun t2 =>
  ld false 1 t2 fun t3 =>
  pv (binV .none .leq t3 (.int .i64 0)) fun t4 =>
  cnd t4 (
    ld true 4 t1 fun t5 =>
    pv (bdC #[(.int .i64 0), (.int .i64 0), (.int .i64 0), (.int .i64 0)] [(0, 1), (1, 1), (2, 1), (3, 1)] #[]) fun t6 =>
    pv (eqCells .eql [0, 0, 0, 0] t5 t6) fun t7 =>
    K t7) (
    pv (faV 0 t1) fun t8 =>
    ld false 1 t8 fun t9 =>
    pv (binV .none .eql t9 (.int .i64 1)) fun t10 =>
    cnd t10 (
      ld true 4 t1 fun t11 =>
      pv (faV 1 t1) fun t12 =>
      ld false 1 t12 fun t13 =>
      callv Tryd.prog (.func (.func 46) #[] #[]) #[t13] (fun t14 h15 => (ldV h15 true 4 t1 t11) ∧ (
        pv (eqCells .eql [0, 0, 0, 0] t11 t14) fun t16 =>
        K t16) h15) E) (
      pv (faV 2 t1) fun t17 =>
      ld false 1 t17 fun t18 =>
      pv (faV 3 t1) fun t19 =>
      ld false 1 t19 fun t20 =>
      pv (binV .none .leq t18 t20) fun t21 =>
      K t21)) := by kernel_rfl

theorem t79 (K : Kont) (E : PanK) (x0 x1 : Value)  : den Tryd.prog (sel (bodyOf Tryd.f79) []) (bodyQ Tryd.prog Tryd.f79.results.toList K E) #[x0, x1, undef, undef, undef, undef, undef, undef, undef] =
  callv Tryd.prog (.func (.func 98) #[] #[]) #[x0, x1] (fun t1 =>
  pv (binV .none .geq t1 (.int .i64 0)) fun t2 =>
  K t2) E := by kernel_rfl

theorem t80 (K : Kont) (E : PanK) (x0 : Value)  : den Tryd.prog (sel (bodyOf Tryd.f80) []) (bodyQ Tryd.prog Tryd.f80.results.toList K E) #[x0, undef, undef, undef, undef] =
  pv (binV .none .lss x0 (.int .i64 0)) fun t1 =>
  K t1 := by kernel_rfl

theorem t81 (K : Kont) (E : PanK) (x0 x1 : Value)  : den Tryd.prog (sel (bodyOf Tryd.f81) []) (bodyQ Tryd.prog Tryd.f81.results.toList K E) #[x0, x1, undef, undef, undef, undef, undef, undef] =
  callv Tryd.prog (.func (.func 99) #[] #[]) #[x0, x1] (fun t1 =>
  K t1) E := by kernel_rfl

theorem t83 (K : Kont) (E : PanK) (x0 x1 : Value)  : den Tryd.prog (sel (bodyOf Tryd.f83) []) (bodyQ Tryd.prog Tryd.f83.results.toList K E) #[x0, x1, undef, undef, undef, undef, undef, undef, undef, undef, undef, undef, undef, undef, undef, undef, undef, undef, undef, undef, undef, undef, undef, undef, undef, undef, undef] =
  pv (binV .none .lss x1 (.int .i64 0)) fun t1 =>
  cnd t1 (
    pv (ifcV 9 (.string ⟨#[99, 97, 110, 110, 111, 116, 32, 98, 101, 32, 110, 101, 103, 97, 116, 105, 118, 101]⟩)) fun t2 =>
    pnc t2 E fun _ =>
    den Tryd.prog (sel (bodyOf Tryd.f83) [1, 1]) (bodyQ Tryd.prog Tryd.f83.results.toList K E) #[x0, x1, undef, undef, (.slice none 0 0), x1, t1, t2, undef, undef, undef, undef, undef, undef, undef, undef, undef, undef, undef, undef, undef, undef, undef, undef, undef, undef, undef]) (
    den Tryd.prog (sel (bodyOf Tryd.f83) [1, 1]) (bodyQ Tryd.prog Tryd.f83.results.toList K E) #[x0, x1, undef, undef, (.slice none 0 0), x1, t1, undef, undef, undef, undef, undef, undef, undef, undef, undef, undef, undef, undef, undef, undef, undef, undef, undef, undef, undef, undef]) := by kernel_rfl
theorem t83_1_1 (K : Kont) (E : PanK) (x0 x1 x2 x3 x4 x5 x6 x7 x8 x9 x10 x11 x12 x13 x14 x15 x16 x17 x18 x19 x20 x21 x22 x23 x24 x25 x26 : Value)  : den Tryd.prog (sel (bodyOf Tryd.f83) [1, 1]) (bodyQ Tryd.prog Tryd.f83.results.toList K E) #[x0, x1, x2, x3, x4, x5, x6, x7, x8, x9, x10, x11, x12, x13, x14, x15, x16, x17, x18, x19, x20, x21, x22, x23, x24, x25, x26] =
  pv (capV x0) fun t1 =>
  pv (lenV x0) fun t2 =>
  pv (binV .none .sub t1 t2) fun t3 =>
  pv (binV .none .sub x1 t3) fun t4 =>
  pv (binV .none .gtr t4 (.int .i64 0)) fun t5 =>
  cnd t5 (
    pv (capV x0) fun t6 =>
    pv (slV 5 x0 none (some t6) none) fun t7 =>
    appZ 43 [(.slice none 0 0), (.int .i64 0), (.int .i64 0), (.int .i64 0), (.int .i64 0)] 5 56 t7 t4 fun t8 =>
    pv (lenV x0) fun t9 =>
    pv (slV 5 t8 none (some t9) none) fun t10 =>
    den Tryd.prog (sel (bodyOf Tryd.f83) [1, 1, 1]) (bodyQ Tryd.prog Tryd.f83.results.toList K E) #[t10, t4, x2, x3, x4, x5, x6, x7, x1, x0, t1, x0, t2, t3, t4, t4, t5, x0, x0, t6, t7, t4, t8, x0, t9, t10, x26]) (
    den Tryd.prog (sel (bodyOf Tryd.f83) [1, 1, 1]) (bodyQ Tryd.prog Tryd.f83.results.toList K E) #[x0, t4, x2, x3, x4, x5, x6, x7, x1, x0, t1, x0, t2, t3, t4, t4, t5, x17, x18, x19, x20, x21, x22, x23, x24, x25, x26]) := by kernel_rfl
theorem t83_1_1_1 (K : Kont) (E : PanK) (x0 x1 x2 x3 x4 x5 x6 x7 x8 x9 x10 x11 x12 x13 x14 x15 x16 x17 x18 x19 x20 x21 x22 x23 x24 x25 x26 : Value)  : den Tryd.prog (sel (bodyOf Tryd.f83) [1, 1, 1]) (bodyQ Tryd.prog Tryd.f83.results.toList K E) #[x0, x1, x2, x3, x4, x5, x6, x7, x8, x9, x10, x11, x12, x13, x14, x15, x16, x17, x18, x19, x20, x21, x22, x23, x24, x25, x26] =
  K x0 := by kernel_rfl

theorem t94 (K : Kont) (E : PanK) (x0 x1 x2 : Value)  : den Tryd.prog (sel (bodyOf Tryd.f94) []) (bodyQ Tryd.prog Tryd.f94.results.toList K E) #[x0, x1, x2, undef, undef, undef, undef, undef, undef, undef, undef] =
  callv Tryd.prog (.func (.func 103) #[] #[]) #[x0, x1, x2] (fun t1 =>
  K t1) E := by kernel_rfl

theorem t95 (K : Kont) (E : PanK) (x0 x1 : Value)  : den Tryd.prog (sel (bodyOf Tryd.f95) []) (bodyQ Tryd.prog Tryd.f95.results.toList K E) #[x0, x1, undef, undef, undef, undef, undef, undef, undef, undef, undef, undef, undef, undef, undef, undef, undef, undef, undef, undef, undef, undef, undef, undef, undef, undef, undef, undef, undef, undef, undef, undef, undef, undef, undef, undef, undef, undef, undef, undef, undef, undef, undef, undef, undef, undef, undef, undef, undef, undef, undef, undef, undef, undef, undef, undef, undef, undef, undef, undef, undef, undef, undef, undef, undef, undef, undef] =
  nw 41 (Value.cells x1).toList fun t1 =>
  pv (bdC #[(.int .i64 0), (.int .i64 0), (.int .i64 0), (.int .i64 0)] [(0, 1), (1, 1), (2, 1), (3, 1)] #[]) fun t2 =>
  nw 41 [(.int .i64 0), (.int .i64 0), (.int .i64 0), (.int .i64 0)] fun t3 =>
  st 4 t3 t2 fun _ =>
  ld true 4 t1 fun t4 =>
  ld true 4 t3 fun t5 =>
  pv (eqCells .eql [0, 0, 0, 0] t4 t5) fun t6 =>
  cnd t6 (
    K (.tuple #[])) (
    pv (nilV x0) fun t7 =>
    pv (faV 0 t7) fun t8 =>
    ld true 4 t8 fun t9 =>
    ld true 4 t3 fun t10 =>
    pv (eqCells .eql [0, 0, 0, 0] t9 t10) fun t11 =>
    cnd t11 (
      ld true 4 t1 fun t12 =>
      pv (nilV x0) fun t13 =>
      pv (faV 0 t13) fun t14 =>
      st 4 t14 t12 fun _ =>
      K (.tuple #[])) (
      pv (nilV x0) fun t15 =>
      pv (faV 0 t15) fun t16 =>
      pv (faV 0 t16) fun t17 =>
      ld false 1 t17 fun t18 =>
      pv (faV 0 t1) fun t19 =>
      ld false 1 t19 fun t20 =>
      pv (binV .none .add t18 t20) fun t21 =>
      pv (nilV x0) fun t22 =>
      pv (faV 0 t22) fun t23 =>
      pv (faV 0 t23) fun t24 =>
      st 1 t24 t21 fun _ =>
      pv (nilV x0) fun t25 =>
      pv (faV 0 t25) fun t26 =>
      pv (faV 1 t26) fun t27 =>
      ld false 1 t27 fun t28 =>
      pv (faV 1 t1) fun t29 =>
      ld false 1 t29 fun t30 =>
      pv (binV .none .add t28 t30) fun t31 =>
      pv (nilV x0) fun t32 =>
      pv (faV 0 t32) fun t33 =>
      pv (faV 1 t33) fun t34 =>
      st 1 t34 t31 fun _ =>
      pv (nilV x0) fun t35 =>
      pv (faV 0 t35) fun t36 =>
      pv (faV 2 t36) fun t37 =>
      ld false 1 t37 fun t38 =>
      pv (faV 2 t1) fun t39 =>
      ld false 1 t39 fun t40 =>
      pv (mm false t38 t40) fun t41 =>
      pv (nilV x0) fun t42 =>
      pv (faV 0 t42) fun t43 =>
      pv (faV 2 t43) fun t44 =>
      st 1 t44 t41 fun _ =>
      pv (nilV x0) fun t45 =>
      pv (faV 0 t45) fun t46 =>
      pv (faV 3 t46) fun t47 =>
      ld false 1 t47 fun t48 =>
      pv (faV 3 t1) fun t49 =>
      ld false 1 t49 fun t50 =>
      pv (mm true t48 t50) fun t51 =>
      pv (nilV x0) fun t52 =>
      pv (faV 0 t52) fun t53 =>
      pv (faV 3 t53) fun t54 =>
      st 1 t54 t51 fun _ =>
      K (.tuple #[]))) := by kernel_rfl

theorem t98 (K : Kont) (E : PanK) (x0 x1 : Value)  : den Tryd.prog (sel (bodyOf Tryd.f98) []) (bodyQ Tryd.prog Tryd.f98.results.toList K E) #[x0, x1, undef, undef, undef, undef, undef, undef, undef, undef, undef, undef, undef, undef, undef, undef, undef, undef, undef] =
  pv (lenV x0) fun t1 =>
  lp (fun k1 => den Tryd.prog (sel (bodyOf Tryd.f98) [1, 0, 1, 0, 0]) (thenD k1 (blk 0 (thenD (den Tryd.prog (sel (bodyOf Tryd.f98) [1, 1]) (bodyQ Tryd.prog Tryd.f98.results.toList K E)) (bodyQ Tryd.prog Tryd.f98.results.toList K E))))) #[x0, x1, undef, undef, (.int .i64 0), undef, x0, t1, (.int .i64 0), undef, undef, undef, undef, undef, undef, undef, undef, undef, undef] := by kernel_rfl
def m98_1_0_1_0_0 (x0 x1 x2 x3 x6 x7 : Value) (v8 : Value) (j : Nat → Value) : Env := #[x0, x1, x2, x3, (j 4), (j 5), x6, x7, v8, (j 9), (j 10), (j 11), (j 12), (j 13), (j 14), (j 15), (j 16), (j 17), (j 18)]
theorem t98_1_0_1_0_0 (K : Kont) (E : PanK) (k1 : Env → Hp → Prop) (x0 x1 x2 x3 x6 x7 v8 : Value) (j : Nat → Value) : den Tryd.prog (sel (bodyOf Tryd.f98) [1, 0, 1, 0, 0]) (thenD k1 (blk 0 (thenD (den Tryd.prog (sel (bodyOf Tryd.f98) [1, 1]) (bodyQ Tryd.prog Tryd.f98.results.toList K E)) (bodyQ Tryd.prog Tryd.f98.results.toList K E)))) (m98_1_0_1_0_0 x0 x1 x2 x3 x6 x7 v8 j) =
  pv (binV .none .lss v8 x7) fun t1 =>
  cnd t1 (
    pv (iaV none 1 x0 v8) fun t2 =>
    ld false 1 t2 fun t3 =>
    callv Tryd.prog x1 #[t3] (fun t4 =>
    cnd t4 (
      K v8) (
      pv (binV .none .add v8 (.int .i64 1)) fun t5 =>
      k1 (m98_1_0_1_0_0 x0 x1 x2 x3 x6 x7 t5 (jf #[x0, x1, x2, x3, (j 4), v8, x6, x7, t5, t1, v8, x1, x0, v8, t2, t3, t4, (j 17), t5])))) E) (
    den Tryd.prog (sel (bodyOf Tryd.f98) [1, 1]) (bodyQ Tryd.prog Tryd.f98.results.toList K E) #[x0, x1, x2, x3, (j 4), (j 5), x6, x7, v8, t1, (j 10), (j 11), (j 12), (j 13), (j 14), (j 15), (j 16), (j 17), (j 18)]) := by kernel_rfl
theorem t98_1_1 (K : Kont) (E : PanK) (x0 x1 x2 x3 x4 x5 x6 x7 x8 x9 x10 x11 x12 x13 x14 x15 x16 x17 x18 : Value)  : den Tryd.prog (sel (bodyOf Tryd.f98) [1, 1]) (bodyQ Tryd.prog Tryd.f98.results.toList K E) #[x0, x1, x2, x3, x4, x5, x6, x7, x8, x9, x10, x11, x12, x13, x14, x15, x16, x17, x18] =
  K (.int .i64 (-1)) := by kernel_rfl
theorem l98_1_0_1_0_0 {K : Kont} {E : PanK} {σ : Type} {x0 x1 x2 x3 x6 x7 v8 y4 y5 y9 y10 y11 y12 y13 y14 y15 y16 y17 y18 : Value} {h : Hp} (f8 : σ → Value) (I : σ → Hp → Prop) (μ : σ → Nat) (s0 : σ) (e8 : v8 = f8 s0) (h0 : h.wf → ∃ h', h.wk h' ∧ I s0 h')
  (round : ∀ (k1 : Env → Hp → Prop) (s : σ) (j : Nat → Value) (h : Hp), I s h → h.wf → (∀ s' j' h', μ s' < μ s → (h'.wf → ∃ h'', h'.wk h'' ∧ I s' h'') → k1 (m98_1_0_1_0_0 x0 x1 x2 x3 x6 x7 (f8 s') j') h') → (
  pv (binV .none .lss (f8 s) x7) fun t1 =>
  cnd t1 (
    pv (iaV none 1 x0 (f8 s)) fun t2 =>
    ld false 1 t2 fun t3 =>
    callv Tryd.prog x1 #[t3] (fun t4 =>
    cnd t4 (
      K (f8 s)) (
      pv (binV .none .add (f8 s) (.int .i64 1)) fun t5 =>
      k1 (m98_1_0_1_0_0 x0 x1 x2 x3 x6 x7 t5 (jf #[x0, x1, x2, x3, (j 4), (f8 s), x6, x7, t5, t1, (f8 s), x1, x0, (f8 s), t2, t3, t4, (j 17), t5])))) E) (
    den Tryd.prog (sel (bodyOf Tryd.f98) [1, 1]) (bodyQ Tryd.prog Tryd.f98.results.toList K E) #[x0, x1, x2, x3, (j 4), (j 5), x6, x7, (f8 s), t1, (j 10), (j 11), (j 12), (j 13), (j 14), (j 15), (j 16), (j 17), (j 18)])) h) :
  lp (fun k1 => den Tryd.prog (sel (bodyOf Tryd.f98) [1, 0, 1, 0, 0]) (thenD k1 (blk 0 (thenD (den Tryd.prog (sel (bodyOf Tryd.f98) [1, 1]) (bodyQ Tryd.prog Tryd.f98.results.toList K E)) (bodyQ Tryd.prog Tryd.f98.results.toList K E))))) #[x0, x1, x2, x3, y4, y5, x6, x7, v8, y9, y10, y11, y12, y13, y14, y15, y16, y17, y18] h := by
  subst e8
  have e : (#[x0, x1, x2, x3, y4, y5, x6, x7, (f8 s0), y9, y10, y11, y12, y13, y14, y15, y16, y17, y18] : Env) = m98_1_0_1_0_0 x0 x1 x2 x3 x6 x7 (f8 s0) (jf #[x0, x1, x2, x3, y4, y5, x6, x7, (f8 s0), y9, y10, y11, y12, y13, y14, y15, y16, y17, y18]) := by kernel_rfl
  rw [e]
  exact loop_r (fun s j => m98_1_0_1_0_0 x0 x1 x2 x3 x6 x7 (f8 s) j) I μ (fun k s j h hI hw next => by rw [t98_1_0_1_0_0]; exact round k s j h hI hw next) s0 (jf #[x0, x1, x2, x3, y4, y5, x6, x7, (f8 s0), y9, y10, y11, y12, y13, y14, y15, y16, y17, y18]) h0

theorem t99 (K : Kont) (E : PanK) (x0 x1 : Value)  : den Tryd.prog (sel (bodyOf Tryd.f99) []) (bodyQ Tryd.prog Tryd.f99.results.toList K E) #[x0, x1, undef, undef, undef, undef, undef, undef, undef, undef, undef, undef, undef, undef, undef, undef, undef, undef, undef, undef, undef, undef, undef, undef, undef, undef, undef, undef, undef, undef, undef, undef, undef] =
  pv (lenV x0) fun t1 =>
  pv (lenV x1) fun t2 =>
  pv (mm false t1 t2) fun t3 =>
  lp (fun k1 => den Tryd.prog (sel (bodyOf Tryd.f99) [1, 0, 1, 0, 0]) (thenD k1 (blk 0 (thenD (den Tryd.prog (sel (bodyOf Tryd.f99) [1, 1]) (bodyQ Tryd.prog Tryd.f99.results.toList K E)) (bodyQ Tryd.prog Tryd.f99.results.toList K E))))) #[x0, x1, undef, undef, (.int .i64 0), undef, undef, x0, t1, x1, t2, t3, (.int .i64 0), undef, undef, undef, undef, undef, undef, undef, undef, undef, undef, undef, undef, undef, undef, undef, undef, undef, undef, undef, undef] := by kernel_rfl
def m99_1_0_1_0_0 (x0 x1 x2 x3 x7 x8 x9 x10 x11 x28 x29 x30 x31 x32 : Value) (v12 : Value) (j : Nat → Value) : Env := #[x0, x1, x2, x3, (j 4), (j 5), (j 6), x7, x8, x9, x10, x11, v12, (j 13), (j 14), (j 15), (j 16), (j 17), (j 18), (j 19), (j 20), (j 21), (j 22), (j 23), (j 24), (j 25), (j 26), (j 27), x28, x29, x30, x31, x32]
theorem t99_1_0_1_0_0 (K : Kont) (E : PanK) (k1 : Env → Hp → Prop) (x0 x1 x2 x3 x7 x8 x9 x10 x11 x28 x29 x30 x31 x32 v12 : Value) (j : Nat → Value) : den Tryd.prog (sel (bodyOf Tryd.f99) [1, 0, 1, 0, 0]) (thenD k1 (blk 0 (thenD (den Tryd.prog (sel (bodyOf Tryd.f99) [1, 1]) (bodyQ Tryd.prog Tryd.f99.results.toList K E)) (bodyQ Tryd.prog Tryd.f99.results.toList K E)))) (m99_1_0_1_0_0 x0 x1 x2 x3 x7 x8 x9 x10 x11 x28 x29 x30 x31 x32 v12 j) =
  pv (binV .none .lss v12 x11) fun t1 =>
  cnd t1 (
    pv (iaV none 1 x0 v12) fun t2 =>
    ld false 1 t2 fun t3 =>
    pv (iaV none 1 x1 v12) fun t4 =>
    ld false 1 t4 fun t5 =>
    callv Tryd.prog (.func (.func 114) #[] #[]) #[t3, t5] (fun t6 =>
    pv (binV .none .neq t6 (.int .i64 0)) fun t7 =>
    cnd t7 (
      K t6) (
      pv (binV .none .add v12 (.int .i64 1)) fun t8 =>
      k1 (m99_1_0_1_0_0 x0 x1 x2 x3 x7 x8 x9 x10 x11 x28 x29 x30 x31 x32 t8 (jf #[x0, x1, x2, x3, (j 4), v12, t6, x7, x8, x9, x10, x11, t8, t1, v12, x0, v12, t2, t3, x1, v12, t4, t5, t6, t6, t7, (j 26), t8, x28, x29, x30, x31, x32])))) E) (
    den Tryd.prog (sel (bodyOf Tryd.f99) [1, 1]) (bodyQ Tryd.prog Tryd.f99.results.toList K E) #[x0, x1, x2, x3, (j 4), (j 5), (j 6), x7, x8, x9, x10, x11, v12, t1, (j 14), (j 15), (j 16), (j 17), (j 18), (j 19), (j 20), (j 21), (j 22), (j 23), (j 24), (j 25), (j 26), (j 27), x28, x29, x30, x31, x32]) := by kernel_rfl
theorem t99_1_1 (K : Kont) (E : PanK) (x0 x1 x2 x3 x4 x5 x6 x7 x8 x9 x10 x11 x12 x13 x14 x15 x16 x17 x18 x19 x20 x21 x22 x23 x24 x25 x26 x27 x28 x29 x30 x31 x32 : Value)  : den Tryd.prog (sel (bodyOf Tryd.f99) [1, 1]) (bodyQ Tryd.prog Tryd.f99.results.toList K E) #[x0, x1, x2, x3, x4, x5, x6, x7, x8, x9, x10, x11, x12, x13, x14, x15, x16, x17, x18, x19, x20, x21, x22, x23, x24, x25, x26, x27, x28, x29, x30, x31, x32] =
  pv (lenV x0) fun t1 =>
  pv (lenV x1) fun t2 =>
  callv Tryd.prog (.func (.func 114) #[] #[]) #[t1, t2] (fun t3 =>
  K t3) E := by kernel_rfl
theorem l99_1_0_1_0_0 {K : Kont} {E : PanK} {σ : Type} {x0 x1 x2 x3 x7 x8 x9 x10 x11 x28 x29 x30 x31 x32 v12 y4 y5 y6 y13 y14 y15 y16 y17 y18 y19 y20 y21 y22 y23 y24 y25 y26 y27 : Value} {h : Hp} (f12 : σ → Value) (I : σ → Hp → Prop) (μ : σ → Nat) (s0 : σ) (e12 : v12 = f12 s0) (h0 : h.wf → ∃ h', h.wk h' ∧ I s0 h')
  (round : ∀ (k1 : Env → Hp → Prop) (s : σ) (j : Nat → Value) (h : Hp), I s h → h.wf → (∀ s' j' h', μ s' < μ s → (h'.wf → ∃ h'', h'.wk h'' ∧ I s' h'') → k1 (m99_1_0_1_0_0 x0 x1 x2 x3 x7 x8 x9 x10 x11 x28 x29 x30 x31 x32 (f12 s') j') h') → (
  pv (binV .none .lss (f12 s) x11) fun t1 =>
  cnd t1 (
    pv (iaV none 1 x0 (f12 s)) fun t2 =>
    ld false 1 t2 fun t3 =>
    pv (iaV none 1 x1 (f12 s)) fun t4 =>
    ld false 1 t4 fun t5 =>
    callv Tryd.prog (.func (.func 114) #[] #[]) #[t3, t5] (fun t6 =>
    pv (binV .none .neq t6 (.int .i64 0)) fun t7 =>
    cnd t7 (
      K t6) (
      pv (binV .none .add (f12 s) (.int .i64 1)) fun t8 =>
      k1 (m99_1_0_1_0_0 x0 x1 x2 x3 x7 x8 x9 x10 x11 x28 x29 x30 x31 x32 t8 (jf #[x0, x1, x2, x3, (j 4), (f12 s), t6, x7, x8, x9, x10, x11, t8, t1, (f12 s), x0, (f12 s), t2, t3, x1, (f12 s), t4, t5, t6, t6, t7, (j 26), t8, x28, x29, x30, x31, x32])))) E) (
    den Tryd.prog (sel (bodyOf Tryd.f99) [1, 1]) (bodyQ Tryd.prog Tryd.f99.results.toList K E) #[x0, x1, x2, x3, (j 4), (j 5), (j 6), x7, x8, x9, x10, x11, (f12 s), t1, (j 14), (j 15), (j 16), (j 17), (j 18), (j 19), (j 20), (j 21), (j 22), (j 23), (j 24), (j 25), (j 26), (j 27), x28, x29, x30, x31, x32])) h) :
  lp (fun k1 => den Tryd.prog (sel (bodyOf Tryd.f99) [1, 0, 1, 0, 0]) (thenD k1 (blk 0 (thenD (den Tryd.prog (sel (bodyOf Tryd.f99) [1, 1]) (bodyQ Tryd.prog Tryd.f99.results.toList K E)) (bodyQ Tryd.prog Tryd.f99.results.toList K E))))) #[x0, x1, x2, x3, y4, y5, y6, x7, x8, x9, x10, x11, v12, y13, y14, y15, y16, y17, y18, y19, y20, y21, y22, y23, y24, y25, y26, y27, x28, x29, x30, x31, x32] h := by
  subst e12
  have e : (#[x0, x1, x2, x3, y4, y5, y6, x7, x8, x9, x10, x11, (f12 s0), y13, y14, y15, y16, y17, y18, y19, y20, y21, y22, y23, y24, y25, y26, y27, x28, x29, x30, x31, x32] : Env) = m99_1_0_1_0_0 x0 x1 x2 x3 x7 x8 x9 x10 x11 x28 x29 x30 x31 x32 (f12 s0) (jf #[x0, x1, x2, x3, y4, y5, y6, x7, x8, x9, x10, x11, (f12 s0), y13, y14, y15, y16, y17, y18, y19, y20, y21, y22, y23, y24, y25, y26, y27, x28, x29, x30, x31, x32]) := by kernel_rfl
  rw [e]
  exact loop_r (fun s j => m99_1_0_1_0_0 x0 x1 x2 x3 x7 x8 x9 x10 x11 x28 x29 x30 x31 x32 (f12 s) j) I μ (fun k s j h hI hw next => by rw [t99_1_0_1_0_0]; exact round k s j h hI hw next) s0 (jf #[x0, x1, x2, x3, y4, y5, y6, x7, x8, x9, x10, x11, (f12 s0), y13, y14, y15, y16, y17, y18, y19, y20, y21, y22, y23, y24, y25, y26, y27, x28, x29, x30, x31, x32]) h0

theorem t103 (K : Kont) (E : PanK) (x0 x1 x2 : Value)  : den Tryd.prog (sel (bodyOf Tryd.f103) []) (bodyQ Tryd.prog Tryd.f103.results.toList K E) #[x0, x1, x2, undef, undef, undef, undef, undef, undef, undef, undef, undef, undef, undef, undef, undef, undef, undef, undef, undef, undef] =
  pv (cvV .u64 x1) fun t1 =>
  pv (binV .none .lss x1 (.int .i64 0)) fun t2 =>
  cnd t2 (
    nws 5 1 (bsC #[(.int .u8 0)] 1 1 #[(0, (.int .u8 45))]) fun t3 =>
    appX 5 1 1 x0 t3 fun t4 =>
    pv (unV .neg t1) fun t5 =>
    den Tryd.prog (sel (bodyOf Tryd.f103) [1, 1, 1]) (bodyQ Tryd.prog Tryd.f103.results.toList K E) #[t4, x1, x2, undef, undef, undef, (.slice none 0 0), t5, x1, t1, x1, t2, x0, t3, t4, t1, t5, undef, undef, undef, undef]) (
    den Tryd.prog (sel (bodyOf Tryd.f103) [1, 1, 1]) (bodyQ Tryd.prog Tryd.f103.results.toList K E) #[x0, x1, x2, undef, undef, undef, (.slice none 0 0), t1, x1, t1, x1, t2, undef, undef, undef, undef, undef, undef, undef, undef, undef]) := by kernel_rfl
theorem t103_1_1_1 (K : Kont) (E : PanK) (x0 x1 x2 x3 x4 x5 x6 x7 x8 x9 x10 x11 x12 x13 x14 x15 x16 x17 x18 x19 x20 : Value)  : den Tryd.prog (sel (bodyOf Tryd.f103) [1, 1, 1]) (bodyQ Tryd.prog Tryd.f103.results.toList K E) #[x0, x1, x2, x3, x4, x5, x6, x7, x8, x9, x10, x11, x12, x13, x14, x15, x16, x17, x18, x19, x20] =
  callv Tryd.prog (.func (.func 115) #[] #[]) #[x0, x7, x2] (fun t1 =>
  K t1) E := by kernel_rfl

theorem t114 (K : Kont) (E : PanK) (x0 x1 : Value)  : den Tryd.prog (sel (bodyOf Tryd.f114) []) (bodyQ Tryd.prog Tryd.f114.results.toList K E) #[x0, x1, undef, undef, undef, undef, undef, undef, undef, undef, undef, undef, undef, undef, undef, undef, undef, undef, undef, undef] =
  callv Tryd.prog (.func (.func 121) #[] #[]) #[x0] (fun t1 =>
  callv Tryd.prog (.func (.func 121) #[] #[]) #[x1] (fun t2 =>
  cnd t1 (
    cnd t2 (
      K (.int .i64 0)) (
      K (.int .i64 (-1)))) (
    cnd t2 (
      K (.int .i64 1)) (
      pv (binV .none .lss x0 x1) fun t3 =>
      cnd t3 (
        K (.int .i64 (-1))) (
        pv (binV .none .gtr x0 x1) fun t4 =>
        cnd t4 (
          K (.int .i64 1)) (
          K (.int .i64 0)))))) E) E := by kernel_rfl

theorem t115 (K : Kont) (E : PanK) (x0 x1 x2 : Value)  : den Tryd.prog (sel (bodyOf Tryd.f115) []) (bodyQ Tryd.prog Tryd.f115.results.toList K E) #[x0, x1, x2, undef, undef, undef, undef, undef, undef, undef, undef, undef, undef, undef, undef, undef, undef, undef, undef, undef, undef, undef, undef, undef, undef, undef, undef, undef, undef, undef, undef, undef, undef, undef, undef, undef] =
  pv (binV .none .eql x2 (.int .i64 10)) fun t1 =>
  cnd t1 (
    pv (binV .none .lss x1 (.int .u64 100)) fun t2 =>
    cnd t2 (
      pv (cvV .i64 x1) fun t3 =>
      callv Tryd.prog (.func (.func 122) #[] #[]) #[t3] (fun t4 =>
      nope fun t5 =>
      K t5) E) (
      nw 152 [(.int .u8 0), (.int .u8 0), (.int .u8 0), (.int .u8 0), (.int .u8 0), (.int .u8 0), (.int .u8 0), (.int .u8 0), (.int .u8 0), (.int .u8 0), (.int .u8 0), (.int .u8 0), (.int .u8 0), (.int .u8 0), (.int .u8 0), (.int .u8 0), (.int .u8 0), (.int .u8 0), (.int .u8 0), (.int .u8 0), (.int .u8 0), (.int .u8 0), (.int .u8 0), (.int .u8 0)] fun t6 =>
      callv Tryd.prog (.func (.func 123) #[] #[]) #[x1] (fun t7 =>
      pv (slV 1 (arrS 24 t6) none (some t7) none) fun t8 =>
      callv Tryd.prog (.func (.func 124) #[] #[]) #[t8, x1] (fun t9 =>
      pv (slV 1 (arrS 24 t6) none (some t7) none) fun t10 =>
      appX 5 1 1 x0 t10 fun t11 =>
      K t11) E) E)) (
    callv Tryd.prog (.func (.func 125) #[] #[]) #[x0, x1, x2, (.bool false), (.bool true)] (fun t12 =>
    pv (exV 0 t12) fun t13 =>
    pv (exV 1 t12) fun t14 =>
    K t13) E) := by kernel_rfl

theorem t121 (K : Kont) (E : PanK) (x0 : Value)  : den Tryd.prog (sel (bodyOf Tryd.f121) []) (bodyQ Tryd.prog Tryd.f121.results.toList K E) #[x0, undef, undef, undef, undef, undef] =
  pv (binV .none .neq x0 x0) fun t1 =>
  K t1 := by kernel_rfl

theorem t122 (K : Kont) (E : PanK) (x0 : Value)  : den Tryd.prog (sel (bodyOf Tryd.f122) []) (bodyQ Tryd.prog Tryd.f122.results.toList K E) #[x0, undef, undef, undef, undef, undef, undef, undef, undef, undef, undef, undef, undef, undef, undef] =
  pv (binV .none .lss x0 (.int .i64 10)) fun t1 =>
  cnd t1 (
    pv (binV .none .add x0 (.int .i64 1)) fun t2 =>
    pv (slT (.string ⟨#[48, 49, 50, 51, 52, 53, 54, 55, 56, 57, 97, 98, 99, 100, 101, 102, 103, 104, 105, 106, 107, 108, 109, 110, 111, 112, 113, 114, 115, 116, 117, 118, 119, 120, 121, 122]⟩) (some x0) (some t2) none) fun t3 =>
    K t3) (
    pv (binV .none .mul x0 (.int .i64 2)) fun t4 =>
    pv (binV .none .mul x0 (.int .i64 2)) fun t5 =>
    pv (binV .none .add t5 (.int .i64 2)) fun t6 =>
    pv (slT (.string ⟨#[48, 48, 48, 49, 48, 50, 48, 51, 48, 52, 48, 53, 48, 54, 48, 55, 48, 56, 48, 57, 49, 48, 49, 49, 49, 50, 49, 51, 49, 52, 49, 53, 49, 54, 49, 55, 49, 56, 49, 57, 50, 48, 50, 49, 50, 50, 50, 51, 50, 52, 50, 53, 50, 54, 50, 55, 50, 56, 50, 57, 51, 48, 51, 49, 51, 50, 51, 51, 51, 52, 51, 53, 51, 54, 51, 55, 51, 56, 51, 57, 52, 48, 52, 49, 52, 50, 52, 51, 52, 52, 52, 53, 52, 54, 52, 55, 52, 56, 52, 57, 53, 48, 53, 49, 53, 50, 53, 51, 53, 52, 53, 53, 53, 54, 53, 55, 53, 56, 53, 57, 54, 48, 54, 49, 54, 50, 54, 51, 54, 52, 54, 53, 54, 54, 54, 55, 54, 56, 54, 57, 55, 48, 55, 49, 55, 50, 55, 51, 55, 52, 55, 53, 55, 54, 55, 55, 55, 56, 55, 57, 56, 48, 56, 49, 56, 50, 56, 51, 56, 52, 56, 53, 56, 54, 56, 55, 56, 56, 56, 57, 57, 48, 57, 49, 57, 50, 57, 51, 57, 52, 57, 53, 57, 54, 57, 55, 57, 56, 57, 57]⟩) (some t4) (some t6) none) fun t7 =>
    K t7) := by kernel_rfl

theorem t123 (K : Kont) (E : PanK) (x0 : Value)  : den Tryd.prog (sel (bodyOf Tryd.f123) []) (bodyQ Tryd.prog Tryd.f123.results.toList K E) #[x0, undef, undef, undef, undef, undef, undef, undef, undef, undef, undef, undef, undef, undef, undef] =
  callv Tryd.prog (.func (.func 113) #[] #[]) #[x0] (fun t1 =>
  callv Tryd.prog (.func (.func 127) #[] #[]) #[t1] (fun t2 =>
  pv (iaV (some 20) 1 (.pointer (some ⟨0, 0, none⟩)) t2) fun t3 =>
  ld false 1 t3 fun t4 =>
  pv (binV .none .geq x0 t4) fun t5 =>
  callv Tryd.prog (.func (.func 128) #[] #[]) #[t5] (fun t6 =>
  pv (binV .none .add t2 t6) fun t7 =>
  K t7) E) E) E := by kernel_rfl

theorem t125 (K : Kont) (E : PanK) (x0 x1 x2 x3 x4 : Value)  : den Tryd.prog (sel (bodyOf Tryd.f125) []) (bodyQ Tryd.prog Tryd.f125.results.toList K E) #[x0, x1, x2, x3, x4, undef, undef, undef, undef, undef, undef, undef, undef, undef, undef, undef, undef, undef, undef, undef, undef, undef, undef, undef, undef, undef, undef, undef, undef, undef, undef, undef, undef, undef, undef, undef, undef, undef, undef, undef, undef, undef, undef, undef, undef, undef, undef, undef, undef, undef, undef, undef, undef, undef, undef, undef, undef, undef, undef, undef, undef, undef, undef, undef, undef, undef, undef, undef, undef, undef, undef, undef, undef, undef, undef, undef, undef, undef, undef, undef, undef, undef, undef, undef, undef, undef, undef, undef, undef, undef, undef, undef, undef, undef, undef, undef, undef, undef, undef, undef, undef, undef] =
  pv (binV .none .lss x2 (.int .i64 2)) fun t1 =>
  gdK t1 false (fun k => k x2) fun t2 =>
  gdK t1 false (fun k => pv (binV .none .eql t2 (.int .i64 10)) k) fun t3 =>
  pv (pickV t1 (.bool true) t3) fun t4 =>
  gdK t4 false (fun k => k x2) fun t5 =>
  gdK t4 false (fun k => pv (binV .none .gtr t5 (.int .i64 36)) k) fun t6 =>
  pv (pickV t4 (.bool true) t6) fun t7 =>
  cnd t7 (
    pv (ifcV 9 (.string ⟨#[115, 116, 114, 99, 111, 110, 118, 58, 32, 105, 108, 108, 101, 103, 97, 108, 32, 65, 112, 112, 101, 110, 100, 73, 110, 116, 47, 70, 111, 114, 109, 97, 116, 73, 110, 116, 32, 98, 97, 115, 101]⟩)) fun t8 =>
    pnc t8 E fun _ =>
    den Tryd.prog (sel (bodyOf Tryd.f125) [1, 1]) (bodyQ Tryd.prog Tryd.f125.results.toList K E) #[x0, x1, x2, x3, x4, undef, undef, undef, undef, undef, (.slice none 0 0), (.string ⟨#[]⟩), undef, undef, undef, undef, undef, undef, undef, x2, t1, t1, t2, t3, t4, t4, t5, t6, t7, t8, undef, undef, undef, undef, undef, undef, undef, undef, undef, undef, undef, undef, undef, undef, undef, undef, undef, undef, undef, undef, undef, undef, undef, undef, undef, undef, undef, undef, undef, undef, undef, undef, undef, undef, undef, undef, undef, undef, undef, undef, undef, undef, undef, undef, undef, undef, undef, undef, undef, undef, undef, undef, undef, undef, undef, undef, undef, undef, undef, undef, undef, undef, undef, undef, undef, undef, undef, undef, undef, undef, undef, undef]) (
    den Tryd.prog (sel (bodyOf Tryd.f125) [1, 1]) (bodyQ Tryd.prog Tryd.f125.results.toList K E) #[x0, x1, x2, x3, x4, undef, undef, undef, undef, undef, (.slice none 0 0), (.string ⟨#[]⟩), undef, undef, undef, undef, undef, undef, undef, x2, t1, t1, t2, t3, t4, t4, t5, t6, t7, undef, undef, undef, undef, undef, undef, undef, undef, undef, undef, undef, undef, undef, undef, undef, undef, undef, undef, undef, undef, undef, undef, undef, undef, undef, undef, undef, undef, undef, undef, undef, undef, undef, undef, undef, undef, undef, undef, undef, undef, undef, undef, undef, undef, undef, undef, undef, undef, undef, undef, undef, undef, undef, undef, undef, undef, undef, undef, undef, undef, undef, undef, undef, undef, undef, undef, undef, undef, undef, undef, undef, undef, undef]) := by kernel_rfl
theorem t125_1_1 (K : Kont) (E : PanK) (x0 x1 x2 x3 x4 x5 x6 x7 x8 x9 x10 x11 x12 x13 x14 x15 x16 x17 x18 x19 x20 x21 x22 x23 x24 x25 x26 x27 x28 x29 x30 x31 x32 x33 x34 x35 x36 x37 x38 x39 x40 x41 x42 x43 x44 x45 x46 x47 x48 x49 x50 x51 x52 x53 x54 x55 x56 x57 x58 x59 x60 x61 x62 x63 x64 x65 x66 x67 x68 x69 x70 x71 x72 x73 x74 x75 x76 x77 x78 x79 x80 x81 x82 x83 x84 x85 x86 x87 x88 x89 x90 x91 x92 x93 x94 x95 x96 x97 x98 x99 x100 x101 : Value)  : den Tryd.prog (sel (bodyOf Tryd.f125) [1, 1]) (bodyQ Tryd.prog Tryd.f125.results.toList K E) #[x0, x1, x2, x3, x4, x5, x6, x7, x8, x9, x10, x11, x12, x13, x14, x15, x16, x17, x18, x19, x20, x21, x22, x23, x24, x25, x26, x27, x28, x29, x30, x31, x32, x33, x34, x35, x36, x37, x38, x39, x40, x41, x42, x43, x44, x45, x46, x47, x48, x49, x50, x51, x52, x53, x54, x55, x56, x57, x58, x59, x60, x61, x62, x63, x64, x65, x66, x67, x68, x69, x70, x71, x72, x73, x74, x75, x76, x77, x78, x79, x80, x81, x82, x83, x84, x85, x86, x87, x88, x89, x90, x91, x92, x93, x94, x95, x96, x97, x98, x99, x100, x101] =
  nw 162 [(.int .u8 0), (.int .u8 0), (.int .u8 0), (.int .u8 0), (.int .u8 0), (.int .u8 0), (.int .u8 0), (.int .u8 0), (.int .u8 0), (.int .u8 0), (.int .u8 0), (.int .u8 0), (.int .u8 0), (.int .u8 0), (.int .u8 0), (.int .u8 0), (.int .u8 0), (.int .u8 0), (.int .u8 0), (.int .u8 0), (.int .u8 0), (.int .u8 0), (.int .u8 0), (.int .u8 0), (.int .u8 0), (.int .u8 0), (.int .u8 0), (.int .u8 0), (.int .u8 0), (.int .u8 0), (.int .u8 0), (.int .u8 0), (.int .u8 0), (.int .u8 0), (.int .u8 0), (.int .u8 0), (.int .u8 0), (.int .u8 0), (.int .u8 0), (.int .u8 0), (.int .u8 0), (.int .u8 0), (.int .u8 0), (.int .u8 0), (.int .u8 0), (.int .u8 0), (.int .u8 0), (.int .u8 0), (.int .u8 0), (.int .u8 0), (.int .u8 0), (.int .u8 0), (.int .u8 0), (.int .u8 0), (.int .u8 0), (.int .u8 0), (.int .u8 0), (.int .u8 0), (.int .u8 0), (.int .u8 0), (.int .u8 0), (.int .u8 0), (.int .u8 0), (.int .u8 0), (.int .u8 0)] fun t1 =>
  cnd x3 (
    pv (unV .neg x1) fun t2 =>
    den Tryd.prog (sel (bodyOf Tryd.f125) [1, 1, 1, 1, 1]) (bodyQ Tryd.prog Tryd.f125.results.toList K E) #[x0, t2, x2, x3, x4, x5, x6, x7, x8, x9, x10, x11, t1, (.int .i64 65), x14, x15, x16, x17, x18, x19, x20, x21, x22, x23, x24, x25, x26, x27, x28, x29, x3, x1, t2, x33, x34, x35, x36, x37, x38, x39, x40, x41, x42, x43, x44, x45, x46, x47, x48, x49, x50, x51, x52, x53, x54, x55, x56, x57, x58, x59, x60, x61, x62, x63, x64, x65, x66, x67, x68, x69, x70, x71, x72, x73, x74, x75, x76, x77, x78, x79, x80, x81, x82, x83, x84, x85, x86, x87, x88, x89, x90, x91, x92, x93, x94, x95, x96, x97, x98, x99, x100, x101]) (
    den Tryd.prog (sel (bodyOf Tryd.f125) [1, 1, 1, 1, 1]) (bodyQ Tryd.prog Tryd.f125.results.toList K E) #[x0, x1, x2, x3, x4, x5, x6, x7, x8, x9, x10, x11, t1, (.int .i64 65), x14, x15, x16, x17, x18, x19, x20, x21, x22, x23, x24, x25, x26, x27, x28, x29, x3, x31, x32, x33, x34, x35, x36, x37, x38, x39, x40, x41, x42, x43, x44, x45, x46, x47, x48, x49, x50, x51, x52, x53, x54, x55, x56, x57, x58, x59, x60, x61, x62, x63, x64, x65, x66, x67, x68, x69, x70, x71, x72, x73, x74, x75, x76, x77, x78, x79, x80, x81, x82, x83, x84, x85, x86, x87, x88, x89, x90, x91, x92, x93, x94, x95, x96, x97, x98, x99, x100, x101]) := by kernel_rfl
theorem t125_1_1_1_1_1 (K : Kont) (E : PanK) (x0 x1 x2 x3 x4 x5 x6 x7 x8 x9 x10 x11 x12 x13 x14 x15 x16 x17 x18 x19 x20 x21 x22 x23 x24 x25 x26 x27 x28 x29 x30 x31 x32 x33 x34 x35 x36 x37 x38 x39 x40 x41 x42 x43 x44 x45 x46 x47 x48 x49 x50 x51 x52 x53 x54 x55 x56 x57 x58 x59 x60 x61 x62 x63 x64 x65 x66 x67 x68 x69 x70 x71 x72 x73 x74 x75 x76 x77 x78 x79 x80 x81 x82 x83 x84 x85 x86 x87 x88 x89 x90 x91 x92 x93 x94 x95 x96 x97 x98 x99 x100 x101 : Value)  : den Tryd.prog (sel (bodyOf Tryd.f125) [1, 1, 1, 1, 1]) (bodyQ Tryd.prog Tryd.f125.results.toList K E) #[x0, x1, x2, x3, x4, x5, x6, x7, x8, x9, x10, x11, x12, x13, x14, x15, x16, x17, x18, x19, x20, x21, x22, x23, x24, x25, x26, x27, x28, x29, x30, x31, x32, x33, x34, x35, x36, x37, x38, x39, x40, x41, x42, x43, x44, x45, x46, x47, x48, x49, x50, x51, x52, x53, x54, x55, x56, x57, x58, x59, x60, x61, x62, x63, x64, x65, x66, x67, x68, x69, x70, x71, x72, x73, x74, x75, x76, x77, x78, x79, x80, x81, x82, x83, x84, x85, x86, x87, x88, x89, x90, x91, x92, x93, x94, x95, x96, x97, x98, x99, x100, x101] =
  callv Tryd.prog (.func (.func 129) #[] #[]) #[x2] (fun t1 =>
  cnd t1 (
    pv (cvV .u64 x2) fun t2 =>
    callv Tryd.prog (.func (.func 130) #[] #[]) #[t2] (fun t3 =>
    pv (cvV .u64 t3) fun t4 =>
    pv (cvV .u64 x2) fun t5 =>
    pv (cvV .u64 x2) fun t6 =>
    pv (binV .none .sub t6 (.int .u64 1)) fun t7 =>
    lp (fun k1 => den Tryd.prog (sel (bodyOf Tryd.f125) [1, 1, 1, 1, 1, 0, 1, 0, 1, 1, 1, 0, 0, 0]) (thenD k1 (blk 0 (thenD (den Tryd.prog (sel (bodyOf Tryd.f125) [1, 1, 1, 1, 1, 0, 1, 0, 1, 1, 1, 1]) (thenD (den Tryd.prog (sel (bodyOf Tryd.f125) [1, 1, 1, 1, 1, 1]) (bodyQ Tryd.prog Tryd.f125.results.toList K E)) (bodyQ Tryd.prog Tryd.f125.results.toList K E))) (thenD (den Tryd.prog (sel (bodyOf Tryd.f125) [1, 1, 1, 1, 1, 1]) (bodyQ Tryd.prog Tryd.f125.results.toList K E)) (bodyQ Tryd.prog Tryd.f125.results.toList K E)))))) #[x0, x1, x2, x3, x4, x5, x6, x7, x8, x9, x10, x11, x12, x13, t4, t5, t7, x17, x18, x19, x20, x21, x22, x23, x24, x25, x26, x27, x28, x29, x30, x31, x32, x2, t1, x2, t2, t3, t4, x2, t5, x2, t6, t7, x44, x45, x46, x47, x48, x49, x50, x51, x52, x53, x54, x55, x56, x57, x58, x59, x60, x61, x62, x63, x64, x65, x66, x67, x68, x69, x70, x71, x72, x73, x74, x75, x76, x77, x78, x79, x80, x81, x82, x83, x84, x85, x86, x87, x88, x89, x90, x91, x92, x93, x94, x95, x96, x97, x98, x99, x100, x101]) E) (
    pv (cvV .u64 x2) fun t8 =>
    lp (fun k1 => den Tryd.prog (sel (bodyOf Tryd.f125) [1, 1, 1, 1, 1, 0, 1, 1, 1, 0, 0, 0]) (thenD k1 (blk 2 (thenD (den Tryd.prog (sel (bodyOf Tryd.f125) [1, 1, 1, 1, 1, 0, 1, 1, 1, 1]) (thenD (den Tryd.prog (sel (bodyOf Tryd.f125) [1, 1, 1, 1, 1, 1]) (bodyQ Tryd.prog Tryd.f125.results.toList K E)) (bodyQ Tryd.prog Tryd.f125.results.toList K E))) (thenD (den Tryd.prog (sel (bodyOf Tryd.f125) [1, 1, 1, 1, 1, 1]) (bodyQ Tryd.prog Tryd.f125.results.toList K E)) (bodyQ Tryd.prog Tryd.f125.results.toList K E)))))) #[x0, x1, x2, x3, x4, x5, x6, x7, x8, x9, x10, x11, x12, x13, x14, x15, x16, t8, x18, x19, x20, x21, x22, x23, x24, x25, x26, x27, x28, x29, x30, x31, x32, x2, t1, x35, x36, x37, x38, x39, x40, x41, x42, x43, x44, x45, x46, x47, x48, x49, x50, x51, x52, x53, x54, x55, x56, x57, x58, x59, x60, x61, x62, x63, x2, t8, x66, x67, x68, x69, x70, x71, x72, x73, x74, x75, x76, x77, x78, x79, x80, x81, x82, x83, x84, x85, x86, x87, x88, x89, x90, x91, x92, x93, x94, x95, x96, x97, x98, x99, x100, x101])) E := by kernel_rfl
def m125_1_1_1_1_1_0_1_0_1_1_1_0_0_0 (x0 x2 x3 x4 x5 x6 x7 x8 x9 x10 x11 x12 x14 x15 x16 x17 x18 x19 x20 x21 x22 x23 x24 x25 x26 x27 x28 x29 x30 x31 x32 x33 x34 x35 x36 x37 x38 x39 x40 x41 x42 x43 x58 x59 x60 x61 x62 x63 x64 x65 x66 x67 x68 x69 x70 x71 x72 x73 x74 x75 x76 x77 x78 x79 x80 x81 x82 x83 x84 x85 x86 x87 x88 x89 x90 x91 x92 x93 x94 x95 x96 x97 x98 x99 x100 x101 : Value) (v1 v13 : Value) (j : Nat → Value) : Env := #[x0, v1, x2, x3, x4, x5, x6, x7, x8, x9, x10, x11, x12, v13, x14, x15, x16, x17, x18, x19, x20, x21, x22, x23, x24, x25, x26, x27, x28, x29, x30, x31, x32, x33, x34, x35, x36, x37, x38, x39, x40, x41, x42, x43, (j 44), (j 45), (j 46), (j 47), (j 48), (j 49), (j 50), (j 51), (j 52), (j 53), (j 54), (j 55), (j 56), (j 57), x58, x59, x60, x61, x62, x63, x64, x65, x66, x67, x68, x69, x70, x71, x72, x73, x74, x75, x76, x77, x78, x79, x80, x81, x82, x83, x84, x85, x86, x87, x88, x89, x90, x91, x92, x93, x94, x95, x96, x97, x98, x99, x100, x101]
theorem t125_1_1_1_1_1_0_1_0_1_1_1_0_0_0 (K : Kont) (E : PanK) (k1 : Env → Hp → Prop) (x0 x2 x3 x4 x5 x6 x7 x8 x9 x10 x11 x12 x14 x15 x16 x17 x18 x19 x20 x21 x22 x23 x24 x25 x26 x27 x28 x29 x30 x31 x32 x33 x34 x35 x36 x37 x38 x39 x40 x41 x42 x43 x58 x59 x60 x61 x62 x63 x64 x65 x66 x67 x68 x69 x70 x71 x72 x73 x74 x75 x76 x77 x78 x79 x80 x81 x82 x83 x84 x85 x86 x87 x88 x89 x90 x91 x92 x93 x94 x95 x96 x97 x98 x99 x100 x101 v1 v13 : Value) (j : Nat → Value) : den Tryd.prog (sel (bodyOf Tryd.f125) [1, 1, 1, 1, 1, 0, 1, 0, 1, 1, 1, 0, 0, 0]) (thenD k1 (blk 0 (thenD (den Tryd.prog (sel (bodyOf Tryd.f125) [1, 1, 1, 1, 1, 0, 1, 0, 1, 1, 1, 1]) (thenD (den Tryd.prog (sel (bodyOf Tryd.f125) [1, 1, 1, 1, 1, 1]) (bodyQ Tryd.prog Tryd.f125.results.toList K E)) (bodyQ Tryd.prog Tryd.f125.results.toList K E))) (thenD (den Tryd.prog (sel (bodyOf Tryd.f125) [1, 1, 1, 1, 1, 1]) (bodyQ Tryd.prog Tryd.f125.results.toList K E)) (bodyQ Tryd.prog Tryd.f125.results.toList K E))))) (m125_1_1_1_1_1_0_1_0_1_1_1_0_0_0 x0 x2 x3 x4 x5 x6 x7 x8 x9 x10 x11 x12 x14 x15 x16 x17 x18 x19 x20 x21 x22 x23 x24 x25 x26 x27 x28 x29 x30 x31 x32 x33 x34 x35 x36 x37 x38 x39 x40 x41 x42 x43 x58 x59 x60 x61 x62 x63 x64 x65 x66 x67 x68 x69 x70 x71 x72 x73 x74 x75 x76 x77 x78 x79 x80 x81 x82 x83 x84 x85 x86 x87 x88 x89 x90 x91 x92 x93 x94 x95 x96 x97 x98 x99 x100 x101 v1 v13 j) =
  pv (binV .none .geq v1 x15) fun t1 =>
  cnd t1 (
    pv (binV .none .sub v13 (.int .i64 1)) fun t2 =>
    pv (binV .none .and v1 x16) fun t3 =>
    pv (ixV (.string ⟨#[48, 49, 50, 51, 52, 53, 54, 55, 56, 57, 97, 98, 99, 100, 101, 102, 103, 104, 105, 106, 107, 108, 109, 110, 111, 112, 113, 114, 115, 116, 117, 118, 119, 120, 121, 122]⟩) t3) fun t4 =>
    pv (iaV (some 65) 1 x12 t2) fun t5 =>
    st 1 t5 t4 fun _ =>
    pv (binV .none .shr v1 x14) fun t6 =>
    k1 (m125_1_1_1_1_1_0_1_0_1_1_1_0_0_0 x0 x2 x3 x4 x5 x6 x7 x8 x9 x10 x11 x12 x14 x15 x16 x17 x18 x19 x20 x21 x22 x23 x24 x25 x26 x27 x28 x29 x30 x31 x32 x33 x34 x35 x36 x37 x38 x39 x40 x41 x42 x43 x58 x59 x60 x61 x62 x63 x64 x65 x66 x67 x68 x69 x70 x71 x72 x73 x74 x75 x76 x77 x78 x79 x80 x81 x82 x83 x84 x85 x86 x87 x88 x89 x90 x91 x92 x93 x94 x95 x96 x97 x98 x99 x100 x101 t6 t2 (jf #[x0, t6, x2, x3, x4, x5, x6, x7, x8, x9, x10, x11, x12, t2, x14, x15, x16, x17, x18, x19, x20, x21, x22, x23, x24, x25, x26, x27, x28, x29, x30, x31, x32, x33, x34, x35, x36, x37, x38, x39, x40, x41, x42, x43, v1, x15, t1, v13, t2, t2, v1, x16, t3, t4, t5, v1, x14, t6, x58, x59, x60, x61, x62, x63, x64, x65, x66, x67, x68, x69, x70, x71, x72, x73, x74, x75, x76, x77, x78, x79, x80, x81, x82, x83, x84, x85, x86, x87, x88, x89, x90, x91, x92, x93, x94, x95, x96, x97, x98, x99, x100, x101]))) (
    den Tryd.prog (sel (bodyOf Tryd.f125) [1, 1, 1, 1, 1, 0, 1, 0, 1, 1, 1, 1]) (thenD (den Tryd.prog (sel (bodyOf Tryd.f125) [1, 1, 1, 1, 1, 1]) (bodyQ Tryd.prog Tryd.f125.results.toList K E)) (bodyQ Tryd.prog Tryd.f125.results.toList K E)) #[x0, v1, x2, x3, x4, x5, x6, x7, x8, x9, x10, x11, x12, v13, x14, x15, x16, x17, x18, x19, x20, x21, x22, x23, x24, x25, x26, x27, x28, x29, x30, x31, x32, x33, x34, x35, x36, x37, x38, x39, x40, x41, x42, x43, v1, x15, t1, (j 47), (j 48), (j 49), (j 50), (j 51), (j 52), (j 53), (j 54), (j 55), (j 56), (j 57), x58, x59, x60, x61, x62, x63, x64, x65, x66, x67, x68, x69, x70, x71, x72, x73, x74, x75, x76, x77, x78, x79, x80, x81, x82, x83, x84, x85, x86, x87, x88, x89, x90, x91, x92, x93, x94, x95, x96, x97, x98, x99, x100, x101]) := by kernel_rfl
theorem t125_1_1_1_1_1_0_1_0_1_1_1_1 (K : Kont) (E : PanK) (x0 x1 x2 x3 x4 x5 x6 x7 x8 x9 x10 x11 x12 x13 x14 x15 x16 x17 x18 x19 x20 x21 x22 x23 x24 x25 x26 x27 x28 x29 x30 x31 x32 x33 x34 x35 x36 x37 x38 x39 x40 x41 x42 x43 x44 x45 x46 x47 x48 x49 x50 x51 x52 x53 x54 x55 x56 x57 x58 x59 x60 x61 x62 x63 x64 x65 x66 x67 x68 x69 x70 x71 x72 x73 x74 x75 x76 x77 x78 x79 x80 x81 x82 x83 x84 x85 x86 x87 x88 x89 x90 x91 x92 x93 x94 x95 x96 x97 x98 x99 x100 x101 : Value)  : den Tryd.prog (sel (bodyOf Tryd.f125) [1, 1, 1, 1, 1, 0, 1, 0, 1, 1, 1, 1]) (thenD (den Tryd.prog (sel (bodyOf Tryd.f125) [1, 1, 1, 1, 1, 1]) (bodyQ Tryd.prog Tryd.f125.results.toList K E)) (bodyQ Tryd.prog Tryd.f125.results.toList K E)) #[x0, x1, x2, x3, x4, x5, x6, x7, x8, x9, x10, x11, x12, x13, x14, x15, x16, x17, x18, x19, x20, x21, x22, x23, x24, x25, x26, x27, x28, x29, x30, x31, x32, x33, x34, x35, x36, x37, x38, x39, x40, x41, x42, x43, x44, x45, x46, x47, x48, x49, x50, x51, x52, x53, x54, x55, x56, x57, x58, x59, x60, x61, x62, x63, x64, x65, x66, x67, x68, x69, x70, x71, x72, x73, x74, x75, x76, x77, x78, x79, x80, x81, x82, x83, x84, x85, x86, x87, x88, x89, x90, x91, x92, x93, x94, x95, x96, x97, x98, x99, x100, x101] =
  pv (binV .none .sub x13 (.int .i64 1)) fun t1 =>
  pv (ixV (.string ⟨#[48, 49, 50, 51, 52, 53, 54, 55, 56, 57, 97, 98, 99, 100, 101, 102, 103, 104, 105, 106, 107, 108, 109, 110, 111, 112, 113, 114, 115, 116, 117, 118, 119, 120, 121, 122]⟩) x1) fun t2 =>
  pv (iaV (some 65) 1 x12 t1) fun t3 =>
  st 1 t3 t2 fun _ =>
  den Tryd.prog (sel (bodyOf Tryd.f125) [1, 1, 1, 1, 1, 1]) (bodyQ Tryd.prog Tryd.f125.results.toList K E) #[x0, x1, x2, x3, x4, x5, x6, x7, x8, x9, x10, x11, x12, t1, x14, x15, x16, x17, x18, x19, x20, x21, x22, x23, x24, x25, x26, x27, x28, x29, x30, x31, x32, x33, x34, x35, x36, x37, x38, x39, x40, x41, x42, x43, x44, x45, x46, x47, x48, x49, x50, x51, x52, x53, x54, x55, x56, x57, x13, t1, t1, x1, t2, t3, x64, x65, x66, x67, x68, x69, x70, x71, x72, x73, x74, x75, x76, x77, x78, x79, x80, x81, x82, x83, x84, x85, x86, x87, x88, x89, x90, x91, x92, x93, x94, x95, x96, x97, x98, x99, x100, x101] := by kernel_rfl
def m125_1_1_1_1_1_0_1_1_1_0_0_0 (x0 x2 x3 x4 x5 x6 x7 x8 x9 x10 x11 x12 x14 x15 x16 x17 x19 x20 x21 x22 x23 x24 x25 x26 x27 x28 x29 x30 x31 x32 x33 x34 x35 x36 x37 x38 x39 x40 x41 x42 x43 x44 x45 x46 x47 x48 x49 x50 x51 x52 x53 x54 x55 x56 x57 x58 x59 x60 x61 x62 x63 x64 x65 x83 x84 x85 x86 x87 x88 x89 x90 x91 x92 x93 x94 x95 x96 x97 x98 x99 x100 x101 : Value) (v1 v13 : Value) (j : Nat → Value) : Env := #[x0, v1, x2, x3, x4, x5, x6, x7, x8, x9, x10, x11, x12, v13, x14, x15, x16, x17, (j 18), x19, x20, x21, x22, x23, x24, x25, x26, x27, x28, x29, x30, x31, x32, x33, x34, x35, x36, x37, x38, x39, x40, x41, x42, x43, x44, x45, x46, x47, x48, x49, x50, x51, x52, x53, x54, x55, x56, x57, x58, x59, x60, x61, x62, x63, x64, x65, (j 66), (j 67), (j 68), (j 69), (j 70), (j 71), (j 72), (j 73), (j 74), (j 75), (j 76), (j 77), (j 78), (j 79), (j 80), (j 81), (j 82), x83, x84, x85, x86, x87, x88, x89, x90, x91, x92, x93, x94, x95, x96, x97, x98, x99, x100, x101]
theorem t125_1_1_1_1_1_0_1_1_1_0_0_0 (K : Kont) (E : PanK) (k1 : Env → Hp → Prop) (x0 x2 x3 x4 x5 x6 x7 x8 x9 x10 x11 x12 x14 x15 x16 x17 x19 x20 x21 x22 x23 x24 x25 x26 x27 x28 x29 x30 x31 x32 x33 x34 x35 x36 x37 x38 x39 x40 x41 x42 x43 x44 x45 x46 x47 x48 x49 x50 x51 x52 x53 x54 x55 x56 x57 x58 x59 x60 x61 x62 x63 x64 x65 x83 x84 x85 x86 x87 x88 x89 x90 x91 x92 x93 x94 x95 x96 x97 x98 x99 x100 x101 v1 v13 : Value) (j : Nat → Value) : den Tryd.prog (sel (bodyOf Tryd.f125) [1, 1, 1, 1, 1, 0, 1, 1, 1, 0, 0, 0]) (thenD k1 (blk 2 (thenD (den Tryd.prog (sel (bodyOf Tryd.f125) [1, 1, 1, 1, 1, 0, 1, 1, 1, 1]) (thenD (den Tryd.prog (sel (bodyOf Tryd.f125) [1, 1, 1, 1, 1, 1]) (bodyQ Tryd.prog Tryd.f125.results.toList K E)) (bodyQ Tryd.prog Tryd.f125.results.toList K E))) (thenD (den Tryd.prog (sel (bodyOf Tryd.f125) [1, 1, 1, 1, 1, 1]) (bodyQ Tryd.prog Tryd.f125.results.toList K E)) (bodyQ Tryd.prog Tryd.f125.results.toList K E))))) (m125_1_1_1_1_1_0_1_1_1_0_0_0 x0 x2 x3 x4 x5 x6 x7 x8 x9 x10 x11 x12 x14 x15 x16 x17 x19 x20 x21 x22 x23 x24 x25 x26 x27 x28 x29 x30 x31 x32 x33 x34 x35 x36 x37 x38 x39 x40 x41 x42 x43 x44 x45 x46 x47 x48 x49 x50 x51 x52 x53 x54 x55 x56 x57 x58 x59 x60 x61 x62 x63 x64 x65 x83 x84 x85 x86 x87 x88 x89 x90 x91 x92 x93 x94 x95 x96 x97 x98 x99 x100 x101 v1 v13 j) =
  pv (binV .none .geq v1 x17) fun t1 =>
  cnd t1 (
    pv (binV .none .sub v13 (.int .i64 1)) fun t2 =>
    pv (binV .none .quo v1 x17) fun t3 =>
    pv (binV .none .mul t3 x17) fun t4 =>
    pv (binV .none .sub v1 t4) fun t5 =>
    pv (ixV (.string ⟨#[48, 49, 50, 51, 52, 53, 54, 55, 56, 57, 97, 98, 99, 100, 101, 102, 103, 104, 105, 106, 107, 108, 109, 110, 111, 112, 113, 114, 115, 116, 117, 118, 119, 120, 121, 122]⟩) t5) fun t6 =>
    pv (iaV (some 65) 1 x12 t2) fun t7 =>
    st 1 t7 t6 fun _ =>
    k1 (m125_1_1_1_1_1_0_1_1_1_0_0_0 x0 x2 x3 x4 x5 x6 x7 x8 x9 x10 x11 x12 x14 x15 x16 x17 x19 x20 x21 x22 x23 x24 x25 x26 x27 x28 x29 x30 x31 x32 x33 x34 x35 x36 x37 x38 x39 x40 x41 x42 x43 x44 x45 x46 x47 x48 x49 x50 x51 x52 x53 x54 x55 x56 x57 x58 x59 x60 x61 x62 x63 x64 x65 x83 x84 x85 x86 x87 x88 x89 x90 x91 x92 x93 x94 x95 x96 x97 x98 x99 x100 x101 t3 t2 (jf #[x0, t3, x2, x3, x4, x5, x6, x7, x8, x9, x10, x11, x12, t2, x14, x15, x16, x17, t3, x19, x20, x21, x22, x23, x24, x25, x26, x27, x28, x29, x30, x31, x32, x33, x34, x35, x36, x37, x38, x39, x40, x41, x42, x43, x44, x45, x46, x47, x48, x49, x50, x51, x52, x53, x54, x55, x56, x57, x58, x59, x60, x61, x62, x63, x64, x65, v1, x17, t1, v13, t2, v1, x17, t3, t2, v1, t3, x17, t4, t5, t6, t7, t3, x83, x84, x85, x86, x87, x88, x89, x90, x91, x92, x93, x94, x95, x96, x97, x98, x99, x100, x101]))) (
    den Tryd.prog (sel (bodyOf Tryd.f125) [1, 1, 1, 1, 1, 0, 1, 1, 1, 1]) (thenD (den Tryd.prog (sel (bodyOf Tryd.f125) [1, 1, 1, 1, 1, 1]) (bodyQ Tryd.prog Tryd.f125.results.toList K E)) (bodyQ Tryd.prog Tryd.f125.results.toList K E)) #[x0, v1, x2, x3, x4, x5, x6, x7, x8, x9, x10, x11, x12, v13, x14, x15, x16, x17, (j 18), x19, x20, x21, x22, x23, x24, x25, x26, x27, x28, x29, x30, x31, x32, x33, x34, x35, x36, x37, x38, x39, x40, x41, x42, x43, x44, x45, x46, x47, x48, x49, x50, x51, x52, x53, x54, x55, x56, x57, x58, x59, x60, x61, x62, x63, x64, x65, v1, x17, t1, (j 69), (j 70), (j 71), (j 72), (j 73), (j 74), (j 75), (j 76), (j 77), (j 78), (j 79), (j 80), (j 81), (j 82), x83, x84, x85, x86, x87, x88, x89, x90, x91, x92, x93, x94, x95, x96, x97, x98, x99, x100, x101]) := by kernel_rfl
theorem t125_1_1_1_1_1_0_1_1_1_1 (K : Kont) (E : PanK) (x0 x1 x2 x3 x4 x5 x6 x7 x8 x9 x10 x11 x12 x13 x14 x15 x16 x17 x18 x19 x20 x21 x22 x23 x24 x25 x26 x27 x28 x29 x30 x31 x32 x33 x34 x35 x36 x37 x38 x39 x40 x41 x42 x43 x44 x45 x46 x47 x48 x49 x50 x51 x52 x53 x54 x55 x56 x57 x58 x59 x60 x61 x62 x63 x64 x65 x66 x67 x68 x69 x70 x71 x72 x73 x74 x75 x76 x77 x78 x79 x80 x81 x82 x83 x84 x85 x86 x87 x88 x89 x90 x91 x92 x93 x94 x95 x96 x97 x98 x99 x100 x101 : Value)  : den Tryd.prog (sel (bodyOf Tryd.f125) [1, 1, 1, 1, 1, 0, 1, 1, 1, 1]) (thenD (den Tryd.prog (sel (bodyOf Tryd.f125) [1, 1, 1, 1, 1, 1]) (bodyQ Tryd.prog Tryd.f125.results.toList K E)) (bodyQ Tryd.prog Tryd.f125.results.toList K E)) #[x0, x1, x2, x3, x4, x5, x6, x7, x8, x9, x10, x11, x12, x13, x14, x15, x16, x17, x18, x19, x20, x21, x22, x23, x24, x25, x26, x27, x28, x29, x30, x31, x32, x33, x34, x35, x36, x37, x38, x39, x40, x41, x42, x43, x44, x45, x46, x47, x48, x49, x50, x51, x52, x53, x54, x55, x56, x57, x58, x59, x60, x61, x62, x63, x64, x65, x66, x67, x68, x69, x70, x71, x72, x73, x74, x75, x76, x77, x78, x79, x80, x81, x82, x83, x84, x85, x86, x87, x88, x89, x90, x91, x92, x93, x94, x95, x96, x97, x98, x99, x100, x101] =
  pv (binV .none .sub x13 (.int .i64 1)) fun t1 =>
  pv (ixV (.string ⟨#[48, 49, 50, 51, 52, 53, 54, 55, 56, 57, 97, 98, 99, 100, 101, 102, 103, 104, 105, 106, 107, 108, 109, 110, 111, 112, 113, 114, 115, 116, 117, 118, 119, 120, 121, 122]⟩) x1) fun t2 =>
  pv (iaV (some 65) 1 x12 t1) fun t3 =>
  st 1 t3 t2 fun _ =>
  den Tryd.prog (sel (bodyOf Tryd.f125) [1, 1, 1, 1, 1, 1]) (bodyQ Tryd.prog Tryd.f125.results.toList K E) #[x0, x1, x2, x3, x4, x5, x6, x7, x8, x9, x10, x11, x12, t1, x14, x15, x16, x17, x18, x19, x20, x21, x22, x23, x24, x25, x26, x27, x28, x29, x30, x31, x32, x33, x34, x35, x36, x37, x38, x39, x40, x41, x42, x43, x44, x45, x46, x47, x48, x49, x50, x51, x52, x53, x54, x55, x56, x57, x58, x59, x60, x61, x62, x63, x64, x65, x66, x67, x68, x69, x70, x71, x72, x73, x74, x75, x76, x77, x78, x79, x80, x81, x82, x13, t1, t1, x1, t2, t3, x89, x90, x91, x92, x93, x94, x95, x96, x97, x98, x99, x100, x101] := by kernel_rfl
theorem t125_1_1_1_1_1_1 (K : Kont) (E : PanK) (x0 x1 x2 x3 x4 x5 x6 x7 x8 x9 x10 x11 x12 x13 x14 x15 x16 x17 x18 x19 x20 x21 x22 x23 x24 x25 x26 x27 x28 x29 x30 x31 x32 x33 x34 x35 x36 x37 x38 x39 x40 x41 x42 x43 x44 x45 x46 x47 x48 x49 x50 x51 x52 x53 x54 x55 x56 x57 x58 x59 x60 x61 x62 x63 x64 x65 x66 x67 x68 x69 x70 x71 x72 x73 x74 x75 x76 x77 x78 x79 x80 x81 x82 x83 x84 x85 x86 x87 x88 x89 x90 x91 x92 x93 x94 x95 x96 x97 x98 x99 x100 x101 : Value)  : den Tryd.prog (sel (bodyOf Tryd.f125) [1, 1, 1, 1, 1, 1]) (bodyQ Tryd.prog Tryd.f125.results.toList K E) #[x0, x1, x2, x3, x4, x5, x6, x7, x8, x9, x10, x11, x12, x13, x14, x15, x16, x17, x18, x19, x20, x21, x22, x23, x24, x25, x26, x27, x28, x29, x30, x31, x32, x33, x34, x35, x36, x37, x38, x39, x40, x41, x42, x43, x44, x45, x46, x47, x48, x49, x50, x51, x52, x53, x54, x55, x56, x57, x58, x59, x60, x61, x62, x63, x64, x65, x66, x67, x68, x69, x70, x71, x72, x73, x74, x75, x76, x77, x78, x79, x80, x81, x82, x83, x84, x85, x86, x87, x88, x89, x90, x91, x92, x93, x94, x95, x96, x97, x98, x99, x100, x101] =
  cnd x3 (
    pv (binV .none .sub x13 (.int .i64 1)) fun t1 =>
    pv (iaV (some 65) 1 x12 t1) fun t2 =>
    st 1 t2 (.int .u8 45) fun _ =>
    den Tryd.prog (sel (bodyOf Tryd.f125) [1, 1, 1, 1, 1, 1, 1]) (bodyQ Tryd.prog Tryd.f125.results.toList K E) #[x0, x1, x2, x3, x4, x5, x6, x7, x8, x9, x10, x11, x12, t1, x14, x15, x16, x17, x18, x19, x20, x21, x22, x23, x24, x25, x26, x27, x28, x29, x30, x31, x32, x33, x34, x35, x36, x37, x38, x39, x40, x41, x42, x43, x44, x45, x46, x47, x48, x49, x50, x51, x52, x53, x54, x55, x56, x57, x58, x59, x60, x61, x62, x63, x64, x65, x66, x67, x68, x69, x70, x71, x72, x73, x74, x75, x76, x77, x78, x79, x80, x81, x82, x83, x84, x85, x86, x87, x88, x3, x13, t1, t1, t2, x94, x95, x96, x97, x98, x99, x100, x101]) (
    den Tryd.prog (sel (bodyOf Tryd.f125) [1, 1, 1, 1, 1, 1, 1]) (bodyQ Tryd.prog Tryd.f125.results.toList K E) #[x0, x1, x2, x3, x4, x5, x6, x7, x8, x9, x10, x11, x12, x13, x14, x15, x16, x17, x18, x19, x20, x21, x22, x23, x24, x25, x26, x27, x28, x29, x30, x31, x32, x33, x34, x35, x36, x37, x38, x39, x40, x41, x42, x43, x44, x45, x46, x47, x48, x49, x50, x51, x52, x53, x54, x55, x56, x57, x58, x59, x60, x61, x62, x63, x64, x65, x66, x67, x68, x69, x70, x71, x72, x73, x74, x75, x76, x77, x78, x79, x80, x81, x82, x83, x84, x85, x86, x87, x88, x3, x90, x91, x92, x93, x94, x95, x96, x97, x98, x99, x100, x101]) := by kernel_rfl
theorem t125_1_1_1_1_1_1_1 (K : Kont) (E : PanK) (x0 x1 x2 x3 x4 x5 x6 x7 x8 x9 x10 x11 x12 x13 x14 x15 x16 x17 x18 x19 x20 x21 x22 x23 x24 x25 x26 x27 x28 x29 x30 x31 x32 x33 x34 x35 x36 x37 x38 x39 x40 x41 x42 x43 x44 x45 x46 x47 x48 x49 x50 x51 x52 x53 x54 x55 x56 x57 x58 x59 x60 x61 x62 x63 x64 x65 x66 x67 x68 x69 x70 x71 x72 x73 x74 x75 x76 x77 x78 x79 x80 x81 x82 x83 x84 x85 x86 x87 x88 x89 x90 x91 x92 x93 x94 x95 x96 x97 x98 x99 x100 x101 : Value)  : den Tryd.prog (sel (bodyOf Tryd.f125) [1, 1, 1, 1, 1, 1, 1]) (bodyQ Tryd.prog Tryd.f125.results.toList K E) #[x0, x1, x2, x3, x4, x5, x6, x7, x8, x9, x10, x11, x12, x13, x14, x15, x16, x17, x18, x19, x20, x21, x22, x23, x24, x25, x26, x27, x28, x29, x30, x31, x32, x33, x34, x35, x36, x37, x38, x39, x40, x41, x42, x43, x44, x45, x46, x47, x48, x49, x50, x51, x52, x53, x54, x55, x56, x57, x58, x59, x60, x61, x62, x63, x64, x65, x66, x67, x68, x69, x70, x71, x72, x73, x74, x75, x76, x77, x78, x79, x80, x81, x82, x83, x84, x85, x86, x87, x88, x89, x90, x91, x92, x93, x94, x95, x96, x97, x98, x99, x100, x101] =
  cnd x4 (
    pv (slV 1 (arrS 65 x12) (some x13) none none) fun t1 =>
    appX 5 1 1 x0 t1 fun t2 =>
    K (.tuple #[t2, x11])) (
    pv (slV 1 (arrS 65 x12) (some x13) none none) fun t3 =>
    bs t3 fun t4 =>
    K (.tuple #[x10, t4])) := by kernel_rfl
theorem l125_1_1_1_1_1_0_1_0_1_1_1_0_0_0 {K : Kont} {E : PanK} {σ : Type} {x0 x2 x3 x4 x5 x6 x7 x8 x9 x10 x11 x12 x14 x15 x16 x17 x18 x19 x20 x21 x22 x23 x24 x25 x26 x27 x28 x29 x30 x31 x32 x33 x34 x35 x36 x37 x38 x39 x40 x41 x42 x43 x58 x59 x60 x61 x62 x63 x64 x65 x66 x67 x68 x69 x70 x71 x72 x73 x74 x75 x76 x77 x78 x79 x80 x81 x82 x83 x84 x85 x86 x87 x88 x89 x90 x91 x92 x93 x94 x95 x96 x97 x98 x99 x100 x101 v1 v13 y44 y45 y46 y47 y48 y49 y50 y51 y52 y53 y54 y55 y56 y57 : Value} {h : Hp} (f1 f13 : σ → Value) (I : σ → Hp → Prop) (μ : σ → Nat) (s0 : σ) (e1 : v1 = f1 s0) (e13 : v13 = f13 s0) (h0 : h.wf → ∃ h', h.wk h' ∧ I s0 h')
  (round : ∀ (k1 : Env → Hp → Prop) (s : σ) (j : Nat → Value) (h : Hp), I s h → h.wf → (∀ s' j' h', μ s' < μ s → (h'.wf → ∃ h'', h'.wk h'' ∧ I s' h'') → k1 (m125_1_1_1_1_1_0_1_0_1_1_1_0_0_0 x0 x2 x3 x4 x5 x6 x7 x8 x9 x10 x11 x12 x14 x15 x16 x17 x18 x19 x20 x21 x22 x23 x24 x25 x26 x27 x28 x29 x30 x31 x32 x33 x34 x35 x36 x37 x38 x39 x40 x41 x42 x43 x58 x59 x60 x61 x62 x63 x64 x65 x66 x67 x68 x69 x70 x71 x72 x73 x74 x75 x76 x77 x78 x79 x80 x81 x82 x83 x84 x85 x86 x87 x88 x89 x90 x91 x92 x93 x94 x95 x96 x97 x98 x99 x100 x101 (f1 s') (f13 s') j') h') → (
  pv (binV .none .geq (f1 s) x15) fun t1 =>
  cnd t1 (
    pv (binV .none .sub (f13 s) (.int .i64 1)) fun t2 =>
    pv (binV .none .and (f1 s) x16) fun t3 =>
    pv (ixV (.string ⟨#[48, 49, 50, 51, 52, 53, 54, 55, 56, 57, 97, 98, 99, 100, 101, 102, 103, 104, 105, 106, 107, 108, 109, 110, 111, 112, 113, 114, 115, 116, 117, 118, 119, 120, 121, 122]⟩) t3) fun t4 =>
    pv (iaV (some 65) 1 x12 t2) fun t5 =>
    st 1 t5 t4 fun _ =>
    pv (binV .none .shr (f1 s) x14) fun t6 =>
    k1 (m125_1_1_1_1_1_0_1_0_1_1_1_0_0_0 x0 x2 x3 x4 x5 x6 x7 x8 x9 x10 x11 x12 x14 x15 x16 x17 x18 x19 x20 x21 x22 x23 x24 x25 x26 x27 x28 x29 x30 x31 x32 x33 x34 x35 x36 x37 x38 x39 x40 x41 x42 x43 x58 x59 x60 x61 x62 x63 x64 x65 x66 x67 x68 x69 x70 x71 x72 x73 x74 x75 x76 x77 x78 x79 x80 x81 x82 x83 x84 x85 x86 x87 x88 x89 x90 x91 x92 x93 x94 x95 x96 x97 x98 x99 x100 x101 t6 t2 (jf #[x0, t6, x2, x3, x4, x5, x6, x7, x8, x9, x10, x11, x12, t2, x14, x15, x16, x17, x18, x19, x20, x21, x22, x23, x24, x25, x26, x27, x28, x29, x30, x31, x32, x33, x34, x35, x36, x37, x38, x39, x40, x41, x42, x43, (f1 s), x15, t1, (f13 s), t2, t2, (f1 s), x16, t3, t4, t5, (f1 s), x14, t6, x58, x59, x60, x61, x62, x63, x64, x65, x66, x67, x68, x69, x70, x71, x72, x73, x74, x75, x76, x77, x78, x79, x80, x81, x82, x83, x84, x85, x86, x87, x88, x89, x90, x91, x92, x93, x94, x95, x96, x97, x98, x99, x100, x101]))) (
    den Tryd.prog (sel (bodyOf Tryd.f125) [1, 1, 1, 1, 1, 0, 1, 0, 1, 1, 1, 1]) (thenD (den Tryd.prog (sel (bodyOf Tryd.f125) [1, 1, 1, 1, 1, 1]) (bodyQ Tryd.prog Tryd.f125.results.toList K E)) (bodyQ Tryd.prog Tryd.f125.results.toList K E)) #[x0, (f1 s), x2, x3, x4, x5, x6, x7, x8, x9, x10, x11, x12, (f13 s), x14, x15, x16, x17, x18, x19, x20, x21, x22, x23, x24, x25, x26, x27, x28, x29, x30, x31, x32, x33, x34, x35, x36, x37, x38, x39, x40, x41, x42, x43, (f1 s), x15, t1, (j 47), (j 48), (j 49), (j 50), (j 51), (j 52), (j 53), (j 54), (j 55), (j 56), (j 57), x58, x59, x60, x61, x62, x63, x64, x65, x66, x67, x68, x69, x70, x71, x72, x73, x74, x75, x76, x77, x78, x79, x80, x81, x82, x83, x84, x85, x86, x87, x88, x89, x90, x91, x92, x93, x94, x95, x96, x97, x98, x99, x100, x101])) h) :
  lp (fun k1 => den Tryd.prog (sel (bodyOf Tryd.f125) [1, 1, 1, 1, 1, 0, 1, 0, 1, 1, 1, 0, 0, 0]) (thenD k1 (blk 0 (thenD (den Tryd.prog (sel (bodyOf Tryd.f125) [1, 1, 1, 1, 1, 0, 1, 0, 1, 1, 1, 1]) (thenD (den Tryd.prog (sel (bodyOf Tryd.f125) [1, 1, 1, 1, 1, 1]) (bodyQ Tryd.prog Tryd.f125.results.toList K E)) (bodyQ Tryd.prog Tryd.f125.results.toList K E))) (thenD (den Tryd.prog (sel (bodyOf Tryd.f125) [1, 1, 1, 1, 1, 1]) (bodyQ Tryd.prog Tryd.f125.results.toList K E)) (bodyQ Tryd.prog Tryd.f125.results.toList K E)))))) #[x0, v1, x2, x3, x4, x5, x6, x7, x8, x9, x10, x11, x12, v13, x14, x15, x16, x17, x18, x19, x20, x21, x22, x23, x24, x25, x26, x27, x28, x29, x30, x31, x32, x33, x34, x35, x36, x37, x38, x39, x40, x41, x42, x43, y44, y45, y46, y47, y48, y49, y50, y51, y52, y53, y54, y55, y56, y57, x58, x59, x60, x61, x62, x63, x64, x65, x66, x67, x68, x69, x70, x71, x72, x73, x74, x75, x76, x77, x78, x79, x80, x81, x82, x83, x84, x85, x86, x87, x88, x89, x90, x91, x92, x93, x94, x95, x96, x97, x98, x99, x100, x101] h := by
  subst e1
  subst e13
  have e : (#[x0, (f1 s0), x2, x3, x4, x5, x6, x7, x8, x9, x10, x11, x12, (f13 s0), x14, x15, x16, x17, x18, x19, x20, x21, x22, x23, x24, x25, x26, x27, x28, x29, x30, x31, x32, x33, x34, x35, x36, x37, x38, x39, x40, x41, x42, x43, y44, y45, y46, y47, y48, y49, y50, y51, y52, y53, y54, y55, y56, y57, x58, x59, x60, x61, x62, x63, x64, x65, x66, x67, x68, x69, x70, x71, x72, x73, x74, x75, x76, x77, x78, x79, x80, x81, x82, x83, x84, x85, x86, x87, x88, x89, x90, x91, x92, x93, x94, x95, x96, x97, x98, x99, x100, x101] : Env) = m125_1_1_1_1_1_0_1_0_1_1_1_0_0_0 x0 x2 x3 x4 x5 x6 x7 x8 x9 x10 x11 x12 x14 x15 x16 x17 x18 x19 x20 x21 x22 x23 x24 x25 x26 x27 x28 x29 x30 x31 x32 x33 x34 x35 x36 x37 x38 x39 x40 x41 x42 x43 x58 x59 x60 x61 x62 x63 x64 x65 x66 x67 x68 x69 x70 x71 x72 x73 x74 x75 x76 x77 x78 x79 x80 x81 x82 x83 x84 x85 x86 x87 x88 x89 x90 x91 x92 x93 x94 x95 x96 x97 x98 x99 x100 x101 (f1 s0) (f13 s0) (jf #[x0, (f1 s0), x2, x3, x4, x5, x6, x7, x8, x9, x10, x11, x12, (f13 s0), x14, x15, x16, x17, x18, x19, x20, x21, x22, x23, x24, x25, x26, x27, x28, x29, x30, x31, x32, x33, x34, x35, x36, x37, x38, x39, x40, x41, x42, x43, y44, y45, y46, y47, y48, y49, y50, y51, y52, y53, y54, y55, y56, y57, x58, x59, x60, x61, x62, x63, x64, x65, x66, x67, x68, x69, x70, x71, x72, x73, x74, x75, x76, x77, x78, x79, x80, x81, x82, x83, x84, x85, x86, x87, x88, x89, x90, x91, x92, x93, x94, x95, x96, x97, x98, x99, x100, x101]) := by kernel_rfl
  rw [e]
  exact loop_r (fun s j => m125_1_1_1_1_1_0_1_0_1_1_1_0_0_0 x0 x2 x3 x4 x5 x6 x7 x8 x9 x10 x11 x12 x14 x15 x16 x17 x18 x19 x20 x21 x22 x23 x24 x25 x26 x27 x28 x29 x30 x31 x32 x33 x34 x35 x36 x37 x38 x39 x40 x41 x42 x43 x58 x59 x60 x61 x62 x63 x64 x65 x66 x67 x68 x69 x70 x71 x72 x73 x74 x75 x76 x77 x78 x79 x80 x81 x82 x83 x84 x85 x86 x87 x88 x89 x90 x91 x92 x93 x94 x95 x96 x97 x98 x99 x100 x101 (f1 s) (f13 s) j) I μ (fun k s j h hI hw next => by rw [t125_1_1_1_1_1_0_1_0_1_1_1_0_0_0]; exact round k s j h hI hw next) s0 (jf #[x0, (f1 s0), x2, x3, x4, x5, x6, x7, x8, x9, x10, x11, x12, (f13 s0), x14, x15, x16, x17, x18, x19, x20, x21, x22, x23, x24, x25, x26, x27, x28, x29, x30, x31, x32, x33, x34, x35, x36, x37, x38, x39, x40, x41, x42, x43, y44, y45, y46, y47, y48, y49, y50, y51, y52, y53, y54, y55, y56, y57, x58, x59, x60, x61, x62, x63, x64, x65, x66, x67, x68, x69, x70, x71, x72, x73, x74, x75, x76, x77, x78, x79, x80, x81, x82, x83, x84, x85, x86, x87, x88, x89, x90, x91, x92, x93, x94, x95, x96, x97, x98, x99, x100, x101]) h0
theorem l125_1_1_1_1_1_0_1_1_1_0_0_0 {K : Kont} {E : PanK} {σ : Type} {x0 x2 x3 x4 x5 x6 x7 x8 x9 x10 x11 x12 x14 x15 x16 x17 x19 x20 x21 x22 x23 x24 x25 x26 x27 x28 x29 x30 x31 x32 x33 x34 x35 x36 x37 x38 x39 x40 x41 x42 x43 x44 x45 x46 x47 x48 x49 x50 x51 x52 x53 x54 x55 x56 x57 x58 x59 x60 x61 x62 x63 x64 x65 x83 x84 x85 x86 x87 x88 x89 x90 x91 x92 x93 x94 x95 x96 x97 x98 x99 x100 x101 v1 v13 y18 y66 y67 y68 y69 y70 y71 y72 y73 y74 y75 y76 y77 y78 y79 y80 y81 y82 : Value} {h : Hp} (f1 f13 : σ → Value) (I : σ → Hp → Prop) (μ : σ → Nat) (s0 : σ) (e1 : v1 = f1 s0) (e13 : v13 = f13 s0) (h0 : h.wf → ∃ h', h.wk h' ∧ I s0 h')
  (round : ∀ (k1 : Env → Hp → Prop) (s : σ) (j : Nat → Value) (h : Hp), I s h → h.wf → (∀ s' j' h', μ s' < μ s → (h'.wf → ∃ h'', h'.wk h'' ∧ I s' h'') → k1 (m125_1_1_1_1_1_0_1_1_1_0_0_0 x0 x2 x3 x4 x5 x6 x7 x8 x9 x10 x11 x12 x14 x15 x16 x17 x19 x20 x21 x22 x23 x24 x25 x26 x27 x28 x29 x30 x31 x32 x33 x34 x35 x36 x37 x38 x39 x40 x41 x42 x43 x44 x45 x46 x47 x48 x49 x50 x51 x52 x53 x54 x55 x56 x57 x58 x59 x60 x61 x62 x63 x64 x65 x83 x84 x85 x86 x87 x88 x89 x90 x91 x92 x93 x94 x95 x96 x97 x98 x99 x100 x101 (f1 s') (f13 s') j') h') → (
  pv (binV .none .geq (f1 s) x17) fun t1 =>
  cnd t1 (
    pv (binV .none .sub (f13 s) (.int .i64 1)) fun t2 =>
    pv (binV .none .quo (f1 s) x17) fun t3 =>
    pv (binV .none .mul t3 x17) fun t4 =>
    pv (binV .none .sub (f1 s) t4) fun t5 =>
    pv (ixV (.string ⟨#[48, 49, 50, 51, 52, 53, 54, 55, 56, 57, 97, 98, 99, 100, 101, 102, 103, 104, 105, 106, 107, 108, 109, 110, 111, 112, 113, 114, 115, 116, 117, 118, 119, 120, 121, 122]⟩) t5) fun t6 =>
    pv (iaV (some 65) 1 x12 t2) fun t7 =>
    st 1 t7 t6 fun _ =>
    k1 (m125_1_1_1_1_1_0_1_1_1_0_0_0 x0 x2 x3 x4 x5 x6 x7 x8 x9 x10 x11 x12 x14 x15 x16 x17 x19 x20 x21 x22 x23 x24 x25 x26 x27 x28 x29 x30 x31 x32 x33 x34 x35 x36 x37 x38 x39 x40 x41 x42 x43 x44 x45 x46 x47 x48 x49 x50 x51 x52 x53 x54 x55 x56 x57 x58 x59 x60 x61 x62 x63 x64 x65 x83 x84 x85 x86 x87 x88 x89 x90 x91 x92 x93 x94 x95 x96 x97 x98 x99 x100 x101 t3 t2 (jf #[x0, t3, x2, x3, x4, x5, x6, x7, x8, x9, x10, x11, x12, t2, x14, x15, x16, x17, t3, x19, x20, x21, x22, x23, x24, x25, x26, x27, x28, x29, x30, x31, x32, x33, x34, x35, x36, x37, x38, x39, x40, x41, x42, x43, x44, x45, x46, x47, x48, x49, x50, x51, x52, x53, x54, x55, x56, x57, x58, x59, x60, x61, x62, x63, x64, x65, (f1 s), x17, t1, (f13 s), t2, (f1 s), x17, t3, t2, (f1 s), t3, x17, t4, t5, t6, t7, t3, x83, x84, x85, x86, x87, x88, x89, x90, x91, x92, x93, x94, x95, x96, x97, x98, x99, x100, x101]))) (
    den Tryd.prog (sel (bodyOf Tryd.f125) [1, 1, 1, 1, 1, 0, 1, 1, 1, 1]) (thenD (den Tryd.prog (sel (bodyOf Tryd.f125) [1, 1, 1, 1, 1, 1]) (bodyQ Tryd.prog Tryd.f125.results.toList K E)) (bodyQ Tryd.prog Tryd.f125.results.toList K E)) #[x0, (f1 s), x2, x3, x4, x5, x6, x7, x8, x9, x10, x11, x12, (f13 s), x14, x15, x16, x17, (j 18), x19, x20, x21, x22, x23, x24, x25, x26, x27, x28, x29, x30, x31, x32, x33, x34, x35, x36, x37, x38, x39, x40, x41, x42, x43, x44, x45, x46, x47, x48, x49, x50, x51, x52, x53, x54, x55, x56, x57, x58, x59, x60, x61, x62, x63, x64, x65, (f1 s), x17, t1, (j 69), (j 70), (j 71), (j 72), (j 73), (j 74), (j 75), (j 76), (j 77), (j 78), (j 79), (j 80), (j 81), (j 82), x83, x84, x85, x86, x87, x88, x89, x90, x91, x92, x93, x94, x95, x96, x97, x98, x99, x100, x101])) h) :
  lp (fun k1 => den Tryd.prog (sel (bodyOf Tryd.f125) [1, 1, 1, 1, 1, 0, 1, 1, 1, 0, 0, 0]) (thenD k1 (blk 2 (thenD (den Tryd.prog (sel (bodyOf Tryd.f125) [1, 1, 1, 1, 1, 0, 1, 1, 1, 1]) (thenD (den Tryd.prog (sel (bodyOf Tryd.f125) [1, 1, 1, 1, 1, 1]) (bodyQ Tryd.prog Tryd.f125.results.toList K E)) (bodyQ Tryd.prog Tryd.f125.results.toList K E))) (thenD (den Tryd.prog (sel (bodyOf Tryd.f125) [1, 1, 1, 1, 1, 1]) (bodyQ Tryd.prog Tryd.f125.results.toList K E)) (bodyQ Tryd.prog Tryd.f125.results.toList K E)))))) #[x0, v1, x2, x3, x4, x5, x6, x7, x8, x9, x10, x11, x12, v13, x14, x15, x16, x17, y18, x19, x20, x21, x22, x23, x24, x25, x26, x27, x28, x29, x30, x31, x32, x33, x34, x35, x36, x37, x38, x39, x40, x41, x42, x43, x44, x45, x46, x47, x48, x49, x50, x51, x52, x53, x54, x55, x56, x57, x58, x59, x60, x61, x62, x63, x64, x65, y66, y67, y68, y69, y70, y71, y72, y73, y74, y75, y76, y77, y78, y79, y80, y81, y82, x83, x84, x85, x86, x87, x88, x89, x90, x91, x92, x93, x94, x95, x96, x97, x98, x99, x100, x101] h := by
  subst e1
  subst e13
  have e : (#[x0, (f1 s0), x2, x3, x4, x5, x6, x7, x8, x9, x10, x11, x12, (f13 s0), x14, x15, x16, x17, y18, x19, x20, x21, x22, x23, x24, x25, x26, x27, x28, x29, x30, x31, x32, x33, x34, x35, x36, x37, x38, x39, x40, x41, x42, x43, x44, x45, x46, x47, x48, x49, x50, x51, x52, x53, x54, x55, x56, x57, x58, x59, x60, x61, x62, x63, x64, x65, y66, y67, y68, y69, y70, y71, y72, y73, y74, y75, y76, y77, y78, y79, y80, y81, y82, x83, x84, x85, x86, x87, x88, x89, x90, x91, x92, x93, x94, x95, x96, x97, x98, x99, x100, x101] : Env) = m125_1_1_1_1_1_0_1_1_1_0_0_0 x0 x2 x3 x4 x5 x6 x7 x8 x9 x10 x11 x12 x14 x15 x16 x17 x19 x20 x21 x22 x23 x24 x25 x26 x27 x28 x29 x30 x31 x32 x33 x34 x35 x36 x37 x38 x39 x40 x41 x42 x43 x44 x45 x46 x47 x48 x49 x50 x51 x52 x53 x54 x55 x56 x57 x58 x59 x60 x61 x62 x63 x64 x65 x83 x84 x85 x86 x87 x88 x89 x90 x91 x92 x93 x94 x95 x96 x97 x98 x99 x100 x101 (f1 s0) (f13 s0) (jf #[x0, (f1 s0), x2, x3, x4, x5, x6, x7, x8, x9, x10, x11, x12, (f13 s0), x14, x15, x16, x17, y18, x19, x20, x21, x22, x23, x24, x25, x26, x27, x28, x29, x30, x31, x32, x33, x34, x35, x36, x37, x38, x39, x40, x41, x42, x43, x44, x45, x46, x47, x48, x49, x50, x51, x52, x53, x54, x55, x56, x57, x58, x59, x60, x61, x62, x63, x64, x65, y66, y67, y68, y69, y70, y71, y72, y73, y74, y75, y76, y77, y78, y79, y80, y81, y82, x83, x84, x85, x86, x87, x88, x89, x90, x91, x92, x93, x94, x95, x96, x97, x98, x99, x100, x101]) := by kernel_rfl
  rw [e]
  exact loop_r (fun s j => m125_1_1_1_1_1_0_1_1_1_0_0_0 x0 x2 x3 x4 x5 x6 x7 x8 x9 x10 x11 x12 x14 x15 x16 x17 x19 x20 x21 x22 x23 x24 x25 x26 x27 x28 x29 x30 x31 x32 x33 x34 x35 x36 x37 x38 x39 x40 x41 x42 x43 x44 x45 x46 x47 x48 x49 x50 x51 x52 x53 x54 x55 x56 x57 x58 x59 x60 x61 x62 x63 x64 x65 x83 x84 x85 x86 x87 x88 x89 x90 x91 x92 x93 x94 x95 x96 x97 x98 x99 x100 x101 (f1 s) (f13 s) j) I μ (fun k s j h hI hw next => by rw [t125_1_1_1_1_1_0_1_1_1_0_0_0]; exact round k s j h hI hw next) s0 (jf #[x0, (f1 s0), x2, x3, x4, x5, x6, x7, x8, x9, x10, x11, x12, (f13 s0), x14, x15, x16, x17, y18, x19, x20, x21, x22, x23, x24, x25, x26, x27, x28, x29, x30, x31, x32, x33, x34, x35, x36, x37, x38, x39, x40, x41, x42, x43, x44, x45, x46, x47, x48, x49, x50, x51, x52, x53, x54, x55, x56, x57, x58, x59, x60, x61, x62, x63, x64, x65, y66, y67, y68, y69, y70, y71, y72, y73, y74, y75, y76, y77, y78, y79, y80, y81, y82, x83, x84, x85, x86, x87, x88, x89, x90, x91, x92, x93, x94, x95, x96, x97, x98, x99, x100, x101]) h0

theorem t128 (K : Kont) (E : PanK) (x0 : Value)  : den Tryd.prog (sel (bodyOf Tryd.f128) []) (bodyQ Tryd.prog Tryd.f128.results.toList K E) #[x0, undef, undef, undef] =
  cnd x0 (
    K (.int .i64 1)) (
    K (.int .i64 0)) := by kernel_rfl

theorem t129 (K : Kont) (E : PanK) (x0 : Value)  : den Tryd.prog (sel (bodyOf Tryd.f129) []) (bodyQ Tryd.prog Tryd.f129.results.toList K E) #[x0, undef, undef, undef, undef, undef, undef, undef] =
  pv (binV .none .sub x0 (.int .i64 1)) fun t1 =>
  pv (binV .none .and x0 t1) fun t2 =>
  pv (binV .none .eql t2 (.int .i64 0)) fun t3 =>
  K t3 := by kernel_rfl

end Go.Proofs.YthpacapdaembpaaDoor.T
