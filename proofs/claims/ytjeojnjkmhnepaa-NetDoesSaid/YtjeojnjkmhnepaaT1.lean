import Derived.Test.YtjeojnjkmhnepaaProg
import Derived.Test.YtjeojnjkmhnepaaK16
open Go Go.RowKit Go.Proofs.Ytjeojnjkmhnepaa.K
set_option linter.unusedVariables false
set_option maxRecDepth 100000
namespace Go.Proofs.Ytjeojnjkmhnepaa.T
theorem t30 (K : Kont) (E : PanK)  : den Try.prog (sel (bodyOf Try.f30) []) (bodyQ Try.prog Try.f30.results.toList K E) #[undef, undef, undef] =
  pv (bdC #[(.slice none 0 0)] [(0, 1)] #[]) fun t1 =>
  nw 87 (Value.cells t1).toList fun t2 =>
  K t2 := by kernel_rfl

theorem t31 (K : Kont) (E : PanK)  : den Try.prog (sel (bodyOf Try.f31) []) (bodyQ Try.prog Try.f31.results.toList K E) #[undef, undef, undef, undef, undef, undef, undef, undef, undef, undef, undef, undef, undef, undef, undef, undef, undef, undef, undef, undef, undef, undef, undef, undef, undef, undef, undef, undef, undef, undef, undef, undef, undef, undef, undef, undef, undef, undef, undef, undef, undef, undef, undef, undef, undef, undef, undef, undef, undef, undef, undef, undef, undef, undef, undef, undef, undef, undef, undef, undef, undef, undef, undef] =
  callv Try.prog (.func (.func 30) #[] #[]) #[] (fun t1 =>
  pv (binV .ptr .eql t1 (.pointer none)) fun t2 =>
  cnd t2 (
    K (.bool false)) (
    nws 5 1 (bsC #[(.int .u8 0)] 1 1 #[(0, (.int .u8 97))]) fun t3 =>
    mk t3 fun t4 =>
    pv (bdC #[(.int .i64 0), (.int .i64 0), (.slice none 0 0)] [(0, 1), (1, 1), (2, 1)] #[(0, (.int .i64 1)), (2, t4)]) fun t5 =>
    callv Try.prog (.func (.func 32) #[] #[]) #[t1, t5] (fun t6 =>
    nws 5 1 (bsC #[(.int .u8 0)] 1 1 #[(0, (.int .u8 98))]) fun t7 =>
    mk t7 fun t8 =>
    pv (bdC #[(.int .i64 0), (.int .i64 0), (.slice none 0 0)] [(0, 1), (1, 1), (2, 1)] #[(0, (.int .i64 2)), (2, t8)]) fun t9 =>
    callv Try.prog (.func (.func 32) #[] #[]) #[t1, t9] (fun t10 =>
    callv Try.prog (.func (.func 36) #[] #[]) #[t1, (.int .i64 0)] (fun t11 =>
    callv Try.prog (.func (.func 35) #[] #[]) #[t1, (.int .i64 1)] (fun t12 =>
    callv Try.prog (.func (.func 33) #[] #[]) #[t1] (fun t13 =>
    callv Try.prog (.func (.func 34) #[] #[]) #[t1, (.int .i64 0)] (fun t14 =>
    pv (exV 0 t14) fun t15 =>
    pv (exV 1 t14) fun t16 =>
    nw 61 [(.int .i64 0), (.int .i64 0), (.slice none 0 0)] fun t17 =>
    st 3 t17 t15 fun _ =>
    gdK t11 true (fun k => k t12) fun t18 =>
    pv (pickV t11 t18 (.bool false)) fun t19 =>
    gdK t19 true (fun k => k t13) fun t20 =>
    gdK t19 true (fun k => pv (lenV t20) k) fun t21 =>
    gdK t19 true (fun k => pv (binV .none .eql t21 (.int .i64 3)) k) fun t22 =>
    pv (pickV t19 t22 (.bool false)) fun t23 =>
    gdK t23 true (fun k => k t13) fun t24 =>
    gdK t23 true (fun k => pv (iaV none 3 t24 (.int .i64 0)) k) fun t25 =>
    gdK t23 true (fun k => pv (faV 2 t25) k) fun t26 =>
    gdK t23 true (fun k => ld false 1 t26 k) fun t27 =>
    gdK t23 true (fun k => bs t27 k) fun t28 =>
    gdK t23 true (fun k => pv (binV .none .eql t28 (.string ⟨#[98]⟩)) k) fun t29 =>
    pv (pickV t23 t29 (.bool false)) fun t30 =>
    gdK t30 true (fun k => k t13) fun t31 =>
    gdK t30 true (fun k => pv (iaV none 3 t31 (.int .i64 2)) k) fun t32 =>
    gdK t30 true (fun k => pv (faV 0 t32) k) fun t33 =>
    gdK t30 true (fun k => ld false 1 t33 k) fun t34 =>
    gdK t30 true (fun k => pv (binV .none .eql t34 (.int .i64 1)) k) fun t35 =>
    pv (pickV t30 t35 (.bool false)) fun t36 =>
    gdK t36 true (fun k => k t16) fun t37 =>
    pv (pickV t36 t37 (.bool false)) fun t38 =>
    gdK t38 true (fun k => pv (faV 0 t17) k) fun t39 =>
    gdK t38 true (fun k => ld false 1 t39 k) fun t40 =>
    gdK t38 true (fun k => pv (binV .none .eql t40 (.int .i64 2)) k) fun t41 =>
    pv (pickV t38 t41 (.bool false)) fun t42 =>
    K t42) E) E) E) E) E) E)) E := by kernel_rfl

theorem t32 (K : Kont) (E : PanK) (x0 x1 : Value)  : den Try.prog (sel (bodyOf Try.f32) []) (bodyQ Try.prog Try.f32.results.toList K E) #[x0, x1, undef, undef, undef, undef, undef, undef, undef, undef, undef, undef, undef, undef, undef, undef, undef, undef, undef] =
  nw 61 (Value.cells x1).toList fun t1 =>
  callv Try.prog (.func (.func 47) #[] #[]) #[x0] (fun t2 =>
  pv (unV .not t2) fun t3 =>
  cnd t3 (
    K (.bool false)) (
    pv (nilV x0) fun t4 =>
    pv (faV 0 t4) fun t5 =>
    ld false 1 t5 fun t6 =>
    ld true 3 t1 fun t7 =>
    callv Try.prog (.func (.func 48) #[] #[]) #[t7] (fun t8 h9 => (ldV h9 false 1 t5 t6) ∧ (
      nws 61 1 (bsC #[(.int .i64 0), (.int .i64 0), (.slice none 0 0)] 3 1 #[(0, t8)]) (fun t10 h11 => (ldV h11 false 1 t5 t6) ∧ (
        appX 61 3 40 t6 t10 fun t12 =>
        pv (nilV x0) fun t13 =>
        pv (faV 0 t13) fun t14 =>
        st 1 t14 t12 fun _ =>
        K (.bool true)) h11)) h9) E)) E := by kernel_rfl

theorem t33 (K : Kont) (E : PanK) (x0 : Value)  : den Try.prog (sel (bodyOf Try.f33) []) (bodyQ Try.prog Try.f33.results.toList K E) #[x0, undef, undef, undef, undef, undef, undef, undef, undef, undef, undef, undef, undef, undef, undef, undef, undef, undef, undef, undef, undef, undef] =
  pv (nilV x0) fun t1 =>
  pv (faV 0 t1) fun t2 =>
  ld false 1 t2 fun t3 =>
  pv (lenV t3) fun t4 =>
  lp (fun k1 => den Try.prog (sel (bodyOf Try.f33) [1, 1, 0, 1, 0, 0]) (thenD k1 (blk 0 (thenD (den Try.prog (sel (bodyOf Try.f33) [1, 1, 1]) (bodyQ Try.prog Try.f33.results.toList K E)) (bodyQ Try.prog Try.f33.results.toList K E))))) #[x0, undef, (.slice none 0 0), (.slice none 0 0), undef, undef, x0, t1, t2, t3, t4, (.int .i64 0), undef, undef, undef, undef, undef, undef, undef, undef, undef, undef] := by kernel_rfl
def m33_1_1_0_1_0_0 (x0 x1 x2 x4 x6 x7 x8 x9 x10 x21 : Value) (v3 v11 : Value) (j : Nat → Value) : Env := #[x0, x1, x2, v3, x4, (j 5), x6, x7, x8, x9, x10, v11, (j 12), (j 13), (j 14), (j 15), (j 16), (j 17), (j 18), (j 19), (j 20), x21]
theorem t33_1_1_0_1_0_0 (K : Kont) (E : PanK) (k1 : Env → Hp → Prop) (x0 x1 x2 x4 x6 x7 x8 x9 x10 x21 v3 v11 : Value) (j : Nat → Value) : den Try.prog (sel (bodyOf Try.f33) [1, 1, 0, 1, 0, 0]) (thenD k1 (blk 0 (thenD (den Try.prog (sel (bodyOf Try.f33) [1, 1, 1]) (bodyQ Try.prog Try.f33.results.toList K E)) (bodyQ Try.prog Try.f33.results.toList K E)))) (m33_1_1_0_1_0_0 x0 x1 x2 x4 x6 x7 x8 x9 x10 x21 v3 v11 j) =
  pv (binV .none .lss v11 x10) fun t1 =>
  cnd t1 (
    pv (iaV none 3 x9 v11) fun t2 =>
    ld true 3 t2 fun t3 =>
    nw 61 [(.int .i64 0), (.int .i64 0), (.slice none 0 0)] fun t4 =>
    st 3 t4 t3 fun _ =>
    ld true 3 t4 fun t5 =>
    callv Try.prog (.func (.func 48) #[] #[]) #[t5] (fun t6 =>
    nws 61 1 (bsC #[(.int .i64 0), (.int .i64 0), (.slice none 0 0)] 3 1 #[(0, t6)]) fun t7 =>
    appX 61 3 40 v3 t7 fun t8 =>
    pv (binV .none .add v11 (.int .i64 1)) fun t9 =>
    k1 (m33_1_1_0_1_0_0 x0 x1 x2 x4 x6 x7 x8 x9 x10 x21 t8 t9 (jf #[x0, x1, x2, t8, x4, t4, x6, x7, x8, x9, x10, t9, t1, t2, t3, v3, t5, t6, t7, t8, t9, x21]))) E) (
    den Try.prog (sel (bodyOf Try.f33) [1, 1, 1]) (bodyQ Try.prog Try.f33.results.toList K E) #[x0, x1, x2, v3, x4, (j 5), x6, x7, x8, x9, x10, v11, t1, (j 13), (j 14), (j 15), (j 16), (j 17), (j 18), (j 19), (j 20), x21]) := by kernel_rfl
theorem t33_1_1_1 (K : Kont) (E : PanK) (x0 x1 x2 x3 x4 x5 x6 x7 x8 x9 x10 x11 x12 x13 x14 x15 x16 x17 x18 x19 x20 x21 : Value)  : den Try.prog (sel (bodyOf Try.f33) [1, 1, 1]) (bodyQ Try.prog Try.f33.results.toList K E) #[x0, x1, x2, x3, x4, x5, x6, x7, x8, x9, x10, x11, x12, x13, x14, x15, x16, x17, x18, x19, x20, x21] =
  K x3 := by kernel_rfl
theorem l33_1_1_0_1_0_0 {K : Kont} {E : PanK} {σ : Type} {x0 x1 x2 x4 x6 x7 x8 x9 x10 x21 v3 v11 y5 y12 y13 y14 y15 y16 y17 y18 y19 y20 : Value} {h : Hp} (f3 f11 : σ → Value) (I : σ → Hp → Prop) (μ : σ → Nat) (s0 : σ) (e3 : v3 = f3 s0) (e11 : v11 = f11 s0) (h0 : h.wf → ∃ h', h.wk h' ∧ I s0 h')
  (round : ∀ (k1 : Env → Hp → Prop) (s : σ) (j : Nat → Value) (h : Hp), I s h → h.wf → (∀ s' j' h', μ s' < μ s → (h'.wf → ∃ h'', h'.wk h'' ∧ I s' h'') → k1 (m33_1_1_0_1_0_0 x0 x1 x2 x4 x6 x7 x8 x9 x10 x21 (f3 s') (f11 s') j') h') → (
  pv (binV .none .lss (f11 s) x10) fun t1 =>
  cnd t1 (
    pv (iaV none 3 x9 (f11 s)) fun t2 =>
    ld true 3 t2 fun t3 =>
    nw 61 [(.int .i64 0), (.int .i64 0), (.slice none 0 0)] fun t4 =>
    st 3 t4 t3 fun _ =>
    ld true 3 t4 fun t5 =>
    callv Try.prog (.func (.func 48) #[] #[]) #[t5] (fun t6 =>
    nws 61 1 (bsC #[(.int .i64 0), (.int .i64 0), (.slice none 0 0)] 3 1 #[(0, t6)]) fun t7 =>
    appX 61 3 40 (f3 s) t7 fun t8 =>
    pv (binV .none .add (f11 s) (.int .i64 1)) fun t9 =>
    k1 (m33_1_1_0_1_0_0 x0 x1 x2 x4 x6 x7 x8 x9 x10 x21 t8 t9 (jf #[x0, x1, x2, t8, x4, t4, x6, x7, x8, x9, x10, t9, t1, t2, t3, (f3 s), t5, t6, t7, t8, t9, x21]))) E) (
    den Try.prog (sel (bodyOf Try.f33) [1, 1, 1]) (bodyQ Try.prog Try.f33.results.toList K E) #[x0, x1, x2, (f3 s), x4, (j 5), x6, x7, x8, x9, x10, (f11 s), t1, (j 13), (j 14), (j 15), (j 16), (j 17), (j 18), (j 19), (j 20), x21])) h) :
  lp (fun k1 => den Try.prog (sel (bodyOf Try.f33) [1, 1, 0, 1, 0, 0]) (thenD k1 (blk 0 (thenD (den Try.prog (sel (bodyOf Try.f33) [1, 1, 1]) (bodyQ Try.prog Try.f33.results.toList K E)) (bodyQ Try.prog Try.f33.results.toList K E))))) #[x0, x1, x2, v3, x4, y5, x6, x7, x8, x9, x10, v11, y12, y13, y14, y15, y16, y17, y18, y19, y20, x21] h := by
  subst e3
  subst e11
  have e : (#[x0, x1, x2, (f3 s0), x4, y5, x6, x7, x8, x9, x10, (f11 s0), y12, y13, y14, y15, y16, y17, y18, y19, y20, x21] : Env) = m33_1_1_0_1_0_0 x0 x1 x2 x4 x6 x7 x8 x9 x10 x21 (f3 s0) (f11 s0) (jf #[x0, x1, x2, (f3 s0), x4, y5, x6, x7, x8, x9, x10, (f11 s0), y12, y13, y14, y15, y16, y17, y18, y19, y20, x21]) := by kernel_rfl
  rw [e]
  exact loop_r (fun s j => m33_1_1_0_1_0_0 x0 x1 x2 x4 x6 x7 x8 x9 x10 x21 (f3 s) (f11 s) j) I μ (fun k s j h hI hw next => by rw [t33_1_1_0_1_0_0]; exact round k s j h hI hw next) s0 (jf #[x0, x1, x2, (f3 s0), x4, y5, x6, x7, x8, x9, x10, (f11 s0), y12, y13, y14, y15, y16, y17, y18, y19, y20, x21]) h0

theorem t34 (K : Kont) (E : PanK) (x0 x1 : Value)  : den Try.prog (sel (bodyOf Try.f34) []) (bodyQ Try.prog Try.f34.results.toList K E) #[x0, x1, undef, undef, undef, undef, undef, undef, undef, undef, undef, undef, undef, undef, undef, undef, undef, undef, undef, undef, undef, undef, undef, undef, undef, undef, undef, undef, undef, undef, undef] =
  nw 61 [(.int .i64 0), (.int .i64 0), (.slice none 0 0)] fun t1 =>
  callv Try.prog (.func (.func 49) #[] #[]) #[x0, x1] (fun t2 =>
  pv (unV .not t2) fun t3 =>
  cnd t3 (
    pv (bdC #[(.int .i64 0), (.int .i64 0), (.slice none 0 0)] [(0, 1), (1, 1), (2, 1)] #[]) fun t4 =>
    st 3 t1 t4 fun _ =>
    ld true 3 t1 fun t5 =>
    K (.tuple #[t5, (.bool false)])) (
    pv (nilV x0) fun t6 =>
    pv (faV 0 t6) fun t7 =>
    ld false 1 t7 fun t8 =>
    pv (iaV none 3 t8 x1) fun t9 =>
    ld true 3 t9 fun t10 =>
    nw 61 [(.int .i64 0), (.int .i64 0), (.slice none 0 0)] fun t11 =>
    st 3 t11 t10 fun _ =>
    pv (nilV x0) fun t12 =>
    pv (faV 0 t12) fun t13 =>
    ld false 1 t13 fun t14 =>
    pv (binV .none .add x1 (.int .i64 1)) fun t15 =>
    callv Try.prog (.func (.func 50) #[] #[]) #[t14, x1, t15] (fun t16 =>
    pv (nilV x0) fun t17 =>
    pv (faV 0 t17) fun t18 =>
    st 1 t18 t16 fun _ =>
    ld true 3 t11 fun t19 =>
    st 3 t1 t19 fun _ =>
    ld true 3 t1 fun t20 =>
    K (.tuple #[t20, (.bool true)])) E)) E := by kernel_rfl

theorem t35 (K : Kont) (E : PanK) (x0 x1 : Value)  : den Try.prog (sel (bodyOf Try.f35) []) (bodyQ Try.prog Try.f35.results.toList K E) #[x0, x1, undef, undef, undef, undef, undef, undef, undef, undef, undef, undef, undef, undef, undef, undef, undef, undef, undef, undef, undef, undef, undef, undef, undef, undef, undef, undef, undef, undef, undef, undef] =
  callv Try.prog (.func (.func 49) #[] #[]) #[x0, x1] (fun t1 =>
  pv (unV .not t1) fun t2 =>
  gdK t2 false (fun k => k x0) fun t3 =>
  gdK t2 false (fun k => callv Try.prog (.func (.func 47) #[] #[]) #[t3] k E) fun t4 =>
  gdK t2 false (fun k => pv (unV .not t4) k) fun t5 =>
  pv (pickV t2 (.bool true) t5) fun t6 =>
  cnd t6 (
    K (.bool false)) (
    pv (nilV x0) fun t7 =>
    pv (faV 0 t7) fun t8 =>
    ld false 1 t8 fun t9 =>
    pv (nilV x0) fun t10 =>
    pv (faV 0 t10) fun t11 =>
    ld false 1 t11 fun t12 =>
    pv (iaV none 3 t12 x1) fun t13 =>
    ld true 3 t13 fun t14 =>
    callv Try.prog (.func (.func 48) #[] #[]) #[t14] (fun t15 h16 => (ldV h16 false 1 t8 t9) ∧ (
      nws 61 1 (bsC #[(.int .i64 0), (.int .i64 0), (.slice none 0 0)] 3 1 #[(0, t15)]) (fun t17 h18 => (ldV h18 false 1 t8 t9) ∧ (
        callv Try.prog (.func (.func 51) #[] #[]) #[t9, x1, t17] (fun t19 =>
        pv (nilV x0) fun t20 =>
        pv (faV 0 t20) fun t21 =>
        st 1 t21 t19 fun _ =>
        K (.bool true)) E) h18)) h16) E)) E := by kernel_rfl

theorem t36 (K : Kont) (E : PanK) (x0 x1 : Value)  : den Try.prog (sel (bodyOf Try.f36) []) (bodyQ Try.prog Try.f36.results.toList K E) #[x0, x1, undef, undef, undef, undef, undef, undef, undef, undef, undef, undef, undef, undef, undef, undef, undef, undef, undef] =
  callv Try.prog (.func (.func 34) #[] #[]) #[x0, x1] (fun t1 =>
  pv (exV 0 t1) fun t2 =>
  pv (exV 1 t1) fun t3 =>
  nw 61 [(.int .i64 0), (.int .i64 0), (.slice none 0 0)] fun t4 =>
  st 3 t4 t2 fun _ =>
  gdK t3 true (fun k => k x0) fun t5 =>
  gdK t3 true (fun k => ld true 3 t4 k) fun t6 =>
  gdK t3 true (fun k => callv Try.prog (.func (.func 32) #[] #[]) #[t5, t6] k E) fun t7 =>
  pv (pickV t3 t7 (.bool false)) fun t8 =>
  K t8) E := by kernel_rfl

theorem t37 (K : Kont) (E : PanK) (x0 : Value)  : den Try.prog (sel (bodyOf Try.f37) []) (bodyQ Try.prog Try.f37.results.toList K E) #[x0, undef, undef, undef, undef, undef, undef, undef, undef, undef, undef, undef, undef, undef, undef, undef, undef, undef, undef, undef, undef, undef, undef, undef, undef, undef] =
  lp (fun k1 => den Try.prog (sel (bodyOf Try.f37) [1, 1, 0, 1, 0, 0]) (thenD k1 (blk 0 (thenD (den Try.prog (sel (bodyOf Try.f37) [1, 1, 1]) (bodyQ Try.prog Try.f37.results.toList K E)) (bodyQ Try.prog Try.f37.results.toList K E))))) #[x0, undef, (.bool false), (.int .i64 0), (.int .i64 0), undef, undef, undef, undef, undef, undef, undef, undef, undef, undef, undef, undef, undef, undef, undef, undef, undef, undef, undef, undef, undef] := by kernel_rfl
def m37_1_1_0_1_0_0 (x0 x1 x2 x19 x20 x21 x22 x23 x24 x25 : Value) (v3 v4 : Value) (j : Nat → Value) : Env := #[x0, x1, x2, v3, v4, (j 5), (j 6), (j 7), (j 8), (j 9), (j 10), (j 11), (j 12), (j 13), (j 14), (j 15), (j 16), (j 17), (j 18), x19, x20, x21, x22, x23, x24, x25]
theorem t37_1_1_0_1_0_0 (K : Kont) (E : PanK) (k1 : Env → Hp → Prop) (x0 x1 x2 x19 x20 x21 x22 x23 x24 x25 v3 v4 : Value) (j : Nat → Value) : den Try.prog (sel (bodyOf Try.f37) [1, 1, 0, 1, 0, 0]) (thenD k1 (blk 0 (thenD (den Try.prog (sel (bodyOf Try.f37) [1, 1, 1]) (bodyQ Try.prog Try.f37.results.toList K E)) (bodyQ Try.prog Try.f37.results.toList K E)))) (m37_1_1_0_1_0_0 x0 x1 x2 x19 x20 x21 x22 x23 x24 x25 v3 v4 j) =
  pv (lenV x0) fun t1 =>
  pv (binV .none .lss v4 t1) fun t2 =>
  cnd t2 (
    pv (iaV none 5 x0 v4) fun t3 =>
    pv (faV 3 t3) fun t4 =>
    ld false 1 t4 fun t5 =>
    pv (lenV t5) fun t6 =>
    pv (binV .none .add v3 t6) fun t7 =>
    pv (binV .none .add v4 (.int .i64 1)) fun t8 =>
    k1 (m37_1_1_0_1_0_0 x0 x1 x2 x19 x20 x21 x22 x23 x24 x25 t7 t8 (jf #[x0, x1, x2, t7, t8, v4, x0, t1, t2, v4, t8, v3, x0, v4, t3, t4, t5, t6, t7, x19, x20, x21, x22, x23, x24, x25]))) (
    den Try.prog (sel (bodyOf Try.f37) [1, 1, 1]) (bodyQ Try.prog Try.f37.results.toList K E) #[x0, x1, x2, v3, v4, v4, x0, t1, t2, (j 9), (j 10), (j 11), (j 12), (j 13), (j 14), (j 15), (j 16), (j 17), (j 18), x19, x20, x21, x22, x23, x24, x25]) := by kernel_rfl
theorem t37_1_1_1 (K : Kont) (E : PanK) (x0 x1 x2 x3 x4 x5 x6 x7 x8 x9 x10 x11 x12 x13 x14 x15 x16 x17 x18 x19 x20 x21 x22 x23 x24 x25 : Value)  : den Try.prog (sel (bodyOf Try.f37) [1, 1, 1]) (bodyQ Try.prog Try.f37.results.toList K E) #[x0, x1, x2, x3, x4, x5, x6, x7, x8, x9, x10, x11, x12, x13, x14, x15, x16, x17, x18, x19, x20, x21, x22, x23, x24, x25] =
  pv (lenV x0) fun t1 =>
  pv (binV .none .gtr t1 (.int .i64 100)) fun t2 =>
  gdK t2 false (fun k => k x3) fun t3 =>
  gdK t2 false (fun k => pv (binV .none .gtr t3 (.int .i64 4000)) k) fun t4 =>
  pv (pickV t2 (.bool true) t4) fun t5 =>
  K t5 := by kernel_rfl
theorem l37_1_1_0_1_0_0 {K : Kont} {E : PanK} {σ : Type} {x0 x1 x2 x19 x20 x21 x22 x23 x24 x25 v3 v4 y5 y6 y7 y8 y9 y10 y11 y12 y13 y14 y15 y16 y17 y18 : Value} {h : Hp} (f3 f4 : σ → Value) (I : σ → Hp → Prop) (μ : σ → Nat) (s0 : σ) (e3 : v3 = f3 s0) (e4 : v4 = f4 s0) (h0 : h.wf → ∃ h', h.wk h' ∧ I s0 h')
  (round : ∀ (k1 : Env → Hp → Prop) (s : σ) (j : Nat → Value) (h : Hp), I s h → h.wf → (∀ s' j' h', μ s' < μ s → (h'.wf → ∃ h'', h'.wk h'' ∧ I s' h'') → k1 (m37_1_1_0_1_0_0 x0 x1 x2 x19 x20 x21 x22 x23 x24 x25 (f3 s') (f4 s') j') h') → (
  pv (lenV x0) fun t1 =>
  pv (binV .none .lss (f4 s) t1) fun t2 =>
  cnd t2 (
    pv (iaV none 5 x0 (f4 s)) fun t3 =>
    pv (faV 3 t3) fun t4 =>
    ld false 1 t4 fun t5 =>
    pv (lenV t5) fun t6 =>
    pv (binV .none .add (f3 s) t6) fun t7 =>
    pv (binV .none .add (f4 s) (.int .i64 1)) fun t8 =>
    k1 (m37_1_1_0_1_0_0 x0 x1 x2 x19 x20 x21 x22 x23 x24 x25 t7 t8 (jf #[x0, x1, x2, t7, t8, (f4 s), x0, t1, t2, (f4 s), t8, (f3 s), x0, (f4 s), t3, t4, t5, t6, t7, x19, x20, x21, x22, x23, x24, x25]))) (
    den Try.prog (sel (bodyOf Try.f37) [1, 1, 1]) (bodyQ Try.prog Try.f37.results.toList K E) #[x0, x1, x2, (f3 s), (f4 s), (f4 s), x0, t1, t2, (j 9), (j 10), (j 11), (j 12), (j 13), (j 14), (j 15), (j 16), (j 17), (j 18), x19, x20, x21, x22, x23, x24, x25])) h) :
  lp (fun k1 => den Try.prog (sel (bodyOf Try.f37) [1, 1, 0, 1, 0, 0]) (thenD k1 (blk 0 (thenD (den Try.prog (sel (bodyOf Try.f37) [1, 1, 1]) (bodyQ Try.prog Try.f37.results.toList K E)) (bodyQ Try.prog Try.f37.results.toList K E))))) #[x0, x1, x2, v3, v4, y5, y6, y7, y8, y9, y10, y11, y12, y13, y14, y15, y16, y17, y18, x19, x20, x21, x22, x23, x24, x25] h := by
  subst e3
  subst e4
  have e : (#[x0, x1, x2, (f3 s0), (f4 s0), y5, y6, y7, y8, y9, y10, y11, y12, y13, y14, y15, y16, y17, y18, x19, x20, x21, x22, x23, x24, x25] : Env) = m37_1_1_0_1_0_0 x0 x1 x2 x19 x20 x21 x22 x23 x24 x25 (f3 s0) (f4 s0) (jf #[x0, x1, x2, (f3 s0), (f4 s0), y5, y6, y7, y8, y9, y10, y11, y12, y13, y14, y15, y16, y17, y18, x19, x20, x21, x22, x23, x24, x25]) := by kernel_rfl
  rw [e]
  exact loop_r (fun s j => m37_1_1_0_1_0_0 x0 x1 x2 x19 x20 x21 x22 x23 x24 x25 (f3 s) (f4 s) j) I μ (fun k s j h hI hw next => by rw [t37_1_1_0_1_0_0]; exact round k s j h hI hw next) s0 (jf #[x0, x1, x2, (f3 s0), (f4 s0), y5, y6, y7, y8, y9, y10, y11, y12, y13, y14, y15, y16, y17, y18, x19, x20, x21, x22, x23, x24, x25]) h0

theorem t38 (K : Kont) (E : PanK)  : den Try.prog (sel (bodyOf Try.f38) []) (bodyQ Try.prog Try.f38.results.toList K E) #[undef, undef, undef] =
  pv (bdC #[(.slice none 0 0)] [(0, 1)] #[]) fun t1 =>
  nw 77 (Value.cells t1).toList fun t2 =>
  K t2 := by kernel_rfl

theorem t39 (K : Kont) (E : PanK) (x0 x1 x2 : Value)  : den Try.prog (sel (bodyOf Try.f39) []) (bodyQ Try.prog Try.f39.results.toList K E) #[x0, x1, x2, undef, undef, undef, undef, undef, undef, undef, undef, undef, undef, undef, undef, undef, undef, undef, undef, undef, undef, undef, undef, undef, undef, undef, undef, undef, undef, undef, undef, undef, undef, undef, undef, undef, undef, undef, undef, undef, undef, undef, undef, undef, undef, undef, undef, undef, undef, undef, undef, undef, undef, undef, undef, undef, undef, undef, undef, undef, undef, undef, undef, undef, undef, undef, undef, undef, undef, undef, undef, undef, undef, undef, undef, undef, undef, undef, undef, undef, undef, undef, undef, undef, undef, undef, undef, undef, undef, undef, undef, undef, undef, undef, undef, undef, undef, undef, undef, undef, undef, undef, undef, undef, undef, undef, undef, undef, undef, undef, undef, undef, undef, undef, undef, undef, undef, undef, undef, undef, undef, undef, undef, undef, undef, undef, undef] =
  nw 74 (Value.cells x2).toList fun t1 =>
  pv (faV 0 t1) fun t2 =>
  ld false 1 t2 fun t3 =>
  pv (binV .none .rem t3 (.int .u8 7)) fun t4 =>
  pv (binV .none .eql t4 (.int .u8 3)) fun t5 =>
  cnd t5 (
    pv (faV 4 t1) fun t6 =>
    ld false 1 t6 fun t7 =>
    callv Try.prog (.func (.func 34) #[] #[]) #[x0, t7] (fun t8 =>
    pv (exV 0 t8) fun t9 =>
    pv (exV 1 t8) fun t10 =>
    nw 61 [(.int .i64 0), (.int .i64 0), (.slice none 0 0)] fun t11 =>
    st 3 t11 t9 fun _ =>
    pv (faV 4 t1) fun t12 =>
    ld false 1 t12 fun t13 =>
    callv Try.prog (.func (.func 52) #[] #[]) #[x1, t13] (fun t14 =>
    pv (exV 0 t14) fun t15 =>
    pv (exV 1 t14) fun t16 =>
    nw 61 [(.int .i64 0), (.int .i64 0), (.slice none 0 0)] fun t17 =>
    st 3 t17 t15 fun _ =>
    pv (binV .bool .eql t10 t16) fun t18 =>
    gdK t18 true (fun k => ld true 3 t11 k) fun t19 =>
    gdK t18 true (fun k => nws 61 1 (bsC #[(.int .i64 0), (.int .i64 0), (.slice none 0 0)] 3 1 #[(0, t19)]) k) fun t20 =>
    gdK t18 true (fun k => ld true 3 t17 k) fun t21 =>
    gdK t18 true (fun k => nws 61 1 (bsC #[(.int .i64 0), (.int .i64 0), (.slice none 0 0)] 3 1 #[(0, t21)]) k) fun t22 =>
    gdK t18 true (fun k => callv Try.prog (.func (.func 40) #[] #[]) #[t20, t22] k E) fun t23 =>
    pv (pickV t18 t23 (.bool false)) fun t24 =>
    K t24) E) E) (
    pv (binV .none .eql t4 (.int .u8 4)) fun t25 =>
    cnd t25 (
      pv (faV 4 t1) fun t26 =>
      ld false 1 t26 fun t27 =>
      pv (faV 4 t1) fun t28 =>
      ld false 1 t28 fun t29 =>
      callv Try.prog (.func (.func 35) #[] #[]) #[x0, t27] (fun t30 h31 => (ldV h31 false 1 t28 t29) ∧ (
        callv Try.prog (.func (.func 53) #[] #[]) #[x1, t29] (fun t32 =>
        pv (binV .bool .eql t30 t32) fun t33 =>
        K t33) E) h31) E) (
      pv (binV .none .eql t4 (.int .u8 5)) fun t34 =>
      cnd t34 (
        pv (faV 4 t1) fun t35 =>
        ld false 1 t35 fun t36 =>
        pv (faV 4 t1) fun t37 =>
        ld false 1 t37 fun t38 =>
        callv Try.prog (.func (.func 36) #[] #[]) #[x0, t36] (fun t39 h40 => (ldV h40 false 1 t37 t38) ∧ (
          callv Try.prog (.func (.func 54) #[] #[]) #[x1, t38] (fun t41 =>
          pv (binV .bool .eql t39 t41) fun t42 =>
          K t42) E) h40) E) (
        pv (binV .none .eql t4 (.int .u8 6)) fun t43 =>
        cnd t43 (
          callv Try.prog (.func (.func 33) #[] #[]) #[x0] (fun t44 =>
          lp (fun k1 => den Try.prog (sel (bodyOf Try.f39) [1, 0, 1, 0, 1, 1, 1, 1, 1, 1, 1, 0, 1, 0, 1, 0, 0]) (thenD k1 (blk 1 (thenD (den Try.prog (sel (bodyOf Try.f39) [1, 0, 1, 0, 1, 1, 1, 1, 1, 1, 1, 0, 1, 1]) (blk 0 (thenD (den Try.prog (sel (bodyOf Try.f39) [1, 1]) (bodyQ Try.prog Try.f39.results.toList K E)) (bodyQ Try.prog Try.f39.results.toList K E)))) (blk 0 (thenD (den Try.prog (sel (bodyOf Try.f39) [1, 1]) (bodyQ Try.prog Try.f39.results.toList K E)) (bodyQ Try.prog Try.f39.results.toList K E))))))) #[x0, x1, x2, undef, undef, t1, (.bool false), undef, undef, undef, undef, t44, (.int .i64 0), undef, undef, undef, undef, t2, t3, t4, t5, t5, undef, undef, undef, undef, undef, undef, undef, undef, undef, undef, undef, undef, undef, undef, undef, undef, undef, undef, undef, undef, undef, undef, undef, undef, t25, t25, undef, undef, undef, undef, undef, undef, undef, undef, undef, t34, t34, undef, undef, undef, undef, undef, undef, undef, undef, undef, t43, t43, x0, t44, undef, undef, undef, undef, undef, undef, undef, undef, undef, undef, undef, undef, undef, undef, undef, undef, undef, undef, undef, undef, undef, undef, undef, undef, undef, undef, undef, undef, undef, undef, undef, undef, undef, undef, undef, undef, undef, undef, undef, undef, undef, undef, undef, undef, undef, undef, undef, undef, undef, undef, undef, undef, undef, undef, undef]) E) (
          den Try.prog (sel (bodyOf Try.f39) [1, 1]) (bodyQ Try.prog Try.f39.results.toList K E) #[x0, x1, x2, undef, undef, t1, (.bool false), undef, undef, undef, undef, undef, undef, undef, undef, undef, undef, t2, t3, t4, t5, t5, undef, undef, undef, undef, undef, undef, undef, undef, undef, undef, undef, undef, undef, undef, undef, undef, undef, undef, undef, undef, undef, undef, undef, undef, t25, t25, undef, undef, undef, undef, undef, undef, undef, undef, undef, t34, t34, undef, undef, undef, undef, undef, undef, undef, undef, undef, t43, t43, undef, undef, undef, undef, undef, undef, undef, undef, undef, undef, undef, undef, undef, undef, undef, undef, undef, undef, undef, undef, undef, undef, undef, undef, undef, undef, undef, undef, undef, undef, undef, undef, undef, undef, undef, undef, undef, undef, undef, undef, undef, undef, undef, undef, undef, undef, undef, undef, undef, undef, undef, undef, undef, undef, undef, undef, undef])))) := by kernel_rfl
def m39_1_0_1_0_1_1_1_1_1_1_1_0_1_0_1_0_0 (x0 x1 x2 x3 x4 x5 x6 x7 x8 x9 x10 x11 x14 x15 x16 x17 x18 x19 x20 x21 x22 x23 x24 x25 x26 x27 x28 x29 x30 x31 x32 x33 x34 x35 x36 x37 x38 x39 x40 x41 x42 x43 x44 x45 x46 x47 x48 x49 x50 x51 x52 x53 x54 x55 x56 x57 x58 x59 x60 x61 x62 x63 x64 x65 x66 x67 x68 x69 x70 x71 x95 x96 x97 x98 x99 x100 x101 x102 x103 x104 x105 x106 x107 x108 x109 x110 x111 x112 x113 x114 x115 x116 x117 x118 x119 x120 x121 x122 x123 x124 x125 x126 : Value) (v12 : Value) (j : Nat → Value) : Env := #[x0, x1, x2, x3, x4, x5, x6, x7, x8, x9, x10, x11, v12, (j 13), x14, x15, x16, x17, x18, x19, x20, x21, x22, x23, x24, x25, x26, x27, x28, x29, x30, x31, x32, x33, x34, x35, x36, x37, x38, x39, x40, x41, x42, x43, x44, x45, x46, x47, x48, x49, x50, x51, x52, x53, x54, x55, x56, x57, x58, x59, x60, x61, x62, x63, x64, x65, x66, x67, x68, x69, x70, x71, (j 72), (j 73), (j 74), (j 75), (j 76), (j 77), (j 78), (j 79), (j 80), (j 81), (j 82), (j 83), (j 84), (j 85), (j 86), (j 87), (j 88), (j 89), (j 90), (j 91), (j 92), (j 93), (j 94), x95, x96, x97, x98, x99, x100, x101, x102, x103, x104, x105, x106, x107, x108, x109, x110, x111, x112, x113, x114, x115, x116, x117, x118, x119, x120, x121, x122, x123, x124, x125, x126]
theorem t39_1_0_1_0_1_1_1_1_1_1_1_0_1_0_1_0_0 (K : Kont) (E : PanK) (k1 : Env → Hp → Prop) (x0 x1 x2 x3 x4 x5 x6 x7 x8 x9 x10 x11 x14 x15 x16 x17 x18 x19 x20 x21 x22 x23 x24 x25 x26 x27 x28 x29 x30 x31 x32 x33 x34 x35 x36 x37 x38 x39 x40 x41 x42 x43 x44 x45 x46 x47 x48 x49 x50 x51 x52 x53 x54 x55 x56 x57 x58 x59 x60 x61 x62 x63 x64 x65 x66 x67 x68 x69 x70 x71 x95 x96 x97 x98 x99 x100 x101 x102 x103 x104 x105 x106 x107 x108 x109 x110 x111 x112 x113 x114 x115 x116 x117 x118 x119 x120 x121 x122 x123 x124 x125 x126 v12 : Value) (j : Nat → Value) : den Try.prog (sel (bodyOf Try.f39) [1, 0, 1, 0, 1, 1, 1, 1, 1, 1, 1, 0, 1, 0, 1, 0, 0]) (thenD k1 (blk 1 (thenD (den Try.prog (sel (bodyOf Try.f39) [1, 0, 1, 0, 1, 1, 1, 1, 1, 1, 1, 0, 1, 1]) (blk 0 (thenD (den Try.prog (sel (bodyOf Try.f39) [1, 1]) (bodyQ Try.prog Try.f39.results.toList K E)) (bodyQ Try.prog Try.f39.results.toList K E)))) (blk 0 (thenD (den Try.prog (sel (bodyOf Try.f39) [1, 1]) (bodyQ Try.prog Try.f39.results.toList K E)) (bodyQ Try.prog Try.f39.results.toList K E)))))) (m39_1_0_1_0_1_1_1_1_1_1_1_0_1_0_1_0_0 x0 x1 x2 x3 x4 x5 x6 x7 x8 x9 x10 x11 x14 x15 x16 x17 x18 x19 x20 x21 x22 x23 x24 x25 x26 x27 x28 x29 x30 x31 x32 x33 x34 x35 x36 x37 x38 x39 x40 x41 x42 x43 x44 x45 x46 x47 x48 x49 x50 x51 x52 x53 x54 x55 x56 x57 x58 x59 x60 x61 x62 x63 x64 x65 x66 x67 x68 x69 x70 x71 x95 x96 x97 x98 x99 x100 x101 x102 x103 x104 x105 x106 x107 x108 x109 x110 x111 x112 x113 x114 x115 x116 x117 x118 x119 x120 x121 x122 x123 x124 x125 x126 v12 j) =
  pv (lenV x11) fun t1 =>
  pv (binV .none .lss v12 t1) fun t2 =>
  cnd t2 (
    lp (fun k2 => den Try.prog (sel (bodyOf Try.f39) [1, 0, 1, 0, 1, 1, 1, 1, 1, 1, 1, 0, 1, 0, 1, 0, 0, 1, 0, 0, 1, 0, 0]) (thenD k2 (blk 3 (blk 2 (thenD (den Try.prog (sel (bodyOf Try.f39) [1, 0, 1, 0, 1, 1, 1, 1, 1, 1, 1, 0, 1, 0, 1, 0, 0, 1, 1]) (thenD k1 (blk 1 (thenD (den Try.prog (sel (bodyOf Try.f39) [1, 0, 1, 0, 1, 1, 1, 1, 1, 1, 1, 0, 1, 1]) (blk 0 (thenD (den Try.prog (sel (bodyOf Try.f39) [1, 1]) (bodyQ Try.prog Try.f39.results.toList K E)) (bodyQ Try.prog Try.f39.results.toList K E)))) (blk 0 (thenD (den Try.prog (sel (bodyOf Try.f39) [1, 1]) (bodyQ Try.prog Try.f39.results.toList K E)) (bodyQ Try.prog Try.f39.results.toList K E))))))) (thenD k1 (blk 1 (thenD (den Try.prog (sel (bodyOf Try.f39) [1, 0, 1, 0, 1, 1, 1, 1, 1, 1, 1, 0, 1, 1]) (blk 0 (thenD (den Try.prog (sel (bodyOf Try.f39) [1, 1]) (bodyQ Try.prog Try.f39.results.toList K E)) (bodyQ Try.prog Try.f39.results.toList K E)))) (blk 0 (thenD (den Try.prog (sel (bodyOf Try.f39) [1, 1]) (bodyQ Try.prog Try.f39.results.toList K E)) (bodyQ Try.prog Try.f39.results.toList K E))))))))))) #[x0, x1, x2, x3, x4, x5, x6, x7, x8, x9, x10, x11, v12, (.int .i64 0), x14, x15, x16, x17, x18, x19, x20, x21, x22, x23, x24, x25, x26, x27, x28, x29, x30, x31, x32, x33, x34, x35, x36, x37, x38, x39, x40, x41, x42, x43, x44, x45, x46, x47, x48, x49, x50, x51, x52, x53, x54, x55, x56, x57, x58, x59, x60, x61, x62, x63, x64, x65, x66, x67, x68, x69, x70, x71, v12, x11, t1, t2, (j 76), (j 77), (j 78), (j 79), (j 80), (j 81), (j 82), (j 83), (j 84), (j 85), (j 86), (j 87), (j 88), (j 89), (j 90), (j 91), (j 92), (j 93), (j 94), x95, x96, x97, x98, x99, x100, x101, x102, x103, x104, x105, x106, x107, x108, x109, x110, x111, x112, x113, x114, x115, x116, x117, x118, x119, x120, x121, x122, x123, x124, x125, x126]) (
    den Try.prog (sel (bodyOf Try.f39) [1, 0, 1, 0, 1, 1, 1, 1, 1, 1, 1, 0, 1, 1]) (blk 0 (thenD (den Try.prog (sel (bodyOf Try.f39) [1, 1]) (bodyQ Try.prog Try.f39.results.toList K E)) (bodyQ Try.prog Try.f39.results.toList K E))) #[x0, x1, x2, x3, x4, x5, x6, x7, x8, x9, x10, x11, v12, (j 13), x14, x15, x16, x17, x18, x19, x20, x21, x22, x23, x24, x25, x26, x27, x28, x29, x30, x31, x32, x33, x34, x35, x36, x37, x38, x39, x40, x41, x42, x43, x44, x45, x46, x47, x48, x49, x50, x51, x52, x53, x54, x55, x56, x57, x58, x59, x60, x61, x62, x63, x64, x65, x66, x67, x68, x69, x70, x71, v12, x11, t1, t2, (j 76), (j 77), (j 78), (j 79), (j 80), (j 81), (j 82), (j 83), (j 84), (j 85), (j 86), (j 87), (j 88), (j 89), (j 90), (j 91), (j 92), (j 93), (j 94), x95, x96, x97, x98, x99, x100, x101, x102, x103, x104, x105, x106, x107, x108, x109, x110, x111, x112, x113, x114, x115, x116, x117, x118, x119, x120, x121, x122, x123, x124, x125, x126]) := by kernel_rfl
theorem t39_1_0_1_0_1_1_1_1_1_1_1_0_1_1 (K : Kont) (E : PanK) (x0 x1 x2 x3 x4 x5 x6 x7 x8 x9 x10 x11 x12 x13 x14 x15 x16 x17 x18 x19 x20 x21 x22 x23 x24 x25 x26 x27 x28 x29 x30 x31 x32 x33 x34 x35 x36 x37 x38 x39 x40 x41 x42 x43 x44 x45 x46 x47 x48 x49 x50 x51 x52 x53 x54 x55 x56 x57 x58 x59 x60 x61 x62 x63 x64 x65 x66 x67 x68 x69 x70 x71 x72 x73 x74 x75 x76 x77 x78 x79 x80 x81 x82 x83 x84 x85 x86 x87 x88 x89 x90 x91 x92 x93 x94 x95 x96 x97 x98 x99 x100 x101 x102 x103 x104 x105 x106 x107 x108 x109 x110 x111 x112 x113 x114 x115 x116 x117 x118 x119 x120 x121 x122 x123 x124 x125 x126 : Value)  : den Try.prog (sel (bodyOf Try.f39) [1, 0, 1, 0, 1, 1, 1, 1, 1, 1, 1, 0, 1, 1]) (blk 0 (thenD (den Try.prog (sel (bodyOf Try.f39) [1, 1]) (bodyQ Try.prog Try.f39.results.toList K E)) (bodyQ Try.prog Try.f39.results.toList K E))) #[x0, x1, x2, x3, x4, x5, x6, x7, x8, x9, x10, x11, x12, x13, x14, x15, x16, x17, x18, x19, x20, x21, x22, x23, x24, x25, x26, x27, x28, x29, x30, x31, x32, x33, x34, x35, x36, x37, x38, x39, x40, x41, x42, x43, x44, x45, x46, x47, x48, x49, x50, x51, x52, x53, x54, x55, x56, x57, x58, x59, x60, x61, x62, x63, x64, x65, x66, x67, x68, x69, x70, x71, x72, x73, x74, x75, x76, x77, x78, x79, x80, x81, x82, x83, x84, x85, x86, x87, x88, x89, x90, x91, x92, x93, x94, x95, x96, x97, x98, x99, x100, x101, x102, x103, x104, x105, x106, x107, x108, x109, x110, x111, x112, x113, x114, x115, x116, x117, x118, x119, x120, x121, x122, x123, x124, x125, x126] =
  K (.bool true) := by kernel_rfl
theorem t39_1_1 (K : Kont) (E : PanK) (x0 x1 x2 x3 x4 x5 x6 x7 x8 x9 x10 x11 x12 x13 x14 x15 x16 x17 x18 x19 x20 x21 x22 x23 x24 x25 x26 x27 x28 x29 x30 x31 x32 x33 x34 x35 x36 x37 x38 x39 x40 x41 x42 x43 x44 x45 x46 x47 x48 x49 x50 x51 x52 x53 x54 x55 x56 x57 x58 x59 x60 x61 x62 x63 x64 x65 x66 x67 x68 x69 x70 x71 x72 x73 x74 x75 x76 x77 x78 x79 x80 x81 x82 x83 x84 x85 x86 x87 x88 x89 x90 x91 x92 x93 x94 x95 x96 x97 x98 x99 x100 x101 x102 x103 x104 x105 x106 x107 x108 x109 x110 x111 x112 x113 x114 x115 x116 x117 x118 x119 x120 x121 x122 x123 x124 x125 x126 : Value)  : den Try.prog (sel (bodyOf Try.f39) [1, 1]) (bodyQ Try.prog Try.f39.results.toList K E) #[x0, x1, x2, x3, x4, x5, x6, x7, x8, x9, x10, x11, x12, x13, x14, x15, x16, x17, x18, x19, x20, x21, x22, x23, x24, x25, x26, x27, x28, x29, x30, x31, x32, x33, x34, x35, x36, x37, x38, x39, x40, x41, x42, x43, x44, x45, x46, x47, x48, x49, x50, x51, x52, x53, x54, x55, x56, x57, x58, x59, x60, x61, x62, x63, x64, x65, x66, x67, x68, x69, x70, x71, x72, x73, x74, x75, x76, x77, x78, x79, x80, x81, x82, x83, x84, x85, x86, x87, x88, x89, x90, x91, x92, x93, x94, x95, x96, x97, x98, x99, x100, x101, x102, x103, x104, x105, x106, x107, x108, x109, x110, x111, x112, x113, x114, x115, x116, x117, x118, x119, x120, x121, x122, x123, x124, x125, x126] =
  pv (faV 3 x5) fun t1 =>
  ld false 1 t1 fun t2 =>
  appX 5 1 1 (.slice none 0 0) t2 fun t3 =>
  pv (faV 1 x5) fun t4 =>
  ld false 1 t4 fun t5 =>
  pv (faV 2 x5) fun t6 =>
  ld false 1 t6 fun t7 =>
  pv (bdC #[(.int .i64 0), (.int .i64 0), (.slice none 0 0)] [(0, 1), (1, 1), (2, 1)] #[(0, t5), (1, t7), (2, t3)]) fun t8 =>
  callv Try.prog (.func (.func 32) #[] #[]) #[x0, t8] (fun t9 =>
  lp (fun k1 => den Try.prog (sel (bodyOf Try.f39) [1, 1, 1, 1, 1, 0, 1, 0, 0]) (thenD k1 (blk 5 (thenD (den Try.prog (sel (bodyOf Try.f39) [1, 1, 1, 1, 1, 1]) (bodyQ Try.prog Try.f39.results.toList K E)) (bodyQ Try.prog Try.f39.results.toList K E))))) #[x0, x1, x2, x3, x4, x5, x6, x7, x8, x9, x10, x11, x12, x13, t3, t9, (.int .i64 0), x17, x18, x19, x20, x21, x22, x23, x24, x25, x26, x27, x28, x29, x30, x31, x32, x33, x34, x35, x36, x37, x38, x39, x40, x41, x42, x43, x44, x45, x46, x47, x48, x49, x50, x51, x52, x53, x54, x55, x56, x57, x58, x59, x60, x61, x62, x63, x64, x65, x66, x67, x68, x69, x70, x71, x72, x73, x74, x75, x76, x77, x78, x79, x80, x81, x82, x83, x84, x85, x86, x87, x88, x89, x90, x91, x92, x93, x94, (.slice none 0 0), t1, t2, t3, x0, t4, t5, t6, t7, t3, t8, t9, x107, x108, x109, x110, x111, x112, x113, x114, x115, x116, x117, x118, x119, x120, x121, x122, x123, x124, x125, x126]) E := by kernel_rfl
def m39_1_0_1_0_1_1_1_1_1_1_1_0_1_0_1_0_0_1_0_0_1_0_0 (x0 x1 x2 x3 x4 x5 x6 x7 x8 x9 x10 x11 x12 x14 x15 x16 x17 x18 x19 x20 x21 x22 x23 x24 x25 x26 x27 x28 x29 x30 x31 x32 x33 x34 x35 x36 x37 x38 x39 x40 x41 x42 x43 x44 x45 x46 x47 x48 x49 x50 x51 x52 x53 x54 x55 x56 x57 x58 x59 x60 x61 x62 x63 x64 x65 x66 x67 x68 x69 x70 x71 x72 x73 x74 x75 x76 x77 x95 x96 x97 x98 x99 x100 x101 x102 x103 x104 x105 x106 x107 x108 x109 x110 x111 x112 x113 x114 x115 x116 x117 x118 x119 x120 x121 x122 x123 x124 x125 x126 : Value) (v13 : Value) (j : Nat → Value) : Env := #[x0, x1, x2, x3, x4, x5, x6, x7, x8, x9, x10, x11, x12, v13, x14, x15, x16, x17, x18, x19, x20, x21, x22, x23, x24, x25, x26, x27, x28, x29, x30, x31, x32, x33, x34, x35, x36, x37, x38, x39, x40, x41, x42, x43, x44, x45, x46, x47, x48, x49, x50, x51, x52, x53, x54, x55, x56, x57, x58, x59, x60, x61, x62, x63, x64, x65, x66, x67, x68, x69, x70, x71, x72, x73, x74, x75, x76, x77, (j 78), (j 79), (j 80), (j 81), (j 82), (j 83), (j 84), (j 85), (j 86), (j 87), (j 88), (j 89), (j 90), (j 91), (j 92), (j 93), (j 94), x95, x96, x97, x98, x99, x100, x101, x102, x103, x104, x105, x106, x107, x108, x109, x110, x111, x112, x113, x114, x115, x116, x117, x118, x119, x120, x121, x122, x123, x124, x125, x126]
theorem t39_1_0_1_0_1_1_1_1_1_1_1_0_1_0_1_0_0_1_0_0_1_0_0 (K : Kont) (E : PanK) (k1 k2 : Env → Hp → Prop) (x0 x1 x2 x3 x4 x5 x6 x7 x8 x9 x10 x11 x12 x14 x15 x16 x17 x18 x19 x20 x21 x22 x23 x24 x25 x26 x27 x28 x29 x30 x31 x32 x33 x34 x35 x36 x37 x38 x39 x40 x41 x42 x43 x44 x45 x46 x47 x48 x49 x50 x51 x52 x53 x54 x55 x56 x57 x58 x59 x60 x61 x62 x63 x64 x65 x66 x67 x68 x69 x70 x71 x72 x73 x74 x75 x76 x77 x95 x96 x97 x98 x99 x100 x101 x102 x103 x104 x105 x106 x107 x108 x109 x110 x111 x112 x113 x114 x115 x116 x117 x118 x119 x120 x121 x122 x123 x124 x125 x126 v13 : Value) (j : Nat → Value) : den Try.prog (sel (bodyOf Try.f39) [1, 0, 1, 0, 1, 1, 1, 1, 1, 1, 1, 0, 1, 0, 1, 0, 0, 1, 0, 0, 1, 0, 0]) (thenD k2 (blk 3 (blk 2 (thenD (den Try.prog (sel (bodyOf Try.f39) [1, 0, 1, 0, 1, 1, 1, 1, 1, 1, 1, 0, 1, 0, 1, 0, 0, 1, 1]) (thenD k1 (blk 1 (thenD (den Try.prog (sel (bodyOf Try.f39) [1, 0, 1, 0, 1, 1, 1, 1, 1, 1, 1, 0, 1, 1]) (blk 0 (thenD (den Try.prog (sel (bodyOf Try.f39) [1, 1]) (bodyQ Try.prog Try.f39.results.toList K E)) (bodyQ Try.prog Try.f39.results.toList K E)))) (blk 0 (thenD (den Try.prog (sel (bodyOf Try.f39) [1, 1]) (bodyQ Try.prog Try.f39.results.toList K E)) (bodyQ Try.prog Try.f39.results.toList K E))))))) (thenD k1 (blk 1 (thenD (den Try.prog (sel (bodyOf Try.f39) [1, 0, 1, 0, 1, 1, 1, 1, 1, 1, 1, 0, 1, 1]) (blk 0 (thenD (den Try.prog (sel (bodyOf Try.f39) [1, 1]) (bodyQ Try.prog Try.f39.results.toList K E)) (bodyQ Try.prog Try.f39.results.toList K E)))) (blk 0 (thenD (den Try.prog (sel (bodyOf Try.f39) [1, 1]) (bodyQ Try.prog Try.f39.results.toList K E)) (bodyQ Try.prog Try.f39.results.toList K E)))))))))) (m39_1_0_1_0_1_1_1_1_1_1_1_0_1_0_1_0_0_1_0_0_1_0_0 x0 x1 x2 x3 x4 x5 x6 x7 x8 x9 x10 x11 x12 x14 x15 x16 x17 x18 x19 x20 x21 x22 x23 x24 x25 x26 x27 x28 x29 x30 x31 x32 x33 x34 x35 x36 x37 x38 x39 x40 x41 x42 x43 x44 x45 x46 x47 x48 x49 x50 x51 x52 x53 x54 x55 x56 x57 x58 x59 x60 x61 x62 x63 x64 x65 x66 x67 x68 x69 x70 x71 x72 x73 x74 x75 x76 x77 x95 x96 x97 x98 x99 x100 x101 x102 x103 x104 x105 x106 x107 x108 x109 x110 x111 x112 x113 x114 x115 x116 x117 x118 x119 x120 x121 x122 x123 x124 x125 x126 v13 j) =
  pv (iaV none 3 x11 x12) fun t1 =>
  pv (faV 2 t1) fun t2 =>
  ld false 1 t2 fun t3 =>
  pv (lenV t3) fun t4 =>
  pv (binV .none .lss v13 t4) fun t5 =>
  cnd t5 (
    pv (iaV none 3 x11 x12) fun t6 =>
    pv (faV 2 t6) fun t7 =>
    ld false 1 t7 fun t8 =>
    pv (iaV none 1 t8 v13) fun t9 =>
    st 1 t9 (.int .u8 255) fun _ =>
    pv (binV .none .add v13 (.int .i64 1)) fun t10 =>
    k2 (m39_1_0_1_0_1_1_1_1_1_1_1_0_1_0_1_0_0_1_0_0_1_0_0 x0 x1 x2 x3 x4 x5 x6 x7 x8 x9 x10 x11 x12 x14 x15 x16 x17 x18 x19 x20 x21 x22 x23 x24 x25 x26 x27 x28 x29 x30 x31 x32 x33 x34 x35 x36 x37 x38 x39 x40 x41 x42 x43 x44 x45 x46 x47 x48 x49 x50 x51 x52 x53 x54 x55 x56 x57 x58 x59 x60 x61 x62 x63 x64 x65 x66 x67 x68 x69 x70 x71 x72 x73 x74 x75 x76 x77 x95 x96 x97 x98 x99 x100 x101 x102 x103 x104 x105 x106 x107 x108 x109 x110 x111 x112 x113 x114 x115 x116 x117 x118 x119 x120 x121 x122 x123 x124 x125 x126 t10 (jf #[x0, x1, x2, x3, x4, x5, x6, x7, x8, x9, x10, x11, x12, t10, x14, x15, x16, x17, x18, x19, x20, x21, x22, x23, x24, x25, x26, x27, x28, x29, x30, x31, x32, x33, x34, x35, x36, x37, x38, x39, x40, x41, x42, x43, x44, x45, x46, x47, x48, x49, x50, x51, x52, x53, x54, x55, x56, x57, x58, x59, x60, x61, x62, x63, x64, x65, x66, x67, x68, x69, x70, x71, x72, x73, x74, x75, x76, x77, v13, x11, x12, t1, t2, t3, t4, t5, v13, t10, x11, x12, t6, t7, t8, v13, t9, x95, x96, x97, x98, x99, x100, x101, x102, x103, x104, x105, x106, x107, x108, x109, x110, x111, x112, x113, x114, x115, x116, x117, x118, x119, x120, x121, x122, x123, x124, x125, x126]))) (
    den Try.prog (sel (bodyOf Try.f39) [1, 0, 1, 0, 1, 1, 1, 1, 1, 1, 1, 0, 1, 0, 1, 0, 0, 1, 1]) (thenD k1 (blk 1 (thenD (den Try.prog (sel (bodyOf Try.f39) [1, 0, 1, 0, 1, 1, 1, 1, 1, 1, 1, 0, 1, 1]) (blk 0 (thenD (den Try.prog (sel (bodyOf Try.f39) [1, 1]) (bodyQ Try.prog Try.f39.results.toList K E)) (bodyQ Try.prog Try.f39.results.toList K E)))) (blk 0 (thenD (den Try.prog (sel (bodyOf Try.f39) [1, 1]) (bodyQ Try.prog Try.f39.results.toList K E)) (bodyQ Try.prog Try.f39.results.toList K E)))))) #[x0, x1, x2, x3, x4, x5, x6, x7, x8, x9, x10, x11, x12, v13, x14, x15, x16, x17, x18, x19, x20, x21, x22, x23, x24, x25, x26, x27, x28, x29, x30, x31, x32, x33, x34, x35, x36, x37, x38, x39, x40, x41, x42, x43, x44, x45, x46, x47, x48, x49, x50, x51, x52, x53, x54, x55, x56, x57, x58, x59, x60, x61, x62, x63, x64, x65, x66, x67, x68, x69, x70, x71, x72, x73, x74, x75, x76, x77, v13, x11, x12, t1, t2, t3, t4, t5, (j 86), (j 87), (j 88), (j 89), (j 90), (j 91), (j 92), (j 93), (j 94), x95, x96, x97, x98, x99, x100, x101, x102, x103, x104, x105, x106, x107, x108, x109, x110, x111, x112, x113, x114, x115, x116, x117, x118, x119, x120, x121, x122, x123, x124, x125, x126]) := by kernel_rfl
theorem t39_1_0_1_0_1_1_1_1_1_1_1_0_1_0_1_0_0_1_1 (K : Kont) (E : PanK) (k1 : Env → Hp → Prop) (x0 x1 x2 x3 x4 x5 x6 x7 x8 x9 x10 x11 x12 x13 x14 x15 x16 x17 x18 x19 x20 x21 x22 x23 x24 x25 x26 x27 x28 x29 x30 x31 x32 x33 x34 x35 x36 x37 x38 x39 x40 x41 x42 x43 x44 x45 x46 x47 x48 x49 x50 x51 x52 x53 x54 x55 x56 x57 x58 x59 x60 x61 x62 x63 x64 x65 x66 x67 x68 x69 x70 x71 x72 x73 x74 x75 x76 x77 x78 x79 x80 x81 x82 x83 x84 x85 x86 x87 x88 x89 x90 x91 x92 x93 x94 x95 x96 x97 x98 x99 x100 x101 x102 x103 x104 x105 x106 x107 x108 x109 x110 x111 x112 x113 x114 x115 x116 x117 x118 x119 x120 x121 x122 x123 x124 x125 x126 : Value)  : den Try.prog (sel (bodyOf Try.f39) [1, 0, 1, 0, 1, 1, 1, 1, 1, 1, 1, 0, 1, 0, 1, 0, 0, 1, 1]) (thenD k1 (blk 1 (thenD (den Try.prog (sel (bodyOf Try.f39) [1, 0, 1, 0, 1, 1, 1, 1, 1, 1, 1, 0, 1, 1]) (blk 0 (thenD (den Try.prog (sel (bodyOf Try.f39) [1, 1]) (bodyQ Try.prog Try.f39.results.toList K E)) (bodyQ Try.prog Try.f39.results.toList K E)))) (blk 0 (thenD (den Try.prog (sel (bodyOf Try.f39) [1, 1]) (bodyQ Try.prog Try.f39.results.toList K E)) (bodyQ Try.prog Try.f39.results.toList K E)))))) #[x0, x1, x2, x3, x4, x5, x6, x7, x8, x9, x10, x11, x12, x13, x14, x15, x16, x17, x18, x19, x20, x21, x22, x23, x24, x25, x26, x27, x28, x29, x30, x31, x32, x33, x34, x35, x36, x37, x38, x39, x40, x41, x42, x43, x44, x45, x46, x47, x48, x49, x50, x51, x52, x53, x54, x55, x56, x57, x58, x59, x60, x61, x62, x63, x64, x65, x66, x67, x68, x69, x70, x71, x72, x73, x74, x75, x76, x77, x78, x79, x80, x81, x82, x83, x84, x85, x86, x87, x88, x89, x90, x91, x92, x93, x94, x95, x96, x97, x98, x99, x100, x101, x102, x103, x104, x105, x106, x107, x108, x109, x110, x111, x112, x113, x114, x115, x116, x117, x118, x119, x120, x121, x122, x123, x124, x125, x126] =
  pv (binV .none .add x12 (.int .i64 1)) fun t1 =>
  k1 (m39_1_0_1_0_1_1_1_1_1_1_1_0_1_0_1_0_0 x0 x1 x2 x3 x4 x5 x6 x7 x8 x9 x10 x11 x14 x15 x16 x17 x18 x19 x20 x21 x22 x23 x24 x25 x26 x27 x28 x29 x30 x31 x32 x33 x34 x35 x36 x37 x38 x39 x40 x41 x42 x43 x44 x45 x46 x47 x48 x49 x50 x51 x52 x53 x54 x55 x56 x57 x58 x59 x60 x61 x62 x63 x64 x65 x66 x67 x68 x69 x70 x71 x95 x96 x97 x98 x99 x100 x101 x102 x103 x104 x105 x106 x107 x108 x109 x110 x111 x112 x113 x114 x115 x116 x117 x118 x119 x120 x121 x122 x123 x124 x125 x126 t1 (jf #[x0, x1, x2, x3, x4, x5, x6, x7, x8, x9, x10, x11, t1, x13, x14, x15, x16, x17, x18, x19, x20, x21, x22, x23, x24, x25, x26, x27, x28, x29, x30, x31, x32, x33, x34, x35, x36, x37, x38, x39, x40, x41, x42, x43, x44, x45, x46, x47, x48, x49, x50, x51, x52, x53, x54, x55, x56, x57, x58, x59, x60, x61, x62, x63, x64, x65, x66, x67, x68, x69, x70, x71, x72, x73, x74, x75, x12, t1, x78, x79, x80, x81, x82, x83, x84, x85, x86, x87, x88, x89, x90, x91, x92, x93, x94, x95, x96, x97, x98, x99, x100, x101, x102, x103, x104, x105, x106, x107, x108, x109, x110, x111, x112, x113, x114, x115, x116, x117, x118, x119, x120, x121, x122, x123, x124, x125, x126])) := by kernel_rfl
def m39_1_1_1_1_1_0_1_0_0 (x0 x1 x2 x3 x4 x5 x6 x7 x8 x9 x10 x11 x12 x13 x14 x15 x17 x18 x19 x20 x21 x22 x23 x24 x25 x26 x27 x28 x29 x30 x31 x32 x33 x34 x35 x36 x37 x38 x39 x40 x41 x42 x43 x44 x45 x46 x47 x48 x49 x50 x51 x52 x53 x54 x55 x56 x57 x58 x59 x60 x61 x62 x63 x64 x65 x66 x67 x68 x69 x70 x71 x72 x73 x74 x75 x76 x77 x78 x79 x80 x81 x82 x83 x84 x85 x86 x87 x88 x89 x90 x91 x92 x93 x94 x95 x96 x97 x98 x99 x100 x101 x102 x103 x104 x105 x106 x116 x117 x118 x119 x120 x121 x122 x123 x124 x125 x126 : Value) (v16 : Value) (j : Nat → Value) : Env := #[x0, x1, x2, x3, x4, x5, x6, x7, x8, x9, x10, x11, x12, x13, x14, x15, v16, x17, x18, x19, x20, x21, x22, x23, x24, x25, x26, x27, x28, x29, x30, x31, x32, x33, x34, x35, x36, x37, x38, x39, x40, x41, x42, x43, x44, x45, x46, x47, x48, x49, x50, x51, x52, x53, x54, x55, x56, x57, x58, x59, x60, x61, x62, x63, x64, x65, x66, x67, x68, x69, x70, x71, x72, x73, x74, x75, x76, x77, x78, x79, x80, x81, x82, x83, x84, x85, x86, x87, x88, x89, x90, x91, x92, x93, x94, x95, x96, x97, x98, x99, x100, x101, x102, x103, x104, x105, x106, (j 107), (j 108), (j 109), (j 110), (j 111), (j 112), (j 113), (j 114), (j 115), x116, x117, x118, x119, x120, x121, x122, x123, x124, x125, x126]
theorem t39_1_1_1_1_1_0_1_0_0 (K : Kont) (E : PanK) (k1 : Env → Hp → Prop) (x0 x1 x2 x3 x4 x5 x6 x7 x8 x9 x10 x11 x12 x13 x14 x15 x17 x18 x19 x20 x21 x22 x23 x24 x25 x26 x27 x28 x29 x30 x31 x32 x33 x34 x35 x36 x37 x38 x39 x40 x41 x42 x43 x44 x45 x46 x47 x48 x49 x50 x51 x52 x53 x54 x55 x56 x57 x58 x59 x60 x61 x62 x63 x64 x65 x66 x67 x68 x69 x70 x71 x72 x73 x74 x75 x76 x77 x78 x79 x80 x81 x82 x83 x84 x85 x86 x87 x88 x89 x90 x91 x92 x93 x94 x95 x96 x97 x98 x99 x100 x101 x102 x103 x104 x105 x106 x116 x117 x118 x119 x120 x121 x122 x123 x124 x125 x126 v16 : Value) (j : Nat → Value) : den Try.prog (sel (bodyOf Try.f39) [1, 1, 1, 1, 1, 0, 1, 0, 0]) (thenD k1 (blk 5 (thenD (den Try.prog (sel (bodyOf Try.f39) [1, 1, 1, 1, 1, 1]) (bodyQ Try.prog Try.f39.results.toList K E)) (bodyQ Try.prog Try.f39.results.toList K E)))) (m39_1_1_1_1_1_0_1_0_0 x0 x1 x2 x3 x4 x5 x6 x7 x8 x9 x10 x11 x12 x13 x14 x15 x17 x18 x19 x20 x21 x22 x23 x24 x25 x26 x27 x28 x29 x30 x31 x32 x33 x34 x35 x36 x37 x38 x39 x40 x41 x42 x43 x44 x45 x46 x47 x48 x49 x50 x51 x52 x53 x54 x55 x56 x57 x58 x59 x60 x61 x62 x63 x64 x65 x66 x67 x68 x69 x70 x71 x72 x73 x74 x75 x76 x77 x78 x79 x80 x81 x82 x83 x84 x85 x86 x87 x88 x89 x90 x91 x92 x93 x94 x95 x96 x97 x98 x99 x100 x101 x102 x103 x104 x105 x106 x116 x117 x118 x119 x120 x121 x122 x123 x124 x125 x126 v16 j) =
  pv (lenV x14) fun t1 =>
  pv (binV .none .lss v16 t1) fun t2 =>
  cnd t2 (
    pv (iaV none 1 x14 v16) fun t3 =>
    st 1 t3 (.int .u8 255) fun _ =>
    pv (binV .none .add v16 (.int .i64 1)) fun t4 =>
    k1 (m39_1_1_1_1_1_0_1_0_0 x0 x1 x2 x3 x4 x5 x6 x7 x8 x9 x10 x11 x12 x13 x14 x15 x17 x18 x19 x20 x21 x22 x23 x24 x25 x26 x27 x28 x29 x30 x31 x32 x33 x34 x35 x36 x37 x38 x39 x40 x41 x42 x43 x44 x45 x46 x47 x48 x49 x50 x51 x52 x53 x54 x55 x56 x57 x58 x59 x60 x61 x62 x63 x64 x65 x66 x67 x68 x69 x70 x71 x72 x73 x74 x75 x76 x77 x78 x79 x80 x81 x82 x83 x84 x85 x86 x87 x88 x89 x90 x91 x92 x93 x94 x95 x96 x97 x98 x99 x100 x101 x102 x103 x104 x105 x106 x116 x117 x118 x119 x120 x121 x122 x123 x124 x125 x126 t4 (jf #[x0, x1, x2, x3, x4, x5, x6, x7, x8, x9, x10, x11, x12, x13, x14, x15, t4, x17, x18, x19, x20, x21, x22, x23, x24, x25, x26, x27, x28, x29, x30, x31, x32, x33, x34, x35, x36, x37, x38, x39, x40, x41, x42, x43, x44, x45, x46, x47, x48, x49, x50, x51, x52, x53, x54, x55, x56, x57, x58, x59, x60, x61, x62, x63, x64, x65, x66, x67, x68, x69, x70, x71, x72, x73, x74, x75, x76, x77, x78, x79, x80, x81, x82, x83, x84, x85, x86, x87, x88, x89, x90, x91, x92, x93, x94, x95, x96, x97, x98, x99, x100, x101, x102, x103, x104, x105, x106, v16, x14, t1, t2, v16, t4, x14, v16, t3, x116, x117, x118, x119, x120, x121, x122, x123, x124, x125, x126]))) (
    den Try.prog (sel (bodyOf Try.f39) [1, 1, 1, 1, 1, 1]) (bodyQ Try.prog Try.f39.results.toList K E) #[x0, x1, x2, x3, x4, x5, x6, x7, x8, x9, x10, x11, x12, x13, x14, x15, v16, x17, x18, x19, x20, x21, x22, x23, x24, x25, x26, x27, x28, x29, x30, x31, x32, x33, x34, x35, x36, x37, x38, x39, x40, x41, x42, x43, x44, x45, x46, x47, x48, x49, x50, x51, x52, x53, x54, x55, x56, x57, x58, x59, x60, x61, x62, x63, x64, x65, x66, x67, x68, x69, x70, x71, x72, x73, x74, x75, x76, x77, x78, x79, x80, x81, x82, x83, x84, x85, x86, x87, x88, x89, x90, x91, x92, x93, x94, x95, x96, x97, x98, x99, x100, x101, x102, x103, x104, x105, x106, v16, x14, t1, t2, (j 111), (j 112), (j 113), (j 114), (j 115), x116, x117, x118, x119, x120, x121, x122, x123, x124, x125, x126]) := by kernel_rfl
theorem t39_1_1_1_1_1_1 (K : Kont) (E : PanK) (x0 x1 x2 x3 x4 x5 x6 x7 x8 x9 x10 x11 x12 x13 x14 x15 x16 x17 x18 x19 x20 x21 x22 x23 x24 x25 x26 x27 x28 x29 x30 x31 x32 x33 x34 x35 x36 x37 x38 x39 x40 x41 x42 x43 x44 x45 x46 x47 x48 x49 x50 x51 x52 x53 x54 x55 x56 x57 x58 x59 x60 x61 x62 x63 x64 x65 x66 x67 x68 x69 x70 x71 x72 x73 x74 x75 x76 x77 x78 x79 x80 x81 x82 x83 x84 x85 x86 x87 x88 x89 x90 x91 x92 x93 x94 x95 x96 x97 x98 x99 x100 x101 x102 x103 x104 x105 x106 x107 x108 x109 x110 x111 x112 x113 x114 x115 x116 x117 x118 x119 x120 x121 x122 x123 x124 x125 x126 : Value)  : den Try.prog (sel (bodyOf Try.f39) [1, 1, 1, 1, 1, 1]) (bodyQ Try.prog Try.f39.results.toList K E) #[x0, x1, x2, x3, x4, x5, x6, x7, x8, x9, x10, x11, x12, x13, x14, x15, x16, x17, x18, x19, x20, x21, x22, x23, x24, x25, x26, x27, x28, x29, x30, x31, x32, x33, x34, x35, x36, x37, x38, x39, x40, x41, x42, x43, x44, x45, x46, x47, x48, x49, x50, x51, x52, x53, x54, x55, x56, x57, x58, x59, x60, x61, x62, x63, x64, x65, x66, x67, x68, x69, x70, x71, x72, x73, x74, x75, x76, x77, x78, x79, x80, x81, x82, x83, x84, x85, x86, x87, x88, x89, x90, x91, x92, x93, x94, x95, x96, x97, x98, x99, x100, x101, x102, x103, x104, x105, x106, x107, x108, x109, x110, x111, x112, x113, x114, x115, x116, x117, x118, x119, x120, x121, x122, x123, x124, x125, x126] =
  pv (faV 1 x5) fun t1 =>
  ld false 1 t1 fun t2 =>
  pv (faV 2 x5) fun t3 =>
  ld false 1 t3 fun t4 =>
  pv (faV 3 x5) fun t5 =>
  ld false 1 t5 fun t6 =>
  pv (bdC #[(.int .i64 0), (.int .i64 0), (.slice none 0 0)] [(0, 1), (1, 1), (2, 1)] #[(0, t2), (1, t4), (2, t6)]) fun t7 =>
  callv Try.prog (.func (.func 55) #[] #[]) #[x1, t7] (fun t8 =>
  pv (binV .bool .eql x15 t8) fun t9 =>
  K t9) E := by kernel_rfl
theorem l39_1_0_1_0_1_1_1_1_1_1_1_0_1_0_1_0_0 {K : Kont} {E : PanK} {σ : Type} {x0 x1 x2 x3 x4 x5 x6 x7 x8 x9 x10 x11 x14 x15 x16 x17 x18 x19 x20 x21 x22 x23 x24 x25 x26 x27 x28 x29 x30 x31 x32 x33 x34 x35 x36 x37 x38 x39 x40 x41 x42 x43 x44 x45 x46 x47 x48 x49 x50 x51 x52 x53 x54 x55 x56 x57 x58 x59 x60 x61 x62 x63 x64 x65 x66 x67 x68 x69 x70 x71 x95 x96 x97 x98 x99 x100 x101 x102 x103 x104 x105 x106 x107 x108 x109 x110 x111 x112 x113 x114 x115 x116 x117 x118 x119 x120 x121 x122 x123 x124 x125 x126 v12 y13 y72 y73 y74 y75 y76 y77 y78 y79 y80 y81 y82 y83 y84 y85 y86 y87 y88 y89 y90 y91 y92 y93 y94 : Value} {h : Hp} (f12 : σ → Value) (I : σ → Hp → Prop) (μ : σ → Nat) (s0 : σ) (e12 : v12 = f12 s0) (h0 : h.wf → ∃ h', h.wk h' ∧ I s0 h')
  (round : ∀ (k1 : Env → Hp → Prop) (s : σ) (j : Nat → Value) (h : Hp), I s h → h.wf → (∀ s' j' h', μ s' < μ s → (h'.wf → ∃ h'', h'.wk h'' ∧ I s' h'') → k1 (m39_1_0_1_0_1_1_1_1_1_1_1_0_1_0_1_0_0 x0 x1 x2 x3 x4 x5 x6 x7 x8 x9 x10 x11 x14 x15 x16 x17 x18 x19 x20 x21 x22 x23 x24 x25 x26 x27 x28 x29 x30 x31 x32 x33 x34 x35 x36 x37 x38 x39 x40 x41 x42 x43 x44 x45 x46 x47 x48 x49 x50 x51 x52 x53 x54 x55 x56 x57 x58 x59 x60 x61 x62 x63 x64 x65 x66 x67 x68 x69 x70 x71 x95 x96 x97 x98 x99 x100 x101 x102 x103 x104 x105 x106 x107 x108 x109 x110 x111 x112 x113 x114 x115 x116 x117 x118 x119 x120 x121 x122 x123 x124 x125 x126 (f12 s') j') h') → (
  pv (lenV x11) fun t1 =>
  pv (binV .none .lss (f12 s) t1) fun t2 =>
  cnd t2 (
    lp (fun k2 => den Try.prog (sel (bodyOf Try.f39) [1, 0, 1, 0, 1, 1, 1, 1, 1, 1, 1, 0, 1, 0, 1, 0, 0, 1, 0, 0, 1, 0, 0]) (thenD k2 (blk 3 (blk 2 (thenD (den Try.prog (sel (bodyOf Try.f39) [1, 0, 1, 0, 1, 1, 1, 1, 1, 1, 1, 0, 1, 0, 1, 0, 0, 1, 1]) (thenD k1 (blk 1 (thenD (den Try.prog (sel (bodyOf Try.f39) [1, 0, 1, 0, 1, 1, 1, 1, 1, 1, 1, 0, 1, 1]) (blk 0 (thenD (den Try.prog (sel (bodyOf Try.f39) [1, 1]) (bodyQ Try.prog Try.f39.results.toList K E)) (bodyQ Try.prog Try.f39.results.toList K E)))) (blk 0 (thenD (den Try.prog (sel (bodyOf Try.f39) [1, 1]) (bodyQ Try.prog Try.f39.results.toList K E)) (bodyQ Try.prog Try.f39.results.toList K E))))))) (thenD k1 (blk 1 (thenD (den Try.prog (sel (bodyOf Try.f39) [1, 0, 1, 0, 1, 1, 1, 1, 1, 1, 1, 0, 1, 1]) (blk 0 (thenD (den Try.prog (sel (bodyOf Try.f39) [1, 1]) (bodyQ Try.prog Try.f39.results.toList K E)) (bodyQ Try.prog Try.f39.results.toList K E)))) (blk 0 (thenD (den Try.prog (sel (bodyOf Try.f39) [1, 1]) (bodyQ Try.prog Try.f39.results.toList K E)) (bodyQ Try.prog Try.f39.results.toList K E))))))))))) #[x0, x1, x2, x3, x4, x5, x6, x7, x8, x9, x10, x11, (f12 s), (.int .i64 0), x14, x15, x16, x17, x18, x19, x20, x21, x22, x23, x24, x25, x26, x27, x28, x29, x30, x31, x32, x33, x34, x35, x36, x37, x38, x39, x40, x41, x42, x43, x44, x45, x46, x47, x48, x49, x50, x51, x52, x53, x54, x55, x56, x57, x58, x59, x60, x61, x62, x63, x64, x65, x66, x67, x68, x69, x70, x71, (f12 s), x11, t1, t2, (j 76), (j 77), (j 78), (j 79), (j 80), (j 81), (j 82), (j 83), (j 84), (j 85), (j 86), (j 87), (j 88), (j 89), (j 90), (j 91), (j 92), (j 93), (j 94), x95, x96, x97, x98, x99, x100, x101, x102, x103, x104, x105, x106, x107, x108, x109, x110, x111, x112, x113, x114, x115, x116, x117, x118, x119, x120, x121, x122, x123, x124, x125, x126]) (
    den Try.prog (sel (bodyOf Try.f39) [1, 0, 1, 0, 1, 1, 1, 1, 1, 1, 1, 0, 1, 1]) (blk 0 (thenD (den Try.prog (sel (bodyOf Try.f39) [1, 1]) (bodyQ Try.prog Try.f39.results.toList K E)) (bodyQ Try.prog Try.f39.results.toList K E))) #[x0, x1, x2, x3, x4, x5, x6, x7, x8, x9, x10, x11, (f12 s), (j 13), x14, x15, x16, x17, x18, x19, x20, x21, x22, x23, x24, x25, x26, x27, x28, x29, x30, x31, x32, x33, x34, x35, x36, x37, x38, x39, x40, x41, x42, x43, x44, x45, x46, x47, x48, x49, x50, x51, x52, x53, x54, x55, x56, x57, x58, x59, x60, x61, x62, x63, x64, x65, x66, x67, x68, x69, x70, x71, (f12 s), x11, t1, t2, (j 76), (j 77), (j 78), (j 79), (j 80), (j 81), (j 82), (j 83), (j 84), (j 85), (j 86), (j 87), (j 88), (j 89), (j 90), (j 91), (j 92), (j 93), (j 94), x95, x96, x97, x98, x99, x100, x101, x102, x103, x104, x105, x106, x107, x108, x109, x110, x111, x112, x113, x114, x115, x116, x117, x118, x119, x120, x121, x122, x123, x124, x125, x126])) h) :
  lp (fun k1 => den Try.prog (sel (bodyOf Try.f39) [1, 0, 1, 0, 1, 1, 1, 1, 1, 1, 1, 0, 1, 0, 1, 0, 0]) (thenD k1 (blk 1 (thenD (den Try.prog (sel (bodyOf Try.f39) [1, 0, 1, 0, 1, 1, 1, 1, 1, 1, 1, 0, 1, 1]) (blk 0 (thenD (den Try.prog (sel (bodyOf Try.f39) [1, 1]) (bodyQ Try.prog Try.f39.results.toList K E)) (bodyQ Try.prog Try.f39.results.toList K E)))) (blk 0 (thenD (den Try.prog (sel (bodyOf Try.f39) [1, 1]) (bodyQ Try.prog Try.f39.results.toList K E)) (bodyQ Try.prog Try.f39.results.toList K E))))))) #[x0, x1, x2, x3, x4, x5, x6, x7, x8, x9, x10, x11, v12, y13, x14, x15, x16, x17, x18, x19, x20, x21, x22, x23, x24, x25, x26, x27, x28, x29, x30, x31, x32, x33, x34, x35, x36, x37, x38, x39, x40, x41, x42, x43, x44, x45, x46, x47, x48, x49, x50, x51, x52, x53, x54, x55, x56, x57, x58, x59, x60, x61, x62, x63, x64, x65, x66, x67, x68, x69, x70, x71, y72, y73, y74, y75, y76, y77, y78, y79, y80, y81, y82, y83, y84, y85, y86, y87, y88, y89, y90, y91, y92, y93, y94, x95, x96, x97, x98, x99, x100, x101, x102, x103, x104, x105, x106, x107, x108, x109, x110, x111, x112, x113, x114, x115, x116, x117, x118, x119, x120, x121, x122, x123, x124, x125, x126] h := by
  subst e12
  have e : (#[x0, x1, x2, x3, x4, x5, x6, x7, x8, x9, x10, x11, (f12 s0), y13, x14, x15, x16, x17, x18, x19, x20, x21, x22, x23, x24, x25, x26, x27, x28, x29, x30, x31, x32, x33, x34, x35, x36, x37, x38, x39, x40, x41, x42, x43, x44, x45, x46, x47, x48, x49, x50, x51, x52, x53, x54, x55, x56, x57, x58, x59, x60, x61, x62, x63, x64, x65, x66, x67, x68, x69, x70, x71, y72, y73, y74, y75, y76, y77, y78, y79, y80, y81, y82, y83, y84, y85, y86, y87, y88, y89, y90, y91, y92, y93, y94, x95, x96, x97, x98, x99, x100, x101, x102, x103, x104, x105, x106, x107, x108, x109, x110, x111, x112, x113, x114, x115, x116, x117, x118, x119, x120, x121, x122, x123, x124, x125, x126] : Env) = m39_1_0_1_0_1_1_1_1_1_1_1_0_1_0_1_0_0 x0 x1 x2 x3 x4 x5 x6 x7 x8 x9 x10 x11 x14 x15 x16 x17 x18 x19 x20 x21 x22 x23 x24 x25 x26 x27 x28 x29 x30 x31 x32 x33 x34 x35 x36 x37 x38 x39 x40 x41 x42 x43 x44 x45 x46 x47 x48 x49 x50 x51 x52 x53 x54 x55 x56 x57 x58 x59 x60 x61 x62 x63 x64 x65 x66 x67 x68 x69 x70 x71 x95 x96 x97 x98 x99 x100 x101 x102 x103 x104 x105 x106 x107 x108 x109 x110 x111 x112 x113 x114 x115 x116 x117 x118 x119 x120 x121 x122 x123 x124 x125 x126 (f12 s0) (jf #[x0, x1, x2, x3, x4, x5, x6, x7, x8, x9, x10, x11, (f12 s0), y13, x14, x15, x16, x17, x18, x19, x20, x21, x22, x23, x24, x25, x26, x27, x28, x29, x30, x31, x32, x33, x34, x35, x36, x37, x38, x39, x40, x41, x42, x43, x44, x45, x46, x47, x48, x49, x50, x51, x52, x53, x54, x55, x56, x57, x58, x59, x60, x61, x62, x63, x64, x65, x66, x67, x68, x69, x70, x71, y72, y73, y74, y75, y76, y77, y78, y79, y80, y81, y82, y83, y84, y85, y86, y87, y88, y89, y90, y91, y92, y93, y94, x95, x96, x97, x98, x99, x100, x101, x102, x103, x104, x105, x106, x107, x108, x109, x110, x111, x112, x113, x114, x115, x116, x117, x118, x119, x120, x121, x122, x123, x124, x125, x126]) := by kernel_rfl
  rw [e]
  exact loop_r (fun s j => m39_1_0_1_0_1_1_1_1_1_1_1_0_1_0_1_0_0 x0 x1 x2 x3 x4 x5 x6 x7 x8 x9 x10 x11 x14 x15 x16 x17 x18 x19 x20 x21 x22 x23 x24 x25 x26 x27 x28 x29 x30 x31 x32 x33 x34 x35 x36 x37 x38 x39 x40 x41 x42 x43 x44 x45 x46 x47 x48 x49 x50 x51 x52 x53 x54 x55 x56 x57 x58 x59 x60 x61 x62 x63 x64 x65 x66 x67 x68 x69 x70 x71 x95 x96 x97 x98 x99 x100 x101 x102 x103 x104 x105 x106 x107 x108 x109 x110 x111 x112 x113 x114 x115 x116 x117 x118 x119 x120 x121 x122 x123 x124 x125 x126 (f12 s) j) I μ (fun k s j h hI hw next => by rw [t39_1_0_1_0_1_1_1_1_1_1_1_0_1_0_1_0_0]; exact round k s j h hI hw next) s0 (jf #[x0, x1, x2, x3, x4, x5, x6, x7, x8, x9, x10, x11, (f12 s0), y13, x14, x15, x16, x17, x18, x19, x20, x21, x22, x23, x24, x25, x26, x27, x28, x29, x30, x31, x32, x33, x34, x35, x36, x37, x38, x39, x40, x41, x42, x43, x44, x45, x46, x47, x48, x49, x50, x51, x52, x53, x54, x55, x56, x57, x58, x59, x60, x61, x62, x63, x64, x65, x66, x67, x68, x69, x70, x71, y72, y73, y74, y75, y76, y77, y78, y79, y80, y81, y82, y83, y84, y85, y86, y87, y88, y89, y90, y91, y92, y93, y94, x95, x96, x97, x98, x99, x100, x101, x102, x103, x104, x105, x106, x107, x108, x109, x110, x111, x112, x113, x114, x115, x116, x117, x118, x119, x120, x121, x122, x123, x124, x125, x126]) h0
theorem l39_1_0_1_0_1_1_1_1_1_1_1_0_1_0_1_0_0_1_0_0_1_0_0 {K : Kont} {E : PanK} {k1 : Env → Hp → Prop} {σ : Type} {x0 x1 x2 x3 x4 x5 x6 x7 x8 x9 x10 x11 x12 x14 x15 x16 x17 x18 x19 x20 x21 x22 x23 x24 x25 x26 x27 x28 x29 x30 x31 x32 x33 x34 x35 x36 x37 x38 x39 x40 x41 x42 x43 x44 x45 x46 x47 x48 x49 x50 x51 x52 x53 x54 x55 x56 x57 x58 x59 x60 x61 x62 x63 x64 x65 x66 x67 x68 x69 x70 x71 x72 x73 x74 x75 x76 x77 x95 x96 x97 x98 x99 x100 x101 x102 x103 x104 x105 x106 x107 x108 x109 x110 x111 x112 x113 x114 x115 x116 x117 x118 x119 x120 x121 x122 x123 x124 x125 x126 v13 y78 y79 y80 y81 y82 y83 y84 y85 y86 y87 y88 y89 y90 y91 y92 y93 y94 : Value} {h : Hp} (f13 : σ → Value) (I : σ → Hp → Prop) (μ : σ → Nat) (s0 : σ) (e13 : v13 = f13 s0) (h0 : h.wf → ∃ h', h.wk h' ∧ I s0 h')
  (round : ∀ (k2 : Env → Hp → Prop) (s : σ) (j : Nat → Value) (h : Hp), I s h → h.wf → (∀ s' j' h', μ s' < μ s → (h'.wf → ∃ h'', h'.wk h'' ∧ I s' h'') → k2 (m39_1_0_1_0_1_1_1_1_1_1_1_0_1_0_1_0_0_1_0_0_1_0_0 x0 x1 x2 x3 x4 x5 x6 x7 x8 x9 x10 x11 x12 x14 x15 x16 x17 x18 x19 x20 x21 x22 x23 x24 x25 x26 x27 x28 x29 x30 x31 x32 x33 x34 x35 x36 x37 x38 x39 x40 x41 x42 x43 x44 x45 x46 x47 x48 x49 x50 x51 x52 x53 x54 x55 x56 x57 x58 x59 x60 x61 x62 x63 x64 x65 x66 x67 x68 x69 x70 x71 x72 x73 x74 x75 x76 x77 x95 x96 x97 x98 x99 x100 x101 x102 x103 x104 x105 x106 x107 x108 x109 x110 x111 x112 x113 x114 x115 x116 x117 x118 x119 x120 x121 x122 x123 x124 x125 x126 (f13 s') j') h') → (
  pv (iaV none 3 x11 x12) fun t1 =>
  pv (faV 2 t1) fun t2 =>
  ld false 1 t2 fun t3 =>
  pv (lenV t3) fun t4 =>
  pv (binV .none .lss (f13 s) t4) fun t5 =>
  cnd t5 (
    pv (iaV none 3 x11 x12) fun t6 =>
    pv (faV 2 t6) fun t7 =>
    ld false 1 t7 fun t8 =>
    pv (iaV none 1 t8 (f13 s)) fun t9 =>
    st 1 t9 (.int .u8 255) fun _ =>
    pv (binV .none .add (f13 s) (.int .i64 1)) fun t10 =>
    k2 (m39_1_0_1_0_1_1_1_1_1_1_1_0_1_0_1_0_0_1_0_0_1_0_0 x0 x1 x2 x3 x4 x5 x6 x7 x8 x9 x10 x11 x12 x14 x15 x16 x17 x18 x19 x20 x21 x22 x23 x24 x25 x26 x27 x28 x29 x30 x31 x32 x33 x34 x35 x36 x37 x38 x39 x40 x41 x42 x43 x44 x45 x46 x47 x48 x49 x50 x51 x52 x53 x54 x55 x56 x57 x58 x59 x60 x61 x62 x63 x64 x65 x66 x67 x68 x69 x70 x71 x72 x73 x74 x75 x76 x77 x95 x96 x97 x98 x99 x100 x101 x102 x103 x104 x105 x106 x107 x108 x109 x110 x111 x112 x113 x114 x115 x116 x117 x118 x119 x120 x121 x122 x123 x124 x125 x126 t10 (jf #[x0, x1, x2, x3, x4, x5, x6, x7, x8, x9, x10, x11, x12, t10, x14, x15, x16, x17, x18, x19, x20, x21, x22, x23, x24, x25, x26, x27, x28, x29, x30, x31, x32, x33, x34, x35, x36, x37, x38, x39, x40, x41, x42, x43, x44, x45, x46, x47, x48, x49, x50, x51, x52, x53, x54, x55, x56, x57, x58, x59, x60, x61, x62, x63, x64, x65, x66, x67, x68, x69, x70, x71, x72, x73, x74, x75, x76, x77, (f13 s), x11, x12, t1, t2, t3, t4, t5, (f13 s), t10, x11, x12, t6, t7, t8, (f13 s), t9, x95, x96, x97, x98, x99, x100, x101, x102, x103, x104, x105, x106, x107, x108, x109, x110, x111, x112, x113, x114, x115, x116, x117, x118, x119, x120, x121, x122, x123, x124, x125, x126]))) (
    den Try.prog (sel (bodyOf Try.f39) [1, 0, 1, 0, 1, 1, 1, 1, 1, 1, 1, 0, 1, 0, 1, 0, 0, 1, 1]) (thenD k1 (blk 1 (thenD (den Try.prog (sel (bodyOf Try.f39) [1, 0, 1, 0, 1, 1, 1, 1, 1, 1, 1, 0, 1, 1]) (blk 0 (thenD (den Try.prog (sel (bodyOf Try.f39) [1, 1]) (bodyQ Try.prog Try.f39.results.toList K E)) (bodyQ Try.prog Try.f39.results.toList K E)))) (blk 0 (thenD (den Try.prog (sel (bodyOf Try.f39) [1, 1]) (bodyQ Try.prog Try.f39.results.toList K E)) (bodyQ Try.prog Try.f39.results.toList K E)))))) #[x0, x1, x2, x3, x4, x5, x6, x7, x8, x9, x10, x11, x12, (f13 s), x14, x15, x16, x17, x18, x19, x20, x21, x22, x23, x24, x25, x26, x27, x28, x29, x30, x31, x32, x33, x34, x35, x36, x37, x38, x39, x40, x41, x42, x43, x44, x45, x46, x47, x48, x49, x50, x51, x52, x53, x54, x55, x56, x57, x58, x59, x60, x61, x62, x63, x64, x65, x66, x67, x68, x69, x70, x71, x72, x73, x74, x75, x76, x77, (f13 s), x11, x12, t1, t2, t3, t4, t5, (j 86), (j 87), (j 88), (j 89), (j 90), (j 91), (j 92), (j 93), (j 94), x95, x96, x97, x98, x99, x100, x101, x102, x103, x104, x105, x106, x107, x108, x109, x110, x111, x112, x113, x114, x115, x116, x117, x118, x119, x120, x121, x122, x123, x124, x125, x126])) h) :
  lp (fun k2 => den Try.prog (sel (bodyOf Try.f39) [1, 0, 1, 0, 1, 1, 1, 1, 1, 1, 1, 0, 1, 0, 1, 0, 0, 1, 0, 0, 1, 0, 0]) (thenD k2 (blk 3 (blk 2 (thenD (den Try.prog (sel (bodyOf Try.f39) [1, 0, 1, 0, 1, 1, 1, 1, 1, 1, 1, 0, 1, 0, 1, 0, 0, 1, 1]) (thenD k1 (blk 1 (thenD (den Try.prog (sel (bodyOf Try.f39) [1, 0, 1, 0, 1, 1, 1, 1, 1, 1, 1, 0, 1, 1]) (blk 0 (thenD (den Try.prog (sel (bodyOf Try.f39) [1, 1]) (bodyQ Try.prog Try.f39.results.toList K E)) (bodyQ Try.prog Try.f39.results.toList K E)))) (blk 0 (thenD (den Try.prog (sel (bodyOf Try.f39) [1, 1]) (bodyQ Try.prog Try.f39.results.toList K E)) (bodyQ Try.prog Try.f39.results.toList K E))))))) (thenD k1 (blk 1 (thenD (den Try.prog (sel (bodyOf Try.f39) [1, 0, 1, 0, 1, 1, 1, 1, 1, 1, 1, 0, 1, 1]) (blk 0 (thenD (den Try.prog (sel (bodyOf Try.f39) [1, 1]) (bodyQ Try.prog Try.f39.results.toList K E)) (bodyQ Try.prog Try.f39.results.toList K E)))) (blk 0 (thenD (den Try.prog (sel (bodyOf Try.f39) [1, 1]) (bodyQ Try.prog Try.f39.results.toList K E)) (bodyQ Try.prog Try.f39.results.toList K E))))))))))) #[x0, x1, x2, x3, x4, x5, x6, x7, x8, x9, x10, x11, x12, v13, x14, x15, x16, x17, x18, x19, x20, x21, x22, x23, x24, x25, x26, x27, x28, x29, x30, x31, x32, x33, x34, x35, x36, x37, x38, x39, x40, x41, x42, x43, x44, x45, x46, x47, x48, x49, x50, x51, x52, x53, x54, x55, x56, x57, x58, x59, x60, x61, x62, x63, x64, x65, x66, x67, x68, x69, x70, x71, x72, x73, x74, x75, x76, x77, y78, y79, y80, y81, y82, y83, y84, y85, y86, y87, y88, y89, y90, y91, y92, y93, y94, x95, x96, x97, x98, x99, x100, x101, x102, x103, x104, x105, x106, x107, x108, x109, x110, x111, x112, x113, x114, x115, x116, x117, x118, x119, x120, x121, x122, x123, x124, x125, x126] h := by
  subst e13
  have e : (#[x0, x1, x2, x3, x4, x5, x6, x7, x8, x9, x10, x11, x12, (f13 s0), x14, x15, x16, x17, x18, x19, x20, x21, x22, x23, x24, x25, x26, x27, x28, x29, x30, x31, x32, x33, x34, x35, x36, x37, x38, x39, x40, x41, x42, x43, x44, x45, x46, x47, x48, x49, x50, x51, x52, x53, x54, x55, x56, x57, x58, x59, x60, x61, x62, x63, x64, x65, x66, x67, x68, x69, x70, x71, x72, x73, x74, x75, x76, x77, y78, y79, y80, y81, y82, y83, y84, y85, y86, y87, y88, y89, y90, y91, y92, y93, y94, x95, x96, x97, x98, x99, x100, x101, x102, x103, x104, x105, x106, x107, x108, x109, x110, x111, x112, x113, x114, x115, x116, x117, x118, x119, x120, x121, x122, x123, x124, x125, x126] : Env) = m39_1_0_1_0_1_1_1_1_1_1_1_0_1_0_1_0_0_1_0_0_1_0_0 x0 x1 x2 x3 x4 x5 x6 x7 x8 x9 x10 x11 x12 x14 x15 x16 x17 x18 x19 x20 x21 x22 x23 x24 x25 x26 x27 x28 x29 x30 x31 x32 x33 x34 x35 x36 x37 x38 x39 x40 x41 x42 x43 x44 x45 x46 x47 x48 x49 x50 x51 x52 x53 x54 x55 x56 x57 x58 x59 x60 x61 x62 x63 x64 x65 x66 x67 x68 x69 x70 x71 x72 x73 x74 x75 x76 x77 x95 x96 x97 x98 x99 x100 x101 x102 x103 x104 x105 x106 x107 x108 x109 x110 x111 x112 x113 x114 x115 x116 x117 x118 x119 x120 x121 x122 x123 x124 x125 x126 (f13 s0) (jf #[x0, x1, x2, x3, x4, x5, x6, x7, x8, x9, x10, x11, x12, (f13 s0), x14, x15, x16, x17, x18, x19, x20, x21, x22, x23, x24, x25, x26, x27, x28, x29, x30, x31, x32, x33, x34, x35, x36, x37, x38, x39, x40, x41, x42, x43, x44, x45, x46, x47, x48, x49, x50, x51, x52, x53, x54, x55, x56, x57, x58, x59, x60, x61, x62, x63, x64, x65, x66, x67, x68, x69, x70, x71, x72, x73, x74, x75, x76, x77, y78, y79, y80, y81, y82, y83, y84, y85, y86, y87, y88, y89, y90, y91, y92, y93, y94, x95, x96, x97, x98, x99, x100, x101, x102, x103, x104, x105, x106, x107, x108, x109, x110, x111, x112, x113, x114, x115, x116, x117, x118, x119, x120, x121, x122, x123, x124, x125, x126]) := by kernel_rfl
  rw [e]
  exact loop_r (fun s j => m39_1_0_1_0_1_1_1_1_1_1_1_0_1_0_1_0_0_1_0_0_1_0_0 x0 x1 x2 x3 x4 x5 x6 x7 x8 x9 x10 x11 x12 x14 x15 x16 x17 x18 x19 x20 x21 x22 x23 x24 x25 x26 x27 x28 x29 x30 x31 x32 x33 x34 x35 x36 x37 x38 x39 x40 x41 x42 x43 x44 x45 x46 x47 x48 x49 x50 x51 x52 x53 x54 x55 x56 x57 x58 x59 x60 x61 x62 x63 x64 x65 x66 x67 x68 x69 x70 x71 x72 x73 x74 x75 x76 x77 x95 x96 x97 x98 x99 x100 x101 x102 x103 x104 x105 x106 x107 x108 x109 x110 x111 x112 x113 x114 x115 x116 x117 x118 x119 x120 x121 x122 x123 x124 x125 x126 (f13 s) j) I μ (fun k s j h hI hw next => by rw [t39_1_0_1_0_1_1_1_1_1_1_1_0_1_0_1_0_0_1_0_0_1_0_0]; exact round k s j h hI hw next) s0 (jf #[x0, x1, x2, x3, x4, x5, x6, x7, x8, x9, x10, x11, x12, (f13 s0), x14, x15, x16, x17, x18, x19, x20, x21, x22, x23, x24, x25, x26, x27, x28, x29, x30, x31, x32, x33, x34, x35, x36, x37, x38, x39, x40, x41, x42, x43, x44, x45, x46, x47, x48, x49, x50, x51, x52, x53, x54, x55, x56, x57, x58, x59, x60, x61, x62, x63, x64, x65, x66, x67, x68, x69, x70, x71, x72, x73, x74, x75, x76, x77, y78, y79, y80, y81, y82, y83, y84, y85, y86, y87, y88, y89, y90, y91, y92, y93, y94, x95, x96, x97, x98, x99, x100, x101, x102, x103, x104, x105, x106, x107, x108, x109, x110, x111, x112, x113, x114, x115, x116, x117, x118, x119, x120, x121, x122, x123, x124, x125, x126]) h0
theorem l39_1_1_1_1_1_0_1_0_0 {K : Kont} {E : PanK} {σ : Type} {x0 x1 x2 x3 x4 x5 x6 x7 x8 x9 x10 x11 x12 x13 x14 x15 x17 x18 x19 x20 x21 x22 x23 x24 x25 x26 x27 x28 x29 x30 x31 x32 x33 x34 x35 x36 x37 x38 x39 x40 x41 x42 x43 x44 x45 x46 x47 x48 x49 x50 x51 x52 x53 x54 x55 x56 x57 x58 x59 x60 x61 x62 x63 x64 x65 x66 x67 x68 x69 x70 x71 x72 x73 x74 x75 x76 x77 x78 x79 x80 x81 x82 x83 x84 x85 x86 x87 x88 x89 x90 x91 x92 x93 x94 x95 x96 x97 x98 x99 x100 x101 x102 x103 x104 x105 x106 x116 x117 x118 x119 x120 x121 x122 x123 x124 x125 x126 v16 y107 y108 y109 y110 y111 y112 y113 y114 y115 : Value} {h : Hp} (f16 : σ → Value) (I : σ → Hp → Prop) (μ : σ → Nat) (s0 : σ) (e16 : v16 = f16 s0) (h0 : h.wf → ∃ h', h.wk h' ∧ I s0 h')
  (round : ∀ (k1 : Env → Hp → Prop) (s : σ) (j : Nat → Value) (h : Hp), I s h → h.wf → (∀ s' j' h', μ s' < μ s → (h'.wf → ∃ h'', h'.wk h'' ∧ I s' h'') → k1 (m39_1_1_1_1_1_0_1_0_0 x0 x1 x2 x3 x4 x5 x6 x7 x8 x9 x10 x11 x12 x13 x14 x15 x17 x18 x19 x20 x21 x22 x23 x24 x25 x26 x27 x28 x29 x30 x31 x32 x33 x34 x35 x36 x37 x38 x39 x40 x41 x42 x43 x44 x45 x46 x47 x48 x49 x50 x51 x52 x53 x54 x55 x56 x57 x58 x59 x60 x61 x62 x63 x64 x65 x66 x67 x68 x69 x70 x71 x72 x73 x74 x75 x76 x77 x78 x79 x80 x81 x82 x83 x84 x85 x86 x87 x88 x89 x90 x91 x92 x93 x94 x95 x96 x97 x98 x99 x100 x101 x102 x103 x104 x105 x106 x116 x117 x118 x119 x120 x121 x122 x123 x124 x125 x126 (f16 s') j') h') → (
  pv (lenV x14) fun t1 =>
  pv (binV .none .lss (f16 s) t1) fun t2 =>
  cnd t2 (
    pv (iaV none 1 x14 (f16 s)) fun t3 =>
    st 1 t3 (.int .u8 255) fun _ =>
    pv (binV .none .add (f16 s) (.int .i64 1)) fun t4 =>
    k1 (m39_1_1_1_1_1_0_1_0_0 x0 x1 x2 x3 x4 x5 x6 x7 x8 x9 x10 x11 x12 x13 x14 x15 x17 x18 x19 x20 x21 x22 x23 x24 x25 x26 x27 x28 x29 x30 x31 x32 x33 x34 x35 x36 x37 x38 x39 x40 x41 x42 x43 x44 x45 x46 x47 x48 x49 x50 x51 x52 x53 x54 x55 x56 x57 x58 x59 x60 x61 x62 x63 x64 x65 x66 x67 x68 x69 x70 x71 x72 x73 x74 x75 x76 x77 x78 x79 x80 x81 x82 x83 x84 x85 x86 x87 x88 x89 x90 x91 x92 x93 x94 x95 x96 x97 x98 x99 x100 x101 x102 x103 x104 x105 x106 x116 x117 x118 x119 x120 x121 x122 x123 x124 x125 x126 t4 (jf #[x0, x1, x2, x3, x4, x5, x6, x7, x8, x9, x10, x11, x12, x13, x14, x15, t4, x17, x18, x19, x20, x21, x22, x23, x24, x25, x26, x27, x28, x29, x30, x31, x32, x33, x34, x35, x36, x37, x38, x39, x40, x41, x42, x43, x44, x45, x46, x47, x48, x49, x50, x51, x52, x53, x54, x55, x56, x57, x58, x59, x60, x61, x62, x63, x64, x65, x66, x67, x68, x69, x70, x71, x72, x73, x74, x75, x76, x77, x78, x79, x80, x81, x82, x83, x84, x85, x86, x87, x88, x89, x90, x91, x92, x93, x94, x95, x96, x97, x98, x99, x100, x101, x102, x103, x104, x105, x106, (f16 s), x14, t1, t2, (f16 s), t4, x14, (f16 s), t3, x116, x117, x118, x119, x120, x121, x122, x123, x124, x125, x126]))) (
    den Try.prog (sel (bodyOf Try.f39) [1, 1, 1, 1, 1, 1]) (bodyQ Try.prog Try.f39.results.toList K E) #[x0, x1, x2, x3, x4, x5, x6, x7, x8, x9, x10, x11, x12, x13, x14, x15, (f16 s), x17, x18, x19, x20, x21, x22, x23, x24, x25, x26, x27, x28, x29, x30, x31, x32, x33, x34, x35, x36, x37, x38, x39, x40, x41, x42, x43, x44, x45, x46, x47, x48, x49, x50, x51, x52, x53, x54, x55, x56, x57, x58, x59, x60, x61, x62, x63, x64, x65, x66, x67, x68, x69, x70, x71, x72, x73, x74, x75, x76, x77, x78, x79, x80, x81, x82, x83, x84, x85, x86, x87, x88, x89, x90, x91, x92, x93, x94, x95, x96, x97, x98, x99, x100, x101, x102, x103, x104, x105, x106, (f16 s), x14, t1, t2, (j 111), (j 112), (j 113), (j 114), (j 115), x116, x117, x118, x119, x120, x121, x122, x123, x124, x125, x126])) h) :
  lp (fun k1 => den Try.prog (sel (bodyOf Try.f39) [1, 1, 1, 1, 1, 0, 1, 0, 0]) (thenD k1 (blk 5 (thenD (den Try.prog (sel (bodyOf Try.f39) [1, 1, 1, 1, 1, 1]) (bodyQ Try.prog Try.f39.results.toList K E)) (bodyQ Try.prog Try.f39.results.toList K E))))) #[x0, x1, x2, x3, x4, x5, x6, x7, x8, x9, x10, x11, x12, x13, x14, x15, v16, x17, x18, x19, x20, x21, x22, x23, x24, x25, x26, x27, x28, x29, x30, x31, x32, x33, x34, x35, x36, x37, x38, x39, x40, x41, x42, x43, x44, x45, x46, x47, x48, x49, x50, x51, x52, x53, x54, x55, x56, x57, x58, x59, x60, x61, x62, x63, x64, x65, x66, x67, x68, x69, x70, x71, x72, x73, x74, x75, x76, x77, x78, x79, x80, x81, x82, x83, x84, x85, x86, x87, x88, x89, x90, x91, x92, x93, x94, x95, x96, x97, x98, x99, x100, x101, x102, x103, x104, x105, x106, y107, y108, y109, y110, y111, y112, y113, y114, y115, x116, x117, x118, x119, x120, x121, x122, x123, x124, x125, x126] h := by
  subst e16
  have e : (#[x0, x1, x2, x3, x4, x5, x6, x7, x8, x9, x10, x11, x12, x13, x14, x15, (f16 s0), x17, x18, x19, x20, x21, x22, x23, x24, x25, x26, x27, x28, x29, x30, x31, x32, x33, x34, x35, x36, x37, x38, x39, x40, x41, x42, x43, x44, x45, x46, x47, x48, x49, x50, x51, x52, x53, x54, x55, x56, x57, x58, x59, x60, x61, x62, x63, x64, x65, x66, x67, x68, x69, x70, x71, x72, x73, x74, x75, x76, x77, x78, x79, x80, x81, x82, x83, x84, x85, x86, x87, x88, x89, x90, x91, x92, x93, x94, x95, x96, x97, x98, x99, x100, x101, x102, x103, x104, x105, x106, y107, y108, y109, y110, y111, y112, y113, y114, y115, x116, x117, x118, x119, x120, x121, x122, x123, x124, x125, x126] : Env) = m39_1_1_1_1_1_0_1_0_0 x0 x1 x2 x3 x4 x5 x6 x7 x8 x9 x10 x11 x12 x13 x14 x15 x17 x18 x19 x20 x21 x22 x23 x24 x25 x26 x27 x28 x29 x30 x31 x32 x33 x34 x35 x36 x37 x38 x39 x40 x41 x42 x43 x44 x45 x46 x47 x48 x49 x50 x51 x52 x53 x54 x55 x56 x57 x58 x59 x60 x61 x62 x63 x64 x65 x66 x67 x68 x69 x70 x71 x72 x73 x74 x75 x76 x77 x78 x79 x80 x81 x82 x83 x84 x85 x86 x87 x88 x89 x90 x91 x92 x93 x94 x95 x96 x97 x98 x99 x100 x101 x102 x103 x104 x105 x106 x116 x117 x118 x119 x120 x121 x122 x123 x124 x125 x126 (f16 s0) (jf #[x0, x1, x2, x3, x4, x5, x6, x7, x8, x9, x10, x11, x12, x13, x14, x15, (f16 s0), x17, x18, x19, x20, x21, x22, x23, x24, x25, x26, x27, x28, x29, x30, x31, x32, x33, x34, x35, x36, x37, x38, x39, x40, x41, x42, x43, x44, x45, x46, x47, x48, x49, x50, x51, x52, x53, x54, x55, x56, x57, x58, x59, x60, x61, x62, x63, x64, x65, x66, x67, x68, x69, x70, x71, x72, x73, x74, x75, x76, x77, x78, x79, x80, x81, x82, x83, x84, x85, x86, x87, x88, x89, x90, x91, x92, x93, x94, x95, x96, x97, x98, x99, x100, x101, x102, x103, x104, x105, x106, y107, y108, y109, y110, y111, y112, y113, y114, y115, x116, x117, x118, x119, x120, x121, x122, x123, x124, x125, x126]) := by kernel_rfl
  rw [e]
  exact loop_r (fun s j => m39_1_1_1_1_1_0_1_0_0 x0 x1 x2 x3 x4 x5 x6 x7 x8 x9 x10 x11 x12 x13 x14 x15 x17 x18 x19 x20 x21 x22 x23 x24 x25 x26 x27 x28 x29 x30 x31 x32 x33 x34 x35 x36 x37 x38 x39 x40 x41 x42 x43 x44 x45 x46 x47 x48 x49 x50 x51 x52 x53 x54 x55 x56 x57 x58 x59 x60 x61 x62 x63 x64 x65 x66 x67 x68 x69 x70 x71 x72 x73 x74 x75 x76 x77 x78 x79 x80 x81 x82 x83 x84 x85 x86 x87 x88 x89 x90 x91 x92 x93 x94 x95 x96 x97 x98 x99 x100 x101 x102 x103 x104 x105 x106 x116 x117 x118 x119 x120 x121 x122 x123 x124 x125 x126 (f16 s) j) I μ (fun k s j h hI hw next => by rw [t39_1_1_1_1_1_0_1_0_0]; exact round k s j h hI hw next) s0 (jf #[x0, x1, x2, x3, x4, x5, x6, x7, x8, x9, x10, x11, x12, x13, x14, x15, (f16 s0), x17, x18, x19, x20, x21, x22, x23, x24, x25, x26, x27, x28, x29, x30, x31, x32, x33, x34, x35, x36, x37, x38, x39, x40, x41, x42, x43, x44, x45, x46, x47, x48, x49, x50, x51, x52, x53, x54, x55, x56, x57, x58, x59, x60, x61, x62, x63, x64, x65, x66, x67, x68, x69, x70, x71, x72, x73, x74, x75, x76, x77, x78, x79, x80, x81, x82, x83, x84, x85, x86, x87, x88, x89, x90, x91, x92, x93, x94, x95, x96, x97, x98, x99, x100, x101, x102, x103, x104, x105, x106, y107, y108, y109, y110, y111, y112, y113, y114, y115, x116, x117, x118, x119, x120, x121, x122, x123, x124, x125, x126]) h0

theorem t40 (K : Kont) (E : PanK) (x0 x1 : Value)  : den Try.prog (sel (bodyOf Try.f40) []) (bodyQ Try.prog Try.f40.results.toList K E) #[x0, x1, undef, undef, undef, undef, undef, undef, undef, undef, undef, undef, undef, undef, undef, undef, undef, undef, undef, undef, undef, undef, undef, undef, undef, undef, undef, undef, undef, undef, undef, undef, undef, undef, undef, undef, undef, undef, undef, undef, undef, undef, undef, undef, undef, undef, undef, undef, undef, undef, undef, undef, undef, undef, undef, undef] =
  pv (lenV x0) fun t1 =>
  pv (lenV x1) fun t2 =>
  pv (binV .none .neq t1 t2) fun t3 =>
  cnd t3 (
    K (.bool false)) (
    lp (fun k1 => den Try.prog (sel (bodyOf Try.f40) [1, 1, 0, 1, 0, 0]) (thenD k1 (blk 0 (thenD (den Try.prog (sel (bodyOf Try.f40) [1, 1, 1]) (bodyQ Try.prog Try.f40.results.toList K E)) (bodyQ Try.prog Try.f40.results.toList K E))))) #[x0, x1, undef, undef, (.bool false), (.int .i64 0), x0, t1, x1, t2, t3, undef, undef, undef, undef, undef, undef, undef, undef, undef, undef, undef, undef, undef, undef, undef, undef, undef, undef, undef, undef, undef, undef, undef, undef, undef, undef, undef, undef, undef, undef, undef, undef, undef, undef, undef, undef, undef, undef, undef, undef, undef, undef, undef, undef, undef]) := by kernel_rfl
def m40_1_1_0_1_0_0 (x0 x1 x2 x3 x6 x7 x8 x9 x10 : Value) (v5 : Value) (j : Nat → Value) : Env := #[x0, x1, x2, x3, (j 4), v5, x6, x7, x8, x9, x10, (j 11), (j 12), (j 13), (j 14), (j 15), (j 16), (j 17), (j 18), (j 19), (j 20), (j 21), (j 22), (j 23), (j 24), (j 25), (j 26), (j 27), (j 28), (j 29), (j 30), (j 31), (j 32), (j 33), (j 34), (j 35), (j 36), (j 37), (j 38), (j 39), (j 40), (j 41), (j 42), (j 43), (j 44), (j 45), (j 46), (j 47), (j 48), (j 49), (j 50), (j 51), (j 52), (j 53), (j 54), (j 55)]
theorem t40_1_1_0_1_0_0 (K : Kont) (E : PanK) (k1 : Env → Hp → Prop) (x0 x1 x2 x3 x6 x7 x8 x9 x10 v5 : Value) (j : Nat → Value) : den Try.prog (sel (bodyOf Try.f40) [1, 1, 0, 1, 0, 0]) (thenD k1 (blk 0 (thenD (den Try.prog (sel (bodyOf Try.f40) [1, 1, 1]) (bodyQ Try.prog Try.f40.results.toList K E)) (bodyQ Try.prog Try.f40.results.toList K E)))) (m40_1_1_0_1_0_0 x0 x1 x2 x3 x6 x7 x8 x9 x10 v5 j) =
  pv (lenV x0) fun t1 =>
  pv (binV .none .lss v5 t1) fun t2 =>
  cnd t2 (
    pv (iaV none 3 x0 v5) fun t3 =>
    pv (faV 0 t3) fun t4 =>
    ld false 1 t4 fun t5 =>
    pv (iaV none 3 x1 v5) fun t6 =>
    pv (faV 0 t6) fun t7 =>
    ld false 1 t7 fun t8 =>
    pv (binV .none .neq t5 t8) fun t9 =>
    gdK t9 false (fun k => k x0) fun t10 =>
    gdK t9 false (fun k => k v5) fun t11 =>
    gdK t9 false (fun k => pv (iaV none 3 t10 t11) k) fun t12 =>
    gdK t9 false (fun k => pv (faV 1 t12) k) fun t13 =>
    gdK t9 false (fun k => ld false 1 t13 k) fun t14 =>
    gdK t9 false (fun k => k x1) fun t15 =>
    gdK t9 false (fun k => k v5) fun t16 =>
    gdK t9 false (fun k => pv (iaV none 3 t15 t16) k) fun t17 =>
    gdK t9 false (fun k => pv (faV 1 t17) k) fun t18 =>
    gdK t9 false (fun k => ld false 1 t18 k) fun t19 =>
    gdK t9 false (fun k => pv (binV .none .neq t14 t19) k) fun t20 =>
    pv (pickV t9 (.bool true) t20) fun t21 =>
    gdK t21 false (fun k => k x0) fun t22 =>
    gdK t21 false (fun k => k v5) fun t23 =>
    gdK t21 false (fun k => pv (iaV none 3 t22 t23) k) fun t24 =>
    gdK t21 false (fun k => pv (faV 2 t24) k) fun t25 =>
    gdK t21 false (fun k => ld false 1 t25 k) fun t26 =>
    gdK t21 false (fun k => bs t26 k) fun t27 =>
    gdK t21 false (fun k => k x1) fun t28 =>
    gdK t21 false (fun k => k v5) fun t29 =>
    gdK t21 false (fun k => pv (iaV none 3 t28 t29) k) fun t30 =>
    gdK t21 false (fun k => pv (faV 2 t30) k) fun t31 =>
    gdK t21 false (fun k => ld false 1 t31 k) fun t32 =>
    gdK t21 false (fun k => bs t32 k) fun t33 =>
    gdK t21 false (fun k => pv (binV .none .neq t27 t33) k) fun t34 =>
    pv (pickV t21 (.bool true) t34) fun t35 =>
    cnd t35 (
      K (.bool false)) (
      pv (binV .none .add v5 (.int .i64 1)) fun t36 =>
      k1 (m40_1_1_0_1_0_0 x0 x1 x2 x3 x6 x7 x8 x9 x10 t36 (jf #[x0, x1, x2, x3, (j 4), t36, x6, x7, x8, x9, x10, v5, x0, t1, t2, v5, t36, x0, v5, t3, t4, t5, x1, v5, t6, t7, t8, t9, t9, t10, t11, t12, t13, t14, t15, t16, t17, t18, t19, t20, t21, t21, t22, t23, t24, t25, t26, t27, t28, t29, t30, t31, t32, t33, t34, t35])))) (
    den Try.prog (sel (bodyOf Try.f40) [1, 1, 1]) (bodyQ Try.prog Try.f40.results.toList K E) #[x0, x1, x2, x3, (j 4), v5, x6, x7, x8, x9, x10, v5, x0, t1, t2, (j 15), (j 16), (j 17), (j 18), (j 19), (j 20), (j 21), (j 22), (j 23), (j 24), (j 25), (j 26), (j 27), (j 28), (j 29), (j 30), (j 31), (j 32), (j 33), (j 34), (j 35), (j 36), (j 37), (j 38), (j 39), (j 40), (j 41), (j 42), (j 43), (j 44), (j 45), (j 46), (j 47), (j 48), (j 49), (j 50), (j 51), (j 52), (j 53), (j 54), (j 55)]) := by kernel_rfl
theorem t40_1_1_1 (K : Kont) (E : PanK) (x0 x1 x2 x3 x4 x5 x6 x7 x8 x9 x10 x11 x12 x13 x14 x15 x16 x17 x18 x19 x20 x21 x22 x23 x24 x25 x26 x27 x28 x29 x30 x31 x32 x33 x34 x35 x36 x37 x38 x39 x40 x41 x42 x43 x44 x45 x46 x47 x48 x49 x50 x51 x52 x53 x54 x55 : Value)  : den Try.prog (sel (bodyOf Try.f40) [1, 1, 1]) (bodyQ Try.prog Try.f40.results.toList K E) #[x0, x1, x2, x3, x4, x5, x6, x7, x8, x9, x10, x11, x12, x13, x14, x15, x16, x17, x18, x19, x20, x21, x22, x23, x24, x25, x26, x27, x28, x29, x30, x31, x32, x33, x34, x35, x36, x37, x38, x39, x40, x41, x42, x43, x44, x45, x46, x47, x48, x49, x50, x51, x52, x53, x54, x55] =
  K (.bool true) := by kernel_rfl
theorem l40_1_1_0_1_0_0 {K : Kont} {E : PanK} {σ : Type} {x0 x1 x2 x3 x6 x7 x8 x9 x10 v5 y4 y11 y12 y13 y14 y15 y16 y17 y18 y19 y20 y21 y22 y23 y24 y25 y26 y27 y28 y29 y30 y31 y32 y33 y34 y35 y36 y37 y38 y39 y40 y41 y42 y43 y44 y45 y46 y47 y48 y49 y50 y51 y52 y53 y54 y55 : Value} {h : Hp} (f5 : σ → Value) (I : σ → Hp → Prop) (μ : σ → Nat) (s0 : σ) (e5 : v5 = f5 s0) (h0 : h.wf → ∃ h', h.wk h' ∧ I s0 h')
  (round : ∀ (k1 : Env → Hp → Prop) (s : σ) (j : Nat → Value) (h : Hp), I s h → h.wf → (∀ s' j' h', μ s' < μ s → (h'.wf → ∃ h'', h'.wk h'' ∧ I s' h'') → k1 (m40_1_1_0_1_0_0 x0 x1 x2 x3 x6 x7 x8 x9 x10 (f5 s') j') h') → (
  pv (lenV x0) fun t1 =>
  pv (binV .none .lss (f5 s) t1) fun t2 =>
  cnd t2 (
    pv (iaV none 3 x0 (f5 s)) fun t3 =>
    pv (faV 0 t3) fun t4 =>
    ld false 1 t4 fun t5 =>
    pv (iaV none 3 x1 (f5 s)) fun t6 =>
    pv (faV 0 t6) fun t7 =>
    ld false 1 t7 fun t8 =>
    pv (binV .none .neq t5 t8) fun t9 =>
    gdK t9 false (fun k => k x0) fun t10 =>
    gdK t9 false (fun k => k (f5 s)) fun t11 =>
    gdK t9 false (fun k => pv (iaV none 3 t10 t11) k) fun t12 =>
    gdK t9 false (fun k => pv (faV 1 t12) k) fun t13 =>
    gdK t9 false (fun k => ld false 1 t13 k) fun t14 =>
    gdK t9 false (fun k => k x1) fun t15 =>
    gdK t9 false (fun k => k (f5 s)) fun t16 =>
    gdK t9 false (fun k => pv (iaV none 3 t15 t16) k) fun t17 =>
    gdK t9 false (fun k => pv (faV 1 t17) k) fun t18 =>
    gdK t9 false (fun k => ld false 1 t18 k) fun t19 =>
    gdK t9 false (fun k => pv (binV .none .neq t14 t19) k) fun t20 =>
    pv (pickV t9 (.bool true) t20) fun t21 =>
    gdK t21 false (fun k => k x0) fun t22 =>
    gdK t21 false (fun k => k (f5 s)) fun t23 =>
    gdK t21 false (fun k => pv (iaV none 3 t22 t23) k) fun t24 =>
    gdK t21 false (fun k => pv (faV 2 t24) k) fun t25 =>
    gdK t21 false (fun k => ld false 1 t25 k) fun t26 =>
    gdK t21 false (fun k => bs t26 k) fun t27 =>
    gdK t21 false (fun k => k x1) fun t28 =>
    gdK t21 false (fun k => k (f5 s)) fun t29 =>
    gdK t21 false (fun k => pv (iaV none 3 t28 t29) k) fun t30 =>
    gdK t21 false (fun k => pv (faV 2 t30) k) fun t31 =>
    gdK t21 false (fun k => ld false 1 t31 k) fun t32 =>
    gdK t21 false (fun k => bs t32 k) fun t33 =>
    gdK t21 false (fun k => pv (binV .none .neq t27 t33) k) fun t34 =>
    pv (pickV t21 (.bool true) t34) fun t35 =>
    cnd t35 (
      K (.bool false)) (
      pv (binV .none .add (f5 s) (.int .i64 1)) fun t36 =>
      k1 (m40_1_1_0_1_0_0 x0 x1 x2 x3 x6 x7 x8 x9 x10 t36 (jf #[x0, x1, x2, x3, (j 4), t36, x6, x7, x8, x9, x10, (f5 s), x0, t1, t2, (f5 s), t36, x0, (f5 s), t3, t4, t5, x1, (f5 s), t6, t7, t8, t9, t9, t10, t11, t12, t13, t14, t15, t16, t17, t18, t19, t20, t21, t21, t22, t23, t24, t25, t26, t27, t28, t29, t30, t31, t32, t33, t34, t35])))) (
    den Try.prog (sel (bodyOf Try.f40) [1, 1, 1]) (bodyQ Try.prog Try.f40.results.toList K E) #[x0, x1, x2, x3, (j 4), (f5 s), x6, x7, x8, x9, x10, (f5 s), x0, t1, t2, (j 15), (j 16), (j 17), (j 18), (j 19), (j 20), (j 21), (j 22), (j 23), (j 24), (j 25), (j 26), (j 27), (j 28), (j 29), (j 30), (j 31), (j 32), (j 33), (j 34), (j 35), (j 36), (j 37), (j 38), (j 39), (j 40), (j 41), (j 42), (j 43), (j 44), (j 45), (j 46), (j 47), (j 48), (j 49), (j 50), (j 51), (j 52), (j 53), (j 54), (j 55)])) h) :
  lp (fun k1 => den Try.prog (sel (bodyOf Try.f40) [1, 1, 0, 1, 0, 0]) (thenD k1 (blk 0 (thenD (den Try.prog (sel (bodyOf Try.f40) [1, 1, 1]) (bodyQ Try.prog Try.f40.results.toList K E)) (bodyQ Try.prog Try.f40.results.toList K E))))) #[x0, x1, x2, x3, y4, v5, x6, x7, x8, x9, x10, y11, y12, y13, y14, y15, y16, y17, y18, y19, y20, y21, y22, y23, y24, y25, y26, y27, y28, y29, y30, y31, y32, y33, y34, y35, y36, y37, y38, y39, y40, y41, y42, y43, y44, y45, y46, y47, y48, y49, y50, y51, y52, y53, y54, y55] h := by
  subst e5
  have e : (#[x0, x1, x2, x3, y4, (f5 s0), x6, x7, x8, x9, x10, y11, y12, y13, y14, y15, y16, y17, y18, y19, y20, y21, y22, y23, y24, y25, y26, y27, y28, y29, y30, y31, y32, y33, y34, y35, y36, y37, y38, y39, y40, y41, y42, y43, y44, y45, y46, y47, y48, y49, y50, y51, y52, y53, y54, y55] : Env) = m40_1_1_0_1_0_0 x0 x1 x2 x3 x6 x7 x8 x9 x10 (f5 s0) (jf #[x0, x1, x2, x3, y4, (f5 s0), x6, x7, x8, x9, x10, y11, y12, y13, y14, y15, y16, y17, y18, y19, y20, y21, y22, y23, y24, y25, y26, y27, y28, y29, y30, y31, y32, y33, y34, y35, y36, y37, y38, y39, y40, y41, y42, y43, y44, y45, y46, y47, y48, y49, y50, y51, y52, y53, y54, y55]) := by kernel_rfl
  rw [e]
  exact loop_r (fun s j => m40_1_1_0_1_0_0 x0 x1 x2 x3 x6 x7 x8 x9 x10 (f5 s) j) I μ (fun k s j h hI hw next => by rw [t40_1_1_0_1_0_0]; exact round k s j h hI hw next) s0 (jf #[x0, x1, x2, x3, y4, (f5 s0), x6, x7, x8, x9, x10, y11, y12, y13, y14, y15, y16, y17, y18, y19, y20, y21, y22, y23, y24, y25, y26, y27, y28, y29, y30, y31, y32, y33, y34, y35, y36, y37, y38, y39, y40, y41, y42, y43, y44, y45, y46, y47, y48, y49, y50, y51, y52, y53, y54, y55]) h0

theorem t47 (K : Kont) (E : PanK) (x0 : Value)  : den Try.prog (sel (bodyOf Try.f47) []) (bodyQ Try.prog Try.f47.results.toList K E) #[x0, undef, undef, undef, undef, undef, undef, undef, undef] =
  pv (nilV x0) fun t1 =>
  pv (faV 0 t1) fun t2 =>
  ld false 1 t2 fun t3 =>
  pv (lenV t3) fun t4 =>
  pv (binV .none .lss t4 (.int .i64 2000)) fun t5 =>
  K t5 := by kernel_rfl

theorem t48 (K : Kont) (E : PanK) (x0 : Value)  : den Try.prog (sel (bodyOf Try.f48) []) (bodyQ Try.prog Try.f48.results.toList K E) #[x0, undef, undef, undef, undef, undef, undef, undef] =
  nw 61 (Value.cells x0).toList fun t1 =>
  nw 61 [(.int .i64 0), (.int .i64 0), (.slice none 0 0)] fun t2 =>
  pv (faV 2 t1) fun t3 =>
  ld false 1 t3 fun t4 =>
  callv Try.prog (.func (.func 56) #[] #[]) #[t4] (fun t5 =>
  pv (faV 2 t1) fun t6 =>
  st 1 t6 t5 fun _ =>
  ld true 3 t1 fun t7 =>
  st 3 t2 t7 fun _ =>
  ld true 3 t2 fun t8 =>
  K t8) E := by kernel_rfl

theorem t49 (K : Kont) (E : PanK) (x0 x1 : Value)  : den Try.prog (sel (bodyOf Try.f49) []) (bodyQ Try.prog Try.f49.results.toList K E) #[x0, x1, undef, undef, undef, undef, undef, undef, undef, undef, undef, undef, undef, undef, undef, undef] =
  pv (binV .none .geq x1 (.int .i64 0)) fun t1 =>
  gdK t1 true (fun k => k x1) fun t2 =>
  gdK t1 true (fun k => k x0) fun t3 =>
  gdK t1 true (fun k => pv (nilV t3) k) fun t4 =>
  gdK t1 true (fun k => pv (faV 0 t4) k) fun t5 =>
  gdK t1 true (fun k => ld false 1 t5 k) fun t6 =>
  gdK t1 true (fun k => pv (lenV t6) k) fun t7 =>
  gdK t1 true (fun k => pv (binV .none .lss t2 t7) k) fun t8 =>
  pv (pickV t1 t8 (.bool false)) fun t9 =>
  K t9 := by kernel_rfl

theorem t50 (K : Kont) (E : PanK) (x0 x1 x2 : Value)  : den Try.prog (sel (bodyOf Try.f50) []) (bodyQ Try.prog Try.f50.results.toList K E) #[x0, x1, x2, undef, undef, undef, undef, undef, undef, undef, undef, undef, undef, undef, undef, undef, undef, undef, undef, undef, undef, undef, undef, undef, undef, undef, undef, undef, undef, undef, undef, undef, undef] =
  pv (lenV x0) fun t1 =>
  pv (slV 3 x0 (some x1) (some x2) (some t1)) fun t2 =>
  pv (binV .none .eql x1 x2) fun t3 =>
  cnd t3 (
    K x0) (
    pv (lenV x0) fun t4 =>
    pv (slV 3 x0 none (some x1) none) fun t5 =>
    pv (slV 3 x0 (some x2) none none) fun t6 =>
    appX 61 3 40 t5 t6 fun t7 =>
    pv (lenV t7) fun t8 =>
    pv (slV 3 t7 (some t8) (some t4) none) fun t9 =>
    clr 61 [(.int .i64 0), (.int .i64 0), (.slice none 0 0)] 3 t9 fun _ =>
    K t7) := by kernel_rfl

theorem t51 (K : Kont) (E : PanK) (x0 x1 x2 : Value)  : den Try.prog (sel (bodyOf Try.f51) []) (bodyQ Try.prog Try.f51.results.toList K E) #[x0, x1, x2, undef, undef, undef, undef, undef, undef, undef, undef, undef, undef, undef, undef, undef, undef, undef, undef, undef, undef, undef, undef, undef, undef, undef, undef, undef, undef, undef, undef, undef, undef, undef, undef, undef, undef, undef, undef, undef, undef, undef, undef, undef, undef, undef, undef, undef, undef, undef, undef, undef, undef, undef, undef, undef, undef, undef, undef, undef, undef, undef, undef, undef, undef, undef, undef, undef, undef, undef, undef, undef, undef, undef, undef, undef, undef, undef, undef, undef, undef, undef, undef, undef, undef, undef, undef, undef, undef, undef, undef, undef, undef, undef, undef] =
  pv (slV 3 x0 (some x1) none none) fun t1 =>
  pv (lenV x2) fun t2 =>
  pv (binV .none .eql t2 (.int .i64 0)) fun t3 =>
  cnd t3 (
    K x0) (
    pv (lenV x0) fun t4 =>
    pv (binV .none .eql x1 t4) fun t5 =>
    cnd t5 (
      appX 61 3 40 x0 x2 fun t6 =>
      K t6) (
      pv (binV .none .add t4 t2) fun t7 =>
      pv (capV x0) fun t8 =>
      pv (binV .none .gtr t7 t8) fun t9 =>
      cnd t9 (
        pv (slV 3 x0 none (some x1) none) fun t10 =>
        pv (binV .none .add t4 t2) fun t11 =>
        pv (binV .none .sub t11 x1) fun t12 =>
        appZ 61 [(.int .i64 0), (.int .i64 0), (.slice none 0 0)] 3 40 t10 t12 fun t13 =>
        pv (slV 3 t13 (some x1) none none) fun t14 =>
        cpy 3 t14 x2 fun t15 =>
        pv (binV .none .add x1 t2) fun t16 =>
        pv (slV 3 t13 (some t16) none none) fun t17 =>
        pv (slV 3 x0 (some x1) none none) fun t18 =>
        cpy 3 t17 t18 fun t19 =>
        K t13) (
        pv (binV .none .add t4 t2) fun t20 =>
        pv (slV 3 x0 none (some t20) none) fun t21 =>
        pv (binV .none .add x1 t2) fun t22 =>
        pv (slV 3 t21 (some t22) none none) fun t23 =>
        callv Try.prog (.func (.func 57) #[] #[]) #[x2, t23] (fun t24 =>
        pv (unV .not t24) fun t25 =>
        cnd t25 (
          pv (binV .none .add x1 t2) fun t26 =>
          pv (slV 3 t21 (some t26) none none) fun t27 =>
          pv (slV 3 t21 (some x1) none none) fun t28 =>
          cpy 3 t27 t28 fun t29 =>
          pv (slV 3 t21 (some x1) none none) fun t30 =>
          cpy 3 t30 x2 fun t31 =>
          K t21) (
          pv (slV 3 t21 (some t4) none none) fun t32 =>
          cpy 3 t32 x2 fun t33 =>
          pv (slV 3 t21 (some x1) none none) fun t34 =>
          callv Try.prog (.func (.func 58) #[] #[]) #[t34, t2] (fun t35 =>
          K t21) E)) E))) := by kernel_rfl

theorem t52 (K : Kont) (E : PanK) (x0 x1 : Value)  : den Try.prog (sel (bodyOf Try.f52) []) (bodyQ Try.prog Try.f52.results.toList K E) #[x0, x1, undef, undef, undef, undef, undef, undef, undef, undef, undef, undef, undef, undef, undef, undef, undef, undef, undef, undef, undef, undef, undef, undef, undef, undef, undef, undef, undef, undef, undef, undef, undef, undef, undef, undef, undef, undef, undef, undef, undef, undef, undef, undef, undef, undef, undef, undef, undef] =
  nw 61 [(.int .i64 0), (.int .i64 0), (.slice none 0 0)] fun t1 =>
  pv (binV .none .lss x1 (.int .i64 0)) fun t2 =>
  gdK t2 false (fun k => k x1) fun t3 =>
  gdK t2 false (fun k => k x0) fun t4 =>
  gdK t2 false (fun k => pv (nilV t4) k) fun t5 =>
  gdK t2 false (fun k => pv (faV 0 t5) k) fun t6 =>
  gdK t2 false (fun k => ld false 1 t6 k) fun t7 =>
  gdK t2 false (fun k => pv (lenV t7) k) fun t8 =>
  gdK t2 false (fun k => pv (binV .none .geq t3 t8) k) fun t9 =>
  pv (pickV t2 (.bool true) t9) fun t10 =>
  cnd t10 (
    pv (bdC #[(.int .i64 0), (.int .i64 0), (.slice none 0 0)] [(0, 1), (1, 1), (2, 1)] #[]) fun t11 =>
    st 3 t1 t11 fun _ =>
    ld true 3 t1 fun t12 =>
    K (.tuple #[t12, (.bool false)])) (
    pv (nilV x0) fun t13 =>
    pv (faV 0 t13) fun t14 =>
    ld false 1 t14 fun t15 =>
    pv (iaV none 3 t15 x1) fun t16 =>
    ld true 3 t16 fun t17 =>
    nw 61 [(.int .i64 0), (.int .i64 0), (.slice none 0 0)] fun t18 =>
    st 3 t18 t17 fun _ =>
    pv (nilV x0) fun t19 =>
    pv (faV 0 t19) fun t20 =>
    ld false 1 t20 fun t21 =>
    pv (slV 3 t21 none (some x1) none) fun t22 =>
    appX 61 3 40 (.slice none 0 0) t22 fun t23 =>
    pv (nilV x0) fun t24 =>
    pv (faV 0 t24) fun t25 =>
    ld false 1 t25 fun t26 =>
    pv (binV .none .add x1 (.int .i64 1)) fun t27 =>
    pv (slV 3 t26 (some t27) none none) fun t28 =>
    appX 61 3 40 t23 t28 fun t29 =>
    pv (nilV x0) fun t30 =>
    pv (faV 0 t30) fun t31 =>
    st 1 t31 t29 fun _ =>
    ld true 3 t18 fun t32 =>
    st 3 t1 t32 fun _ =>
    ld true 3 t1 fun t33 =>
    K (.tuple #[t33, (.bool true)])) := by kernel_rfl

theorem t53 (K : Kont) (E : PanK) (x0 x1 : Value)  : den Try.prog (sel (bodyOf Try.f53) []) (bodyQ Try.prog Try.f53.results.toList K E) #[x0, x1, undef, undef, undef, undef, undef, undef, undef, undef, undef, undef, undef, undef, undef, undef, undef, undef, undef, undef, undef, undef, undef, undef, undef, undef, undef, undef, undef, undef, undef, undef, undef, undef, undef, undef, undef, undef, undef, undef, undef, undef, undef, undef, undef, undef, undef, undef, undef, undef, undef, undef, undef, undef, undef, undef] =
  pv (binV .none .lss x1 (.int .i64 0)) fun t1 =>
  gdK t1 false (fun k => k x1) fun t2 =>
  gdK t1 false (fun k => k x0) fun t3 =>
  gdK t1 false (fun k => pv (nilV t3) k) fun t4 =>
  gdK t1 false (fun k => pv (faV 0 t4) k) fun t5 =>
  gdK t1 false (fun k => ld false 1 t5 k) fun t6 =>
  gdK t1 false (fun k => pv (lenV t6) k) fun t7 =>
  gdK t1 false (fun k => pv (binV .none .geq t2 t7) k) fun t8 =>
  pv (pickV t1 (.bool true) t8) fun t9 =>
  gdK t9 false (fun k => k x0) fun t10 =>
  gdK t9 false (fun k => pv (nilV t10) k) fun t11 =>
  gdK t9 false (fun k => pv (faV 0 t11) k) fun t12 =>
  gdK t9 false (fun k => ld false 1 t12 k) fun t13 =>
  gdK t9 false (fun k => pv (lenV t13) k) fun t14 =>
  gdK t9 false (fun k => pv (binV .none .geq t14 (.int .i64 2000)) k) fun t15 =>
  pv (pickV t9 (.bool true) t15) fun t16 =>
  cnd t16 (
    K (.bool false)) (
    pv (nilV x0) fun t17 =>
    pv (faV 0 t17) fun t18 =>
    ld false 1 t18 fun t19 =>
    pv (slV 3 t19 none (some x1) none) fun t20 =>
    appX 61 3 40 (.slice none 0 0) t20 fun t21 =>
    pv (nilV x0) fun t22 =>
    pv (faV 0 t22) fun t23 =>
    ld false 1 t23 fun t24 =>
    pv (iaV none 3 t24 x1) fun t25 =>
    ld true 3 t25 fun t26 =>
    callv Try.prog (.func (.func 59) #[] #[]) #[t26] (fun t27 =>
    nws 61 1 (bsC #[(.int .i64 0), (.int .i64 0), (.slice none 0 0)] 3 1 #[(0, t27)]) fun t28 =>
    appX 61 3 40 t21 t28 fun t29 =>
    pv (nilV x0) fun t30 =>
    pv (faV 0 t30) fun t31 =>
    ld false 1 t31 fun t32 =>
    pv (slV 3 t32 (some x1) none none) fun t33 =>
    appX 61 3 40 t29 t33 fun t34 =>
    pv (nilV x0) fun t35 =>
    pv (faV 0 t35) fun t36 =>
    st 1 t36 t34 fun _ =>
    K (.bool true)) E) := by kernel_rfl

theorem t54 (K : Kont) (E : PanK) (x0 x1 : Value)  : den Try.prog (sel (bodyOf Try.f54) []) (bodyQ Try.prog Try.f54.results.toList K E) #[x0, x1, undef, undef, undef, undef, undef, undef, undef, undef, undef, undef, undef, undef, undef, undef, undef, undef, undef, undef, undef, undef, undef, undef, undef] =
  callv Try.prog (.func (.func 52) #[] #[]) #[x0, x1] (fun t1 =>
  pv (exV 0 t1) fun t2 =>
  pv (exV 1 t1) fun t3 =>
  nw 61 [(.int .i64 0), (.int .i64 0), (.slice none 0 0)] fun t4 =>
  st 3 t4 t2 fun _ =>
  cnd t3 (
    pv (nilV x0) fun t5 =>
    pv (faV 0 t5) fun t6 =>
    ld false 1 t6 fun t7 =>
    ld true 3 t4 fun t8 =>
    nws 61 1 (bsC #[(.int .i64 0), (.int .i64 0), (.slice none 0 0)] 3 1 #[(0, t8)]) (fun t9 h10 => (ldV h10 false 1 t6 t7) ∧ (
      appX 61 3 40 t7 t9 fun t11 =>
      pv (nilV x0) fun t12 =>
      pv (faV 0 t12) fun t13 =>
      st 1 t13 t11 fun _ =>
      den Try.prog (sel (bodyOf Try.f54) [1, 1, 1]) (bodyQ Try.prog Try.f54.results.toList K E) #[x0, x1, undef, undef, (.bool false), t4, t3, t1, x0, x1, t1, t2, t3, t3, x0, x0, t5, t6, t7, t8, t9, t11, t12, t13, undef]) h10)) (
    den Try.prog (sel (bodyOf Try.f54) [1, 1, 1]) (bodyQ Try.prog Try.f54.results.toList K E) #[x0, x1, undef, undef, (.bool false), t4, t3, t1, x0, x1, t1, t2, t3, t3, undef, undef, undef, undef, undef, undef, undef, undef, undef, undef, undef])) E := by kernel_rfl
theorem t54_1_1_1 (K : Kont) (E : PanK) (x0 x1 x2 x3 x4 x5 x6 x7 x8 x9 x10 x11 x12 x13 x14 x15 x16 x17 x18 x19 x20 x21 x22 x23 x24 : Value)  : den Try.prog (sel (bodyOf Try.f54) [1, 1, 1]) (bodyQ Try.prog Try.f54.results.toList K E) #[x0, x1, x2, x3, x4, x5, x6, x7, x8, x9, x10, x11, x12, x13, x14, x15, x16, x17, x18, x19, x20, x21, x22, x23, x24] =
  K x6 := by kernel_rfl

theorem t55 (K : Kont) (E : PanK) (x0 x1 : Value)  : den Try.prog (sel (bodyOf Try.f55) []) (bodyQ Try.prog Try.f55.results.toList K E) #[x0, x1, undef, undef, undef, undef, undef, undef, undef, undef, undef, undef, undef, undef, undef, undef, undef, undef, undef, undef, undef, undef] =
  nw 61 (Value.cells x1).toList fun t1 =>
  pv (nilV x0) fun t2 =>
  pv (faV 0 t2) fun t3 =>
  ld false 1 t3 fun t4 =>
  pv (lenV t4) fun t5 =>
  pv (binV .none .geq t5 (.int .i64 2000)) fun t6 =>
  cnd t6 (
    K (.bool false)) (
    pv (nilV x0) fun t7 =>
    pv (faV 0 t7) fun t8 =>
    ld false 1 t8 fun t9 =>
    ld true 3 t1 fun t10 =>
    callv Try.prog (.func (.func 59) #[] #[]) #[t10] (fun t11 h12 => (ldV h12 false 1 t8 t9) ∧ (
      nws 61 1 (bsC #[(.int .i64 0), (.int .i64 0), (.slice none 0 0)] 3 1 #[(0, t11)]) (fun t13 h14 => (ldV h14 false 1 t8 t9) ∧ (
        appX 61 3 40 t9 t13 fun t15 =>
        pv (nilV x0) fun t16 =>
        pv (faV 0 t16) fun t17 =>
        st 1 t17 t15 fun _ =>
        K (.bool true)) h14)) h12) E) := by kernel_rfl

theorem t56 (K : Kont) (E : PanK) (x0 : Value)  : den Try.prog (sel (bodyOf Try.f56) []) (bodyQ Try.prog Try.f56.results.toList K E) #[x0, undef, undef, undef, undef, undef, undef, undef] =
  pv (binV .slc .eql x0 (.slice none 0 0)) fun t1 =>
  cnd t1 (
    K (.slice none 0 0)) (
    nws 5 0 (bsC #[(.int .u8 0)] 1 0 #[]) fun t2 =>
    appX 5 1 1 t2 x0 fun t3 =>
    K t3) := by kernel_rfl

theorem t59 (K : Kont) (E : PanK) (x0 : Value)  : den Try.prog (sel (bodyOf Try.f59) []) (bodyQ Try.prog Try.f59.results.toList K E) #[x0, undef, undef, undef, undef, undef, undef, undef, undef, undef, undef, undef, undef, undef] =
  nw 61 (Value.cells x0).toList fun t1 =>
  nw 61 [(.int .i64 0), (.int .i64 0), (.slice none 0 0)] fun t2 =>
  pv (faV 2 t1) fun t3 =>
  ld false 1 t3 fun t4 =>
  appX 5 1 1 (.slice none 0 0) t4 fun t5 =>
  pv (faV 0 t1) fun t6 =>
  ld false 1 t6 fun t7 =>
  pv (faV 1 t1) fun t8 =>
  ld false 1 t8 fun t9 =>
  pv (bdC #[(.int .i64 0), (.int .i64 0), (.slice none 0 0)] [(0, 1), (1, 1), (2, 1)] #[(0, t7), (1, t9), (2, t5)]) fun t10 =>
  st 3 t2 t10 fun _ =>
  ld true 3 t2 fun t11 =>
  K t11 := by kernel_rfl

end Go.Proofs.Ytjeojnjkmhnepaa.T
