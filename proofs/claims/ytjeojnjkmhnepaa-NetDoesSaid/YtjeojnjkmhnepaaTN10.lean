import Derived.Test.YtjeojnjkmhnepaaProg
import Derived.Test.YtjeojnjkmhnepaaK16
open Go Go.RowKit Go.Proofs.Ytjeojnjkmhnepaa.K
set_option linter.unusedVariables false
set_option maxRecDepth 100000
namespace Go.Proofs.Ytjeojnjkmhnepaa.T
theorem t10 (K : Kont) (E : PanK) (x0 : Value)  : den Try.prog (sel (bodyOf Try.f10) []) (bodyQ Try.prog Try.f10.results.toList K E) #[x0, undef, undef, undef, undef, undef, undef, undef, undef, undef, undef, undef, undef, undef, undef, undef, undef, undef, undef, undef, undef, undef, undef, undef, undef, undef, undef, undef, undef, undef, undef, undef, undef, undef, undef, undef, undef, undef, undef, undef, undef, undef, undef] =
  callv Try.prog (.func (.func 37) #[] #[]) #[x0] (fun t1 =>
  gdK t1 false (fun k => callv Try.prog (.func (.func 31) #[] #[]) #[] k E) fun t2 =>
  gdK t1 false (fun k => pv (unV .not t2) k) fun t3 =>
  pv (pickV t1 (.bool true) t3) fun t4 =>
  cnd t4 (
    callv Try.prog (.func (.func 31) #[] #[]) #[] (fun t5 =>
    K t5) E) (
    callv Try.prog (.func (.func 30) #[] #[]) #[] (fun t6 =>
    callv Try.prog (.func (.func 38) #[] #[]) #[] (fun t7 =>
    pv (binV .ptr .eql t6 (.pointer none)) fun t8 =>
    cnd t8 (
      K (.bool false)) (
      lp (fun k1 => den Try.prog (sel (bodyOf Try.f10) [1, 1, 1, 1, 1, 0, 1, 0, 0]) (thenD k1 (blk 0 (thenD (den Try.prog (sel (bodyOf Try.f10) [1, 1, 1, 1, 1, 1]) (bodyQ Try.prog Try.f10.results.toList K E)) (bodyQ Try.prog Try.f10.results.toList K E))))) #[x0, undef, (.bool false), t6, t7, (.int .i64 0), undef, x0, t1, t1, t2, t3, t4, undef, t6, t7, t6, t8, undef, undef, undef, undef, undef, undef, undef, undef, undef, undef, undef, undef, undef, undef, undef, undef, undef, undef, undef, undef, undef, undef, undef, undef, undef])) E) E)) E := by kernel_rfl
def m10_1_1_1_1_1_0_1_0_0 (x0 x1 x3 x4 x7 x8 x9 x10 x11 x12 x13 x14 x15 x16 x17 : Value) (v5 : Value) (j : Nat → Value) : Env := #[x0, x1, (j 2), x3, x4, v5, (j 6), x7, x8, x9, x10, x11, x12, x13, x14, x15, x16, x17, (j 18), (j 19), (j 20), (j 21), (j 22), (j 23), (j 24), (j 25), (j 26), (j 27), (j 28), (j 29), (j 30), (j 31), (j 32), (j 33), (j 34), (j 35), (j 36), (j 37), (j 38), (j 39), (j 40), (j 41), (j 42)]
theorem t10_1_1_1_1_1_0_1_0_0 (K : Kont) (E : PanK) (k1 : Env → Hp → Prop) (x0 x1 x3 x4 x7 x8 x9 x10 x11 x12 x13 x14 x15 x16 x17 v5 : Value) (j : Nat → Value) : den Try.prog (sel (bodyOf Try.f10) [1, 1, 1, 1, 1, 0, 1, 0, 0]) (thenD k1 (blk 0 (thenD (den Try.prog (sel (bodyOf Try.f10) [1, 1, 1, 1, 1, 1]) (bodyQ Try.prog Try.f10.results.toList K E)) (bodyQ Try.prog Try.f10.results.toList K E)))) (m10_1_1_1_1_1_0_1_0_0 x0 x1 x3 x4 x7 x8 x9 x10 x11 x12 x13 x14 x15 x16 x17 v5 j) =
  pv (lenV x0) fun t1 =>
  pv (binV .none .lss v5 t1) fun t2 =>
  cnd t2 (
    pv (iaV none 5 x0 v5) fun t3 =>
    ld true 5 t3 fun t4 =>
    callv Try.prog (.func (.func 39) #[] #[]) #[x3, x4, t4] (fun t5 =>
    pv (unV .not t5) fun t6 =>
    gdK t6 false (fun k => k x3) fun t7 =>
    gdK t6 false (fun k => k x4) fun t8 =>
    gdK t6 false (fun k => pv (nilV t8) k) fun t9 =>
    gdK t6 false (fun k => pv (faV 0 t9) k) fun t10 =>
    gdK t6 false (fun k => ld false 1 t10 k) fun t11 =>
    gdK t6 false (fun k => callv Try.prog (.func (.func 33) #[] #[]) #[t7] k E) (fun t12 h13 => (isB t6 false = true → ldV h13 false 1 t10 t11) ∧ (
      gdK t6 false (fun k => callv Try.prog (.func (.func 40) #[] #[]) #[t12, t11] k E) fun t14 =>
      gdK t6 false (fun k => pv (unV .not t14) k) fun t15 =>
      pv (pickV t6 (.bool true) t15) fun t16 =>
      cnd t16 (
        K (.bool false)) (
        pv (binV .none .add v5 (.int .i64 1)) fun t17 =>
        k1 (m10_1_1_1_1_1_0_1_0_0 x0 x1 x3 x4 x7 x8 x9 x10 x11 x12 x13 x14 x15 x16 x17 t17 (jf #[x0, x1, (j 2), x3, x4, t17, t5, x7, x8, x9, x10, x11, x12, x13, x14, x15, x16, x17, v5, x0, t1, t2, v5, t17, x3, x4, x0, v5, t3, t4, t5, t5, t6, t6, t7, t12, t8, t9, t10, t11, t14, t15, t16])))) h13)) E) (
    den Try.prog (sel (bodyOf Try.f10) [1, 1, 1, 1, 1, 1]) (bodyQ Try.prog Try.f10.results.toList K E) #[x0, x1, (j 2), x3, x4, v5, (j 6), x7, x8, x9, x10, x11, x12, x13, x14, x15, x16, x17, v5, x0, t1, t2, (j 22), (j 23), (j 24), (j 25), (j 26), (j 27), (j 28), (j 29), (j 30), (j 31), (j 32), (j 33), (j 34), (j 35), (j 36), (j 37), (j 38), (j 39), (j 40), (j 41), (j 42)]) := by kernel_rfl
theorem t10_1_1_1_1_1_1 (K : Kont) (E : PanK) (x0 x1 x2 x3 x4 x5 x6 x7 x8 x9 x10 x11 x12 x13 x14 x15 x16 x17 x18 x19 x20 x21 x22 x23 x24 x25 x26 x27 x28 x29 x30 x31 x32 x33 x34 x35 x36 x37 x38 x39 x40 x41 x42 : Value)  : den Try.prog (sel (bodyOf Try.f10) [1, 1, 1, 1, 1, 1]) (bodyQ Try.prog Try.f10.results.toList K E) #[x0, x1, x2, x3, x4, x5, x6, x7, x8, x9, x10, x11, x12, x13, x14, x15, x16, x17, x18, x19, x20, x21, x22, x23, x24, x25, x26, x27, x28, x29, x30, x31, x32, x33, x34, x35, x36, x37, x38, x39, x40, x41, x42] =
  K (.bool true) := by kernel_rfl
theorem l10_1_1_1_1_1_0_1_0_0 {K : Kont} {E : PanK} {σ : Type} {x0 x1 x3 x4 x7 x8 x9 x10 x11 x12 x13 x14 x15 x16 x17 v5 y2 y6 y18 y19 y20 y21 y22 y23 y24 y25 y26 y27 y28 y29 y30 y31 y32 y33 y34 y35 y36 y37 y38 y39 y40 y41 y42 : Value} {h : Hp} (f5 : σ → Value) (I : σ → Hp → Prop) (μ : σ → Nat) (s0 : σ) (e5 : v5 = f5 s0) (h0 : h.wf → ∃ h', h.wk h' ∧ I s0 h')
  (round : ∀ (k1 : Env → Hp → Prop) (s : σ) (j : Nat → Value) (h : Hp), I s h → h.wf → (∀ s' j' h', μ s' < μ s → (h'.wf → ∃ h'', h'.wk h'' ∧ I s' h'') → k1 (m10_1_1_1_1_1_0_1_0_0 x0 x1 x3 x4 x7 x8 x9 x10 x11 x12 x13 x14 x15 x16 x17 (f5 s') j') h') → (
  pv (lenV x0) fun t1 =>
  pv (binV .none .lss (f5 s) t1) fun t2 =>
  cnd t2 (
    pv (iaV none 5 x0 (f5 s)) fun t3 =>
    ld true 5 t3 fun t4 =>
    callv Try.prog (.func (.func 39) #[] #[]) #[x3, x4, t4] (fun t5 =>
    pv (unV .not t5) fun t6 =>
    gdK t6 false (fun k => k x3) fun t7 =>
    gdK t6 false (fun k => k x4) fun t8 =>
    gdK t6 false (fun k => pv (nilV t8) k) fun t9 =>
    gdK t6 false (fun k => pv (faV 0 t9) k) fun t10 =>
    gdK t6 false (fun k => ld false 1 t10 k) fun t11 =>
    gdK t6 false (fun k => callv Try.prog (.func (.func 33) #[] #[]) #[t7] k E) (fun t12 h13 => (isB t6 false = true → ldV h13 false 1 t10 t11) ∧ (
      gdK t6 false (fun k => callv Try.prog (.func (.func 40) #[] #[]) #[t12, t11] k E) fun t14 =>
      gdK t6 false (fun k => pv (unV .not t14) k) fun t15 =>
      pv (pickV t6 (.bool true) t15) fun t16 =>
      cnd t16 (
        K (.bool false)) (
        pv (binV .none .add (f5 s) (.int .i64 1)) fun t17 =>
        k1 (m10_1_1_1_1_1_0_1_0_0 x0 x1 x3 x4 x7 x8 x9 x10 x11 x12 x13 x14 x15 x16 x17 t17 (jf #[x0, x1, (j 2), x3, x4, t17, t5, x7, x8, x9, x10, x11, x12, x13, x14, x15, x16, x17, (f5 s), x0, t1, t2, (f5 s), t17, x3, x4, x0, (f5 s), t3, t4, t5, t5, t6, t6, t7, t12, t8, t9, t10, t11, t14, t15, t16])))) h13)) E) (
    den Try.prog (sel (bodyOf Try.f10) [1, 1, 1, 1, 1, 1]) (bodyQ Try.prog Try.f10.results.toList K E) #[x0, x1, (j 2), x3, x4, (f5 s), (j 6), x7, x8, x9, x10, x11, x12, x13, x14, x15, x16, x17, (f5 s), x0, t1, t2, (j 22), (j 23), (j 24), (j 25), (j 26), (j 27), (j 28), (j 29), (j 30), (j 31), (j 32), (j 33), (j 34), (j 35), (j 36), (j 37), (j 38), (j 39), (j 40), (j 41), (j 42)])) h) :
  lp (fun k1 => den Try.prog (sel (bodyOf Try.f10) [1, 1, 1, 1, 1, 0, 1, 0, 0]) (thenD k1 (blk 0 (thenD (den Try.prog (sel (bodyOf Try.f10) [1, 1, 1, 1, 1, 1]) (bodyQ Try.prog Try.f10.results.toList K E)) (bodyQ Try.prog Try.f10.results.toList K E))))) #[x0, x1, y2, x3, x4, v5, y6, x7, x8, x9, x10, x11, x12, x13, x14, x15, x16, x17, y18, y19, y20, y21, y22, y23, y24, y25, y26, y27, y28, y29, y30, y31, y32, y33, y34, y35, y36, y37, y38, y39, y40, y41, y42] h := by
  subst e5
  have e : (#[x0, x1, y2, x3, x4, (f5 s0), y6, x7, x8, x9, x10, x11, x12, x13, x14, x15, x16, x17, y18, y19, y20, y21, y22, y23, y24, y25, y26, y27, y28, y29, y30, y31, y32, y33, y34, y35, y36, y37, y38, y39, y40, y41, y42] : Env) = m10_1_1_1_1_1_0_1_0_0 x0 x1 x3 x4 x7 x8 x9 x10 x11 x12 x13 x14 x15 x16 x17 (f5 s0) (jf #[x0, x1, y2, x3, x4, (f5 s0), y6, x7, x8, x9, x10, x11, x12, x13, x14, x15, x16, x17, y18, y19, y20, y21, y22, y23, y24, y25, y26, y27, y28, y29, y30, y31, y32, y33, y34, y35, y36, y37, y38, y39, y40, y41, y42]) := by kernel_rfl
  rw [e]
  exact loop_r (fun s j => m10_1_1_1_1_1_0_1_0_0 x0 x1 x3 x4 x7 x8 x9 x10 x11 x12 x13 x14 x15 x16 x17 (f5 s) j) I μ (fun k s j h hI hw next => by rw [t10_1_1_1_1_1_0_1_0_0]; exact round k s j h hI hw next) s0 (jf #[x0, x1, y2, x3, x4, (f5 s0), y6, x7, x8, x9, x10, x11, x12, x13, x14, x15, x16, x17, y18, y19, y20, y21, y22, y23, y24, y25, y26, y27, y28, y29, y30, y31, y32, y33, y34, y35, y36, y37, y38, y39, y40, y41, y42]) h0

end Go.Proofs.Ytjeojnjkmhnepaa.T
