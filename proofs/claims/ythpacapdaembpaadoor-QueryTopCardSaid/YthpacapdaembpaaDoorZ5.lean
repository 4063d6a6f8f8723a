import Derived.Test.YthpacapdaembpaaDoorProg
import Derived.Test.YthpacapdaembpaaDoorZ1
import Derived.Test.YthpacapdaembpaaDoorZ4
open Go Go.RowKit Go.Proofs.YthpacapdaembpaaDoor.K
set_option linter.unusedVariables false
set_option maxRecDepth 100000
namespace Go.Proofs.YthpacapdaembpaaDoor.T
theorem t34 (K : Kont) (E : PanK) (x0 x1 x2 : Value)  : den Tryd.prog (sel (bodyOf Tryd.f34) []) (bodyQ Tryd.prog Tryd.f34.results.toList K E) #[x0, x1, x2, undef, undef, undef, undef, undef, undef, undef, undef, undef, undef, undef, undef, undef, undef, undef, undef, undef, undef, undef, undef, undef, undef, undef, undef, undef, undef, undef, undef, undef, undef, undef, undef, undef, undef, undef, undef, undef, undef, undef, undef, undef, undef, undef, undef, undef, undef, undef, undef, undef, undef, undef, undef, undef, undef, undef, undef, undef] =
  nw 64 (Value.cells x2).toList fun t1 =>
  pv (lenV x0) fun t2 =>
  pv (faV 0 t1) fun t3 =>
  ld false 1 t3 fun t4 =>
  pv (lenV t4) fun t5 =>
  pv (binV .none .add t2 t5) fun t6 =>
  pv (faV 1 t1) fun t7 =>
  ld false 1 t7 fun t8 =>
  pv (lenV t8) fun t9 =>
  pv (binV .none .add t6 t9) fun t10 =>
  pv (faV 2 t1) fun t11 =>
  ld false 1 t11 fun t12 =>
  pv (lenV t12) fun t13 =>
  pv (binV .none .add t10 t13) fun t14 =>
  lp (fun k1 => den Tryd.prog (sel (bodyOf Tryd.f34) [1, 1, 0, 1, 0, 0]) (thenD k1 (blk 0 (thenD (den Tryd.prog (sel (bodyOf Tryd.f34) [1, 1, 1]) (bodyQ Tryd.prog Tryd.f34.results.toList K E)) (bodyQ Tryd.prog Tryd.f34.results.toList K E))))) #[x0, x1, x2, undef, undef, t1, (.bool false), t14, (.int .i64 0), undef, x0, t2, t3, t4, t5, t6, t7, t8, t9, t10, t11, t12, t13, t14, undef, undef, undef, undef, undef, undef, undef, undef, undef, undef, undef, undef, undef, undef, undef, undef, undef, undef, undef, undef, undef, undef, undef, undef, undef, undef, undef, undef, undef, undef, undef, undef, undef, undef, undef, undef] := by kernel_rfl
def m34_1_1_0_1_0_0 (x0 x1 x2 x3 x4 x5 x6 x9 x10 x11 x12 x13 x14 x15 x16 x17 x18 x19 x20 x21 x22 x23 x38 x39 x40 x41 x42 x43 x44 x45 x46 x47 x48 x49 x50 x51 x52 x53 x54 x55 x56 x57 x58 x59 : Value) (v7 v8 : Value) (j : Nat → Value) : Env := #[x0, x1, x2, x3, x4, x5, x6, v7, v8, x9, x10, x11, x12, x13, x14, x15, x16, x17, x18, x19, x20, x21, x22, x23, (j 24), (j 25), (j 26), (j 27), (j 28), (j 29), (j 30), (j 31), (j 32), (j 33), (j 34), (j 35), (j 36), (j 37), x38, x39, x40, x41, x42, x43, x44, x45, x46, x47, x48, x49, x50, x51, x52, x53, x54, x55, x56, x57, x58, x59]
theorem t34_1_1_0_1_0_0 (K : Kont) (E : PanK) (k1 : Env → Hp → Prop) (x0 x1 x2 x3 x4 x5 x6 x9 x10 x11 x12 x13 x14 x15 x16 x17 x18 x19 x20 x21 x22 x23 x38 x39 x40 x41 x42 x43 x44 x45 x46 x47 x48 x49 x50 x51 x52 x53 x54 x55 x56 x57 x58 x59 v7 v8 : Value) (j : Nat → Value) : den Tryd.prog (sel (bodyOf Tryd.f34) [1, 1, 0, 1, 0, 0]) (thenD k1 (blk 0 (thenD (den Tryd.prog (sel (bodyOf Tryd.f34) [1, 1, 1]) (bodyQ Tryd.prog Tryd.f34.results.toList K E)) (bodyQ Tryd.prog Tryd.f34.results.toList K E)))) (m34_1_1_0_1_0_0 x0 x1 x2 x3 x4 x5 x6 x9 x10 x11 x12 x13 x14 x15 x16 x17 x18 x19 x20 x21 x22 x23 x38 x39 x40 x41 x42 x43 x44 x45 x46 x47 x48 x49 x50 x51 x52 x53 x54 x55 x56 x57 x58 x59 v7 v8 j) =
  pv (lenV x0) fun t1 =>
  pv (binV .none .lss v8 t1) fun t2 =>
  cnd t2 (
    pv (iaV none 2 x0 v8) fun t3 =>
    pv (faV 1 t3) fun t4 =>
    ld false 1 t4 fun t5 =>
    pv (lenV t5) fun t6 =>
    pv (binV .none .add v7 t6) fun t7 =>
    pv (binV .none .add v8 (.int .i64 1)) fun t8 =>
    k1 (m34_1_1_0_1_0_0 x0 x1 x2 x3 x4 x5 x6 x9 x10 x11 x12 x13 x14 x15 x16 x17 x18 x19 x20 x21 x22 x23 x38 x39 x40 x41 x42 x43 x44 x45 x46 x47 x48 x49 x50 x51 x52 x53 x54 x55 x56 x57 x58 x59 t7 t8 (jf #[x0, x1, x2, x3, x4, x5, x6, t7, t8, x9, x10, x11, x12, x13, x14, x15, x16, x17, x18, x19, x20, x21, x22, x23, v8, x0, t1, t2, v8, t8, v7, x0, v8, t3, t4, t5, t6, t7, x38, x39, x40, x41, x42, x43, x44, x45, x46, x47, x48, x49, x50, x51, x52, x53, x54, x55, x56, x57, x58, x59]))) (
    den Tryd.prog (sel (bodyOf Tryd.f34) [1, 1, 1]) (bodyQ Tryd.prog Tryd.f34.results.toList K E) #[x0, x1, x2, x3, x4, x5, x6, v7, v8, x9, x10, x11, x12, x13, x14, x15, x16, x17, x18, x19, x20, x21, x22, x23, v8, x0, t1, t2, (j 28), (j 29), (j 30), (j 31), (j 32), (j 33), (j 34), (j 35), (j 36), (j 37), x38, x39, x40, x41, x42, x43, x44, x45, x46, x47, x48, x49, x50, x51, x52, x53, x54, x55, x56, x57, x58, x59]) := by kernel_rfl
theorem t34_1_1_1 (K : Kont) (E : PanK) (x0 x1 x2 x3 x4 x5 x6 x7 x8 x9 x10 x11 x12 x13 x14 x15 x16 x17 x18 x19 x20 x21 x22 x23 x24 x25 x26 x27 x28 x29 x30 x31 x32 x33 x34 x35 x36 x37 x38 x39 x40 x41 x42 x43 x44 x45 x46 x47 x48 x49 x50 x51 x52 x53 x54 x55 x56 x57 x58 x59 : Value)  : den Tryd.prog (sel (bodyOf Tryd.f34) [1, 1, 1]) (bodyQ Tryd.prog Tryd.f34.results.toList K E) #[x0, x1, x2, x3, x4, x5, x6, x7, x8, x9, x10, x11, x12, x13, x14, x15, x16, x17, x18, x19, x20, x21, x22, x23, x24, x25, x26, x27, x28, x29, x30, x31, x32, x33, x34, x35, x36, x37, x38, x39, x40, x41, x42, x43, x44, x45, x46, x47, x48, x49, x50, x51, x52, x53, x54, x55, x56, x57, x58, x59] =
  lp (fun k1 => den Tryd.prog (sel (bodyOf Tryd.f34) [1, 1, 1, 0, 1, 0, 0]) (thenD k1 (blk 2 (thenD (den Tryd.prog (sel (bodyOf Tryd.f34) [1, 1, 1, 1]) (bodyQ Tryd.prog Tryd.f34.results.toList K E)) (bodyQ Tryd.prog Tryd.f34.results.toList K E))))) #[x0, x1, x2, x3, x4, x5, x6, x7, x8, (.int .i64 0), x10, x11, x12, x13, x14, x15, x16, x17, x18, x19, x20, x21, x22, x23, x24, x25, x26, x27, x28, x29, x30, x31, x32, x33, x34, x35, x36, x37, x38, x39, x40, x41, x42, x43, x44, x45, x46, x47, x48, x49, x50, x51, x52, x53, x54, x55, x56, x57, x58, x59] := by kernel_rfl
def m34_1_1_1_0_1_0_0 (x0 x1 x2 x3 x4 x5 x6 x8 x10 x11 x12 x13 x14 x15 x16 x17 x18 x19 x20 x21 x22 x23 x24 x25 x26 x27 x28 x29 x30 x31 x32 x33 x34 x35 x36 x37 x53 x54 x55 x56 x57 x58 x59 : Value) (v7 v9 : Value) (j : Nat → Value) : Env := #[x0, x1, x2, x3, x4, x5, x6, v7, x8, v9, x10, x11, x12, x13, x14, x15, x16, x17, x18, x19, x20, x21, x22, x23, x24, x25, x26, x27, x28, x29, x30, x31, x32, x33, x34, x35, x36, x37, (j 38), (j 39), (j 40), (j 41), (j 42), (j 43), (j 44), (j 45), (j 46), (j 47), (j 48), (j 49), (j 50), (j 51), (j 52), x53, x54, x55, x56, x57, x58, x59]
theorem t34_1_1_1_0_1_0_0 (K : Kont) (E : PanK) (k1 : Env → Hp → Prop) (x0 x1 x2 x3 x4 x5 x6 x8 x10 x11 x12 x13 x14 x15 x16 x17 x18 x19 x20 x21 x22 x23 x24 x25 x26 x27 x28 x29 x30 x31 x32 x33 x34 x35 x36 x37 x53 x54 x55 x56 x57 x58 x59 v7 v9 : Value) (j : Nat → Value) : den Tryd.prog (sel (bodyOf Tryd.f34) [1, 1, 1, 0, 1, 0, 0]) (thenD k1 (blk 2 (thenD (den Tryd.prog (sel (bodyOf Tryd.f34) [1, 1, 1, 1]) (bodyQ Tryd.prog Tryd.f34.results.toList K E)) (bodyQ Tryd.prog Tryd.f34.results.toList K E)))) (m34_1_1_1_0_1_0_0 x0 x1 x2 x3 x4 x5 x6 x8 x10 x11 x12 x13 x14 x15 x16 x17 x18 x19 x20 x21 x22 x23 x24 x25 x26 x27 x28 x29 x30 x31 x32 x33 x34 x35 x36 x37 x53 x54 x55 x56 x57 x58 x59 v7 v9 j) =
  pv (lenV x1) fun t1 =>
  pv (binV .none .lss v9 t1) fun t2 =>
  cnd t2 (
    pv (iaV none 5 x1 v9) fun t3 =>
    pv (faV 0 t3) fun t4 =>
    ld false 1 t4 fun t5 =>
    pv (lenV t5) fun t6 =>
    pv (binV .none .add (.int .i64 1) t6) fun t7 =>
    pv (binV .none .add v7 t7) fun t8 =>
    pv (binV .none .add v9 (.int .i64 1)) fun t9 =>
    k1 (m34_1_1_1_0_1_0_0 x0 x1 x2 x3 x4 x5 x6 x8 x10 x11 x12 x13 x14 x15 x16 x17 x18 x19 x20 x21 x22 x23 x24 x25 x26 x27 x28 x29 x30 x31 x32 x33 x34 x35 x36 x37 x53 x54 x55 x56 x57 x58 x59 t8 t9 (jf #[x0, x1, x2, x3, x4, x5, x6, t8, x8, t9, x10, x11, x12, x13, x14, x15, x16, x17, x18, x19, x20, x21, x22, x23, x24, x25, x26, x27, x28, x29, x30, x31, x32, x33, x34, x35, x36, x37, v9, x1, t1, t2, v9, t9, v7, x1, v9, t3, t4, t5, t6, t7, t8, x53, x54, x55, x56, x57, x58, x59]))) (
    den Tryd.prog (sel (bodyOf Tryd.f34) [1, 1, 1, 1]) (bodyQ Tryd.prog Tryd.f34.results.toList K E) #[x0, x1, x2, x3, x4, x5, x6, v7, x8, v9, x10, x11, x12, x13, x14, x15, x16, x17, x18, x19, x20, x21, x22, x23, x24, x25, x26, x27, x28, x29, x30, x31, x32, x33, x34, x35, x36, x37, v9, x1, t1, t2, (j 42), (j 43), (j 44), (j 45), (j 46), (j 47), (j 48), (j 49), (j 50), (j 51), (j 52), x53, x54, x55, x56, x57, x58, x59]) := by kernel_rfl
theorem t34_1_1_1_1 (K : Kont) (E : PanK) (x0 x1 x2 x3 x4 x5 x6 x7 x8 x9 x10 x11 x12 x13 x14 x15 x16 x17 x18 x19 x20 x21 x22 x23 x24 x25 x26 x27 x28 x29 x30 x31 x32 x33 x34 x35 x36 x37 x38 x39 x40 x41 x42 x43 x44 x45 x46 x47 x48 x49 x50 x51 x52 x53 x54 x55 x56 x57 x58 x59 : Value)  : den Tryd.prog (sel (bodyOf Tryd.f34) [1, 1, 1, 1]) (bodyQ Tryd.prog Tryd.f34.results.toList K E) #[x0, x1, x2, x3, x4, x5, x6, x7, x8, x9, x10, x11, x12, x13, x14, x15, x16, x17, x18, x19, x20, x21, x22, x23, x24, x25, x26, x27, x28, x29, x30, x31, x32, x33, x34, x35, x36, x37, x38, x39, x40, x41, x42, x43, x44, x45, x46, x47, x48, x49, x50, x51, x52, x53, x54, x55, x56, x57, x58, x59] =
  pv (binV .none .gtr x7 (.int .i64 2000)) fun t1 =>
  gdK t1 false (fun k => k x1) fun t2 =>
  gdK t1 false (fun k => pv (lenV t2) k) fun t3 =>
  gdK t1 false (fun k => pv (binV .none .gtr t3 (.int .i64 300)) k) fun t4 =>
  pv (pickV t1 (.bool true) t4) fun t5 =>
  K t5 := by kernel_rfl
theorem l34_1_1_0_1_0_0 {K : Kont} {E : PanK} {σ : Type} {x0 x1 x2 x3 x4 x5 x6 x9 x10 x11 x12 x13 x14 x15 x16 x17 x18 x19 x20 x21 x22 x23 x38 x39 x40 x41 x42 x43 x44 x45 x46 x47 x48 x49 x50 x51 x52 x53 x54 x55 x56 x57 x58 x59 v7 v8 y24 y25 y26 y27 y28 y29 y30 y31 y32 y33 y34 y35 y36 y37 : Value} {h : Hp} (f7 f8 : σ → Value) (I : σ → Hp → Prop) (μ : σ → Nat) (s0 : σ) (e7 : v7 = f7 s0) (e8 : v8 = f8 s0) (h0 : h.wf → ∃ h', h.wk h' ∧ I s0 h')
  (round : ∀ (k1 : Env → Hp → Prop) (s : σ) (j : Nat → Value) (h : Hp), I s h → h.wf → (∀ s' j' h', μ s' < μ s → (h'.wf → ∃ h'', h'.wk h'' ∧ I s' h'') → k1 (m34_1_1_0_1_0_0 x0 x1 x2 x3 x4 x5 x6 x9 x10 x11 x12 x13 x14 x15 x16 x17 x18 x19 x20 x21 x22 x23 x38 x39 x40 x41 x42 x43 x44 x45 x46 x47 x48 x49 x50 x51 x52 x53 x54 x55 x56 x57 x58 x59 (f7 s') (f8 s') j') h') → (
  pv (lenV x0) fun t1 =>
  pv (binV .none .lss (f8 s) t1) fun t2 =>
  cnd t2 (
    pv (iaV none 2 x0 (f8 s)) fun t3 =>
    pv (faV 1 t3) fun t4 =>
    ld false 1 t4 fun t5 =>
    pv (lenV t5) fun t6 =>
    pv (binV .none .add (f7 s) t6) fun t7 =>
    pv (binV .none .add (f8 s) (.int .i64 1)) fun t8 =>
    k1 (m34_1_1_0_1_0_0 x0 x1 x2 x3 x4 x5 x6 x9 x10 x11 x12 x13 x14 x15 x16 x17 x18 x19 x20 x21 x22 x23 x38 x39 x40 x41 x42 x43 x44 x45 x46 x47 x48 x49 x50 x51 x52 x53 x54 x55 x56 x57 x58 x59 t7 t8 (jf #[x0, x1, x2, x3, x4, x5, x6, t7, t8, x9, x10, x11, x12, x13, x14, x15, x16, x17, x18, x19, x20, x21, x22, x23, (f8 s), x0, t1, t2, (f8 s), t8, (f7 s), x0, (f8 s), t3, t4, t5, t6, t7, x38, x39, x40, x41, x42, x43, x44, x45, x46, x47, x48, x49, x50, x51, x52, x53, x54, x55, x56, x57, x58, x59]))) (
    den Tryd.prog (sel (bodyOf Tryd.f34) [1, 1, 1]) (bodyQ Tryd.prog Tryd.f34.results.toList K E) #[x0, x1, x2, x3, x4, x5, x6, (f7 s), (f8 s), x9, x10, x11, x12, x13, x14, x15, x16, x17, x18, x19, x20, x21, x22, x23, (f8 s), x0, t1, t2, (j 28), (j 29), (j 30), (j 31), (j 32), (j 33), (j 34), (j 35), (j 36), (j 37), x38, x39, x40, x41, x42, x43, x44, x45, x46, x47, x48, x49, x50, x51, x52, x53, x54, x55, x56, x57, x58, x59])) h) :
  lp (fun k1 => den Tryd.prog (sel (bodyOf Tryd.f34) [1, 1, 0, 1, 0, 0]) (thenD k1 (blk 0 (thenD (den Tryd.prog (sel (bodyOf Tryd.f34) [1, 1, 1]) (bodyQ Tryd.prog Tryd.f34.results.toList K E)) (bodyQ Tryd.prog Tryd.f34.results.toList K E))))) #[x0, x1, x2, x3, x4, x5, x6, v7, v8, x9, x10, x11, x12, x13, x14, x15, x16, x17, x18, x19, x20, x21, x22, x23, y24, y25, y26, y27, y28, y29, y30, y31, y32, y33, y34, y35, y36, y37, x38, x39, x40, x41, x42, x43, x44, x45, x46, x47, x48, x49, x50, x51, x52, x53, x54, x55, x56, x57, x58, x59] h := by
  subst e7
  subst e8
  have e : (#[x0, x1, x2, x3, x4, x5, x6, (f7 s0), (f8 s0), x9, x10, x11, x12, x13, x14, x15, x16, x17, x18, x19, x20, x21, x22, x23, y24, y25, y26, y27, y28, y29, y30, y31, y32, y33, y34, y35, y36, y37, x38, x39, x40, x41, x42, x43, x44, x45, x46, x47, x48, x49, x50, x51, x52, x53, x54, x55, x56, x57, x58, x59] : Env) = m34_1_1_0_1_0_0 x0 x1 x2 x3 x4 x5 x6 x9 x10 x11 x12 x13 x14 x15 x16 x17 x18 x19 x20 x21 x22 x23 x38 x39 x40 x41 x42 x43 x44 x45 x46 x47 x48 x49 x50 x51 x52 x53 x54 x55 x56 x57 x58 x59 (f7 s0) (f8 s0) (jf #[x0, x1, x2, x3, x4, x5, x6, (f7 s0), (f8 s0), x9, x10, x11, x12, x13, x14, x15, x16, x17, x18, x19, x20, x21, x22, x23, y24, y25, y26, y27, y28, y29, y30, y31, y32, y33, y34, y35, y36, y37, x38, x39, x40, x41, x42, x43, x44, x45, x46, x47, x48, x49, x50, x51, x52, x53, x54, x55, x56, x57, x58, x59]) := by kernel_rfl
  rw [e]
  exact loop_r (fun s j => m34_1_1_0_1_0_0 x0 x1 x2 x3 x4 x5 x6 x9 x10 x11 x12 x13 x14 x15 x16 x17 x18 x19 x20 x21 x22 x23 x38 x39 x40 x41 x42 x43 x44 x45 x46 x47 x48 x49 x50 x51 x52 x53 x54 x55 x56 x57 x58 x59 (f7 s) (f8 s) j) I μ (fun k s j h hI hw next => by rw [t34_1_1_0_1_0_0]; exact round k s j h hI hw next) s0 (jf #[x0, x1, x2, x3, x4, x5, x6, (f7 s0), (f8 s0), x9, x10, x11, x12, x13, x14, x15, x16, x17, x18, x19, x20, x21, x22, x23, y24, y25, y26, y27, y28, y29, y30, y31, y32, y33, y34, y35, y36, y37, x38, x39, x40, x41, x42, x43, x44, x45, x46, x47, x48, x49, x50, x51, x52, x53, x54, x55, x56, x57, x58, x59]) h0
theorem l34_1_1_1_0_1_0_0 {K : Kont} {E : PanK} {σ : Type} {x0 x1 x2 x3 x4 x5 x6 x8 x10 x11 x12 x13 x14 x15 x16 x17 x18 x19 x20 x21 x22 x23 x24 x25 x26 x27 x28 x29 x30 x31 x32 x33 x34 x35 x36 x37 x53 x54 x55 x56 x57 x58 x59 v7 v9 y38 y39 y40 y41 y42 y43 y44 y45 y46 y47 y48 y49 y50 y51 y52 : Value} {h : Hp} (f7 f9 : σ → Value) (I : σ → Hp → Prop) (μ : σ → Nat) (s0 : σ) (e7 : v7 = f7 s0) (e9 : v9 = f9 s0) (h0 : h.wf → ∃ h', h.wk h' ∧ I s0 h')
  (round : ∀ (k1 : Env → Hp → Prop) (s : σ) (j : Nat → Value) (h : Hp), I s h → h.wf → (∀ s' j' h', μ s' < μ s → (h'.wf → ∃ h'', h'.wk h'' ∧ I s' h'') → k1 (m34_1_1_1_0_1_0_0 x0 x1 x2 x3 x4 x5 x6 x8 x10 x11 x12 x13 x14 x15 x16 x17 x18 x19 x20 x21 x22 x23 x24 x25 x26 x27 x28 x29 x30 x31 x32 x33 x34 x35 x36 x37 x53 x54 x55 x56 x57 x58 x59 (f7 s') (f9 s') j') h') → (
  pv (lenV x1) fun t1 =>
  pv (binV .none .lss (f9 s) t1) fun t2 =>
  cnd t2 (
    pv (iaV none 5 x1 (f9 s)) fun t3 =>
    pv (faV 0 t3) fun t4 =>
    ld false 1 t4 fun t5 =>
    pv (lenV t5) fun t6 =>
    pv (binV .none .add (.int .i64 1) t6) fun t7 =>
    pv (binV .none .add (f7 s) t7) fun t8 =>
    pv (binV .none .add (f9 s) (.int .i64 1)) fun t9 =>
    k1 (m34_1_1_1_0_1_0_0 x0 x1 x2 x3 x4 x5 x6 x8 x10 x11 x12 x13 x14 x15 x16 x17 x18 x19 x20 x21 x22 x23 x24 x25 x26 x27 x28 x29 x30 x31 x32 x33 x34 x35 x36 x37 x53 x54 x55 x56 x57 x58 x59 t8 t9 (jf #[x0, x1, x2, x3, x4, x5, x6, t8, x8, t9, x10, x11, x12, x13, x14, x15, x16, x17, x18, x19, x20, x21, x22, x23, x24, x25, x26, x27, x28, x29, x30, x31, x32, x33, x34, x35, x36, x37, (f9 s), x1, t1, t2, (f9 s), t9, (f7 s), x1, (f9 s), t3, t4, t5, t6, t7, t8, x53, x54, x55, x56, x57, x58, x59]))) (
    den Tryd.prog (sel (bodyOf Tryd.f34) [1, 1, 1, 1]) (bodyQ Tryd.prog Tryd.f34.results.toList K E) #[x0, x1, x2, x3, x4, x5, x6, (f7 s), x8, (f9 s), x10, x11, x12, x13, x14, x15, x16, x17, x18, x19, x20, x21, x22, x23, x24, x25, x26, x27, x28, x29, x30, x31, x32, x33, x34, x35, x36, x37, (f9 s), x1, t1, t2, (j 42), (j 43), (j 44), (j 45), (j 46), (j 47), (j 48), (j 49), (j 50), (j 51), (j 52), x53, x54, x55, x56, x57, x58, x59])) h) :
  lp (fun k1 => den Tryd.prog (sel (bodyOf Tryd.f34) [1, 1, 1, 0, 1, 0, 0]) (thenD k1 (blk 2 (thenD (den Tryd.prog (sel (bodyOf Tryd.f34) [1, 1, 1, 1]) (bodyQ Tryd.prog Tryd.f34.results.toList K E)) (bodyQ Tryd.prog Tryd.f34.results.toList K E))))) #[x0, x1, x2, x3, x4, x5, x6, v7, x8, v9, x10, x11, x12, x13, x14, x15, x16, x17, x18, x19, x20, x21, x22, x23, x24, x25, x26, x27, x28, x29, x30, x31, x32, x33, x34, x35, x36, x37, y38, y39, y40, y41, y42, y43, y44, y45, y46, y47, y48, y49, y50, y51, y52, x53, x54, x55, x56, x57, x58, x59] h := by
  subst e7
  subst e9
  have e : (#[x0, x1, x2, x3, x4, x5, x6, (f7 s0), x8, (f9 s0), x10, x11, x12, x13, x14, x15, x16, x17, x18, x19, x20, x21, x22, x23, x24, x25, x26, x27, x28, x29, x30, x31, x32, x33, x34, x35, x36, x37, y38, y39, y40, y41, y42, y43, y44, y45, y46, y47, y48, y49, y50, y51, y52, x53, x54, x55, x56, x57, x58, x59] : Env) = m34_1_1_1_0_1_0_0 x0 x1 x2 x3 x4 x5 x6 x8 x10 x11 x12 x13 x14 x15 x16 x17 x18 x19 x20 x21 x22 x23 x24 x25 x26 x27 x28 x29 x30 x31 x32 x33 x34 x35 x36 x37 x53 x54 x55 x56 x57 x58 x59 (f7 s0) (f9 s0) (jf #[x0, x1, x2, x3, x4, x5, x6, (f7 s0), x8, (f9 s0), x10, x11, x12, x13, x14, x15, x16, x17, x18, x19, x20, x21, x22, x23, x24, x25, x26, x27, x28, x29, x30, x31, x32, x33, x34, x35, x36, x37, y38, y39, y40, y41, y42, y43, y44, y45, y46, y47, y48, y49, y50, y51, y52, x53, x54, x55, x56, x57, x58, x59]) := by kernel_rfl
  rw [e]
  exact loop_r (fun s j => m34_1_1_1_0_1_0_0 x0 x1 x2 x3 x4 x5 x6 x8 x10 x11 x12 x13 x14 x15 x16 x17 x18 x19 x20 x21 x22 x23 x24 x25 x26 x27 x28 x29 x30 x31 x32 x33 x34 x35 x36 x37 x53 x54 x55 x56 x57 x58 x59 (f7 s) (f9 s) j) I μ (fun k s j h hI hw next => by rw [t34_1_1_1_0_1_0_0]; exact round k s j h hI hw next) s0 (jf #[x0, x1, x2, x3, x4, x5, x6, (f7 s0), x8, (f9 s0), x10, x11, x12, x13, x14, x15, x16, x17, x18, x19, x20, x21, x22, x23, x24, x25, x26, x27, x28, x29, x30, x31, x32, x33, x34, x35, x36, x37, y38, y39, y40, y41, y42, y43, y44, y45, y46, y47, y48, y49, y50, y51, y52, x53, x54, x55, x56, x57, x58, x59]) h0

theorem t35 (K : Kont) (E : PanK)  : den Tryd.prog (sel (bodyOf Tryd.f35) []) (bodyQ Tryd.prog Tryd.f35.results.toList K E) #[undef, undef, undef, undef, undef, undef, undef, undef, undef, undef, undef, undef, undef, undef, undef, undef, undef, undef, undef, undef, undef, undef, undef, undef, undef, undef, undef, undef, undef, undef, undef, undef, undef, undef, undef, undef, undef, undef, undef, undef, undef, undef, undef, undef, undef, undef, undef, undef, undef, undef, undef, undef, undef, undef, undef, undef] =
  nws 3 1 (bsC #[(.int .i64 0)] 1 1 #[(0, (.int .i64 5))]) fun t1 =>
  pv (bdC #[(.int .i64 0), (.slice none 0 0)] [(0, 1), (1, 1)] #[(0, (.int .i64 10)), (1, t1)]) fun t2 =>
  nws 51 1 (bsC #[(.int .i64 0), (.slice none 0 0)] 2 1 #[(0, t2)]) fun t3 =>
  nws 3 1 (bsC #[(.int .i64 0)] 1 1 #[(0, (.int .i64 1))]) fun t4 =>
  pv (bdC #[(.int .i64 0), (.int .i64 0), (.int .i64 0), (.int .i64 0)] [(0, 1), (1, 1), (2, 1), (3, 1)] #[(0, (.int .i64 1))]) fun t5 =>
  pv (bdC #[(.slice none 0 0), (.int .i64 0), (.int .i64 0), (.int .i64 0), (.int .i64 0)] [(0, 1), (1, 4)] #[(0, t4), (1, t5)]) fun t6 =>
  nws 3 1 (bsC #[(.int .i64 0)] 1 1 #[(0, (.int .i64 4))]) fun t7 =>
  pv (bdC #[(.int .i64 0), (.int .i64 0), (.int .i64 0), (.int .i64 0)] [(0, 1), (1, 1), (2, 1), (3, 1)] #[(0, (.int .i64 1))]) fun t8 =>
  pv (bdC #[(.slice none 0 0), (.int .i64 0), (.int .i64 0), (.int .i64 0), (.int .i64 0)] [(0, 1), (1, 4)] #[(0, t7), (1, t8)]) fun t9 =>
  nws 3 1 (bsC #[(.int .i64 0)] 1 1 #[(0, (.int .i64 7))]) fun t10 =>
  pv (bdC #[(.int .i64 0), (.int .i64 0), (.int .i64 0), (.int .i64 0)] [(0, 1), (1, 1), (2, 1), (3, 1)] #[(0, (.int .i64 1))]) fun t11 =>
  pv (bdC #[(.slice none 0 0), (.int .i64 0), (.int .i64 0), (.int .i64 0), (.int .i64 0)] [(0, 1), (1, 4)] #[(0, t10), (1, t11)]) fun t12 =>
  nws 43 3 (bsC #[(.slice none 0 0), (.int .i64 0), (.int .i64 0), (.int .i64 0), (.int .i64 0)] 5 3 #[(0, t6), (1, t9), (2, t12)]) fun t13 =>
  nws 3 1 (bsC #[(.int .i64 0)] 1 1 #[(0, (.int .i64 1))]) fun t14 =>
  nws 3 1 (bsC #[(.int .i64 0)] 1 1 #[(0, (.int .i64 0))]) fun t15 =>
  nws 3 1 (bsC #[(.int .i64 0)] 1 1 #[(0, (.int .i64 10))]) fun t16 =>
  pv (bdC #[(.slice none 0 0), (.slice none 0 0), (.slice none 0 0)] [(0, 1), (1, 1), (2, 1)] #[(0, t14), (1, t15), (2, t16)]) fun t17 =>
  callv Tryd.prog (.func (.func 36) #[] #[]) #[t3, t13, t17] (fun t18 =>
  pv (exV 0 t18) fun t19 =>
  pv (exV 1 t18) fun t20 =>
  pv (binV .none .eql t20 (.int .u16 0)) fun t21 =>
  gdK t21 true (fun k => k t19) fun t22 =>
  gdK t21 true (fun k => pv (lenV t22) k) fun t23 =>
  gdK t21 true (fun k => pv (binV .none .eql t23 (.int .i64 2)) k) fun t24 =>
  pv (pickV t21 t24 (.bool false)) fun t25 =>
  gdK t25 true (fun k => k t19) fun t26 =>
  gdK t25 true (fun k => pv (iaV none 5 t26 (.int .i64 0)) k) fun t27 =>
  gdK t25 true (fun k => pv (faV 1 t27) k) fun t28 =>
  gdK t25 true (fun k => pv (faV 0 t28) k) fun t29 =>
  gdK t25 true (fun k => ld false 1 t29 k) fun t30 =>
  gdK t25 true (fun k => pv (binV .none .eql t30 (.int .i64 2)) k) fun t31 =>
  pv (pickV t25 t31 (.bool false)) fun t32 =>
  gdK t32 true (fun k => k t19) fun t33 =>
  gdK t32 true (fun k => pv (iaV none 5 t33 (.int .i64 1)) k) fun t34 =>
  gdK t32 true (fun k => pv (faV 0 t34) k) fun t35 =>
  gdK t32 true (fun k => ld false 1 t35 k) fun t36 =>
  gdK t32 true (fun k => pv (iaV none 1 t36 (.int .i64 0)) k) fun t37 =>
  gdK t32 true (fun k => ld false 1 t37 k) fun t38 =>
  gdK t32 true (fun k => pv (binV .none .eql t38 (.int .i64 1)) k) fun t39 =>
  pv (pickV t32 t39 (.bool false)) fun t40 =>
  gdK t40 true (fun k => k t3) fun t41 =>
  gdK t40 true (fun k => pv (bdC #[(.slice none 0 0), (.slice none 0 0), (.slice none 0 0)] [(0, 1), (1, 1), (2, 1)] #[]) k) fun t42 =>
  gdK t40 true (fun k => callv Tryd.prog (.func (.func 38) #[] #[]) #[t41, t42] k E) fun t43 =>
  gdK t40 true (fun k => pv (binV .none .eql t43 (.int .u16 40)) k) fun t44 =>
  pv (pickV t40 t44 (.bool false)) fun t45 =>
  K t45) E := by kernel_rfl

theorem t36 (K : Kont) (E : PanK) (x0 x1 x2 : Value)  : den Tryd.prog (sel (bodyOf Tryd.f36) []) (bodyQ Tryd.prog Tryd.f36.results.toList K E) #[x0, x1, x2, undef, undef, undef, undef, undef, undef, undef, undef, undef, undef, undef, undef, undef, undef, undef, undef, undef, undef, undef, undef, undef, undef, undef, undef, undef, undef, undef, undef, undef, undef, undef, undef, undef, undef, undef, undef, undef, undef, undef, undef, undef, undef] =
  nw 64 (Value.cells x2).toList fun t1 =>
  ld true 3 t1 fun t2 =>
  callv Tryd.prog (.func (.func 38) #[] #[]) #[x0, t2] (fun t3 =>
  pv (binV .none .neq t3 (.int .u16 0)) fun t4 =>
  cnd t4 (
    K (.tuple #[(.slice none 0 0), t3])) (
    pv (lenV x0) fun t5 =>
    callv Tryd.prog (.func (.func 22) #[] #[]) #[x1, t5] (fun t6 =>
    pv (unV .not t6) fun t7 =>
    cnd t7 (
      K (.tuple #[(.slice none 0 0), (.int .u16 1)])) (
      pv (faV 1 t1) fun t8 =>
      ld false 1 t8 fun t9 =>
      pv (faV 2 t1) fun t10 =>
      ld false 1 t10 fun t11 =>
      pv (lenV x0) fun t12 =>
      pv (faV 0 t1) fun t13 =>
      ld false 1 t13 fun t14 =>
      bth (
        callv Tryd.prog (.func (.func 64) #[] #[]) #[x1, t9, t11] (fun t15 h16 => (ldV h16 false 1 t13 t14) ∧ (
          mks 3 [(.int .i64 0)] 1 8 t12 t12 (fun t17 h18 => (ldV h18 false 1 t13 t14) ∧ (
            callv Tryd.prog (.func (.func 31) #[] #[]) #[x0, t15, t17, t14] (fun t19 =>
            pv (exV 0 t19) fun t20 =>
            pv (exV 1 t19) fun t21 =>
            pv (binV .none .neq t21 (.int .u16 0)) fun t22 =>
            cnd t22 (
              K (.tuple #[(.slice none 0 0), t21])) (
              callv Tryd.prog (.func (.func 65) #[] #[]) #[t20] (fun t23 =>
              pv (exV 0 t23) fun t24 =>
              pv (exV 1 t23) fun t25 =>
              K (.tuple #[t24, t25])) E)) E) h18)) h16) E) (
        mks 3 [(.int .i64 0)] 1 8 t12 t12 (fun t26 h27 => (ldV h27 false 1 t13 t14) ∧ (ldV h27 false 1 t10 t11) ∧ (ldV h27 false 1 t8 t9) ∧ (
          callv Tryd.prog (.func (.func 64) #[] #[]) #[x1, t9, t11] (fun t28 h29 => (ldV h29 false 1 t13 t14) ∧ (
            callv Tryd.prog (.func (.func 31) #[] #[]) #[x0, t28, t26, t14] (fun t30 =>
            pv (exV 0 t30) fun t31 =>
            pv (exV 1 t30) fun t32 =>
            pv (binV .none .neq t32 (.int .u16 0)) fun t33 =>
            cnd t33 (
              K (.tuple #[(.slice none 0 0), t32])) (
              callv Tryd.prog (.func (.func 65) #[] #[]) #[t31] (fun t34 =>
              pv (exV 0 t34) fun t35 =>
              pv (exV 1 t34) fun t36 =>
              K (.tuple #[t35, t36])) E)) E) h29) E) h27)))) E)) E := by kernel_rfl

theorem t37 (K : Kont) (E : PanK) (x0 x1 x2 : Value)  : den Tryd.prog (sel (bodyOf Tryd.f37) []) (bodyQ Tryd.prog Tryd.f37.results.toList K E) #[x0, x1, x2, undef, undef, undef, undef, undef, undef, undef, undef, undef, undef, undef, undef, undef, undef, undef, undef, undef, undef, undef, undef, undef, undef, undef, undef, undef, undef, undef, undef, undef, undef, undef, undef, undef, undef, undef, undef, undef, undef, undef, undef, undef, undef, undef, undef, undef, undef, undef, undef] =
  nw 64 (Value.cells x2).toList fun t1 =>
  ld true 3 t1 fun t2 =>
  callv Tryd.prog (.func (.func 39) #[] #[]) #[x0, t2] (fun t3 =>
  pv (binV .none .neq t3 (.int .i64 0)) fun t4 =>
  cnd t4 (
    K (.tuple #[(.slice none 0 0), t3])) (
    pv (lenV x0) fun t5 =>
    callv Tryd.prog (.func (.func 23) #[] #[]) #[x1, t5] (fun t6 =>
    pv (unV .not t6) fun t7 =>
    cnd t7 (
      K (.tuple #[(.slice none 0 0), (.int .i64 1)])) (
      lp (fun k1 => den Tryd.prog (sel (bodyOf Tryd.f37) [1, 1, 1, 1, 1, 0, 1, 0, 0]) (thenD k1 (blk 0 (thenD (den Tryd.prog (sel (bodyOf Tryd.f37) [1, 1, 1, 1, 1, 1]) (bodyQ Tryd.prog Tryd.f37.results.toList K E)) (bodyQ Tryd.prog Tryd.f37.results.toList K E))))) #[x0, x1, x2, undef, undef, t1, (.slice none 0 0), (.int .i64 0), t3, (.slice none 0 0), (.int .i64 0), undef, undef, x0, t2, t3, t3, t4, undef, x1, x0, t5, t6, t7, undef, undef, undef, undef, undef, undef, undef, undef, undef, undef, undef, undef, undef, undef, undef, undef, undef, undef, undef, undef, undef, undef, undef, undef, undef, undef, undef])) E)) E := by kernel_rfl
def m37_1_1_1_1_1_0_1_0_0 (x0 x1 x2 x3 x4 x5 x6 x7 x8 x11 x12 x13 x14 x15 x16 x17 x18 x19 x20 x21 x22 x23 x33 x34 x35 x36 x37 x38 x39 x40 x41 x42 x43 x44 x45 x46 x47 x48 x49 x50 : Value) (v9 v10 : Value) (j : Nat → Value) : Env := #[x0, x1, x2, x3, x4, x5, x6, x7, x8, v9, v10, x11, x12, x13, x14, x15, x16, x17, x18, x19, x20, x21, x22, x23, (j 24), (j 25), (j 26), (j 27), (j 28), (j 29), (j 30), (j 31), (j 32), x33, x34, x35, x36, x37, x38, x39, x40, x41, x42, x43, x44, x45, x46, x47, x48, x49, x50]
theorem t37_1_1_1_1_1_0_1_0_0 (K : Kont) (E : PanK) (k1 : Env → Hp → Prop) (x0 x1 x2 x3 x4 x5 x6 x7 x8 x11 x12 x13 x14 x15 x16 x17 x18 x19 x20 x21 x22 x23 x33 x34 x35 x36 x37 x38 x39 x40 x41 x42 x43 x44 x45 x46 x47 x48 x49 x50 v9 v10 : Value) (j : Nat → Value) : den Tryd.prog (sel (bodyOf Tryd.f37) [1, 1, 1, 1, 1, 0, 1, 0, 0]) (thenD k1 (blk 0 (thenD (den Tryd.prog (sel (bodyOf Tryd.f37) [1, 1, 1, 1, 1, 1]) (bodyQ Tryd.prog Tryd.f37.results.toList K E)) (bodyQ Tryd.prog Tryd.f37.results.toList K E)))) (m37_1_1_1_1_1_0_1_0_0 x0 x1 x2 x3 x4 x5 x6 x7 x8 x11 x12 x13 x14 x15 x16 x17 x18 x19 x20 x21 x22 x23 x33 x34 x35 x36 x37 x38 x39 x40 x41 x42 x43 x44 x45 x46 x47 x48 x49 x50 v9 v10 j) =
  pv (lenV x0) fun t1 =>
  pv (binV .none .lss v10 t1) fun t2 =>
  cnd t2 (
    nws 3 1 (bsC #[(.int .i64 0)] 1 1 #[(0, (.int .i64 0))]) fun t3 =>
    appX 3 1 8 v9 t3 fun t4 =>
    pv (binV .none .add v10 (.int .i64 1)) fun t5 =>
    k1 (m37_1_1_1_1_1_0_1_0_0 x0 x1 x2 x3 x4 x5 x6 x7 x8 x11 x12 x13 x14 x15 x16 x17 x18 x19 x20 x21 x22 x23 x33 x34 x35 x36 x37 x38 x39 x40 x41 x42 x43 x44 x45 x46 x47 x48 x49 x50 t4 t5 (jf #[x0, x1, x2, x3, x4, x5, x6, x7, x8, t4, t5, x11, x12, x13, x14, x15, x16, x17, x18, x19, x20, x21, x22, x23, v10, x0, t1, t2, v10, t5, v9, t3, t4, x33, x34, x35, x36, x37, x38, x39, x40, x41, x42, x43, x44, x45, x46, x47, x48, x49, x50]))) (
    den Tryd.prog (sel (bodyOf Tryd.f37) [1, 1, 1, 1, 1, 1]) (bodyQ Tryd.prog Tryd.f37.results.toList K E) #[x0, x1, x2, x3, x4, x5, x6, x7, x8, v9, v10, x11, x12, x13, x14, x15, x16, x17, x18, x19, x20, x21, x22, x23, v10, x0, t1, t2, (j 28), (j 29), (j 30), (j 31), (j 32), x33, x34, x35, x36, x37, x38, x39, x40, x41, x42, x43, x44, x45, x46, x47, x48, x49, x50]) := by kernel_rfl
theorem t37_1_1_1_1_1_1 (K : Kont) (E : PanK) (x0 x1 x2 x3 x4 x5 x6 x7 x8 x9 x10 x11 x12 x13 x14 x15 x16 x17 x18 x19 x20 x21 x22 x23 x24 x25 x26 x27 x28 x29 x30 x31 x32 x33 x34 x35 x36 x37 x38 x39 x40 x41 x42 x43 x44 x45 x46 x47 x48 x49 x50 : Value)  : den Tryd.prog (sel (bodyOf Tryd.f37) [1, 1, 1, 1, 1, 1]) (bodyQ Tryd.prog Tryd.f37.results.toList K E) #[x0, x1, x2, x3, x4, x5, x6, x7, x8, x9, x10, x11, x12, x13, x14, x15, x16, x17, x18, x19, x20, x21, x22, x23, x24, x25, x26, x27, x28, x29, x30, x31, x32, x33, x34, x35, x36, x37, x38, x39, x40, x41, x42, x43, x44, x45, x46, x47, x48, x49, x50] =
  pv (faV 1 x5) fun t1 =>
  ld false 1 t1 fun t2 =>
  pv (faV 2 x5) fun t3 =>
  ld false 1 t3 fun t4 =>
  pv (faV 0 x5) fun t5 =>
  ld false 1 t5 fun t6 =>
  callv Tryd.prog (.func (.func 66) #[] #[]) #[x1, t2, t4] (fun t7 h8 => (ldV h8 false 1 t5 t6) ∧ (
    callv Tryd.prog (.func (.func 32) #[] #[]) #[x0, t7, x9, t6] (fun t9 =>
    pv (exV 0 t9) fun t10 =>
    pv (exV 1 t9) fun t11 =>
    pv (lenV t10) fun t12 =>
    pv (binV .none .gtr t12 (.int .i64 500)) fun t13 =>
    cnd t13 (
      K (.tuple #[(.slice none 0 0), (.int .i64 61)])) (
      K (.tuple #[t10, (.int .i64 0)]))) E) h8) E := by kernel_rfl
theorem l37_1_1_1_1_1_0_1_0_0 {K : Kont} {E : PanK} {σ : Type} {x0 x1 x2 x3 x4 x5 x6 x7 x8 x11 x12 x13 x14 x15 x16 x17 x18 x19 x20 x21 x22 x23 x33 x34 x35 x36 x37 x38 x39 x40 x41 x42 x43 x44 x45 x46 x47 x48 x49 x50 v9 v10 y24 y25 y26 y27 y28 y29 y30 y31 y32 : Value} {h : Hp} (f9 f10 : σ → Value) (I : σ → Hp → Prop) (μ : σ → Nat) (s0 : σ) (e9 : v9 = f9 s0) (e10 : v10 = f10 s0) (h0 : h.wf → ∃ h', h.wk h' ∧ I s0 h')
  (round : ∀ (k1 : Env → Hp → Prop) (s : σ) (j : Nat → Value) (h : Hp), I s h → h.wf → (∀ s' j' h', μ s' < μ s → (h'.wf → ∃ h'', h'.wk h'' ∧ I s' h'') → k1 (m37_1_1_1_1_1_0_1_0_0 x0 x1 x2 x3 x4 x5 x6 x7 x8 x11 x12 x13 x14 x15 x16 x17 x18 x19 x20 x21 x22 x23 x33 x34 x35 x36 x37 x38 x39 x40 x41 x42 x43 x44 x45 x46 x47 x48 x49 x50 (f9 s') (f10 s') j') h') → (
  pv (lenV x0) fun t1 =>
  pv (binV .none .lss (f10 s) t1) fun t2 =>
  cnd t2 (
    nws 3 1 (bsC #[(.int .i64 0)] 1 1 #[(0, (.int .i64 0))]) fun t3 =>
    appX 3 1 8 (f9 s) t3 fun t4 =>
    pv (binV .none .add (f10 s) (.int .i64 1)) fun t5 =>
    k1 (m37_1_1_1_1_1_0_1_0_0 x0 x1 x2 x3 x4 x5 x6 x7 x8 x11 x12 x13 x14 x15 x16 x17 x18 x19 x20 x21 x22 x23 x33 x34 x35 x36 x37 x38 x39 x40 x41 x42 x43 x44 x45 x46 x47 x48 x49 x50 t4 t5 (jf #[x0, x1, x2, x3, x4, x5, x6, x7, x8, t4, t5, x11, x12, x13, x14, x15, x16, x17, x18, x19, x20, x21, x22, x23, (f10 s), x0, t1, t2, (f10 s), t5, (f9 s), t3, t4, x33, x34, x35, x36, x37, x38, x39, x40, x41, x42, x43, x44, x45, x46, x47, x48, x49, x50]))) (
    den Tryd.prog (sel (bodyOf Tryd.f37) [1, 1, 1, 1, 1, 1]) (bodyQ Tryd.prog Tryd.f37.results.toList K E) #[x0, x1, x2, x3, x4, x5, x6, x7, x8, (f9 s), (f10 s), x11, x12, x13, x14, x15, x16, x17, x18, x19, x20, x21, x22, x23, (f10 s), x0, t1, t2, (j 28), (j 29), (j 30), (j 31), (j 32), x33, x34, x35, x36, x37, x38, x39, x40, x41, x42, x43, x44, x45, x46, x47, x48, x49, x50])) h) :
  lp (fun k1 => den Tryd.prog (sel (bodyOf Tryd.f37) [1, 1, 1, 1, 1, 0, 1, 0, 0]) (thenD k1 (blk 0 (thenD (den Tryd.prog (sel (bodyOf Tryd.f37) [1, 1, 1, 1, 1, 1]) (bodyQ Tryd.prog Tryd.f37.results.toList K E)) (bodyQ Tryd.prog Tryd.f37.results.toList K E))))) #[x0, x1, x2, x3, x4, x5, x6, x7, x8, v9, v10, x11, x12, x13, x14, x15, x16, x17, x18, x19, x20, x21, x22, x23, y24, y25, y26, y27, y28, y29, y30, y31, y32, x33, x34, x35, x36, x37, x38, x39, x40, x41, x42, x43, x44, x45, x46, x47, x48, x49, x50] h := by
  subst e9
  subst e10
  have e : (#[x0, x1, x2, x3, x4, x5, x6, x7, x8, (f9 s0), (f10 s0), x11, x12, x13, x14, x15, x16, x17, x18, x19, x20, x21, x22, x23, y24, y25, y26, y27, y28, y29, y30, y31, y32, x33, x34, x35, x36, x37, x38, x39, x40, x41, x42, x43, x44, x45, x46, x47, x48, x49, x50] : Env) = m37_1_1_1_1_1_0_1_0_0 x0 x1 x2 x3 x4 x5 x6 x7 x8 x11 x12 x13 x14 x15 x16 x17 x18 x19 x20 x21 x22 x23 x33 x34 x35 x36 x37 x38 x39 x40 x41 x42 x43 x44 x45 x46 x47 x48 x49 x50 (f9 s0) (f10 s0) (jf #[x0, x1, x2, x3, x4, x5, x6, x7, x8, (f9 s0), (f10 s0), x11, x12, x13, x14, x15, x16, x17, x18, x19, x20, x21, x22, x23, y24, y25, y26, y27, y28, y29, y30, y31, y32, x33, x34, x35, x36, x37, x38, x39, x40, x41, x42, x43, x44, x45, x46, x47, x48, x49, x50]) := by kernel_rfl
  rw [e]
  exact loop_r (fun s j => m37_1_1_1_1_1_0_1_0_0 x0 x1 x2 x3 x4 x5 x6 x7 x8 x11 x12 x13 x14 x15 x16 x17 x18 x19 x20 x21 x22 x23 x33 x34 x35 x36 x37 x38 x39 x40 x41 x42 x43 x44 x45 x46 x47 x48 x49 x50 (f9 s) (f10 s) j) I μ (fun k s j h hI hw next => by rw [t37_1_1_1_1_1_0_1_0_0]; exact round k s j h hI hw next) s0 (jf #[x0, x1, x2, x3, x4, x5, x6, x7, x8, (f9 s0), (f10 s0), x11, x12, x13, x14, x15, x16, x17, x18, x19, x20, x21, x22, x23, y24, y25, y26, y27, y28, y29, y30, y31, y32, x33, x34, x35, x36, x37, x38, x39, x40, x41, x42, x43, x44, x45, x46, x47, x48, x49, x50]) h0

theorem t38 (K : Kont) (E : PanK) (x0 x1 : Value)  : den Tryd.prog (sel (bodyOf Tryd.f38) []) (bodyQ Tryd.prog Tryd.f38.results.toList K E) #[x0, x1, undef, undef, undef, undef, undef, undef, undef, undef, undef, undef, undef, undef, undef, undef, undef, undef, undef, undef, undef, undef, undef, undef, undef] =
  nw 64 (Value.cells x1).toList fun t1 =>
  callv Tryd.prog (.func (.func 57) #[] #[]) #[x0] (fun t2 =>
  pv (unV .not t2) fun t3 =>
  cnd t3 (
    K (.int .u16 30)) (
    pv (faV 0 t1) fun t4 =>
    ld false 1 t4 fun t5 =>
    callv Tryd.prog (.func (.func 69) #[] #[]) #[x0, t5, (.func (.func 67) #[] #[])] (fun t6 =>
    pv (unV .not t6) fun t7 =>
    cnd t7 (
      K (.int .u16 40)) (
      pv (faV 1 t1) fun t8 =>
      ld false 1 t8 fun t9 =>
      pv (faV 2 t1) fun t10 =>
      ld false 1 t10 fun t11 =>
      callv Tryd.prog (.func (.func 70) #[] #[]) #[x0, t9, t11] (fun t12 =>
      pv (unV .not t12) fun t13 =>
      cnd t13 (
        K (.int .u16 60)) (
        K (.int .u16 0))) E)) E)) E := by kernel_rfl

theorem t39 (K : Kont) (E : PanK) (x0 x1 : Value)  : den Tryd.prog (sel (bodyOf Tryd.f39) []) (bodyQ Tryd.prog Tryd.f39.results.toList K E) #[x0, x1, undef, undef, undef, undef, undef, undef, undef, undef, undef, undef, undef, undef, undef, undef, undef, undef, undef, undef, undef, undef, undef, undef, undef, undef, undef, undef, undef, undef, undef, undef, undef, undef, undef, undef, undef, undef, undef, undef, undef, undef, undef, undef, undef, undef, undef] =
  nw 64 (Value.cells x1).toList fun t1 =>
  callv Tryd.prog (.func (.func 61) #[] #[]) #[x0] (fun t2 =>
  pv (unV .not t2) fun t3 =>
  cnd t3 (
    K (.int .i64 30)) (
    pv (faV 0 t1) fun t4 =>
    ld false 1 t4 fun t5 =>
    pv (lenV t5) fun t6 =>
    pv (lenV x0) fun t7 =>
    pv (binV .none .neq t6 t7) fun t8 =>
    cnd t8 (
      K (.int .i64 40)) (
      lp (fun k1 => den Tryd.prog (sel (bodyOf Tryd.f39) [1, 1, 1, 0, 1, 0, 0]) (thenD k1 (blk 0 (thenD (den Tryd.prog (sel (bodyOf Tryd.f39) [1, 1, 1, 1]) (bodyQ Tryd.prog Tryd.f39.results.toList K E)) (bodyQ Tryd.prog Tryd.f39.results.toList K E))))) #[x0, x1, undef, t1, (.int .i64 0), (.int .i64 0), x0, t2, t3, t4, t5, t6, x0, t7, t8, undef, undef, undef, undef, undef, undef, undef, undef, undef, undef, undef, undef, undef, undef, undef, undef, undef, undef, undef, undef, undef, undef, undef, undef, undef, undef, undef, undef, undef, undef, undef, undef]))) E := by kernel_rfl
def m39_1_1_1_0_1_0_0 (x0 x1 x2 x3 x6 x7 x8 x9 x10 x11 x12 x13 x14 x40 x41 x42 x43 x44 x45 x46 : Value) (v5 : Value) (j : Nat → Value) : Env := #[x0, x1, x2, x3, (j 4), v5, x6, x7, x8, x9, x10, x11, x12, x13, x14, (j 15), (j 16), (j 17), (j 18), (j 19), (j 20), (j 21), (j 22), (j 23), (j 24), (j 25), (j 26), (j 27), (j 28), (j 29), (j 30), (j 31), (j 32), (j 33), (j 34), (j 35), (j 36), (j 37), (j 38), (j 39), x40, x41, x42, x43, x44, x45, x46]
theorem t39_1_1_1_0_1_0_0 (K : Kont) (E : PanK) (k1 : Env → Hp → Prop) (x0 x1 x2 x3 x6 x7 x8 x9 x10 x11 x12 x13 x14 x40 x41 x42 x43 x44 x45 x46 v5 : Value) (j : Nat → Value) : den Tryd.prog (sel (bodyOf Tryd.f39) [1, 1, 1, 0, 1, 0, 0]) (thenD k1 (blk 0 (thenD (den Tryd.prog (sel (bodyOf Tryd.f39) [1, 1, 1, 1]) (bodyQ Tryd.prog Tryd.f39.results.toList K E)) (bodyQ Tryd.prog Tryd.f39.results.toList K E)))) (m39_1_1_1_0_1_0_0 x0 x1 x2 x3 x6 x7 x8 x9 x10 x11 x12 x13 x14 x40 x41 x42 x43 x44 x45 x46 v5 j) =
  pv (lenV x0) fun t1 =>
  pv (binV .none .lss v5 t1) fun t2 =>
  cnd t2 (
    pv (faV 0 x3) fun t3 =>
    ld false 1 t3 fun t4 =>
    pv (iaV none 1 t4 v5) fun t5 =>
    ld false 1 t5 fun t6 =>
    pv (binV .none .lss t6 (.int .i64 0)) fun t7 =>
    gdK t7 false (fun k => pv (faV 0 x3) k) fun t8 =>
    gdK t7 false (fun k => ld false 1 t8 k) fun t9 =>
    gdK t7 false (fun k => k v5) fun t10 =>
    gdK t7 false (fun k => pv (iaV none 1 t9 t10) k) fun t11 =>
    gdK t7 false (fun k => ld false 1 t11 k) fun t12 =>
    gdK t7 false (fun k => k x0) fun t13 =>
    gdK t7 false (fun k => k v5) fun t14 =>
    gdK t7 false (fun k => pv (iaV none 2 t13 t14) k) fun t15 =>
    gdK t7 false (fun k => ld true 2 t15 k) fun t16 =>
    gdK t7 false (fun k => callv Tryd.prog (.func (.func 71) #[] #[]) #[t16] k E) (fun t17 h18 => (isB t7 false = true → ldV h18 false 1 t11 t12) ∧ (isB t7 false = true → ldV h18 false 1 t8 t9) ∧ (
      gdK t7 false (fun k => pv (binV .none .geq t12 t17) k) fun t19 =>
      pv (pickV t7 (.bool true) t19) fun t20 =>
      cnd t20 (
        K (.int .i64 40)) (
        pv (binV .none .add v5 (.int .i64 1)) fun t21 =>
        k1 (m39_1_1_1_0_1_0_0 x0 x1 x2 x3 x6 x7 x8 x9 x10 x11 x12 x13 x14 x40 x41 x42 x43 x44 x45 x46 t21 (jf #[x0, x1, x2, x3, (j 4), t21, x6, x7, x8, x9, x10, x11, x12, x13, x14, v5, x0, t1, t2, v5, t21, t3, t4, v5, t5, t6, t7, t7, t8, t9, t10, t11, t12, t13, t14, t15, t16, t17, t19, t20, x40, x41, x42, x43, x44, x45, x46])))) h18)) (
    den Tryd.prog (sel (bodyOf Tryd.f39) [1, 1, 1, 1]) (bodyQ Tryd.prog Tryd.f39.results.toList K E) #[x0, x1, x2, x3, (j 4), v5, x6, x7, x8, x9, x10, x11, x12, x13, x14, v5, x0, t1, t2, (j 19), (j 20), (j 21), (j 22), (j 23), (j 24), (j 25), (j 26), (j 27), (j 28), (j 29), (j 30), (j 31), (j 32), (j 33), (j 34), (j 35), (j 36), (j 37), (j 38), (j 39), x40, x41, x42, x43, x44, x45, x46]) := by kernel_rfl
theorem t39_1_1_1_1 (K : Kont) (E : PanK) (x0 x1 x2 x3 x4 x5 x6 x7 x8 x9 x10 x11 x12 x13 x14 x15 x16 x17 x18 x19 x20 x21 x22 x23 x24 x25 x26 x27 x28 x29 x30 x31 x32 x33 x34 x35 x36 x37 x38 x39 x40 x41 x42 x43 x44 x45 x46 : Value)  : den Tryd.prog (sel (bodyOf Tryd.f39) [1, 1, 1, 1]) (bodyQ Tryd.prog Tryd.f39.results.toList K E) #[x0, x1, x2, x3, x4, x5, x6, x7, x8, x9, x10, x11, x12, x13, x14, x15, x16, x17, x18, x19, x20, x21, x22, x23, x24, x25, x26, x27, x28, x29, x30, x31, x32, x33, x34, x35, x36, x37, x38, x39, x40, x41, x42, x43, x44, x45, x46] =
  pv (faV 1 x3) fun t1 =>
  ld false 1 t1 fun t2 =>
  pv (faV 2 x3) fun t3 =>
  ld false 1 t3 fun t4 =>
  callv Tryd.prog (.func (.func 72) #[] #[]) #[x0, t2, t4] (fun t5 =>
  pv (unV .not t5) fun t6 =>
  cnd t6 (
    K (.int .i64 60)) (
    K (.int .i64 0))) E := by kernel_rfl
theorem l39_1_1_1_0_1_0_0 {K : Kont} {E : PanK} {σ : Type} {x0 x1 x2 x3 x6 x7 x8 x9 x10 x11 x12 x13 x14 x40 x41 x42 x43 x44 x45 x46 v5 y4 y15 y16 y17 y18 y19 y20 y21 y22 y23 y24 y25 y26 y27 y28 y29 y30 y31 y32 y33 y34 y35 y36 y37 y38 y39 : Value} {h : Hp} (f5 : σ → Value) (I : σ → Hp → Prop) (μ : σ → Nat) (s0 : σ) (e5 : v5 = f5 s0) (h0 : h.wf → ∃ h', h.wk h' ∧ I s0 h')
  (round : ∀ (k1 : Env → Hp → Prop) (s : σ) (j : Nat → Value) (h : Hp), I s h → h.wf → (∀ s' j' h', μ s' < μ s → (h'.wf → ∃ h'', h'.wk h'' ∧ I s' h'') → k1 (m39_1_1_1_0_1_0_0 x0 x1 x2 x3 x6 x7 x8 x9 x10 x11 x12 x13 x14 x40 x41 x42 x43 x44 x45 x46 (f5 s') j') h') → (
  pv (lenV x0) fun t1 =>
  pv (binV .none .lss (f5 s) t1) fun t2 =>
  cnd t2 (
    pv (faV 0 x3) fun t3 =>
    ld false 1 t3 fun t4 =>
    pv (iaV none 1 t4 (f5 s)) fun t5 =>
    ld false 1 t5 fun t6 =>
    pv (binV .none .lss t6 (.int .i64 0)) fun t7 =>
    gdK t7 false (fun k => pv (faV 0 x3) k) fun t8 =>
    gdK t7 false (fun k => ld false 1 t8 k) fun t9 =>
    gdK t7 false (fun k => k (f5 s)) fun t10 =>
    gdK t7 false (fun k => pv (iaV none 1 t9 t10) k) fun t11 =>
    gdK t7 false (fun k => ld false 1 t11 k) fun t12 =>
    gdK t7 false (fun k => k x0) fun t13 =>
    gdK t7 false (fun k => k (f5 s)) fun t14 =>
    gdK t7 false (fun k => pv (iaV none 2 t13 t14) k) fun t15 =>
    gdK t7 false (fun k => ld true 2 t15 k) fun t16 =>
    gdK t7 false (fun k => callv Tryd.prog (.func (.func 71) #[] #[]) #[t16] k E) (fun t17 h18 => (isB t7 false = true → ldV h18 false 1 t11 t12) ∧ (isB t7 false = true → ldV h18 false 1 t8 t9) ∧ (
      gdK t7 false (fun k => pv (binV .none .geq t12 t17) k) fun t19 =>
      pv (pickV t7 (.bool true) t19) fun t20 =>
      cnd t20 (
        K (.int .i64 40)) (
        pv (binV .none .add (f5 s) (.int .i64 1)) fun t21 =>
        k1 (m39_1_1_1_0_1_0_0 x0 x1 x2 x3 x6 x7 x8 x9 x10 x11 x12 x13 x14 x40 x41 x42 x43 x44 x45 x46 t21 (jf #[x0, x1, x2, x3, (j 4), t21, x6, x7, x8, x9, x10, x11, x12, x13, x14, (f5 s), x0, t1, t2, (f5 s), t21, t3, t4, (f5 s), t5, t6, t7, t7, t8, t9, t10, t11, t12, t13, t14, t15, t16, t17, t19, t20, x40, x41, x42, x43, x44, x45, x46])))) h18)) (
    den Tryd.prog (sel (bodyOf Tryd.f39) [1, 1, 1, 1]) (bodyQ Tryd.prog Tryd.f39.results.toList K E) #[x0, x1, x2, x3, (j 4), (f5 s), x6, x7, x8, x9, x10, x11, x12, x13, x14, (f5 s), x0, t1, t2, (j 19), (j 20), (j 21), (j 22), (j 23), (j 24), (j 25), (j 26), (j 27), (j 28), (j 29), (j 30), (j 31), (j 32), (j 33), (j 34), (j 35), (j 36), (j 37), (j 38), (j 39), x40, x41, x42, x43, x44, x45, x46])) h) :
  lp (fun k1 => den Tryd.prog (sel (bodyOf Tryd.f39) [1, 1, 1, 0, 1, 0, 0]) (thenD k1 (blk 0 (thenD (den Tryd.prog (sel (bodyOf Tryd.f39) [1, 1, 1, 1]) (bodyQ Tryd.prog Tryd.f39.results.toList K E)) (bodyQ Tryd.prog Tryd.f39.results.toList K E))))) #[x0, x1, x2, x3, y4, v5, x6, x7, x8, x9, x10, x11, x12, x13, x14, y15, y16, y17, y18, y19, y20, y21, y22, y23, y24, y25, y26, y27, y28, y29, y30, y31, y32, y33, y34, y35, y36, y37, y38, y39, x40, x41, x42, x43, x44, x45, x46] h := by
  subst e5
  have e : (#[x0, x1, x2, x3, y4, (f5 s0), x6, x7, x8, x9, x10, x11, x12, x13, x14, y15, y16, y17, y18, y19, y20, y21, y22, y23, y24, y25, y26, y27, y28, y29, y30, y31, y32, y33, y34, y35, y36, y37, y38, y39, x40, x41, x42, x43, x44, x45, x46] : Env) = m39_1_1_1_0_1_0_0 x0 x1 x2 x3 x6 x7 x8 x9 x10 x11 x12 x13 x14 x40 x41 x42 x43 x44 x45 x46 (f5 s0) (jf #[x0, x1, x2, x3, y4, (f5 s0), x6, x7, x8, x9, x10, x11, x12, x13, x14, y15, y16, y17, y18, y19, y20, y21, y22, y23, y24, y25, y26, y27, y28, y29, y30, y31, y32, y33, y34, y35, y36, y37, y38, y39, x40, x41, x42, x43, x44, x45, x46]) := by kernel_rfl
  rw [e]
  exact loop_r (fun s j => m39_1_1_1_0_1_0_0 x0 x1 x2 x3 x6 x7 x8 x9 x10 x11 x12 x13 x14 x40 x41 x42 x43 x44 x45 x46 (f5 s) j) I μ (fun k s j h hI hw next => by rw [t39_1_1_1_0_1_0_0]; exact round k s j h hI hw next) s0 (jf #[x0, x1, x2, x3, y4, (f5 s0), x6, x7, x8, x9, x10, x11, x12, x13, x14, y15, y16, y17, y18, y19, y20, y21, y22, y23, y24, y25, y26, y27, y28, y29, y30, y31, y32, y33, y34, y35, y36, y37, y38, y39, x40, x41, x42, x43, x44, x45, x46]) h0

theorem t40 (K : Kont) (E : PanK) (x0 x1 x2 x3 : Value)  : den Tryd.prog (sel (bodyOf Tryd.f40) []) (bodyQ Tryd.prog Tryd.f40.results.toList K E) #[x0, x1, x2, x3, undef, undef, undef, undef, undef, undef, undef, undef, undef, undef, undef, undef, undef, undef, undef, undef, undef, undef, undef, undef] =
  nw 64 [(.slice none 0 0), (.slice none 0 0), (.slice none 0 0)] fun t1 =>
  callv Tryd.prog (.func (.func 73) #[] #[]) #[x0, x2, x3] (fun t2 =>
  pv (exV 0 t2) fun t3 =>
  pv (exV 1 t2) fun t4 =>
  callv Tryd.prog (.func (.func 33) #[] #[]) #[x0, x1, (.slice none 0 0)] (fun t5 =>
  pv (bdC #[(.slice none 0 0), (.slice none 0 0), (.slice none 0 0)] [(0, 1), (1, 1), (2, 1)] #[(0, t5), (1, t3), (2, t4)]) fun t6 =>
  st 3 t1 t6 fun _ =>
  ld true 3 t1 fun t7 =>
  K t7) E) E := by kernel_rfl

theorem t41 (K : Kont) (E : PanK) (x0 : Value)  : den Tryd.prog (sel (bodyOf Tryd.f41) []) (bodyQ Tryd.prog Tryd.f41.results.toList K E) #[x0, undef, undef, undef, undef, undef, undef, undef, undef, undef] =
  callv Tryd.prog (.func (.func 55) #[] #[]) #[x0] (fun t1 =>
  callv Tryd.prog (.func (.func 27) #[] #[]) #[t1, (.slice none 0 0)] (fun t2 =>
  callv Tryd.prog (.func (.func 65) #[] #[]) #[t2] (fun t3 =>
  pv (exV 0 t3) fun t4 =>
  pv (exV 1 t3) fun t5 =>
  K (.tuple #[t4, t5])) E) E) E := by kernel_rfl

theorem t42 (K : Kont) (E : PanK) (x0 : Value)  : den Tryd.prog (sel (bodyOf Tryd.f42) []) (bodyQ Tryd.prog Tryd.f42.results.toList K E) #[x0, undef, undef, undef, undef, undef, undef, undef, undef, undef, undef, undef, undef, undef, undef, undef, undef, undef, undef, undef, undef, undef] =
  lp (fun k1 => den Tryd.prog (sel (bodyOf Tryd.f42) [1, 1, 0, 1, 0, 0]) (thenD k1 (blk 0 (thenD (den Tryd.prog (sel (bodyOf Tryd.f42) [1, 1, 1]) (bodyQ Tryd.prog Tryd.f42.results.toList K E)) (bodyQ Tryd.prog Tryd.f42.results.toList K E))))) #[x0, undef, (.slice none 0 0), (.int .i64 0), (.slice none 0 0), (.int .i64 0), undef, undef, undef, undef, undef, undef, undef, undef, undef, undef, undef, undef, undef, undef, undef, undef] := by kernel_rfl
def m42_1_1_0_1_0_0 (x0 x1 x2 x3 x18 x19 x20 x21 : Value) (v4 v5 : Value) (j : Nat → Value) : Env := #[x0, x1, x2, x3, v4, v5, (j 6), (j 7), (j 8), (j 9), (j 10), (j 11), (j 12), (j 13), (j 14), (j 15), (j 16), (j 17), x18, x19, x20, x21]
theorem t42_1_1_0_1_0_0 (K : Kont) (E : PanK) (k1 : Env → Hp → Prop) (x0 x1 x2 x3 x18 x19 x20 x21 v4 v5 : Value) (j : Nat → Value) : den Tryd.prog (sel (bodyOf Tryd.f42) [1, 1, 0, 1, 0, 0]) (thenD k1 (blk 0 (thenD (den Tryd.prog (sel (bodyOf Tryd.f42) [1, 1, 1]) (bodyQ Tryd.prog Tryd.f42.results.toList K E)) (bodyQ Tryd.prog Tryd.f42.results.toList K E)))) (m42_1_1_0_1_0_0 x0 x1 x2 x3 x18 x19 x20 x21 v4 v5 j) =
  pv (lenV x0) fun t1 =>
  pv (binV .none .lss v5 t1) fun t2 =>
  cnd t2 (
    pv (iaV none 1 x0 v5) fun t3 =>
    ld false 1 t3 fun t4 =>
    callv Tryd.prog (.func (.func 28) #[] #[]) #[v4, t4] (fun t5 =>
    pv (binV .none .add v5 (.int .i64 1)) fun t6 =>
    k1 (m42_1_1_0_1_0_0 x0 x1 x2 x3 x18 x19 x20 x21 t5 t6 (jf #[x0, x1, x2, x3, t5, t6, v5, x0, t1, t2, v5, t6, v4, x0, v5, t3, t4, t5, x18, x19, x20, x21]))) E) (
    den Tryd.prog (sel (bodyOf Tryd.f42) [1, 1, 1]) (bodyQ Tryd.prog Tryd.f42.results.toList K E) #[x0, x1, x2, x3, v4, v5, v5, x0, t1, t2, (j 10), (j 11), (j 12), (j 13), (j 14), (j 15), (j 16), (j 17), x18, x19, x20, x21]) := by kernel_rfl
theorem t42_1_1_1 (K : Kont) (E : PanK) (x0 x1 x2 x3 x4 x5 x6 x7 x8 x9 x10 x11 x12 x13 x14 x15 x16 x17 x18 x19 x20 x21 : Value)  : den Tryd.prog (sel (bodyOf Tryd.f42) [1, 1, 1]) (bodyQ Tryd.prog Tryd.f42.results.toList K E) #[x0, x1, x2, x3, x4, x5, x6, x7, x8, x9, x10, x11, x12, x13, x14, x15, x16, x17, x18, x19, x20, x21] =
  pv (lenV x4) fun t1 =>
  pv (binV .none .gtr t1 (.int .i64 500)) fun t2 =>
  cnd t2 (
    K (.tuple #[(.slice none 0 0), (.int .i64 61)])) (
    K (.tuple #[x4, (.int .i64 0)])) := by kernel_rfl
theorem l42_1_1_0_1_0_0 {K : Kont} {E : PanK} {σ : Type} {x0 x1 x2 x3 x18 x19 x20 x21 v4 v5 y6 y7 y8 y9 y10 y11 y12 y13 y14 y15 y16 y17 : Value} {h : Hp} (f4 f5 : σ → Value) (I : σ → Hp → Prop) (μ : σ → Nat) (s0 : σ) (e4 : v4 = f4 s0) (e5 : v5 = f5 s0) (h0 : h.wf → ∃ h', h.wk h' ∧ I s0 h')
  (round : ∀ (k1 : Env → Hp → Prop) (s : σ) (j : Nat → Value) (h : Hp), I s h → h.wf → (∀ s' j' h', μ s' < μ s → (h'.wf → ∃ h'', h'.wk h'' ∧ I s' h'') → k1 (m42_1_1_0_1_0_0 x0 x1 x2 x3 x18 x19 x20 x21 (f4 s') (f5 s') j') h') → (
  pv (lenV x0) fun t1 =>
  pv (binV .none .lss (f5 s) t1) fun t2 =>
  cnd t2 (
    pv (iaV none 1 x0 (f5 s)) fun t3 =>
    ld false 1 t3 fun t4 =>
    callv Tryd.prog (.func (.func 28) #[] #[]) #[(f4 s), t4] (fun t5 =>
    pv (binV .none .add (f5 s) (.int .i64 1)) fun t6 =>
    k1 (m42_1_1_0_1_0_0 x0 x1 x2 x3 x18 x19 x20 x21 t5 t6 (jf #[x0, x1, x2, x3, t5, t6, (f5 s), x0, t1, t2, (f5 s), t6, (f4 s), x0, (f5 s), t3, t4, t5, x18, x19, x20, x21]))) E) (
    den Tryd.prog (sel (bodyOf Tryd.f42) [1, 1, 1]) (bodyQ Tryd.prog Tryd.f42.results.toList K E) #[x0, x1, x2, x3, (f4 s), (f5 s), (f5 s), x0, t1, t2, (j 10), (j 11), (j 12), (j 13), (j 14), (j 15), (j 16), (j 17), x18, x19, x20, x21])) h) :
  lp (fun k1 => den Tryd.prog (sel (bodyOf Tryd.f42) [1, 1, 0, 1, 0, 0]) (thenD k1 (blk 0 (thenD (den Tryd.prog (sel (bodyOf Tryd.f42) [1, 1, 1]) (bodyQ Tryd.prog Tryd.f42.results.toList K E)) (bodyQ Tryd.prog Tryd.f42.results.toList K E))))) #[x0, x1, x2, x3, v4, v5, y6, y7, y8, y9, y10, y11, y12, y13, y14, y15, y16, y17, x18, x19, x20, x21] h := by
  subst e4
  subst e5
  have e : (#[x0, x1, x2, x3, (f4 s0), (f5 s0), y6, y7, y8, y9, y10, y11, y12, y13, y14, y15, y16, y17, x18, x19, x20, x21] : Env) = m42_1_1_0_1_0_0 x0 x1 x2 x3 x18 x19 x20 x21 (f4 s0) (f5 s0) (jf #[x0, x1, x2, x3, (f4 s0), (f5 s0), y6, y7, y8, y9, y10, y11, y12, y13, y14, y15, y16, y17, x18, x19, x20, x21]) := by kernel_rfl
  rw [e]
  exact loop_r (fun s j => m42_1_1_0_1_0_0 x0 x1 x2 x3 x18 x19 x20 x21 (f4 s) (f5 s) j) I μ (fun k s j h hI hw next => by rw [t42_1_1_0_1_0_0]; exact round k s j h hI hw next) s0 (jf #[x0, x1, x2, x3, (f4 s0), (f5 s0), y6, y7, y8, y9, y10, y11, y12, y13, y14, y15, y16, y17, x18, x19, x20, x21]) h0

theorem t43 (K : Kont) (E : PanK) (x0 x1 : Value)  : den Tryd.prog (sel (bodyOf Tryd.f43) []) (bodyQ Tryd.prog Tryd.f43.results.toList K E) #[x0, x1, undef, undef, undef, undef, undef, undef, undef, undef, undef, undef, undef] =
  nws 3 1 (bsC #[(.int .i64 0)] 1 1 #[(0, x1)]) fun t1 =>
  pv (slV 1 x0 (some (.int .i64 1)) none none) fun t2 =>
  appX 3 1 8 t1 t2 fun t3 =>
  K t3 := by kernel_rfl

theorem t64 (K : Kont) (E : PanK) (x0 x1 x2 : Value)  : den Tryd.prog (sel (bodyOf Tryd.f64) []) (bodyQ Tryd.prog Tryd.f64.results.toList K E) #[x0, x1, x2, undef, undef, undef, undef, undef, undef, undef, undef, undef, undef, undef, undef, undef, undef, undef, undef, undef, undef, undef, undef, undef, undef, undef, undef, undef, undef, undef, undef, undef] =
  pv (lenV x0) fun t1 =>
  lp (fun k1 => den Tryd.prog (sel (bodyOf Tryd.f64) [1, 1, 0, 1, 0, 0]) (thenD k1 (blk 0 (thenD (den Tryd.prog (sel (bodyOf Tryd.f64) [1, 1, 1]) (bodyQ Tryd.prog Tryd.f64.results.toList K E)) (bodyQ Tryd.prog Tryd.f64.results.toList K E))))) #[x0, x1, x2, undef, undef, undef, (.slice none 0 0), (.slice none 0 0), undef, undef, x0, t1, (.int .i64 0), undef, undef, undef, undef, undef, undef, undef, undef, undef, undef, undef, undef, undef, undef, undef, undef, undef, undef, undef] := by kernel_rfl
def m64_1_1_0_1_0_0 (x0 x1 x2 x3 x4 x5 x6 x8 x10 x11 x31 : Value) (v7 v12 : Value) (j : Nat → Value) : Env := #[x0, x1, x2, x3, x4, x5, x6, v7, x8, (j 9), x10, x11, v12, (j 13), (j 14), (j 15), (j 16), (j 17), (j 18), (j 19), (j 20), (j 21), (j 22), (j 23), (j 24), (j 25), (j 26), (j 27), (j 28), (j 29), (j 30), x31]
theorem t64_1_1_0_1_0_0 (K : Kont) (E : PanK) (k1 : Env → Hp → Prop) (x0 x1 x2 x3 x4 x5 x6 x8 x10 x11 x31 v7 v12 : Value) (j : Nat → Value) : den Tryd.prog (sel (bodyOf Tryd.f64) [1, 1, 0, 1, 0, 0]) (thenD k1 (blk 0 (thenD (den Tryd.prog (sel (bodyOf Tryd.f64) [1, 1, 1]) (bodyQ Tryd.prog Tryd.f64.results.toList K E)) (bodyQ Tryd.prog Tryd.f64.results.toList K E)))) (m64_1_1_0_1_0_0 x0 x1 x2 x3 x4 x5 x6 x8 x10 x11 x31 v7 v12 j) =
  pv (binV .none .lss v12 x11) fun t1 =>
  cnd t1 (
    pv (iaV none 5 x10 v12) fun t2 =>
    ld true 5 t2 fun t3 =>
    nw 43 [(.slice none 0 0), (.int .i64 0), (.int .i64 0), (.int .i64 0), (.int .i64 0)] fun t4 =>
    st 5 t4 t3 fun _ =>
    pv (faV 0 t4) fun t5 =>
    ld false 1 t5 fun t6 =>
    callv Tryd.prog (.func (.func 90) #[] #[]) #[x1, x2, t6] (fun t7 =>
    cnd t7 (
      pv (faV 0 t4) fun t8 =>
      ld false 1 t8 fun t9 =>
      pv (faV 1 t4) fun t10 =>
      ld true 4 t10 fun t11 =>
      callv Tryd.prog (.func (.func 76) #[] #[]) #[t9] (fun t12 h13 => (ldV h13 true 4 t10 t11) ∧ (
        pv (bdC #[(.slice none 0 0), (.int .i64 0), (.int .i64 0), (.int .i64 0), (.int .i64 0)] [(0, 1), (1, 4)] #[(0, t12), (1, t11)]) fun t14 =>
        nws 43 1 (bsC #[(.slice none 0 0), (.int .i64 0), (.int .i64 0), (.int .i64 0), (.int .i64 0)] 5 1 #[(0, t14)]) fun t15 =>
        appX 43 5 56 v7 t15 fun t16 =>
        den Tryd.prog (sel (bodyOf Tryd.f64) [1, 1, 0, 1, 0, 0, 1, 1, 1]) (thenD k1 (blk 0 (thenD (den Tryd.prog (sel (bodyOf Tryd.f64) [1, 1, 1]) (bodyQ Tryd.prog Tryd.f64.results.toList K E)) (bodyQ Tryd.prog Tryd.f64.results.toList K E)))) #[x0, x1, x2, x3, x4, x5, x6, t16, x8, t4, x10, x11, v12, t1, t2, t3, x1, x2, t5, t6, t7, v7, t8, t9, t12, t10, t11, t14, t15, t16, (j 30), x31]) h13) E) (
      den Tryd.prog (sel (bodyOf Tryd.f64) [1, 1, 0, 1, 0, 0, 1, 1, 1]) (thenD k1 (blk 0 (thenD (den Tryd.prog (sel (bodyOf Tryd.f64) [1, 1, 1]) (bodyQ Tryd.prog Tryd.f64.results.toList K E)) (bodyQ Tryd.prog Tryd.f64.results.toList K E)))) #[x0, x1, x2, x3, x4, x5, x6, v7, x8, t4, x10, x11, v12, t1, t2, t3, x1, x2, t5, t6, t7, (j 21), (j 22), (j 23), (j 24), (j 25), (j 26), (j 27), (j 28), (j 29), (j 30), x31])) E) (
    den Tryd.prog (sel (bodyOf Tryd.f64) [1, 1, 1]) (bodyQ Tryd.prog Tryd.f64.results.toList K E) #[x0, x1, x2, x3, x4, x5, x6, v7, x8, (j 9), x10, x11, v12, t1, (j 14), (j 15), (j 16), (j 17), (j 18), (j 19), (j 20), (j 21), (j 22), (j 23), (j 24), (j 25), (j 26), (j 27), (j 28), (j 29), (j 30), x31]) := by kernel_rfl
theorem t64_1_1_1 (K : Kont) (E : PanK) (x0 x1 x2 x3 x4 x5 x6 x7 x8 x9 x10 x11 x12 x13 x14 x15 x16 x17 x18 x19 x20 x21 x22 x23 x24 x25 x26 x27 x28 x29 x30 x31 : Value)  : den Tryd.prog (sel (bodyOf Tryd.f64) [1, 1, 1]) (bodyQ Tryd.prog Tryd.f64.results.toList K E) #[x0, x1, x2, x3, x4, x5, x6, x7, x8, x9, x10, x11, x12, x13, x14, x15, x16, x17, x18, x19, x20, x21, x22, x23, x24, x25, x26, x27, x28, x29, x30, x31] =
  K x7 := by kernel_rfl
theorem t64_1_1_0_1_0_0_1_1_1 (K : Kont) (E : PanK) (k1 : Env → Hp → Prop) (x0 x1 x2 x3 x4 x5 x6 x7 x8 x9 x10 x11 x12 x13 x14 x15 x16 x17 x18 x19 x20 x21 x22 x23 x24 x25 x26 x27 x28 x29 x30 x31 : Value)  : den Tryd.prog (sel (bodyOf Tryd.f64) [1, 1, 0, 1, 0, 0, 1, 1, 1]) (thenD k1 (blk 0 (thenD (den Tryd.prog (sel (bodyOf Tryd.f64) [1, 1, 1]) (bodyQ Tryd.prog Tryd.f64.results.toList K E)) (bodyQ Tryd.prog Tryd.f64.results.toList K E)))) #[x0, x1, x2, x3, x4, x5, x6, x7, x8, x9, x10, x11, x12, x13, x14, x15, x16, x17, x18, x19, x20, x21, x22, x23, x24, x25, x26, x27, x28, x29, x30, x31] =
  pv (binV .none .add x12 (.int .i64 1)) fun t1 =>
  k1 (m64_1_1_0_1_0_0 x0 x1 x2 x3 x4 x5 x6 x8 x10 x11 x31 x7 t1 (jf #[x0, x1, x2, x3, x4, x5, x6, x7, x8, x9, x10, x11, t1, x13, x14, x15, x16, x17, x18, x19, x20, x21, x22, x23, x24, x25, x26, x27, x28, x29, t1, x31])) := by kernel_rfl
theorem l64_1_1_0_1_0_0 {K : Kont} {E : PanK} {σ : Type} {x0 x1 x2 x3 x4 x5 x6 x8 x10 x11 x31 v7 v12 y9 y13 y14 y15 y16 y17 y18 y19 y20 y21 y22 y23 y24 y25 y26 y27 y28 y29 y30 : Value} {h : Hp} (f7 f12 : σ → Value) (I : σ → Hp → Prop) (μ : σ → Nat) (s0 : σ) (e7 : v7 = f7 s0) (e12 : v12 = f12 s0) (h0 : h.wf → ∃ h', h.wk h' ∧ I s0 h')
  (round : ∀ (k1 : Env → Hp → Prop) (s : σ) (j : Nat → Value) (h : Hp), I s h → h.wf → (∀ s' j' h', μ s' < μ s → (h'.wf → ∃ h'', h'.wk h'' ∧ I s' h'') → k1 (m64_1_1_0_1_0_0 x0 x1 x2 x3 x4 x5 x6 x8 x10 x11 x31 (f7 s') (f12 s') j') h') → (
  pv (binV .none .lss (f12 s) x11) fun t1 =>
  cnd t1 (
    pv (iaV none 5 x10 (f12 s)) fun t2 =>
    ld true 5 t2 fun t3 =>
    nw 43 [(.slice none 0 0), (.int .i64 0), (.int .i64 0), (.int .i64 0), (.int .i64 0)] fun t4 =>
    st 5 t4 t3 fun _ =>
    pv (faV 0 t4) fun t5 =>
    ld false 1 t5 fun t6 =>
    callv Tryd.prog (.func (.func 90) #[] #[]) #[x1, x2, t6] (fun t7 =>
    cnd t7 (
      pv (faV 0 t4) fun t8 =>
      ld false 1 t8 fun t9 =>
      pv (faV 1 t4) fun t10 =>
      ld true 4 t10 fun t11 =>
      callv Tryd.prog (.func (.func 76) #[] #[]) #[t9] (fun t12 h13 => (ldV h13 true 4 t10 t11) ∧ (
        pv (bdC #[(.slice none 0 0), (.int .i64 0), (.int .i64 0), (.int .i64 0), (.int .i64 0)] [(0, 1), (1, 4)] #[(0, t12), (1, t11)]) fun t14 =>
        nws 43 1 (bsC #[(.slice none 0 0), (.int .i64 0), (.int .i64 0), (.int .i64 0), (.int .i64 0)] 5 1 #[(0, t14)]) fun t15 =>
        appX 43 5 56 (f7 s) t15 fun t16 =>
        den Tryd.prog (sel (bodyOf Tryd.f64) [1, 1, 0, 1, 0, 0, 1, 1, 1]) (thenD k1 (blk 0 (thenD (den Tryd.prog (sel (bodyOf Tryd.f64) [1, 1, 1]) (bodyQ Tryd.prog Tryd.f64.results.toList K E)) (bodyQ Tryd.prog Tryd.f64.results.toList K E)))) #[x0, x1, x2, x3, x4, x5, x6, t16, x8, t4, x10, x11, (f12 s), t1, t2, t3, x1, x2, t5, t6, t7, (f7 s), t8, t9, t12, t10, t11, t14, t15, t16, (j 30), x31]) h13) E) (
      den Tryd.prog (sel (bodyOf Tryd.f64) [1, 1, 0, 1, 0, 0, 1, 1, 1]) (thenD k1 (blk 0 (thenD (den Tryd.prog (sel (bodyOf Tryd.f64) [1, 1, 1]) (bodyQ Tryd.prog Tryd.f64.results.toList K E)) (bodyQ Tryd.prog Tryd.f64.results.toList K E)))) #[x0, x1, x2, x3, x4, x5, x6, (f7 s), x8, t4, x10, x11, (f12 s), t1, t2, t3, x1, x2, t5, t6, t7, (j 21), (j 22), (j 23), (j 24), (j 25), (j 26), (j 27), (j 28), (j 29), (j 30), x31])) E) (
    den Tryd.prog (sel (bodyOf Tryd.f64) [1, 1, 1]) (bodyQ Tryd.prog Tryd.f64.results.toList K E) #[x0, x1, x2, x3, x4, x5, x6, (f7 s), x8, (j 9), x10, x11, (f12 s), t1, (j 14), (j 15), (j 16), (j 17), (j 18), (j 19), (j 20), (j 21), (j 22), (j 23), (j 24), (j 25), (j 26), (j 27), (j 28), (j 29), (j 30), x31])) h) :
  lp (fun k1 => den Tryd.prog (sel (bodyOf Tryd.f64) [1, 1, 0, 1, 0, 0]) (thenD k1 (blk 0 (thenD (den Tryd.prog (sel (bodyOf Tryd.f64) [1, 1, 1]) (bodyQ Tryd.prog Tryd.f64.results.toList K E)) (bodyQ Tryd.prog Tryd.f64.results.toList K E))))) #[x0, x1, x2, x3, x4, x5, x6, v7, x8, y9, x10, x11, v12, y13, y14, y15, y16, y17, y18, y19, y20, y21, y22, y23, y24, y25, y26, y27, y28, y29, y30, x31] h := by
  subst e7
  subst e12
  have e : (#[x0, x1, x2, x3, x4, x5, x6, (f7 s0), x8, y9, x10, x11, (f12 s0), y13, y14, y15, y16, y17, y18, y19, y20, y21, y22, y23, y24, y25, y26, y27, y28, y29, y30, x31] : Env) = m64_1_1_0_1_0_0 x0 x1 x2 x3 x4 x5 x6 x8 x10 x11 x31 (f7 s0) (f12 s0) (jf #[x0, x1, x2, x3, x4, x5, x6, (f7 s0), x8, y9, x10, x11, (f12 s0), y13, y14, y15, y16, y17, y18, y19, y20, y21, y22, y23, y24, y25, y26, y27, y28, y29, y30, x31]) := by kernel_rfl
  rw [e]
  exact loop_r (fun s j => m64_1_1_0_1_0_0 x0 x1 x2 x3 x4 x5 x6 x8 x10 x11 x31 (f7 s) (f12 s) j) I μ (fun k s j h hI hw next => by rw [t64_1_1_0_1_0_0]; exact round k s j h hI hw next) s0 (jf #[x0, x1, x2, x3, x4, x5, x6, (f7 s0), x8, y9, x10, x11, (f12 s0), y13, y14, y15, y16, y17, y18, y19, y20, y21, y22, y23, y24, y25, y26, y27, y28, y29, y30, x31]) h0

theorem t65 (K : Kont) (E : PanK) (x0 : Value)  : den Tryd.prog (sel (bodyOf Tryd.f65) []) (bodyQ Tryd.prog Tryd.f65.results.toList K E) #[x0, undef, undef, undef, undef, undef, undef, undef] =
  pv (lenV x0) fun t1 =>
  pv (binV .none .gtr t1 (.int .i64 500)) fun t2 =>
  cnd t2 (
    K (.tuple #[(.slice none 0 0), (.int .u16 61)])) (
    K (.tuple #[x0, (.int .u16 0)])) := by kernel_rfl

theorem t66 (K : Kont) (E : PanK) (x0 x1 x2 : Value)  : den Tryd.prog (sel (bodyOf Tryd.f66) []) (bodyQ Tryd.prog Tryd.f66.results.toList K E) #[x0, x1, x2, undef, undef, undef, undef, undef, undef, undef, undef, undef, undef, undef, undef, undef, undef, undef, undef, undef, undef, undef, undef, undef, undef, undef, undef, undef, undef, undef, undef, undef, undef, undef, undef, undef, undef, undef, undef, undef, undef, undef] =
  lp (fun k1 => den Tryd.prog (sel (bodyOf Tryd.f66) [1, 1, 0, 1, 0, 0]) (thenD k1 (blk 0 (thenD (den Tryd.prog (sel (bodyOf Tryd.f66) [1, 1, 1]) (bodyQ Tryd.prog Tryd.f66.results.toList K E)) (bodyQ Tryd.prog Tryd.f66.results.toList K E))))) #[x0, x1, x2, undef, undef, undef, (.slice none 0 0), (.slice none 0 0), (.int .i64 0), undef, undef, undef, undef, undef, undef, undef, undef, undef, undef, undef, undef, undef, undef, undef, undef, undef, undef, undef, undef, undef, undef, undef, undef, undef, undef, undef, undef, undef, undef, undef, undef, undef] := by kernel_rfl
def m66_1_1_0_1_0_0 (x0 x1 x2 x3 x4 x5 x6 x41 : Value) (v7 v8 : Value) (j : Nat → Value) : Env := #[x0, x1, x2, x3, x4, x5, x6, v7, v8, (j 9), (j 10), (j 11), (j 12), (j 13), (j 14), (j 15), (j 16), (j 17), (j 18), (j 19), (j 20), (j 21), (j 22), (j 23), (j 24), (j 25), (j 26), (j 27), (j 28), (j 29), (j 30), (j 31), (j 32), (j 33), (j 34), (j 35), (j 36), (j 37), (j 38), (j 39), (j 40), x41]
theorem t66_1_1_0_1_0_0 (K : Kont) (E : PanK) (k1 : Env → Hp → Prop) (x0 x1 x2 x3 x4 x5 x6 x41 v7 v8 : Value) (j : Nat → Value) : den Tryd.prog (sel (bodyOf Tryd.f66) [1, 1, 0, 1, 0, 0]) (thenD k1 (blk 0 (thenD (den Tryd.prog (sel (bodyOf Tryd.f66) [1, 1, 1]) (bodyQ Tryd.prog Tryd.f66.results.toList K E)) (bodyQ Tryd.prog Tryd.f66.results.toList K E)))) (m66_1_1_0_1_0_0 x0 x1 x2 x3 x4 x5 x6 x41 v7 v8 j) =
  pv (lenV x0) fun t1 =>
  pv (binV .none .lss v8 t1) fun t2 =>
  cnd t2 (
    pv (iaV none 5 x0 v8) fun t3 =>
    pv (faV 0 t3) fun t4 =>
    ld false 1 t4 fun t5 =>
    callv Tryd.prog (.func (.func 91) #[] #[]) #[x1, x2, t5] (fun t6 =>
    cnd t6 (
      pv (iaV none 5 x0 v8) fun t7 =>
      pv (faV 0 t7) fun t8 =>
      ld false 1 t8 fun t9 =>
      appX 3 1 8 (.slice none 0 0) t9 fun t10 =>
      pv (iaV none 5 x0 v8) fun t11 =>
      pv (faV 1 t11) fun t12 =>
      ld true 4 t12 fun t13 =>
      pv (bdC #[(.slice none 0 0), (.int .i64 0), (.int .i64 0), (.int .i64 0), (.int .i64 0)] [(0, 1), (1, 4)] #[(0, t10), (1, t13)]) fun t14 =>
      nws 43 1 (bsC #[(.slice none 0 0), (.int .i64 0), (.int .i64 0), (.int .i64 0), (.int .i64 0)] 5 1 #[(0, t14)]) fun t15 =>
      appX 43 5 56 v7 t15 fun t16 =>
      den Tryd.prog (sel (bodyOf Tryd.f66) [1, 1, 0, 1, 0, 0, 1, 1]) (thenD k1 (blk 0 (thenD (den Tryd.prog (sel (bodyOf Tryd.f66) [1, 1, 1]) (bodyQ Tryd.prog Tryd.f66.results.toList K E)) (bodyQ Tryd.prog Tryd.f66.results.toList K E)))) #[x0, x1, x2, x3, x4, x5, x6, t16, v8, t10, v8, x0, t1, t2, (j 14), (j 15), x1, x2, x0, v8, t3, t4, t5, t6, (.slice none 0 0), x0, v8, t7, t8, t9, t10, v7, t10, x0, v8, t11, t12, t13, t14, t15, t16, x41]) (
      den Tryd.prog (sel (bodyOf Tryd.f66) [1, 1, 0, 1, 0, 0, 1, 1]) (thenD k1 (blk 0 (thenD (den Tryd.prog (sel (bodyOf Tryd.f66) [1, 1, 1]) (bodyQ Tryd.prog Tryd.f66.results.toList K E)) (bodyQ Tryd.prog Tryd.f66.results.toList K E)))) #[x0, x1, x2, x3, x4, x5, x6, v7, v8, (j 9), v8, x0, t1, t2, (j 14), (j 15), x1, x2, x0, v8, t3, t4, t5, t6, (j 24), (j 25), (j 26), (j 27), (j 28), (j 29), (j 30), (j 31), (j 32), (j 33), (j 34), (j 35), (j 36), (j 37), (j 38), (j 39), (j 40), x41])) E) (
    den Tryd.prog (sel (bodyOf Tryd.f66) [1, 1, 1]) (bodyQ Tryd.prog Tryd.f66.results.toList K E) #[x0, x1, x2, x3, x4, x5, x6, v7, v8, (j 9), v8, x0, t1, t2, (j 14), (j 15), (j 16), (j 17), (j 18), (j 19), (j 20), (j 21), (j 22), (j 23), (j 24), (j 25), (j 26), (j 27), (j 28), (j 29), (j 30), (j 31), (j 32), (j 33), (j 34), (j 35), (j 36), (j 37), (j 38), (j 39), (j 40), x41]) := by kernel_rfl
theorem t66_1_1_1 (K : Kont) (E : PanK) (x0 x1 x2 x3 x4 x5 x6 x7 x8 x9 x10 x11 x12 x13 x14 x15 x16 x17 x18 x19 x20 x21 x22 x23 x24 x25 x26 x27 x28 x29 x30 x31 x32 x33 x34 x35 x36 x37 x38 x39 x40 x41 : Value)  : den Tryd.prog (sel (bodyOf Tryd.f66) [1, 1, 1]) (bodyQ Tryd.prog Tryd.f66.results.toList K E) #[x0, x1, x2, x3, x4, x5, x6, x7, x8, x9, x10, x11, x12, x13, x14, x15, x16, x17, x18, x19, x20, x21, x22, x23, x24, x25, x26, x27, x28, x29, x30, x31, x32, x33, x34, x35, x36, x37, x38, x39, x40, x41] =
  K x7 := by kernel_rfl
theorem t66_1_1_0_1_0_0_1_1 (K : Kont) (E : PanK) (k1 : Env → Hp → Prop) (x0 x1 x2 x3 x4 x5 x6 x7 x8 x9 x10 x11 x12 x13 x14 x15 x16 x17 x18 x19 x20 x21 x22 x23 x24 x25 x26 x27 x28 x29 x30 x31 x32 x33 x34 x35 x36 x37 x38 x39 x40 x41 : Value)  : den Tryd.prog (sel (bodyOf Tryd.f66) [1, 1, 0, 1, 0, 0, 1, 1]) (thenD k1 (blk 0 (thenD (den Tryd.prog (sel (bodyOf Tryd.f66) [1, 1, 1]) (bodyQ Tryd.prog Tryd.f66.results.toList K E)) (bodyQ Tryd.prog Tryd.f66.results.toList K E)))) #[x0, x1, x2, x3, x4, x5, x6, x7, x8, x9, x10, x11, x12, x13, x14, x15, x16, x17, x18, x19, x20, x21, x22, x23, x24, x25, x26, x27, x28, x29, x30, x31, x32, x33, x34, x35, x36, x37, x38, x39, x40, x41] =
  pv (binV .none .add x8 (.int .i64 1)) fun t1 =>
  k1 (m66_1_1_0_1_0_0 x0 x1 x2 x3 x4 x5 x6 x41 x7 t1 (jf #[x0, x1, x2, x3, x4, x5, x6, x7, t1, x9, x10, x11, x12, x13, x8, t1, x16, x17, x18, x19, x20, x21, x22, x23, x24, x25, x26, x27, x28, x29, x30, x31, x32, x33, x34, x35, x36, x37, x38, x39, x40, x41])) := by kernel_rfl
theorem l66_1_1_0_1_0_0 {K : Kont} {E : PanK} {σ : Type} {x0 x1 x2 x3 x4 x5 x6 x41 v7 v8 y9 y10 y11 y12 y13 y14 y15 y16 y17 y18 y19 y20 y21 y22 y23 y24 y25 y26 y27 y28 y29 y30 y31 y32 y33 y34 y35 y36 y37 y38 y39 y40 : Value} {h : Hp} (f7 f8 : σ → Value) (I : σ → Hp → Prop) (μ : σ → Nat) (s0 : σ) (e7 : v7 = f7 s0) (e8 : v8 = f8 s0) (h0 : h.wf → ∃ h', h.wk h' ∧ I s0 h')
  (round : ∀ (k1 : Env → Hp → Prop) (s : σ) (j : Nat → Value) (h : Hp), I s h → h.wf → (∀ s' j' h', μ s' < μ s → (h'.wf → ∃ h'', h'.wk h'' ∧ I s' h'') → k1 (m66_1_1_0_1_0_0 x0 x1 x2 x3 x4 x5 x6 x41 (f7 s') (f8 s') j') h') → (
  pv (lenV x0) fun t1 =>
  pv (binV .none .lss (f8 s) t1) fun t2 =>
  cnd t2 (
    pv (iaV none 5 x0 (f8 s)) fun t3 =>
    pv (faV 0 t3) fun t4 =>
    ld false 1 t4 fun t5 =>
    callv Tryd.prog (.func (.func 91) #[] #[]) #[x1, x2, t5] (fun t6 =>
    cnd t6 (
      pv (iaV none 5 x0 (f8 s)) fun t7 =>
      pv (faV 0 t7) fun t8 =>
      ld false 1 t8 fun t9 =>
      appX 3 1 8 (.slice none 0 0) t9 fun t10 =>
      pv (iaV none 5 x0 (f8 s)) fun t11 =>
      pv (faV 1 t11) fun t12 =>
      ld true 4 t12 fun t13 =>
      pv (bdC #[(.slice none 0 0), (.int .i64 0), (.int .i64 0), (.int .i64 0), (.int .i64 0)] [(0, 1), (1, 4)] #[(0, t10), (1, t13)]) fun t14 =>
      nws 43 1 (bsC #[(.slice none 0 0), (.int .i64 0), (.int .i64 0), (.int .i64 0), (.int .i64 0)] 5 1 #[(0, t14)]) fun t15 =>
      appX 43 5 56 (f7 s) t15 fun t16 =>
      den Tryd.prog (sel (bodyOf Tryd.f66) [1, 1, 0, 1, 0, 0, 1, 1]) (thenD k1 (blk 0 (thenD (den Tryd.prog (sel (bodyOf Tryd.f66) [1, 1, 1]) (bodyQ Tryd.prog Tryd.f66.results.toList K E)) (bodyQ Tryd.prog Tryd.f66.results.toList K E)))) #[x0, x1, x2, x3, x4, x5, x6, t16, (f8 s), t10, (f8 s), x0, t1, t2, (j 14), (j 15), x1, x2, x0, (f8 s), t3, t4, t5, t6, (.slice none 0 0), x0, (f8 s), t7, t8, t9, t10, (f7 s), t10, x0, (f8 s), t11, t12, t13, t14, t15, t16, x41]) (
      den Tryd.prog (sel (bodyOf Tryd.f66) [1, 1, 0, 1, 0, 0, 1, 1]) (thenD k1 (blk 0 (thenD (den Tryd.prog (sel (bodyOf Tryd.f66) [1, 1, 1]) (bodyQ Tryd.prog Tryd.f66.results.toList K E)) (bodyQ Tryd.prog Tryd.f66.results.toList K E)))) #[x0, x1, x2, x3, x4, x5, x6, (f7 s), (f8 s), (j 9), (f8 s), x0, t1, t2, (j 14), (j 15), x1, x2, x0, (f8 s), t3, t4, t5, t6, (j 24), (j 25), (j 26), (j 27), (j 28), (j 29), (j 30), (j 31), (j 32), (j 33), (j 34), (j 35), (j 36), (j 37), (j 38), (j 39), (j 40), x41])) E) (
    den Tryd.prog (sel (bodyOf Tryd.f66) [1, 1, 1]) (bodyQ Tryd.prog Tryd.f66.results.toList K E) #[x0, x1, x2, x3, x4, x5, x6, (f7 s), (f8 s), (j 9), (f8 s), x0, t1, t2, (j 14), (j 15), (j 16), (j 17), (j 18), (j 19), (j 20), (j 21), (j 22), (j 23), (j 24), (j 25), (j 26), (j 27), (j 28), (j 29), (j 30), (j 31), (j 32), (j 33), (j 34), (j 35), (j 36), (j 37), (j 38), (j 39), (j 40), x41])) h) :
  lp (fun k1 => den Tryd.prog (sel (bodyOf Tryd.f66) [1, 1, 0, 1, 0, 0]) (thenD k1 (blk 0 (thenD (den Tryd.prog (sel (bodyOf Tryd.f66) [1, 1, 1]) (bodyQ Tryd.prog Tryd.f66.results.toList K E)) (bodyQ Tryd.prog Tryd.f66.results.toList K E))))) #[x0, x1, x2, x3, x4, x5, x6, v7, v8, y9, y10, y11, y12, y13, y14, y15, y16, y17, y18, y19, y20, y21, y22, y23, y24, y25, y26, y27, y28, y29, y30, y31, y32, y33, y34, y35, y36, y37, y38, y39, y40, x41] h := by
  subst e7
  subst e8
  have e : (#[x0, x1, x2, x3, x4, x5, x6, (f7 s0), (f8 s0), y9, y10, y11, y12, y13, y14, y15, y16, y17, y18, y19, y20, y21, y22, y23, y24, y25, y26, y27, y28, y29, y30, y31, y32, y33, y34, y35, y36, y37, y38, y39, y40, x41] : Env) = m66_1_1_0_1_0_0 x0 x1 x2 x3 x4 x5 x6 x41 (f7 s0) (f8 s0) (jf #[x0, x1, x2, x3, x4, x5, x6, (f7 s0), (f8 s0), y9, y10, y11, y12, y13, y14, y15, y16, y17, y18, y19, y20, y21, y22, y23, y24, y25, y26, y27, y28, y29, y30, y31, y32, y33, y34, y35, y36, y37, y38, y39, y40, x41]) := by kernel_rfl
  rw [e]
  exact loop_r (fun s j => m66_1_1_0_1_0_0 x0 x1 x2 x3 x4 x5 x6 x41 (f7 s) (f8 s) j) I μ (fun k s j h hI hw next => by rw [t66_1_1_0_1_0_0]; exact round k s j h hI hw next) s0 (jf #[x0, x1, x2, x3, x4, x5, x6, (f7 s0), (f8 s0), y9, y10, y11, y12, y13, y14, y15, y16, y17, y18, y19, y20, y21, y22, y23, y24, y25, y26, y27, y28, y29, y30, y31, y32, y33, y34, y35, y36, y37, y38, y39, y40, x41]) h0

theorem t67 (K : Kont) (E : PanK) (x0 x1 : Value)  : den Tryd.prog (sel (bodyOf Tryd.f67) []) (bodyQ Tryd.prog Tryd.f67.results.toList K E) #[x0, x1, undef, undef, undef, undef, undef, undef, undef, undef, undef, undef, undef] =
  nw 51 (Value.cells x0).toList fun t1 =>
  pv (binV .none .geq x1 (.int .i64 0)) fun t2 =>
  gdK t2 true (fun k => k x1) fun t3 =>
  gdK t2 true (fun k => ld true 2 t1 k) fun t4 =>
  gdK t2 true (fun k => callv Tryd.prog (.func (.func 68) #[] #[]) #[t4] k E) fun t5 =>
  gdK t2 true (fun k => pv (binV .none .lss t3 t5) k) fun t6 =>
  pv (pickV t2 t6 (.bool false)) fun t7 =>
  K t7 := by kernel_rfl

theorem t69 (K : Kont) (E : PanK) (x0 x1 x2 : Value)  : den Tryd.prog (sel (bodyOf Tryd.f69) []) (bodyQ Tryd.prog Tryd.f69.results.toList K E) #[x0, x1, x2, undef, undef, undef, undef, undef, undef, undef, undef, undef, undef, undef, undef, undef, undef, undef, undef, undef, undef, undef, undef, undef, undef, undef, undef, undef, undef, undef, undef, undef] =
  pv (lenV x0) fun t1 =>
  pv (lenV x1) fun t2 =>
  pv (binV .none .neq t1 t2) fun t3 =>
  cnd t3 (
    K (.bool false)) (
    pv (lenV x0) fun t4 =>
    lp (fun k1 => den Tryd.prog (sel (bodyOf Tryd.f69) [1, 1, 0, 1, 0, 0]) (thenD k1 (blk 0 (thenD (den Tryd.prog (sel (bodyOf Tryd.f69) [1, 1, 1]) (bodyQ Tryd.prog Tryd.f69.results.toList K E)) (bodyQ Tryd.prog Tryd.f69.results.toList K E))))) #[x0, x1, x2, undef, undef, undef, (.bool false), undef, undef, undef, x0, t1, x1, t2, t3, x0, t4, (.int .i64 0), undef, undef, undef, undef, undef, undef, undef, undef, undef, undef, undef, undef, undef, undef]) := by kernel_rfl
def m69_1_1_0_1_0_0 (x0 x1 x2 x3 x4 x5 x10 x11 x12 x13 x14 x15 x16 : Value) (v17 : Value) (j : Nat → Value) : Env := #[x0, x1, x2, x3, x4, x5, (j 6), (j 7), (j 8), (j 9), x10, x11, x12, x13, x14, x15, x16, v17, (j 18), (j 19), (j 20), (j 21), (j 22), (j 23), (j 24), (j 25), (j 26), (j 27), (j 28), (j 29), (j 30), (j 31)]
theorem t69_1_1_0_1_0_0 (K : Kont) (E : PanK) (k1 : Env → Hp → Prop) (x0 x1 x2 x3 x4 x5 x10 x11 x12 x13 x14 x15 x16 v17 : Value) (j : Nat → Value) : den Tryd.prog (sel (bodyOf Tryd.f69) [1, 1, 0, 1, 0, 0]) (thenD k1 (blk 0 (thenD (den Tryd.prog (sel (bodyOf Tryd.f69) [1, 1, 1]) (bodyQ Tryd.prog Tryd.f69.results.toList K E)) (bodyQ Tryd.prog Tryd.f69.results.toList K E)))) (m69_1_1_0_1_0_0 x0 x1 x2 x3 x4 x5 x10 x11 x12 x13 x14 x15 x16 v17 j) =
  pv (binV .none .lss v17 x16) fun t1 =>
  cnd t1 (
    pv (iaV none 2 x15 v17) fun t2 =>
    ld true 2 t2 fun t3 =>
    nw 51 [(.int .i64 0), (.slice none 0 0)] fun t4 =>
    st 2 t4 t3 fun _ =>
    pv (iaV none 1 x1 v17) fun t5 =>
    ld false 1 t5 fun t6 =>
    ld true 2 t4 fun t7 =>
    callv Tryd.prog x2 #[t7, t6] (fun t8 =>
    pv (unV .not t8) fun t9 =>
    cnd t9 (
      K (.bool false)) (
      pv (binV .none .add v17 (.int .i64 1)) fun t10 =>
      k1 (m69_1_1_0_1_0_0 x0 x1 x2 x3 x4 x5 x10 x11 x12 x13 x14 x15 x16 t10 (jf #[x0, x1, x2, x3, x4, x5, (j 6), v17, t4, t6, x10, x11, x12, x13, x14, x15, x16, t10, t1, v17, t2, t3, x1, v17, t5, t6, x2, t7, t6, t8, t9, t10])))) E) (
    den Tryd.prog (sel (bodyOf Tryd.f69) [1, 1, 1]) (bodyQ Tryd.prog Tryd.f69.results.toList K E) #[x0, x1, x2, x3, x4, x5, (j 6), (j 7), (j 8), (j 9), x10, x11, x12, x13, x14, x15, x16, v17, t1, (j 19), (j 20), (j 21), (j 22), (j 23), (j 24), (j 25), (j 26), (j 27), (j 28), (j 29), (j 30), (j 31)]) := by kernel_rfl
theorem t69_1_1_1 (K : Kont) (E : PanK) (x0 x1 x2 x3 x4 x5 x6 x7 x8 x9 x10 x11 x12 x13 x14 x15 x16 x17 x18 x19 x20 x21 x22 x23 x24 x25 x26 x27 x28 x29 x30 x31 : Value)  : den Tryd.prog (sel (bodyOf Tryd.f69) [1, 1, 1]) (bodyQ Tryd.prog Tryd.f69.results.toList K E) #[x0, x1, x2, x3, x4, x5, x6, x7, x8, x9, x10, x11, x12, x13, x14, x15, x16, x17, x18, x19, x20, x21, x22, x23, x24, x25, x26, x27, x28, x29, x30, x31] =
  K (.bool true) := by kernel_rfl
theorem l69_1_1_0_1_0_0 {K : Kont} {E : PanK} {σ : Type} {x0 x1 x2 x3 x4 x5 x10 x11 x12 x13 x14 x15 x16 v17 y6 y7 y8 y9 y18 y19 y20 y21 y22 y23 y24 y25 y26 y27 y28 y29 y30 y31 : Value} {h : Hp} (f17 : σ → Value) (I : σ → Hp → Prop) (μ : σ → Nat) (s0 : σ) (e17 : v17 = f17 s0) (h0 : h.wf → ∃ h', h.wk h' ∧ I s0 h')
  (round : ∀ (k1 : Env → Hp → Prop) (s : σ) (j : Nat → Value) (h : Hp), I s h → h.wf → (∀ s' j' h', μ s' < μ s → (h'.wf → ∃ h'', h'.wk h'' ∧ I s' h'') → k1 (m69_1_1_0_1_0_0 x0 x1 x2 x3 x4 x5 x10 x11 x12 x13 x14 x15 x16 (f17 s') j') h') → (
  pv (binV .none .lss (f17 s) x16) fun t1 =>
  cnd t1 (
    pv (iaV none 2 x15 (f17 s)) fun t2 =>
    ld true 2 t2 fun t3 =>
    nw 51 [(.int .i64 0), (.slice none 0 0)] fun t4 =>
    st 2 t4 t3 fun _ =>
    pv (iaV none 1 x1 (f17 s)) fun t5 =>
    ld false 1 t5 fun t6 =>
    ld true 2 t4 fun t7 =>
    callv Tryd.prog x2 #[t7, t6] (fun t8 =>
    pv (unV .not t8) fun t9 =>
    cnd t9 (
      K (.bool false)) (
      pv (binV .none .add (f17 s) (.int .i64 1)) fun t10 =>
      k1 (m69_1_1_0_1_0_0 x0 x1 x2 x3 x4 x5 x10 x11 x12 x13 x14 x15 x16 t10 (jf #[x0, x1, x2, x3, x4, x5, (j 6), (f17 s), t4, t6, x10, x11, x12, x13, x14, x15, x16, t10, t1, (f17 s), t2, t3, x1, (f17 s), t5, t6, x2, t7, t6, t8, t9, t10])))) E) (
    den Tryd.prog (sel (bodyOf Tryd.f69) [1, 1, 1]) (bodyQ Tryd.prog Tryd.f69.results.toList K E) #[x0, x1, x2, x3, x4, x5, (j 6), (j 7), (j 8), (j 9), x10, x11, x12, x13, x14, x15, x16, (f17 s), t1, (j 19), (j 20), (j 21), (j 22), (j 23), (j 24), (j 25), (j 26), (j 27), (j 28), (j 29), (j 30), (j 31)])) h) :
  lp (fun k1 => den Tryd.prog (sel (bodyOf Tryd.f69) [1, 1, 0, 1, 0, 0]) (thenD k1 (blk 0 (thenD (den Tryd.prog (sel (bodyOf Tryd.f69) [1, 1, 1]) (bodyQ Tryd.prog Tryd.f69.results.toList K E)) (bodyQ Tryd.prog Tryd.f69.results.toList K E))))) #[x0, x1, x2, x3, x4, x5, y6, y7, y8, y9, x10, x11, x12, x13, x14, x15, x16, v17, y18, y19, y20, y21, y22, y23, y24, y25, y26, y27, y28, y29, y30, y31] h := by
  subst e17
  have e : (#[x0, x1, x2, x3, x4, x5, y6, y7, y8, y9, x10, x11, x12, x13, x14, x15, x16, (f17 s0), y18, y19, y20, y21, y22, y23, y24, y25, y26, y27, y28, y29, y30, y31] : Env) = m69_1_1_0_1_0_0 x0 x1 x2 x3 x4 x5 x10 x11 x12 x13 x14 x15 x16 (f17 s0) (jf #[x0, x1, x2, x3, x4, x5, y6, y7, y8, y9, x10, x11, x12, x13, x14, x15, x16, (f17 s0), y18, y19, y20, y21, y22, y23, y24, y25, y26, y27, y28, y29, y30, y31]) := by kernel_rfl
  rw [e]
  exact loop_r (fun s j => m69_1_1_0_1_0_0 x0 x1 x2 x3 x4 x5 x10 x11 x12 x13 x14 x15 x16 (f17 s) j) I μ (fun k s j h hI hw next => by rw [t69_1_1_0_1_0_0]; exact round k s j h hI hw next) s0 (jf #[x0, x1, x2, x3, x4, x5, y6, y7, y8, y9, x10, x11, x12, x13, x14, x15, x16, (f17 s0), y18, y19, y20, y21, y22, y23, y24, y25, y26, y27, y28, y29, y30, y31]) h0

theorem t70 (K : Kont) (E : PanK) (x0 x1 x2 : Value)  : den Tryd.prog (sel (bodyOf Tryd.f70) []) (bodyQ Tryd.prog Tryd.f70.results.toList K E) #[x0, x1, x2, undef, undef, undef, undef, undef, undef, undef, undef, undef, undef, undef, undef, undef, undef, undef, undef] =
  nw 28 (Value.cells x0).toList fun t1 =>
  nw 37 (Value.cells x1).toList fun t2 =>
  nw 37 (Value.cells x2).toList fun t3 =>
  ld false 1 t2 fun t4 =>
  pv (lenV t4) fun t5 =>
  ld false 1 t1 fun t6 =>
  pv (lenV t6) fun t7 =>
  pv (binV .none .eql t5 t7) fun t8 =>
  gdK t8 true (fun k => k (.func (.func 93) #[] #[t2, t3, t1])) fun t9 =>
  gdK t8 true (fun k => ld false 1 t2 k) fun t10 =>
  gdK t8 true (fun k => ld false 1 t3 k) fun t11 =>
  gdK t8 true (fun k => nws 37 2 (bsC #[(.slice none 0 0)] 1 2 #[(0, t10), (1, t11)]) k) fun t12 =>
  gdK t8 true (fun k => callv Tryd.prog (.func (.func 92) #[] #[]) #[t9, t12] k E) fun t13 =>
  pv (pickV t8 t13 (.bool false)) fun t14 =>
  K t14 := by kernel_rfl

theorem t72 (K : Kont) (E : PanK) (x0 x1 x2 : Value)  : den Tryd.prog (sel (bodyOf Tryd.f72) []) (bodyQ Tryd.prog Tryd.f72.results.toList K E) #[x0, x1, x2, undef, undef, undef, undef, undef, undef, undef, undef, undef, undef, undef, undef, undef, undef, undef, undef, undef, undef, undef, undef, undef, undef, undef, undef, undef, undef, undef, undef, undef, undef, undef, undef, undef, undef, undef, undef, undef, undef, undef, undef, undef, undef, undef, undef, undef, undef, undef, undef, undef, undef, undef] =
  pv (lenV x1) fun t1 =>
  pv (lenV x0) fun t2 =>
  pv (binV .none .neq t1 t2) fun t3 =>
  gdK t3 false (fun k => k x2) fun t4 =>
  gdK t3 false (fun k => pv (lenV t4) k) fun t5 =>
  gdK t3 false (fun k => k x0) fun t6 =>
  gdK t3 false (fun k => pv (lenV t6) k) fun t7 =>
  gdK t3 false (fun k => pv (binV .none .neq t5 t7) k) fun t8 =>
  pv (pickV t3 (.bool true) t8) fun t9 =>
  cnd t9 (
    K (.bool false)) (
    lp (fun k1 => den Tryd.prog (sel (bodyOf Tryd.f72) [1, 1, 0, 1, 0, 0]) (thenD k1 (blk 0 (thenD (den Tryd.prog (sel (bodyOf Tryd.f72) [1, 1, 1]) (bodyQ Tryd.prog Tryd.f72.results.toList K E)) (bodyQ Tryd.prog Tryd.f72.results.toList K E))))) #[x0, x1, x2, undef, undef, undef, (.bool false), (.int .i64 0), x1, t1, x0, t2, t3, t3, t4, t5, t6, t7, t8, t9, undef, undef, undef, undef, undef, undef, undef, undef, undef, undef, undef, undef, undef, undef, undef, undef, undef, undef, undef, undef, undef, undef, undef, undef, undef, undef, undef, undef, undef, undef, undef, undef, undef, undef]) := by kernel_rfl
def m72_1_1_0_1_0_0 (x0 x1 x2 x3 x4 x5 x8 x9 x10 x11 x12 x13 x14 x15 x16 x17 x18 x19 : Value) (v7 : Value) (j : Nat → Value) : Env := #[x0, x1, x2, x3, x4, x5, (j 6), v7, x8, x9, x10, x11, x12, x13, x14, x15, x16, x17, x18, x19, (j 20), (j 21), (j 22), (j 23), (j 24), (j 25), (j 26), (j 27), (j 28), (j 29), (j 30), (j 31), (j 32), (j 33), (j 34), (j 35), (j 36), (j 37), (j 38), (j 39), (j 40), (j 41), (j 42), (j 43), (j 44), (j 45), (j 46), (j 47), (j 48), (j 49), (j 50), (j 51), (j 52), (j 53)]
theorem t72_1_1_0_1_0_0 (K : Kont) (E : PanK) (k1 : Env → Hp → Prop) (x0 x1 x2 x3 x4 x5 x8 x9 x10 x11 x12 x13 x14 x15 x16 x17 x18 x19 v7 : Value) (j : Nat → Value) : den Tryd.prog (sel (bodyOf Tryd.f72) [1, 1, 0, 1, 0, 0]) (thenD k1 (blk 0 (thenD (den Tryd.prog (sel (bodyOf Tryd.f72) [1, 1, 1]) (bodyQ Tryd.prog Tryd.f72.results.toList K E)) (bodyQ Tryd.prog Tryd.f72.results.toList K E)))) (m72_1_1_0_1_0_0 x0 x1 x2 x3 x4 x5 x8 x9 x10 x11 x12 x13 x14 x15 x16 x17 x18 x19 v7 j) =
  pv (lenV x0) fun t1 =>
  pv (binV .none .lss v7 t1) fun t2 =>
  cnd t2 (
    pv (iaV none 1 x1 v7) fun t3 =>
    ld false 1 t3 fun t4 =>
    pv (binV .none .lss t4 (.int .i64 0)) fun t5 =>
    gdK t5 false (fun k => k x1) fun t6 =>
    gdK t5 false (fun k => k v7) fun t7 =>
    gdK t5 false (fun k => pv (iaV none 1 t6 t7) k) fun t8 =>
    gdK t5 false (fun k => ld false 1 t8 k) fun t9 =>
    gdK t5 false (fun k => k x2) fun t10 =>
    gdK t5 false (fun k => k v7) fun t11 =>
    gdK t5 false (fun k => pv (iaV none 1 t10 t11) k) fun t12 =>
    gdK t5 false (fun k => ld false 1 t12 k) fun t13 =>
    gdK t5 false (fun k => pv (binV .none .gtr t9 t13) k) fun t14 =>
    pv (pickV t5 (.bool true) t14) fun t15 =>
    gdK t15 false (fun k => k x2) fun t16 =>
    gdK t15 false (fun k => k v7) fun t17 =>
    gdK t15 false (fun k => pv (iaV none 1 t16 t17) k) fun t18 =>
    gdK t15 false (fun k => ld false 1 t18 k) fun t19 =>
    gdK t15 false (fun k => k x0) fun t20 =>
    gdK t15 false (fun k => k v7) fun t21 =>
    gdK t15 false (fun k => pv (iaV none 2 t20 t21) k) fun t22 =>
    gdK t15 false (fun k => pv (faV 0 t22) k) fun t23 =>
    gdK t15 false (fun k => ld false 1 t23 k) fun t24 =>
    gdK t15 false (fun k => pv (binV .none .gtr t19 t24) k) fun t25 =>
    pv (pickV t15 (.bool true) t25) fun t26 =>
    cnd t26 (
      K (.bool false)) (
      pv (binV .none .add v7 (.int .i64 1)) fun t27 =>
      k1 (m72_1_1_0_1_0_0 x0 x1 x2 x3 x4 x5 x8 x9 x10 x11 x12 x13 x14 x15 x16 x17 x18 x19 t27 (jf #[x0, x1, x2, x3, x4, x5, (j 6), t27, x8, x9, x10, x11, x12, x13, x14, x15, x16, x17, x18, x19, v7, x0, t1, t2, v7, t27, x1, v7, t3, t4, t5, t5, t6, t7, t8, t9, t10, t11, t12, t13, t14, t15, t15, t16, t17, t18, t19, t20, t21, t22, t23, t24, t25, t26])))) (
    den Tryd.prog (sel (bodyOf Tryd.f72) [1, 1, 1]) (bodyQ Tryd.prog Tryd.f72.results.toList K E) #[x0, x1, x2, x3, x4, x5, (j 6), v7, x8, x9, x10, x11, x12, x13, x14, x15, x16, x17, x18, x19, v7, x0, t1, t2, (j 24), (j 25), (j 26), (j 27), (j 28), (j 29), (j 30), (j 31), (j 32), (j 33), (j 34), (j 35), (j 36), (j 37), (j 38), (j 39), (j 40), (j 41), (j 42), (j 43), (j 44), (j 45), (j 46), (j 47), (j 48), (j 49), (j 50), (j 51), (j 52), (j 53)]) := by kernel_rfl
theorem t72_1_1_1 (K : Kont) (E : PanK) (x0 x1 x2 x3 x4 x5 x6 x7 x8 x9 x10 x11 x12 x13 x14 x15 x16 x17 x18 x19 x20 x21 x22 x23 x24 x25 x26 x27 x28 x29 x30 x31 x32 x33 x34 x35 x36 x37 x38 x39 x40 x41 x42 x43 x44 x45 x46 x47 x48 x49 x50 x51 x52 x53 : Value)  : den Tryd.prog (sel (bodyOf Tryd.f72) [1, 1, 1]) (bodyQ Tryd.prog Tryd.f72.results.toList K E) #[x0, x1, x2, x3, x4, x5, x6, x7, x8, x9, x10, x11, x12, x13, x14, x15, x16, x17, x18, x19, x20, x21, x22, x23, x24, x25, x26, x27, x28, x29, x30, x31, x32, x33, x34, x35, x36, x37, x38, x39, x40, x41, x42, x43, x44, x45, x46, x47, x48, x49, x50, x51, x52, x53] =
  K (.bool true) := by kernel_rfl
theorem l72_1_1_0_1_0_0 {K : Kont} {E : PanK} {σ : Type} {x0 x1 x2 x3 x4 x5 x8 x9 x10 x11 x12 x13 x14 x15 x16 x17 x18 x19 v7 y6 y20 y21 y22 y23 y24 y25 y26 y27 y28 y29 y30 y31 y32 y33 y34 y35 y36 y37 y38 y39 y40 y41 y42 y43 y44 y45 y46 y47 y48 y49 y50 y51 y52 y53 : Value} {h : Hp} (f7 : σ → Value) (I : σ → Hp → Prop) (μ : σ → Nat) (s0 : σ) (e7 : v7 = f7 s0) (h0 : h.wf → ∃ h', h.wk h' ∧ I s0 h')
  (round : ∀ (k1 : Env → Hp → Prop) (s : σ) (j : Nat → Value) (h : Hp), I s h → h.wf → (∀ s' j' h', μ s' < μ s → (h'.wf → ∃ h'', h'.wk h'' ∧ I s' h'') → k1 (m72_1_1_0_1_0_0 x0 x1 x2 x3 x4 x5 x8 x9 x10 x11 x12 x13 x14 x15 x16 x17 x18 x19 (f7 s') j') h') → (
  pv (lenV x0) fun t1 =>
  pv (binV .none .lss (f7 s) t1) fun t2 =>
  cnd t2 (
    pv (iaV none 1 x1 (f7 s)) fun t3 =>
    ld false 1 t3 fun t4 =>
    pv (binV .none .lss t4 (.int .i64 0)) fun t5 =>
    gdK t5 false (fun k => k x1) fun t6 =>
    gdK t5 false (fun k => k (f7 s)) fun t7 =>
    gdK t5 false (fun k => pv (iaV none 1 t6 t7) k) fun t8 =>
    gdK t5 false (fun k => ld false 1 t8 k) fun t9 =>
    gdK t5 false (fun k => k x2) fun t10 =>
    gdK t5 false (fun k => k (f7 s)) fun t11 =>
    gdK t5 false (fun k => pv (iaV none 1 t10 t11) k) fun t12 =>
    gdK t5 false (fun k => ld false 1 t12 k) fun t13 =>
    gdK t5 false (fun k => pv (binV .none .gtr t9 t13) k) fun t14 =>
    pv (pickV t5 (.bool true) t14) fun t15 =>
    gdK t15 false (fun k => k x2) fun t16 =>
    gdK t15 false (fun k => k (f7 s)) fun t17 =>
    gdK t15 false (fun k => pv (iaV none 1 t16 t17) k) fun t18 =>
    gdK t15 false (fun k => ld false 1 t18 k) fun t19 =>
    gdK t15 false (fun k => k x0) fun t20 =>
    gdK t15 false (fun k => k (f7 s)) fun t21 =>
    gdK t15 false (fun k => pv (iaV none 2 t20 t21) k) fun t22 =>
    gdK t15 false (fun k => pv (faV 0 t22) k) fun t23 =>
    gdK t15 false (fun k => ld false 1 t23 k) fun t24 =>
    gdK t15 false (fun k => pv (binV .none .gtr t19 t24) k) fun t25 =>
    pv (pickV t15 (.bool true) t25) fun t26 =>
    cnd t26 (
      K (.bool false)) (
      pv (binV .none .add (f7 s) (.int .i64 1)) fun t27 =>
      k1 (m72_1_1_0_1_0_0 x0 x1 x2 x3 x4 x5 x8 x9 x10 x11 x12 x13 x14 x15 x16 x17 x18 x19 t27 (jf #[x0, x1, x2, x3, x4, x5, (j 6), t27, x8, x9, x10, x11, x12, x13, x14, x15, x16, x17, x18, x19, (f7 s), x0, t1, t2, (f7 s), t27, x1, (f7 s), t3, t4, t5, t5, t6, t7, t8, t9, t10, t11, t12, t13, t14, t15, t15, t16, t17, t18, t19, t20, t21, t22, t23, t24, t25, t26])))) (
    den Tryd.prog (sel (bodyOf Tryd.f72) [1, 1, 1]) (bodyQ Tryd.prog Tryd.f72.results.toList K E) #[x0, x1, x2, x3, x4, x5, (j 6), (f7 s), x8, x9, x10, x11, x12, x13, x14, x15, x16, x17, x18, x19, (f7 s), x0, t1, t2, (j 24), (j 25), (j 26), (j 27), (j 28), (j 29), (j 30), (j 31), (j 32), (j 33), (j 34), (j 35), (j 36), (j 37), (j 38), (j 39), (j 40), (j 41), (j 42), (j 43), (j 44), (j 45), (j 46), (j 47), (j 48), (j 49), (j 50), (j 51), (j 52), (j 53)])) h) :
  lp (fun k1 => den Tryd.prog (sel (bodyOf Tryd.f72) [1, 1, 0, 1, 0, 0]) (thenD k1 (blk 0 (thenD (den Tryd.prog (sel (bodyOf Tryd.f72) [1, 1, 1]) (bodyQ Tryd.prog Tryd.f72.results.toList K E)) (bodyQ Tryd.prog Tryd.f72.results.toList K E))))) #[x0, x1, x2, x3, x4, x5, y6, v7, x8, x9, x10, x11, x12, x13, x14, x15, x16, x17, x18, x19, y20, y21, y22, y23, y24, y25, y26, y27, y28, y29, y30, y31, y32, y33, y34, y35, y36, y37, y38, y39, y40, y41, y42, y43, y44, y45, y46, y47, y48, y49, y50, y51, y52, y53] h := by
  subst e7
  have e : (#[x0, x1, x2, x3, x4, x5, y6, (f7 s0), x8, x9, x10, x11, x12, x13, x14, x15, x16, x17, x18, x19, y20, y21, y22, y23, y24, y25, y26, y27, y28, y29, y30, y31, y32, y33, y34, y35, y36, y37, y38, y39, y40, y41, y42, y43, y44, y45, y46, y47, y48, y49, y50, y51, y52, y53] : Env) = m72_1_1_0_1_0_0 x0 x1 x2 x3 x4 x5 x8 x9 x10 x11 x12 x13 x14 x15 x16 x17 x18 x19 (f7 s0) (jf #[x0, x1, x2, x3, x4, x5, y6, (f7 s0), x8, x9, x10, x11, x12, x13, x14, x15, x16, x17, x18, x19, y20, y21, y22, y23, y24, y25, y26, y27, y28, y29, y30, y31, y32, y33, y34, y35, y36, y37, y38, y39, y40, y41, y42, y43, y44, y45, y46, y47, y48, y49, y50, y51, y52, y53]) := by kernel_rfl
  rw [e]
  exact loop_r (fun s j => m72_1_1_0_1_0_0 x0 x1 x2 x3 x4 x5 x8 x9 x10 x11 x12 x13 x14 x15 x16 x17 x18 x19 (f7 s) j) I μ (fun k s j h hI hw next => by rw [t72_1_1_0_1_0_0]; exact round k s j h hI hw next) s0 (jf #[x0, x1, x2, x3, x4, x5, y6, (f7 s0), x8, x9, x10, x11, x12, x13, x14, x15, x16, x17, x18, x19, y20, y21, y22, y23, y24, y25, y26, y27, y28, y29, y30, y31, y32, y33, y34, y35, y36, y37, y38, y39, y40, y41, y42, y43, y44, y45, y46, y47, y48, y49, y50, y51, y52, y53]) h0

theorem t73 (K : Kont) (E : PanK) (x0 x1 x2 : Value)  : den Tryd.prog (sel (bodyOf Tryd.f73) []) (bodyQ Tryd.prog Tryd.f73.results.toList K E) #[x0, x1, x2, undef, undef, undef, undef, undef, undef, undef, undef, undef, undef, undef, undef, undef, undef, undef, undef, undef, undef, undef, undef, undef, undef, undef, undef, undef, undef, undef, undef, undef, undef, undef, undef, undef, undef, undef, undef, undef, undef, undef, undef, undef, undef, undef, undef, undef, undef, undef, undef, undef] =
  callv Tryd.prog (.func (.func 48) #[] #[]) #[x0, x1] (fun t1 =>
  callv Tryd.prog (.func (.func 48) #[] #[]) #[x0, x2] (fun t2 =>
  lp (fun k1 => den Tryd.prog (sel (bodyOf Tryd.f73) [1, 1, 1, 0, 1, 0, 0]) (thenD k1 (blk 0 (thenD (den Tryd.prog (sel (bodyOf Tryd.f73) [1, 1, 1, 1]) (bodyQ Tryd.prog Tryd.f73.results.toList K E)) (bodyQ Tryd.prog Tryd.f73.results.toList K E))))) #[x0, x1, x2, undef, undef, undef, (.slice none 0 0), (.slice none 0 0), t1, t2, (.int .i64 0), undef, x0, x1, t1, x0, x2, t2, undef, undef, undef, undef, undef, undef, undef, undef, undef, undef, undef, undef, undef, undef, undef, undef, undef, undef, undef, undef, undef, undef, undef, undef, undef, undef, undef, undef, undef, undef, undef, undef, undef, undef]) E) E := by kernel_rfl
def m73_1_1_1_0_1_0_0 (x0 x1 x2 x3 x4 x5 x6 x7 x8 x9 x12 x13 x14 x15 x16 x17 x50 x51 : Value) (v10 : Value) (j : Nat → Value) : Env := #[x0, x1, x2, x3, x4, x5, x6, x7, x8, x9, v10, (j 11), x12, x13, x14, x15, x16, x17, (j 18), (j 19), (j 20), (j 21), (j 22), (j 23), (j 24), (j 25), (j 26), (j 27), (j 28), (j 29), (j 30), (j 31), (j 32), (j 33), (j 34), (j 35), (j 36), (j 37), (j 38), (j 39), (j 40), (j 41), (j 42), (j 43), (j 44), (j 45), (j 46), (j 47), (j 48), (j 49), x50, x51]
theorem t73_1_1_1_0_1_0_0 (K : Kont) (E : PanK) (k1 : Env → Hp → Prop) (x0 x1 x2 x3 x4 x5 x6 x7 x8 x9 x12 x13 x14 x15 x16 x17 x50 x51 v10 : Value) (j : Nat → Value) : den Tryd.prog (sel (bodyOf Tryd.f73) [1, 1, 1, 0, 1, 0, 0]) (thenD k1 (blk 0 (thenD (den Tryd.prog (sel (bodyOf Tryd.f73) [1, 1, 1, 1]) (bodyQ Tryd.prog Tryd.f73.results.toList K E)) (bodyQ Tryd.prog Tryd.f73.results.toList K E)))) (m73_1_1_1_0_1_0_0 x0 x1 x2 x3 x4 x5 x6 x7 x8 x9 x12 x13 x14 x15 x16 x17 x50 x51 v10 j) =
  pv (lenV x0) fun t1 =>
  pv (binV .none .lss v10 t1) fun t2 =>
  cnd t2 (
    pv (iaV none 1 x8 v10) fun t3 =>
    ld false 1 t3 fun t4 =>
    pv (iaV none 1 x9 v10) fun t5 =>
    ld false 1 t5 fun t6 =>
    pv (mm false t4 t6) fun t7 =>
    pv (iaV none 1 x8 v10) fun t8 =>
    ld false 1 t8 fun t9 =>
    pv (iaV none 1 x9 v10) fun t10 =>
    ld false 1 t10 fun t11 =>
    pv (mm true t9 t11) fun t12 =>
    pv (binV .none .add t12 (.int .i64 1)) fun t13 =>
    pv (iaV none 1 x9 v10) fun t14 =>
    st 1 t14 t13 fun _ =>
    pv (iaV none 1 x8 v10) fun t15 =>
    st 1 t15 t7 fun _ =>
    pv (binV .none .add v10 (.int .i64 1)) fun t16 =>
    k1 (m73_1_1_1_0_1_0_0 x0 x1 x2 x3 x4 x5 x6 x7 x8 x9 x12 x13 x14 x15 x16 x17 x50 x51 t16 (jf #[x0, x1, x2, x3, x4, x5, x6, x7, x8, x9, t16, t7, x12, x13, x14, x15, x16, x17, v10, x0, t1, t2, v10, t16, x8, v10, t3, t4, x9, v10, t5, t6, t7, x9, v10, x8, v10, t8, t9, x9, v10, t10, t11, t12, t13, t14, x8, v10, t7, t15, x50, x51]))) (
    den Tryd.prog (sel (bodyOf Tryd.f73) [1, 1, 1, 1]) (bodyQ Tryd.prog Tryd.f73.results.toList K E) #[x0, x1, x2, x3, x4, x5, x6, x7, x8, x9, v10, (j 11), x12, x13, x14, x15, x16, x17, v10, x0, t1, t2, (j 22), (j 23), (j 24), (j 25), (j 26), (j 27), (j 28), (j 29), (j 30), (j 31), (j 32), (j 33), (j 34), (j 35), (j 36), (j 37), (j 38), (j 39), (j 40), (j 41), (j 42), (j 43), (j 44), (j 45), (j 46), (j 47), (j 48), (j 49), x50, x51]) := by kernel_rfl
theorem t73_1_1_1_1 (K : Kont) (E : PanK) (x0 x1 x2 x3 x4 x5 x6 x7 x8 x9 x10 x11 x12 x13 x14 x15 x16 x17 x18 x19 x20 x21 x22 x23 x24 x25 x26 x27 x28 x29 x30 x31 x32 x33 x34 x35 x36 x37 x38 x39 x40 x41 x42 x43 x44 x45 x46 x47 x48 x49 x50 x51 : Value)  : den Tryd.prog (sel (bodyOf Tryd.f73) [1, 1, 1, 1]) (bodyQ Tryd.prog Tryd.f73.results.toList K E) #[x0, x1, x2, x3, x4, x5, x6, x7, x8, x9, x10, x11, x12, x13, x14, x15, x16, x17, x18, x19, x20, x21, x22, x23, x24, x25, x26, x27, x28, x29, x30, x31, x32, x33, x34, x35, x36, x37, x38, x39, x40, x41, x42, x43, x44, x45, x46, x47, x48, x49, x50, x51] =
  K (.tuple #[x8, x9]) := by kernel_rfl
theorem l73_1_1_1_0_1_0_0 {K : Kont} {E : PanK} {σ : Type} {x0 x1 x2 x3 x4 x5 x6 x7 x8 x9 x12 x13 x14 x15 x16 x17 x50 x51 v10 y11 y18 y19 y20 y21 y22 y23 y24 y25 y26 y27 y28 y29 y30 y31 y32 y33 y34 y35 y36 y37 y38 y39 y40 y41 y42 y43 y44 y45 y46 y47 y48 y49 : Value} {h : Hp} (f10 : σ → Value) (I : σ → Hp → Prop) (μ : σ → Nat) (s0 : σ) (e10 : v10 = f10 s0) (h0 : h.wf → ∃ h', h.wk h' ∧ I s0 h')
  (round : ∀ (k1 : Env → Hp → Prop) (s : σ) (j : Nat → Value) (h : Hp), I s h → h.wf → (∀ s' j' h', μ s' < μ s → (h'.wf → ∃ h'', h'.wk h'' ∧ I s' h'') → k1 (m73_1_1_1_0_1_0_0 x0 x1 x2 x3 x4 x5 x6 x7 x8 x9 x12 x13 x14 x15 x16 x17 x50 x51 (f10 s') j') h') → (
  pv (lenV x0) fun t1 =>
  pv (binV .none .lss (f10 s) t1) fun t2 =>
  cnd t2 (
    pv (iaV none 1 x8 (f10 s)) fun t3 =>
    ld false 1 t3 fun t4 =>
    pv (iaV none 1 x9 (f10 s)) fun t5 =>
    ld false 1 t5 fun t6 =>
    pv (mm false t4 t6) fun t7 =>
    pv (iaV none 1 x8 (f10 s)) fun t8 =>
    ld false 1 t8 fun t9 =>
    pv (iaV none 1 x9 (f10 s)) fun t10 =>
    ld false 1 t10 fun t11 =>
    pv (mm true t9 t11) fun t12 =>
    pv (binV .none .add t12 (.int .i64 1)) fun t13 =>
    pv (iaV none 1 x9 (f10 s)) fun t14 =>
    st 1 t14 t13 fun _ =>
    pv (iaV none 1 x8 (f10 s)) fun t15 =>
    st 1 t15 t7 fun _ =>
    pv (binV .none .add (f10 s) (.int .i64 1)) fun t16 =>
    k1 (m73_1_1_1_0_1_0_0 x0 x1 x2 x3 x4 x5 x6 x7 x8 x9 x12 x13 x14 x15 x16 x17 x50 x51 t16 (jf #[x0, x1, x2, x3, x4, x5, x6, x7, x8, x9, t16, t7, x12, x13, x14, x15, x16, x17, (f10 s), x0, t1, t2, (f10 s), t16, x8, (f10 s), t3, t4, x9, (f10 s), t5, t6, t7, x9, (f10 s), x8, (f10 s), t8, t9, x9, (f10 s), t10, t11, t12, t13, t14, x8, (f10 s), t7, t15, x50, x51]))) (
    den Tryd.prog (sel (bodyOf Tryd.f73) [1, 1, 1, 1]) (bodyQ Tryd.prog Tryd.f73.results.toList K E) #[x0, x1, x2, x3, x4, x5, x6, x7, x8, x9, (f10 s), (j 11), x12, x13, x14, x15, x16, x17, (f10 s), x0, t1, t2, (j 22), (j 23), (j 24), (j 25), (j 26), (j 27), (j 28), (j 29), (j 30), (j 31), (j 32), (j 33), (j 34), (j 35), (j 36), (j 37), (j 38), (j 39), (j 40), (j 41), (j 42), (j 43), (j 44), (j 45), (j 46), (j 47), (j 48), (j 49), x50, x51])) h) :
  lp (fun k1 => den Tryd.prog (sel (bodyOf Tryd.f73) [1, 1, 1, 0, 1, 0, 0]) (thenD k1 (blk 0 (thenD (den Tryd.prog (sel (bodyOf Tryd.f73) [1, 1, 1, 1]) (bodyQ Tryd.prog Tryd.f73.results.toList K E)) (bodyQ Tryd.prog Tryd.f73.results.toList K E))))) #[x0, x1, x2, x3, x4, x5, x6, x7, x8, x9, v10, y11, x12, x13, x14, x15, x16, x17, y18, y19, y20, y21, y22, y23, y24, y25, y26, y27, y28, y29, y30, y31, y32, y33, y34, y35, y36, y37, y38, y39, y40, y41, y42, y43, y44, y45, y46, y47, y48, y49, x50, x51] h := by
  subst e10
  have e : (#[x0, x1, x2, x3, x4, x5, x6, x7, x8, x9, (f10 s0), y11, x12, x13, x14, x15, x16, x17, y18, y19, y20, y21, y22, y23, y24, y25, y26, y27, y28, y29, y30, y31, y32, y33, y34, y35, y36, y37, y38, y39, y40, y41, y42, y43, y44, y45, y46, y47, y48, y49, x50, x51] : Env) = m73_1_1_1_0_1_0_0 x0 x1 x2 x3 x4 x5 x6 x7 x8 x9 x12 x13 x14 x15 x16 x17 x50 x51 (f10 s0) (jf #[x0, x1, x2, x3, x4, x5, x6, x7, x8, x9, (f10 s0), y11, x12, x13, x14, x15, x16, x17, y18, y19, y20, y21, y22, y23, y24, y25, y26, y27, y28, y29, y30, y31, y32, y33, y34, y35, y36, y37, y38, y39, y40, y41, y42, y43, y44, y45, y46, y47, y48, y49, x50, x51]) := by kernel_rfl
  rw [e]
  exact loop_r (fun s j => m73_1_1_1_0_1_0_0 x0 x1 x2 x3 x4 x5 x6 x7 x8 x9 x12 x13 x14 x15 x16 x17 x50 x51 (f10 s) j) I μ (fun k s j h hI hw next => by rw [t73_1_1_1_0_1_0_0]; exact round k s j h hI hw next) s0 (jf #[x0, x1, x2, x3, x4, x5, x6, x7, x8, x9, (f10 s0), y11, x12, x13, x14, x15, x16, x17, y18, y19, y20, y21, y22, y23, y24, y25, y26, y27, y28, y29, y30, y31, y32, y33, y34, y35, y36, y37, y38, y39, y40, y41, y42, y43, y44, y45, y46, y47, y48, y49, x50, x51]) h0

theorem t90 (K : Kont) (E : PanK) (x0 x1 x2 : Value)  : den Tryd.prog (sel (bodyOf Tryd.f90) []) (bodyQ Tryd.prog Tryd.f90.results.toList K E) #[x0, x1, x2, undef, undef, undef, undef, undef, undef, undef, undef, undef, undef] =
  nw 37 (Value.cells x0).toList fun t1 =>
  nw 37 (Value.cells x1).toList fun t2 =>
  nw 37 (Value.cells x2).toList fun t3 =>
  ld false 1 t1 fun t4 =>
  ld false 1 t2 fun t5 =>
  ld false 1 t3 fun t6 =>
  nws 37 3 (bsC #[(.slice none 0 0)] 1 3 #[(0, t4), (1, t5), (2, t6)]) fun t7 =>
  callv Tryd.prog (.func (.func 92) #[] #[]) #[(.func (.func 102) #[] #[t3, t1, t2]), t7] (fun t8 =>
  K t8) E := by kernel_rfl

theorem t91 (K : Kont) (E : PanK) (x0 x1 x2 : Value)  : den Tryd.prog (sel (bodyOf Tryd.f91) []) (bodyQ Tryd.prog Tryd.f91.results.toList K E) #[x0, x1, x2, undef, undef, undef, undef, undef, undef, undef, undef, undef, undef, undef, undef, undef, undef, undef, undef, undef, undef, undef, undef, undef, undef, undef, undef, undef, undef, undef, undef, undef, undef, undef, undef, undef, undef, undef, undef, undef, undef, undef, undef, undef, undef, undef] =
  pv (lenV x0) fun t1 =>
  pv (lenV x1) fun t2 =>
  pv (binV .none .neq t1 t2) fun t3 =>
  gdK t3 false (fun k => k x0) fun t4 =>
  gdK t3 false (fun k => pv (lenV t4) k) fun t5 =>
  gdK t3 false (fun k => k x2) fun t6 =>
  gdK t3 false (fun k => pv (lenV t6) k) fun t7 =>
  gdK t3 false (fun k => pv (binV .none .neq t5 t7) k) fun t8 =>
  pv (pickV t3 (.bool true) t8) fun t9 =>
  cnd t9 (
    K (.bool false)) (
    lp (fun k1 => den Tryd.prog (sel (bodyOf Tryd.f91) [1, 1, 0, 1, 0, 0]) (thenD k1 (blk 0 (thenD (den Tryd.prog (sel (bodyOf Tryd.f91) [1, 1, 1]) (bodyQ Tryd.prog Tryd.f91.results.toList K E)) (bodyQ Tryd.prog Tryd.f91.results.toList K E))))) #[x0, x1, x2, undef, undef, undef, (.bool false), (.int .i64 0), x0, t1, x1, t2, t3, t3, t4, t5, t6, t7, t8, t9, undef, undef, undef, undef, undef, undef, undef, undef, undef, undef, undef, undef, undef, undef, undef, undef, undef, undef, undef, undef, undef, undef, undef, undef, undef, undef]) := by kernel_rfl
def m91_1_1_0_1_0_0 (x0 x1 x2 x3 x4 x5 x8 x9 x10 x11 x12 x13 x14 x15 x16 x17 x18 x19 : Value) (v7 : Value) (j : Nat → Value) : Env := #[x0, x1, x2, x3, x4, x5, (j 6), v7, x8, x9, x10, x11, x12, x13, x14, x15, x16, x17, x18, x19, (j 20), (j 21), (j 22), (j 23), (j 24), (j 25), (j 26), (j 27), (j 28), (j 29), (j 30), (j 31), (j 32), (j 33), (j 34), (j 35), (j 36), (j 37), (j 38), (j 39), (j 40), (j 41), (j 42), (j 43), (j 44), (j 45)]
theorem t91_1_1_0_1_0_0 (K : Kont) (E : PanK) (k1 : Env → Hp → Prop) (x0 x1 x2 x3 x4 x5 x8 x9 x10 x11 x12 x13 x14 x15 x16 x17 x18 x19 v7 : Value) (j : Nat → Value) : den Tryd.prog (sel (bodyOf Tryd.f91) [1, 1, 0, 1, 0, 0]) (thenD k1 (blk 0 (thenD (den Tryd.prog (sel (bodyOf Tryd.f91) [1, 1, 1]) (bodyQ Tryd.prog Tryd.f91.results.toList K E)) (bodyQ Tryd.prog Tryd.f91.results.toList K E)))) (m91_1_1_0_1_0_0 x0 x1 x2 x3 x4 x5 x8 x9 x10 x11 x12 x13 x14 x15 x16 x17 x18 x19 v7 j) =
  pv (lenV x0) fun t1 =>
  pv (binV .none .lss v7 t1) fun t2 =>
  cnd t2 (
    pv (iaV none 1 x2 v7) fun t3 =>
    ld false 1 t3 fun t4 =>
    pv (iaV none 1 x0 v7) fun t5 =>
    ld false 1 t5 fun t6 =>
    pv (binV .none .lss t4 t6) fun t7 =>
    gdK t7 false (fun k => k x2) fun t8 =>
    gdK t7 false (fun k => k v7) fun t9 =>
    gdK t7 false (fun k => pv (iaV none 1 t8 t9) k) fun t10 =>
    gdK t7 false (fun k => ld false 1 t10 k) fun t11 =>
    gdK t7 false (fun k => k x1) fun t12 =>
    gdK t7 false (fun k => k v7) fun t13 =>
    gdK t7 false (fun k => pv (iaV none 1 t12 t13) k) fun t14 =>
    gdK t7 false (fun k => ld false 1 t14 k) fun t15 =>
    gdK t7 false (fun k => pv (binV .none .geq t11 t15) k) fun t16 =>
    pv (pickV t7 (.bool true) t16) fun t17 =>
    cnd t17 (
      K (.bool false)) (
      pv (binV .none .add v7 (.int .i64 1)) fun t18 =>
      k1 (m91_1_1_0_1_0_0 x0 x1 x2 x3 x4 x5 x8 x9 x10 x11 x12 x13 x14 x15 x16 x17 x18 x19 t18 (jf #[x0, x1, x2, x3, x4, x5, (j 6), t18, x8, x9, x10, x11, x12, x13, x14, x15, x16, x17, x18, x19, v7, x0, t1, t2, v7, t18, x2, v7, t3, t4, x0, v7, t5, t6, t7, t7, t8, t9, t10, t11, t12, t13, t14, t15, t16, t17])))) (
    den Tryd.prog (sel (bodyOf Tryd.f91) [1, 1, 1]) (bodyQ Tryd.prog Tryd.f91.results.toList K E) #[x0, x1, x2, x3, x4, x5, (j 6), v7, x8, x9, x10, x11, x12, x13, x14, x15, x16, x17, x18, x19, v7, x0, t1, t2, (j 24), (j 25), (j 26), (j 27), (j 28), (j 29), (j 30), (j 31), (j 32), (j 33), (j 34), (j 35), (j 36), (j 37), (j 38), (j 39), (j 40), (j 41), (j 42), (j 43), (j 44), (j 45)]) := by kernel_rfl
theorem t91_1_1_1 (K : Kont) (E : PanK) (x0 x1 x2 x3 x4 x5 x6 x7 x8 x9 x10 x11 x12 x13 x14 x15 x16 x17 x18 x19 x20 x21 x22 x23 x24 x25 x26 x27 x28 x29 x30 x31 x32 x33 x34 x35 x36 x37 x38 x39 x40 x41 x42 x43 x44 x45 : Value)  : den Tryd.prog (sel (bodyOf Tryd.f91) [1, 1, 1]) (bodyQ Tryd.prog Tryd.f91.results.toList K E) #[x0, x1, x2, x3, x4, x5, x6, x7, x8, x9, x10, x11, x12, x13, x14, x15, x16, x17, x18, x19, x20, x21, x22, x23, x24, x25, x26, x27, x28, x29, x30, x31, x32, x33, x34, x35, x36, x37, x38, x39, x40, x41, x42, x43, x44, x45] =
  K (.bool true) := by kernel_rfl
theorem l91_1_1_0_1_0_0 {K : Kont} {E : PanK} {σ : Type} {x0 x1 x2 x3 x4 x5 x8 x9 x10 x11 x12 x13 x14 x15 x16 x17 x18 x19 v7 y6 y20 y21 y22 y23 y24 y25 y26 y27 y28 y29 y30 y31 y32 y33 y34 y35 y36 y37 y38 y39 y40 y41 y42 y43 y44 y45 : Value} {h : Hp} (f7 : σ → Value) (I : σ → Hp → Prop) (μ : σ → Nat) (s0 : σ) (e7 : v7 = f7 s0) (h0 : h.wf → ∃ h', h.wk h' ∧ I s0 h')
  (round : ∀ (k1 : Env → Hp → Prop) (s : σ) (j : Nat → Value) (h : Hp), I s h → h.wf → (∀ s' j' h', μ s' < μ s → (h'.wf → ∃ h'', h'.wk h'' ∧ I s' h'') → k1 (m91_1_1_0_1_0_0 x0 x1 x2 x3 x4 x5 x8 x9 x10 x11 x12 x13 x14 x15 x16 x17 x18 x19 (f7 s') j') h') → (
  pv (lenV x0) fun t1 =>
  pv (binV .none .lss (f7 s) t1) fun t2 =>
  cnd t2 (
    pv (iaV none 1 x2 (f7 s)) fun t3 =>
    ld false 1 t3 fun t4 =>
    pv (iaV none 1 x0 (f7 s)) fun t5 =>
    ld false 1 t5 fun t6 =>
    pv (binV .none .lss t4 t6) fun t7 =>
    gdK t7 false (fun k => k x2) fun t8 =>
    gdK t7 false (fun k => k (f7 s)) fun t9 =>
    gdK t7 false (fun k => pv (iaV none 1 t8 t9) k) fun t10 =>
    gdK t7 false (fun k => ld false 1 t10 k) fun t11 =>
    gdK t7 false (fun k => k x1) fun t12 =>
    gdK t7 false (fun k => k (f7 s)) fun t13 =>
    gdK t7 false (fun k => pv (iaV none 1 t12 t13) k) fun t14 =>
    gdK t7 false (fun k => ld false 1 t14 k) fun t15 =>
    gdK t7 false (fun k => pv (binV .none .geq t11 t15) k) fun t16 =>
    pv (pickV t7 (.bool true) t16) fun t17 =>
    cnd t17 (
      K (.bool false)) (
      pv (binV .none .add (f7 s) (.int .i64 1)) fun t18 =>
      k1 (m91_1_1_0_1_0_0 x0 x1 x2 x3 x4 x5 x8 x9 x10 x11 x12 x13 x14 x15 x16 x17 x18 x19 t18 (jf #[x0, x1, x2, x3, x4, x5, (j 6), t18, x8, x9, x10, x11, x12, x13, x14, x15, x16, x17, x18, x19, (f7 s), x0, t1, t2, (f7 s), t18, x2, (f7 s), t3, t4, x0, (f7 s), t5, t6, t7, t7, t8, t9, t10, t11, t12, t13, t14, t15, t16, t17])))) (
    den Tryd.prog (sel (bodyOf Tryd.f91) [1, 1, 1]) (bodyQ Tryd.prog Tryd.f91.results.toList K E) #[x0, x1, x2, x3, x4, x5, (j 6), (f7 s), x8, x9, x10, x11, x12, x13, x14, x15, x16, x17, x18, x19, (f7 s), x0, t1, t2, (j 24), (j 25), (j 26), (j 27), (j 28), (j 29), (j 30), (j 31), (j 32), (j 33), (j 34), (j 35), (j 36), (j 37), (j 38), (j 39), (j 40), (j 41), (j 42), (j 43), (j 44), (j 45)])) h) :
  lp (fun k1 => den Tryd.prog (sel (bodyOf Tryd.f91) [1, 1, 0, 1, 0, 0]) (thenD k1 (blk 0 (thenD (den Tryd.prog (sel (bodyOf Tryd.f91) [1, 1, 1]) (bodyQ Tryd.prog Tryd.f91.results.toList K E)) (bodyQ Tryd.prog Tryd.f91.results.toList K E))))) #[x0, x1, x2, x3, x4, x5, y6, v7, x8, x9, x10, x11, x12, x13, x14, x15, x16, x17, x18, x19, y20, y21, y22, y23, y24, y25, y26, y27, y28, y29, y30, y31, y32, y33, y34, y35, y36, y37, y38, y39, y40, y41, y42, y43, y44, y45] h := by
  subst e7
  have e : (#[x0, x1, x2, x3, x4, x5, y6, (f7 s0), x8, x9, x10, x11, x12, x13, x14, x15, x16, x17, x18, x19, y20, y21, y22, y23, y24, y25, y26, y27, y28, y29, y30, y31, y32, y33, y34, y35, y36, y37, y38, y39, y40, y41, y42, y43, y44, y45] : Env) = m91_1_1_0_1_0_0 x0 x1 x2 x3 x4 x5 x8 x9 x10 x11 x12 x13 x14 x15 x16 x17 x18 x19 (f7 s0) (jf #[x0, x1, x2, x3, x4, x5, y6, (f7 s0), x8, x9, x10, x11, x12, x13, x14, x15, x16, x17, x18, x19, y20, y21, y22, y23, y24, y25, y26, y27, y28, y29, y30, y31, y32, y33, y34, y35, y36, y37, y38, y39, y40, y41, y42, y43, y44, y45]) := by kernel_rfl
  rw [e]
  exact loop_r (fun s j => m91_1_1_0_1_0_0 x0 x1 x2 x3 x4 x5 x8 x9 x10 x11 x12 x13 x14 x15 x16 x17 x18 x19 (f7 s) j) I μ (fun k s j h hI hw next => by rw [t91_1_1_0_1_0_0]; exact round k s j h hI hw next) s0 (jf #[x0, x1, x2, x3, x4, x5, y6, (f7 s0), x8, x9, x10, x11, x12, x13, x14, x15, x16, x17, x18, x19, y20, y21, y22, y23, y24, y25, y26, y27, y28, y29, y30, y31, y32, y33, y34, y35, y36, y37, y38, y39, y40, y41, y42, y43, y44, y45]) h0

theorem t92 (K : Kont) (E : PanK) (x0 x1 : Value)  : den Tryd.prog (sel (bodyOf Tryd.f92) []) (bodyQ Tryd.prog Tryd.f92.results.toList K E) #[x0, x1, undef, undef, undef, undef, undef, undef, undef, undef, undef, undef, undef, undef, undef, undef, undef, undef, undef, undef, undef, undef, undef, undef, undef, undef, undef, undef, undef, undef, undef, undef, undef, undef] =
  pv (lenV x1) fun t1 =>
  lp (fun k1 => den Tryd.prog (sel (bodyOf Tryd.f92) [1, 0, 1, 0, 0]) (thenD k1 (blk 0 (thenD (den Tryd.prog (sel (bodyOf Tryd.f92) [1, 1]) (bodyQ Tryd.prog Tryd.f92.results.toList K E)) (bodyQ Tryd.prog Tryd.f92.results.toList K E))))) #[x0, x1, undef, undef, (.bool false), undef, undef, undef, x1, t1, (.int .i64 0), undef, undef, undef, undef, undef, undef, undef, undef, undef, undef, undef, undef, undef, undef, undef, undef, undef, undef, undef, undef, undef, undef, undef] := by kernel_rfl
def m92_1_0_1_0_0 (x0 x1 x2 x3 x5 x7 x8 x9 x22 x23 x24 x25 x26 x27 x28 x29 x30 x31 x32 x33 : Value) (v10 : Value) (j : Nat → Value) : Env := #[x0, x1, x2, x3, (j 4), x5, (j 6), x7, x8, x9, v10, (j 11), (j 12), (j 13), (j 14), (j 15), (j 16), (j 17), (j 18), (j 19), (j 20), (j 21), x22, x23, x24, x25, x26, x27, x28, x29, x30, x31, x32, x33]
theorem t92_1_0_1_0_0 (K : Kont) (E : PanK) (k1 : Env → Hp → Prop) (x0 x1 x2 x3 x5 x7 x8 x9 x22 x23 x24 x25 x26 x27 x28 x29 x30 x31 x32 x33 v10 : Value) (j : Nat → Value) : den Tryd.prog (sel (bodyOf Tryd.f92) [1, 0, 1, 0, 0]) (thenD k1 (blk 0 (thenD (den Tryd.prog (sel (bodyOf Tryd.f92) [1, 1]) (bodyQ Tryd.prog Tryd.f92.results.toList K E)) (bodyQ Tryd.prog Tryd.f92.results.toList K E)))) (m92_1_0_1_0_0 x0 x1 x2 x3 x5 x7 x8 x9 x22 x23 x24 x25 x26 x27 x28 x29 x30 x31 x32 x33 v10 j) =
  pv (binV .none .lss v10 x9) fun t1 =>
  cnd t1 (
    pv (iaV none 1 x8 v10) fun t2 =>
    ld false 1 t2 fun t3 =>
    pv (lenV t3) fun t4 =>
    pv (iaV none 1 x1 (.int .i64 0)) fun t5 =>
    ld false 1 t5 fun t6 =>
    pv (lenV t6) fun t7 =>
    pv (binV .none .neq t4 t7) fun t8 =>
    cnd t8 (
      K (.bool false)) (
      pv (binV .none .add v10 (.int .i64 1)) fun t9 =>
      k1 (m92_1_0_1_0_0 x0 x1 x2 x3 x5 x7 x8 x9 x22 x23 x24 x25 x26 x27 x28 x29 x30 x31 x32 x33 t9 (jf #[x0, x1, x2, x3, (j 4), x5, t3, x7, x8, x9, t9, t1, t2, t3, t3, t4, x1, t5, t6, t7, t8, t9, x22, x23, x24, x25, x26, x27, x28, x29, x30, x31, x32, x33])))) (
    den Tryd.prog (sel (bodyOf Tryd.f92) [1, 1]) (bodyQ Tryd.prog Tryd.f92.results.toList K E) #[x0, x1, x2, x3, (j 4), x5, (j 6), x7, x8, x9, v10, t1, (j 12), (j 13), (j 14), (j 15), (j 16), (j 17), (j 18), (j 19), (j 20), (j 21), x22, x23, x24, x25, x26, x27, x28, x29, x30, x31, x32, x33]) := by kernel_rfl
theorem t92_1_1 (K : Kont) (E : PanK) (x0 x1 x2 x3 x4 x5 x6 x7 x8 x9 x10 x11 x12 x13 x14 x15 x16 x17 x18 x19 x20 x21 x22 x23 x24 x25 x26 x27 x28 x29 x30 x31 x32 x33 : Value)  : den Tryd.prog (sel (bodyOf Tryd.f92) [1, 1]) (bodyQ Tryd.prog Tryd.f92.results.toList K E) #[x0, x1, x2, x3, x4, x5, x6, x7, x8, x9, x10, x11, x12, x13, x14, x15, x16, x17, x18, x19, x20, x21, x22, x23, x24, x25, x26, x27, x28, x29, x30, x31, x32, x33] =
  pv (iaV none 1 x1 (.int .i64 0)) fun t1 =>
  ld false 1 t1 fun t2 =>
  pv (lenV t2) fun t3 =>
  lp (fun k1 => den Tryd.prog (sel (bodyOf Tryd.f92) [1, 1, 0, 1, 0, 0]) (thenD k1 (blk 2 (thenD (den Tryd.prog (sel (bodyOf Tryd.f92) [1, 1, 1]) (bodyQ Tryd.prog Tryd.f92.results.toList K E)) (bodyQ Tryd.prog Tryd.f92.results.toList K E))))) #[x0, x1, x2, x3, x4, x5, x6, x7, x8, x9, x10, x11, x12, x13, x14, x15, x16, x17, x18, x19, x20, x21, x1, t1, t2, t3, (.int .i64 0), x27, x28, x29, x30, x31, x32, x33] := by kernel_rfl
def m92_1_1_0_1_0_0 (x0 x1 x2 x3 x5 x6 x8 x9 x10 x11 x12 x13 x14 x15 x16 x17 x18 x19 x20 x21 x22 x23 x24 x25 : Value) (v26 : Value) (j : Nat → Value) : Env := #[x0, x1, x2, x3, (j 4), x5, x6, (j 7), x8, x9, x10, x11, x12, x13, x14, x15, x16, x17, x18, x19, x20, x21, x22, x23, x24, x25, v26, (j 27), (j 28), (j 29), (j 30), (j 31), (j 32), (j 33)]
theorem t92_1_1_0_1_0_0 (K : Kont) (E : PanK) (k1 : Env → Hp → Prop) (x0 x1 x2 x3 x5 x6 x8 x9 x10 x11 x12 x13 x14 x15 x16 x17 x18 x19 x20 x21 x22 x23 x24 x25 v26 : Value) (j : Nat → Value) : den Tryd.prog (sel (bodyOf Tryd.f92) [1, 1, 0, 1, 0, 0]) (thenD k1 (blk 2 (thenD (den Tryd.prog (sel (bodyOf Tryd.f92) [1, 1, 1]) (bodyQ Tryd.prog Tryd.f92.results.toList K E)) (bodyQ Tryd.prog Tryd.f92.results.toList K E)))) (m92_1_1_0_1_0_0 x0 x1 x2 x3 x5 x6 x8 x9 x10 x11 x12 x13 x14 x15 x16 x17 x18 x19 x20 x21 x22 x23 x24 x25 v26 j) =
  pv (binV .none .lss v26 x25) fun t1 =>
  cnd t1 (
    callv Tryd.prog x0 #[v26] (fun t2 =>
    pv (unV .not t2) fun t3 =>
    cnd t3 (
      K (.bool false)) (
      pv (binV .none .add v26 (.int .i64 1)) fun t4 =>
      k1 (m92_1_1_0_1_0_0 x0 x1 x2 x3 x5 x6 x8 x9 x10 x11 x12 x13 x14 x15 x16 x17 x18 x19 x20 x21 x22 x23 x24 x25 t4 (jf #[x0, x1, x2, x3, (j 4), x5, x6, v26, x8, x9, x10, x11, x12, x13, x14, x15, x16, x17, x18, x19, x20, x21, x22, x23, x24, x25, t4, t1, v26, x0, v26, t2, t3, t4])))) E) (
    den Tryd.prog (sel (bodyOf Tryd.f92) [1, 1, 1]) (bodyQ Tryd.prog Tryd.f92.results.toList K E) #[x0, x1, x2, x3, (j 4), x5, x6, (j 7), x8, x9, x10, x11, x12, x13, x14, x15, x16, x17, x18, x19, x20, x21, x22, x23, x24, x25, v26, t1, (j 28), (j 29), (j 30), (j 31), (j 32), (j 33)]) := by kernel_rfl
theorem t92_1_1_1 (K : Kont) (E : PanK) (x0 x1 x2 x3 x4 x5 x6 x7 x8 x9 x10 x11 x12 x13 x14 x15 x16 x17 x18 x19 x20 x21 x22 x23 x24 x25 x26 x27 x28 x29 x30 x31 x32 x33 : Value)  : den Tryd.prog (sel (bodyOf Tryd.f92) [1, 1, 1]) (bodyQ Tryd.prog Tryd.f92.results.toList K E) #[x0, x1, x2, x3, x4, x5, x6, x7, x8, x9, x10, x11, x12, x13, x14, x15, x16, x17, x18, x19, x20, x21, x22, x23, x24, x25, x26, x27, x28, x29, x30, x31, x32, x33] =
  K (.bool true) := by kernel_rfl
theorem l92_1_0_1_0_0 {K : Kont} {E : PanK} {σ : Type} {x0 x1 x2 x3 x5 x7 x8 x9 x22 x23 x24 x25 x26 x27 x28 x29 x30 x31 x32 x33 v10 y4 y6 y11 y12 y13 y14 y15 y16 y17 y18 y19 y20 y21 : Value} {h : Hp} (f10 : σ → Value) (I : σ → Hp → Prop) (μ : σ → Nat) (s0 : σ) (e10 : v10 = f10 s0) (h0 : h.wf → ∃ h', h.wk h' ∧ I s0 h')
  (round : ∀ (k1 : Env → Hp → Prop) (s : σ) (j : Nat → Value) (h : Hp), I s h → h.wf → (∀ s' j' h', μ s' < μ s → (h'.wf → ∃ h'', h'.wk h'' ∧ I s' h'') → k1 (m92_1_0_1_0_0 x0 x1 x2 x3 x5 x7 x8 x9 x22 x23 x24 x25 x26 x27 x28 x29 x30 x31 x32 x33 (f10 s') j') h') → (
  pv (binV .none .lss (f10 s) x9) fun t1 =>
  cnd t1 (
    pv (iaV none 1 x8 (f10 s)) fun t2 =>
    ld false 1 t2 fun t3 =>
    pv (lenV t3) fun t4 =>
    pv (iaV none 1 x1 (.int .i64 0)) fun t5 =>
    ld false 1 t5 fun t6 =>
    pv (lenV t6) fun t7 =>
    pv (binV .none .neq t4 t7) fun t8 =>
    cnd t8 (
      K (.bool false)) (
      pv (binV .none .add (f10 s) (.int .i64 1)) fun t9 =>
      k1 (m92_1_0_1_0_0 x0 x1 x2 x3 x5 x7 x8 x9 x22 x23 x24 x25 x26 x27 x28 x29 x30 x31 x32 x33 t9 (jf #[x0, x1, x2, x3, (j 4), x5, t3, x7, x8, x9, t9, t1, t2, t3, t3, t4, x1, t5, t6, t7, t8, t9, x22, x23, x24, x25, x26, x27, x28, x29, x30, x31, x32, x33])))) (
    den Tryd.prog (sel (bodyOf Tryd.f92) [1, 1]) (bodyQ Tryd.prog Tryd.f92.results.toList K E) #[x0, x1, x2, x3, (j 4), x5, (j 6), x7, x8, x9, (f10 s), t1, (j 12), (j 13), (j 14), (j 15), (j 16), (j 17), (j 18), (j 19), (j 20), (j 21), x22, x23, x24, x25, x26, x27, x28, x29, x30, x31, x32, x33])) h) :
  lp (fun k1 => den Tryd.prog (sel (bodyOf Tryd.f92) [1, 0, 1, 0, 0]) (thenD k1 (blk 0 (thenD (den Tryd.prog (sel (bodyOf Tryd.f92) [1, 1]) (bodyQ Tryd.prog Tryd.f92.results.toList K E)) (bodyQ Tryd.prog Tryd.f92.results.toList K E))))) #[x0, x1, x2, x3, y4, x5, y6, x7, x8, x9, v10, y11, y12, y13, y14, y15, y16, y17, y18, y19, y20, y21, x22, x23, x24, x25, x26, x27, x28, x29, x30, x31, x32, x33] h := by
  subst e10
  have e : (#[x0, x1, x2, x3, y4, x5, y6, x7, x8, x9, (f10 s0), y11, y12, y13, y14, y15, y16, y17, y18, y19, y20, y21, x22, x23, x24, x25, x26, x27, x28, x29, x30, x31, x32, x33] : Env) = m92_1_0_1_0_0 x0 x1 x2 x3 x5 x7 x8 x9 x22 x23 x24 x25 x26 x27 x28 x29 x30 x31 x32 x33 (f10 s0) (jf #[x0, x1, x2, x3, y4, x5, y6, x7, x8, x9, (f10 s0), y11, y12, y13, y14, y15, y16, y17, y18, y19, y20, y21, x22, x23, x24, x25, x26, x27, x28, x29, x30, x31, x32, x33]) := by kernel_rfl
  rw [e]
  exact loop_r (fun s j => m92_1_0_1_0_0 x0 x1 x2 x3 x5 x7 x8 x9 x22 x23 x24 x25 x26 x27 x28 x29 x30 x31 x32 x33 (f10 s) j) I μ (fun k s j h hI hw next => by rw [t92_1_0_1_0_0]; exact round k s j h hI hw next) s0 (jf #[x0, x1, x2, x3, y4, x5, y6, x7, x8, x9, (f10 s0), y11, y12, y13, y14, y15, y16, y17, y18, y19, y20, y21, x22, x23, x24, x25, x26, x27, x28, x29, x30, x31, x32, x33]) h0
theorem l92_1_1_0_1_0_0 {K : Kont} {E : PanK} {σ : Type} {x0 x1 x2 x3 x5 x6 x8 x9 x10 x11 x12 x13 x14 x15 x16 x17 x18 x19 x20 x21 x22 x23 x24 x25 v26 y4 y7 y27 y28 y29 y30 y31 y32 y33 : Value} {h : Hp} (f26 : σ → Value) (I : σ → Hp → Prop) (μ : σ → Nat) (s0 : σ) (e26 : v26 = f26 s0) (h0 : h.wf → ∃ h', h.wk h' ∧ I s0 h')
  (round : ∀ (k1 : Env → Hp → Prop) (s : σ) (j : Nat → Value) (h : Hp), I s h → h.wf → (∀ s' j' h', μ s' < μ s → (h'.wf → ∃ h'', h'.wk h'' ∧ I s' h'') → k1 (m92_1_1_0_1_0_0 x0 x1 x2 x3 x5 x6 x8 x9 x10 x11 x12 x13 x14 x15 x16 x17 x18 x19 x20 x21 x22 x23 x24 x25 (f26 s') j') h') → (
  pv (binV .none .lss (f26 s) x25) fun t1 =>
  cnd t1 (
    callv Tryd.prog x0 #[(f26 s)] (fun t2 =>
    pv (unV .not t2) fun t3 =>
    cnd t3 (
      K (.bool false)) (
      pv (binV .none .add (f26 s) (.int .i64 1)) fun t4 =>
      k1 (m92_1_1_0_1_0_0 x0 x1 x2 x3 x5 x6 x8 x9 x10 x11 x12 x13 x14 x15 x16 x17 x18 x19 x20 x21 x22 x23 x24 x25 t4 (jf #[x0, x1, x2, x3, (j 4), x5, x6, (f26 s), x8, x9, x10, x11, x12, x13, x14, x15, x16, x17, x18, x19, x20, x21, x22, x23, x24, x25, t4, t1, (f26 s), x0, (f26 s), t2, t3, t4])))) E) (
    den Tryd.prog (sel (bodyOf Tryd.f92) [1, 1, 1]) (bodyQ Tryd.prog Tryd.f92.results.toList K E) #[x0, x1, x2, x3, (j 4), x5, x6, (j 7), x8, x9, x10, x11, x12, x13, x14, x15, x16, x17, x18, x19, x20, x21, x22, x23, x24, x25, (f26 s), t1, (j 28), (j 29), (j 30), (j 31), (j 32), (j 33)])) h) :
  lp (fun k1 => den Tryd.prog (sel (bodyOf Tryd.f92) [1, 1, 0, 1, 0, 0]) (thenD k1 (blk 2 (thenD (den Tryd.prog (sel (bodyOf Tryd.f92) [1, 1, 1]) (bodyQ Tryd.prog Tryd.f92.results.toList K E)) (bodyQ Tryd.prog Tryd.f92.results.toList K E))))) #[x0, x1, x2, x3, y4, x5, x6, y7, x8, x9, x10, x11, x12, x13, x14, x15, x16, x17, x18, x19, x20, x21, x22, x23, x24, x25, v26, y27, y28, y29, y30, y31, y32, y33] h := by
  subst e26
  have e : (#[x0, x1, x2, x3, y4, x5, x6, y7, x8, x9, x10, x11, x12, x13, x14, x15, x16, x17, x18, x19, x20, x21, x22, x23, x24, x25, (f26 s0), y27, y28, y29, y30, y31, y32, y33] : Env) = m92_1_1_0_1_0_0 x0 x1 x2 x3 x5 x6 x8 x9 x10 x11 x12 x13 x14 x15 x16 x17 x18 x19 x20 x21 x22 x23 x24 x25 (f26 s0) (jf #[x0, x1, x2, x3, y4, x5, x6, y7, x8, x9, x10, x11, x12, x13, x14, x15, x16, x17, x18, x19, x20, x21, x22, x23, x24, x25, (f26 s0), y27, y28, y29, y30, y31, y32, y33]) := by kernel_rfl
  rw [e]
  exact loop_r (fun s j => m92_1_1_0_1_0_0 x0 x1 x2 x3 x5 x6 x8 x9 x10 x11 x12 x13 x14 x15 x16 x17 x18 x19 x20 x21 x22 x23 x24 x25 (f26 s) j) I μ (fun k s j h hI hw next => by rw [t92_1_1_0_1_0_0]; exact round k s j h hI hw next) s0 (jf #[x0, x1, x2, x3, y4, x5, x6, y7, x8, x9, x10, x11, x12, x13, x14, x15, x16, x17, x18, x19, x20, x21, x22, x23, x24, x25, (f26 s0), y27, y28, y29, y30, y31, y32, y33]) h0

theorem t93 (K : Kont) (E : PanK) (x0 x1 x2 x3 : Value)  : den Tryd.prog (sel (bodyOf Tryd.f93) []) (bodyQ Tryd.prog Tryd.f93.results.toList K E) #[x0, x1, x2, x3, undef, undef, undef, undef, undef, undef, undef, undef, undef, undef, undef, undef, undef, undef, undef, undef, undef, undef, undef, undef, undef, undef, undef, undef, undef, undef, undef, undef, undef, undef] =
  ld false 1 x1 fun t1 =>
  pv (iaV none 1 t1 x0) fun t2 =>
  ld false 1 t2 fun t3 =>
  pv (binV .none .geq t3 (.int .i64 0)) fun t4 =>
  gdK t4 true (fun k => ld false 1 x1 k) fun t5 =>
  gdK t4 true (fun k => k x0) fun t6 =>
  gdK t4 true (fun k => pv (iaV none 1 t5 t6) k) fun t7 =>
  gdK t4 true (fun k => ld false 1 t7 k) fun t8 =>
  gdK t4 true (fun k => ld false 1 x2 k) fun t9 =>
  gdK t4 true (fun k => k x0) fun t10 =>
  gdK t4 true (fun k => pv (iaV none 1 t9 t10) k) fun t11 =>
  gdK t4 true (fun k => ld false 1 t11 k) fun t12 =>
  gdK t4 true (fun k => pv (binV .none .leq t8 t12) k) fun t13 =>
  pv (pickV t4 t13 (.bool false)) fun t14 =>
  gdK t14 true (fun k => ld false 1 x2 k) fun t15 =>
  gdK t14 true (fun k => k x0) fun t16 =>
  gdK t14 true (fun k => pv (iaV none 1 t15 t16) k) fun t17 =>
  gdK t14 true (fun k => ld false 1 t17 k) fun t18 =>
  gdK t14 true (fun k => ld false 1 x3 k) fun t19 =>
  gdK t14 true (fun k => k x0) fun t20 =>
  gdK t14 true (fun k => pv (iaV none 2 t19 t20) k) fun t21 =>
  gdK t14 true (fun k => pv (faV 0 t21) k) fun t22 =>
  gdK t14 true (fun k => ld false 1 t22 k) fun t23 =>
  gdK t14 true (fun k => pv (binV .none .leq t18 t23) k) fun t24 =>
  pv (pickV t14 t24 (.bool false)) fun t25 =>
  K t25 := by kernel_rfl

theorem t102 (K : Kont) (E : PanK) (x0 x1 x2 x3 : Value)  : den Tryd.prog (sel (bodyOf Tryd.f102) []) (bodyQ Tryd.prog Tryd.f102.results.toList K E) #[x0, x1, x2, x3, undef, undef, undef, undef, undef, undef, undef, undef, undef, undef, undef, undef, undef, undef, undef, undef, undef, undef, undef, undef, undef, undef] =
  ld false 1 x1 fun t1 =>
  pv (iaV none 1 t1 x0) fun t2 =>
  ld false 1 t2 fun t3 =>
  ld false 1 x2 fun t4 =>
  pv (iaV none 1 t4 x0) fun t5 =>
  ld false 1 t5 fun t6 =>
  pv (binV .none .geq t3 t6) fun t7 =>
  gdK t7 true (fun k => ld false 1 x1 k) fun t8 =>
  gdK t7 true (fun k => k x0) fun t9 =>
  gdK t7 true (fun k => pv (iaV none 1 t8 t9) k) fun t10 =>
  gdK t7 true (fun k => ld false 1 t10 k) fun t11 =>
  gdK t7 true (fun k => ld false 1 x3 k) fun t12 =>
  gdK t7 true (fun k => k x0) fun t13 =>
  gdK t7 true (fun k => pv (iaV none 1 t12 t13) k) fun t14 =>
  gdK t7 true (fun k => ld false 1 t14 k) fun t15 =>
  gdK t7 true (fun k => pv (binV .none .lss t11 t15) k) fun t16 =>
  pv (pickV t7 t16 (.bool false)) fun t17 =>
  K t17 := by kernel_rfl

end Go.Proofs.YthpacapdaembpaaDoor.T
open Go Go.RowKit Go.Proofs.YthpacapdaembpaaDoor.K Go.Proofs.YthpacapdaembpaaDoor.T
set_option linter.unusedVariables false
set_option linter.unusedSimpArgs false
namespace Go.Proofs.YthpacapdaembpaaDoor.A
variable {F F' : Nat → Option (List Value)} {M M' : Nat → Option Chunk} {N N' : Nat} {K : Kont} {E : PanK}
theorem all_range_no {p : Nat → Bool} {n i : Nat} (hi : i < n) (h : p i = false) : (List.range n).all p = false := by
  rw [List.all_eq_false]
  exact ⟨i, List.mem_range.2 hi, by simp [h]⟩
theorem all_range_succ {p : Nat → Bool} {i : Nat} (h : (List.range i).all p = true) (hp : p i = true) : (List.range (i + 1)).all p = true := by
  rw [List.range_succ, List.all_append, h]; simp [hp]
/-- dice.every -/
theorem every_c {v fv : Value} {ls : List (List Int)} {p : Nat → Bool} {n : Nat} (hv : kksD .i64 F v ls) (hl : ls.length ≤ 1000000) (h0 : 0 < ls.length) (hn : ls[0].length = n) (hnl : n ≤ 140737488351232)
    (hf : (∀ x ∈ ls, x.length = n) → ∀ {K : Kont} (N1 i : Nat), N ≤ N1 → i < n → (∀ N', N1 ≤ N' → (Hp.mk F M N').wf → K (.bool (p i)) ⟨F, M, N'⟩) → callv Tryd.prog fv #[.int .i64 (i : Nat)] K E ⟨F, M, N1⟩)
    (k : ∀ N', N ≤ N' → (Hp.mk F M N').wf → K (.bool ((ls.all fun x => decide (x.length = n)) && (List.range n).all p)) ⟨F, M, N'⟩) :
    callv Tryd.prog (.func (.func 92) #[] #[]) #[fv, v] K E ⟨F, M, N⟩ := by
  refine callv_of_text mixed Tryd.func92 (by kernel_rfl) (t92 _ E _ _) (fun hw => ?_)
  have hlv : lenV v = some (.int .i64 (ls.length : Nat)) := by obtain ⟨rows, h1, _⟩ := hv; obtain ⟨a, c, rfl, _⟩ := h1.form; rfl
  have fin : ∀ v', v' = ((ls.all fun x => decide (x.length = n)) && (List.range n).all p) → ∀ N', N ≤ N' → ∀ h', h' = (⟨F, M, N'⟩ : Hp) → h'.wf → ∃ h'', h'.wk h'' ∧ (h''.wf → K (.bool v') h'') := fun v' e N' hN h' e' hc => by
    subst e; subst e'
    exact ⟨_, wk_refl hc, fun hw' => k _ hN hw'⟩
  try simp only [hlv]
  try simp only [gdTT, gdFF, gdTF, gdFT, pvS, pickT, pickF, faP, lenS, capS, nilP, exA, exB, exC, notB, cndT, cndF, Bool.not_true, Bool.not_false, Nat.zero_add, Nat.add_zero]
  refine l92_1_0_1_0_0 (σ := Nat) (fun i => .int .i64 (i : Nat)) (fun i h => h = ⟨F, M, N⟩ ∧ i ≤ ls.length ∧ ∀ x ∈ ls.take i, x.length = n) (fun i => ls.length - i) 0 rfl
    (fun hw1 => ⟨_, wk_refl hw1, rfl, Nat.zero_le _, by simp⟩) (fun k1 i j h1 hI hw1 next => ?_)
  obtain ⟨rfl, hi, he⟩ := hI
  refine lss_r (fun hlt => ?_) (fun hge => ?_)
  · have h1 : i < ls.length := by omega
    try simp only [gdTT, gdFF, gdTF, gdFT, pvS, pickT, pickF, faP, lenS, capS, nilP, exA, exB, exC, notB, cndT, cndF, Bool.not_true, Bool.not_false, Nat.zero_add, Nat.add_zero]
    refine kk_r hv h1 fun q u hu hul => lenF_r hu ?_
    refine kk_r (i := 0) hv h0 fun q' u' hu' hul' => lenF_r hu' ?_
    refine neq_r (fun h2 => ?_) (fun h2 => ?_)
    · try simp only [gdTT, gdFF, gdTF, gdFT, pvS, pickT, pickF, faP, lenS, capS, nilP, exA, exB, exC, notB, cndT, cndF, Bool.not_true, Bool.not_false, Nat.zero_add, Nat.add_zero]
      refine fin _ ?_ _ (Nat.le_refl _) _ rfl
      have : (ls.all fun x => decide (x.length = n)) = false := by
        rw [List.all_eq_false]
        exact ⟨ls[i], List.getElem_mem _, by rw [decide_eq_false (by omega)]; simp⟩
      rw [this]; rfl
    · try simp only [gdTT, gdFF, gdTF, gdFT, pvS, pickT, pickF, faP, lenS, capS, nilP, exA, exB, exC, notB, cndT, cndF, Bool.not_true, Bool.not_false, Nat.zero_add, Nat.add_zero]
      refine inc_r (by omega) ?_
      refine next (i + 1) _ _ (by omega) (fun hw2 => ⟨_, wk_refl hw2, rfl, h1, fun x hx => ?_⟩)
      rw [List.take_add_one, List.getElem?_eq_getElem h1] at hx
      rcases List.mem_append.1 hx with hx | hx
      · exact he x hx
      · simp at hx; rw [hx]; omega
  · try simp only [gdTT, gdFF, gdTF, gdFT, pvS, pickT, pickF, faP, lenS, capS, nilP, exA, exB, exC, notB, cndT, cndF, Bool.not_true, Bool.not_false, Nat.zero_add, Nat.add_zero]
    rw [t92_1_1]
    rw [List.take_of_length_le (by omega)] at he
    have hall : (ls.all fun x => decide (x.length = n)) = true := List.all_eq_true.2 fun x hx => decide_eq_true (he x hx)
    rw [hall, Bool.true_and] at fin
    refine kk_r (i := 0) hv h0 fun q' u' hu' hul' => lenF_r hu' ?_
    rw [hn]
    refine l92_1_1_0_1_0_0 (σ := Nat) (fun i => .int .i64 (i : Nat)) (fun i h => ∃ N', h = ⟨F, M, N'⟩ ∧ N ≤ N' ∧ i ≤ n ∧ (List.range i).all p = true) (fun i => n - i) 0 rfl
      (fun hw1 => ⟨_, wk_refl hw1, N, rfl, Nat.le_refl _, Nat.zero_le _, rfl⟩) (fun k1 i j h1 hI hw1 next => ?_)
    obtain ⟨N1, rfl, hN1, hi2, hp⟩ := hI
    refine lss_r (fun hlt => ?_) (fun hge => ?_)
    · have h1 : i < n := by omega
      try simp only [gdTT, gdFF, gdTF, gdFT, pvS, pickT, pickF, faP, lenS, capS, nilP, exA, exB, exC, notB, cndT, cndF, Bool.not_true, Bool.not_false, Nat.zero_add, Nat.add_zero]
      refine hf he N1 i hN1 h1 (fun N2 hN2 hw2 => ?_)
      cases hpi : p i
      · try simp only [gdTT, gdFF, gdTF, gdFT, pvS, pickT, pickF, faP, lenS, capS, nilP, exA, exB, exC, notB, cndT, cndF, Bool.not_true, Bool.not_false, Nat.zero_add, Nat.add_zero]
        exact fin _ (all_range_no h1 hpi).symm _ (by omega) _ rfl
      · try simp only [gdTT, gdFF, gdTF, gdFT, pvS, pickT, pickF, faP, lenS, capS, nilP, exA, exB, exC, notB, cndT, cndF, Bool.not_true, Bool.not_false, Nat.zero_add, Nat.add_zero]
        refine inc_r (by omega) ?_
        exact next (i + 1) _ _ (by omega) (fun hw3 => ⟨_, wk_refl hw3, N2, rfl, by omega, h1, all_range_succ hp hpi⟩)
    · try simp only [gdTT, gdFF, gdTF, gdFT, pvS, pickT, pickF, faP, lenS, capS, nilP, exA, exB, exC, notB, cndT, cndF, Bool.not_true, Bool.not_false, Nat.zero_add, Nat.add_zero]
      rw [t92_1_1_1]
      rw [show i = n by omega] at hp
      exact fin _ hp.symm _ hN1 _ rfl
/-- Is a key in a box? -/
def withinF (lo hi key : List Int) : Bool := decide (hi.length = lo.length ∧ key.length = lo.length) && (List.range lo.length).all fun i => decide (lo.getD i 0 ≤ key.getD i 0 ∧ key.getD i 0 < hi.getD i 0)
/-- Is a box one of dimensions? -/
def boxOK (l : List Dm) (lo hi : List Int) : Bool := decide (lo.length = l.length ∧ hi.length = l.length) && (List.range lo.length).all fun i => decide (0 ≤ lo.getD i 0 ∧ lo.getD i 0 ≤ hi.getD i 0 ∧ hi.getD i 0 ≤ (l.getD i (0, [])).1)
theorem getD_at {α : Type} {l : List α} {i : Nat} (h : i < l.length) (d : α) : l.getD i d = l[i] := by rw [List.getD_eq_getElem?_getD, List.getElem?_eq_getElem h]; rfl
/-- What was handed over in a new row. -/
theorem lits_D {ks : List (List Int)} {b : Nat} {cells : List Value} (hF : F b = some cells) (hl : cells.length = ks.length) (hr : rowsF (fun r c => ∃ u, r = [u] ∧ sF F 1 u c.length (ick .i64 c) ∧ c.length ≤ 140737488351232) 1 (cells.map fun x => [x]) ks) : kksD .i64 F (.slice (some ⟨b, 0, none⟩) ks.length ks.length) ks := by
  refine ⟨_, sF_lit (cells := (cells.map fun x => [x]).flatten) ?_ ?_ (Nat.le_refl _), hr⟩
  · rw [hF]
    congr 1
    clear hF hl hr
    induction cells with
    | nil => rfl
    | cons x xs ih => simp only [List.map_cons, List.flatten_cons]; rw [← ih]; rfl
  · have := flatten_len (sz := 1) (cells.map fun x => [x]) (by simp)
    rw [this, List.length_map, hl]
theorem frzP_at {p : Nat → Prop} {b : Nat} {e : TypeId} {cs : List Value} {tot : Nat} (hp : p b) (hM : M b = some (.cells e cs tot)) : frzP F M p b = some cs := by simp [frzP, hp, hM]
/-- dice.Within$1 -/
theorem within1_c {b1 b2 b3 : Nat} {ul uh uk : Value} {lo hi key : List Int} {e1 e2 e3 : TypeId} {i : Nat} (h1 : M b1 = some (.cells e1 [ul] 1)) (h2 : M b2 = some (.cells e2 [uh] 1)) (h3 : M b3 = some (.cells e3 [uk] 1)) (hl : sF F 1 ul lo.length (ic lo)) (hh : sF F 1 uh hi.length (ic hi)) (hk : sF F 1 uk key.length (ic key)) (i1 : i < lo.length) (i2 : i < hi.length) (i3 : i < key.length)
    (k : ∀ N', N ≤ N' → (Hp.mk F M N').wf → K (.bool (decide (lo.getD i 0 ≤ key.getD i 0 ∧ key.getD i 0 < hi.getD i 0))) ⟨F, M, N'⟩) :
    callv Tryd.prog (.func (.func 102) #[] #[.pointer (some ⟨b3, 0, none⟩), .pointer (some ⟨b1, 0, none⟩), .pointer (some ⟨b2, 0, none⟩)]) #[.int .i64 (i : Nat)] K E ⟨F, M, N⟩ := by
  refine callv_of_text mixed Tryd.func102 (by kernel_rfl) (t102 _ E _ _ _ _) (fun hw => ?_)
  rw [getD_at i1, getD_at i2, getD_at i3] at k
  refine ldM (v := uk) (ixn_r hk i3 fun p => ?_)
  refine ldM (v := ul) (ixn_r hl i1 fun p => ?_)
  refine geq_r (fun h4 => ?_) (fun h4 => ?_)
  · try simp only [gdTT, gdFF, gdTF, gdFT, pvS, pickT, pickF, faP, lenS, capS, nilP, exA, exB, exC, notB, cndT, cndF, Bool.not_true, Bool.not_false, Nat.zero_add, Nat.add_zero]
    refine ldM (v := uk) (ixn_r hk i3 fun p => ?_)
    refine ldM (v := uh) (ixn_r hh i2 fun p => ?_)
    refine lss_r (fun h5 => ?_) (fun h5 => ?_)
    · try simp only [gdTT, gdFF, gdTF, gdFT, pvS, pickT, pickF, faP, lenS, capS, nilP, exA, exB, exC, notB, cndT, cndF, Bool.not_true, Bool.not_false, Nat.zero_add, Nat.add_zero]
      rw [decide_eq_true ⟨h4, h5⟩] at k
      exact fun hc => ⟨_, wk_refl hc, fun hw' => k _ (Nat.le_refl _) hw'⟩
    · try simp only [gdTT, gdFF, gdTF, gdFT, pvS, pickT, pickF, faP, lenS, capS, nilP, exA, exB, exC, notB, cndT, cndF, Bool.not_true, Bool.not_false, Nat.zero_add, Nat.add_zero]
      rw [decide_eq_false fun q => h5 q.2] at k
      exact fun hc => ⟨_, wk_refl hc, fun hw' => k _ (Nat.le_refl _) hw'⟩
  · try simp only [gdTT, gdFF, gdTF, gdFT, pvS, pickT, pickF, faP, lenS, capS, nilP, exA, exB, exC, notB, cndT, cndF, Bool.not_true, Bool.not_false, Nat.zero_add, Nat.add_zero]
    rw [decide_eq_false fun q => h4 q.1] at k
    exact fun hc => ⟨_, wk_refl hc, fun hw' => k _ (Nat.le_refl _) hw'⟩
theorem kk_row {u : Value} {c : List Int} (h : sF F 1 u c.length (ic c)) (hl : c.length ≤ 140737488351232) : ∃ w, [u] = [w] ∧ sF F 1 w c.length (ick .i64 c) ∧ c.length ≤ 140737488351232 := ⟨u, rfl, h, hl⟩
theorem sF_one {sz m : Nat} {v : Value} {cells : List Value} (h : sF F sz v m cells) : [v].length = 1 ∧ ∀ c ∈ [v], c.oneCell' = true := by
  obtain ⟨a, c, rfl, _⟩ := h.form
  exact ⟨rfl, List.all_eq_true.1 rfl⟩
/-- dice.Within -/
theorem within_c {ul uh uk : Value} {lo hi key : List Int} (hl : sF F 1 ul lo.length (ic lo)) (hh : sF F 1 uh hi.length (ic hi)) (hk : sF F 1 uk key.length (ic key)) (hll : lo.length ≤ 140737488351232) (hhl : hi.length ≤ 140737488351232) (hkl : key.length ≤ 140737488351232)
    (k : ∀ F' N', (Hp.mk F' M N').wf → subF F F' → N ≤ N' → K (.bool (withinF lo hi key)) ⟨F', M, N'⟩) :
    callv Tryd.prog (.func (.func 90) #[] #[]) #[ul, uh, uk] K E ⟨F, M, N⟩ := by
  refine callv_of_text mixed Tryd.func90 (by kernel_rfl) (t90 _ E _ _ _) (fun hw => ?_)
  have hm : clean M N := hw.m
  obtain ⟨la, lc, hlf, _⟩ := hl.form
  obtain ⟨ha, hc0, hhf, _⟩ := hh.form
  obtain ⟨ka, kc, hkf, _⟩ := hk.form
  refine nw_r (cs := [ul]) (fun b1 hb1 => ?_) (by rw [hlf]; rfl)
  refine nw_r (cs := [uh]) (fun b2 hb2 => ?_) (by rw [hhf]; rfl)
  refine nw_r (cs := [uk]) (fun b3 hb3 => ?_) (by rw [hkf]; rfl)
  refine ldM (v := ul) (ldM (v := uh) (ldM (v := uk) ?_))
  refine nws_r (cs := [ul, uh, uk]) (by rw [hlf, hhf, hkf]; kernel_rfl) (fun b4 hb4 => ?_)
  refine callv_go (fun hc => ⟨_, wk_P (p := fun q => q = b4) hc, ?_⟩)
  have hs := subF_frzP (p := fun q => q = b4) hc
  have g4 := frzP_at (F := F) (p := fun q => q = b4) rfl (upd_same (upd (upd (upd M b1 (some (.cells 37 [ul] [ul].length))) b2 (some (.cells 37 [uh] [uh].length))) b3 (some (.cells 37 [uk] [uk].length))) b4 (some (.cells 37 [ul, uh, uk] [ul, uh, uk].length)))
  generalize hM4 : upd (upd (upd (upd M b1 _) b2 _) b3 _) b4 _ = M4 at *
  have hk4 : ∀ q, q ≠ b4 → keepM M4 (fun q => ¬ q = b4) q = M4 q := fun q hq => keepM_in hq
  have g1 : keepM M4 (fun q => ¬ q = b4) b1 = some (.cells 37 [ul] 1) := (hk4 _ (by omega)).trans (by rw [← hM4]; exact (upd_ne _ _ (by omega)).trans ((upd_ne _ _ (by omega)).trans ((upd_ne _ _ (by omega)).trans (upd_same _ _ _))))
  have g2 : keepM M4 (fun q => ¬ q = b4) b2 = some (.cells 37 [uh] 1) := (hk4 _ (by omega)).trans (by rw [← hM4]; exact (upd_ne _ _ (by omega)).trans ((upd_ne _ _ (by omega)).trans (upd_same _ _ _)))
  have g3 : keepM M4 (fun q => ¬ q = b4) b3 = some (.cells 37 [uk] 1) := (hk4 _ (by omega)).trans (by rw [← hM4]; exact (upd_ne _ _ (by omega)).trans (upd_same _ _ _))
  have hMM : ∀ q, q < N → keepM M4 (fun q => ¬ q = b4) q = M q := fun q hq => (hk4 _ (by omega)).trans (by rw [← hM4]; exact (upd_ne _ _ (by omega)).trans ((upd_ne _ _ (by omega)).trans ((upd_ne _ _ (by omega)).trans (upd_ne _ _ (by omega)))))
  generalize keepM M4 (fun q => ¬ q = b4) = M5 at *
  generalize frzP F M4 (fun q => q = b4) = F5 at *
  have hl5 := hl.mono hs
  have hh5 := hh.mono hs
  have hk5 := hk.mono hs
  have hks : kksD .i64 F5 (.slice (some ⟨b4, 0, none⟩) 3 3) [lo, hi, key] := by
    have h0 := rowsF.nil (fun (r : List Value) (c : List Int) => ∃ u, r = [u] ∧ sF F5 1 u c.length (ick .i64 c) ∧ c.length ≤ 140737488351232) 1
    exact lits_D (ks := [lo, hi, key]) g4 rfl (rowsF_snoc1 (rowsF_snoc1 (rowsF_snoc1 h0 (sF_one hl5) (kk_row hl5 hll)) (sF_one hh5) (kk_row hh5 hhl)) (sF_one hk5) (kk_row hk5 hkl))
  refine every_c (n := lo.length) (p := fun i => decide (lo.getD i 0 ≤ key.getD i 0 ∧ key.getD i 0 < hi.getD i 0)) hks (by simp) (by simp) rfl hll (fun hlen K1 N1 i hN1 hi1 hK => ?_) (fun N' hN' hw' hc => ?_)
  · exact within1_c g1 g2 g3 hl5 hh5 hk5 hi1 (by rw [hlen hi (by simp)]; exact hi1) (by rw [hlen key (by simp)]; exact hi1) hK
  · refine ⟨_, frz_wf hm hMM hc, fun hw'' => ?_⟩
    have e : withinF lo hi key = (([lo, hi, key].all fun x => decide (x.length = lo.length)) && (List.range lo.length).all fun i => decide (lo.getD i 0 ≤ key.getD i 0 ∧ key.getD i 0 < hi.getD i 0)) := by
      unfold withinF
      congr 1
      simp
    have := k _ _ hw'' (hs.trans (subF_frzAll hc)) (by omega)
    rw [e] at this; exact this
end Go.Proofs.YthpacapdaembpaaDoor.A
open Go Go.RowKit Go.Proofs.YthpacapdaembpaaDoor.K Go.Proofs.YthpacapdaembpaaDoor.T
set_option linter.unusedVariables false
set_option linter.unusedSimpArgs false
namespace Go.Proofs.YthpacapdaembpaaDoor.A
variable {F F' : Nat → Option (List Value)} {M M' : Nat → Option Chunk} {N N' : Nat} {K : Kont} {E : PanK}
theorem dims_at {v : Value} {l : List Dm} {K : Value → Value → Kont} (hv : dimsD F v l) {i : Nat} (hi : i < l.length) (k : ∀ p q, K p q (.int .i64 l[i].1) ⟨F, M, N⟩) :
    pv (iaV none 2 v (.int .i64 (i : Nat))) (fun p => pv (faV 0 p) fun q => ld false 1 q (K p q)) ⟨F, M, N⟩ := by
  obtain ⟨rows, h1, h2⟩ := hv
  refine fld_r h1 h2 (by decide) hi (off := 0) (by decide) fun p q r x hR _ hx => ?_
  obtain ⟨kv, rfl, hkv, hkl⟩ := hR
  simp at hx
  subst hx
  exact k p q
/-- What is told of a place of a box. -/
def boxP (l : List Dm) (lo hi : List Int) (i : Nat) : Bool := decide (0 ≤ lo.getD i 0 ∧ lo.getD i 0 ≤ hi.getD i 0 ∧ hi.getD i 0 ≤ (l.getD i (0, [])).1)
/-- dice.Sound$1 -/
theorem dsound1_c {b1 b2 b3 : Nat} {ul uh ud : Value} {lo hi : List Int} {l : List Dm} {e1 e2 e3 : TypeId} {i : Nat} (h1 : M b1 = some (.cells e1 [ul] 1)) (h2 : M b2 = some (.cells e2 [uh] 1)) (h3 : M b3 = some (.cells e3 [ud] 1)) (hl : sF F 1 ul lo.length (ic lo)) (hh : sF F 1 uh hi.length (ic hi)) (hd : dimsD F ud l) (i1 : i < lo.length) (i2 : i < hi.length) (i3 : i < l.length)
    (k : ∀ N', N ≤ N' → (Hp.mk F M N').wf → K (.bool (boxP l lo hi i)) ⟨F, M, N'⟩) :
    callv Tryd.prog (.func (.func 93) #[] #[.pointer (some ⟨b1, 0, none⟩), .pointer (some ⟨b2, 0, none⟩), .pointer (some ⟨b3, 0, none⟩)]) #[.int .i64 (i : Nat)] K E ⟨F, M, N⟩ := by
  refine callv_of_text mixed Tryd.func93 (by kernel_rfl) (t93 _ E _ _ _ _) (fun hw => ?_)
  unfold boxP at k
  rw [getD_at i1, getD_at i2, getD_at i3] at k
  refine ldM (v := ul) (ixn_r hl i1 fun p => ?_)
  refine geq_r (fun h4 => ?_) (fun h4 => ?_)
  · try simp only [gdTT, gdFF, gdTF, gdFT, pvS, pickT, pickF, faP, lenS, capS, nilP, exA, exB, exC, notB, cndT, cndF, Bool.not_true, Bool.not_false, Nat.zero_add, Nat.add_zero]
    refine ldM (v := ul) (ixn_r hl i1 fun p => ?_)
    refine ldM (v := uh) (ixn_r hh i2 fun p => ?_)
    refine leq_r (fun h5 => ?_) (fun h5 => ?_)
    · try simp only [gdTT, gdFF, gdTF, gdFT, pvS, pickT, pickF, faP, lenS, capS, nilP, exA, exB, exC, notB, cndT, cndF, Bool.not_true, Bool.not_false, Nat.zero_add, Nat.add_zero]
      refine ldM (v := uh) (ixn_r hh i2 fun p => ?_)
      refine ldM (v := ud) (dims_at hd i3 fun p q => ?_)
      refine leq_r (fun h6 => ?_) (fun h6 => ?_)
      · try simp only [gdTT, gdFF, gdTF, gdFT, pvS, pickT, pickF, faP, lenS, capS, nilP, exA, exB, exC, notB, cndT, cndF, Bool.not_true, Bool.not_false, Nat.zero_add, Nat.add_zero]
        rw [decide_eq_true ⟨h4, h5, h6⟩] at k
        exact fun hc => ⟨_, wk_refl hc, fun hw' => k _ (Nat.le_refl _) hw'⟩
      · try simp only [gdTT, gdFF, gdTF, gdFT, pvS, pickT, pickF, faP, lenS, capS, nilP, exA, exB, exC, notB, cndT, cndF, Bool.not_true, Bool.not_false, Nat.zero_add, Nat.add_zero]
        rw [decide_eq_false fun q => h6 q.2.2] at k
        exact fun hc => ⟨_, wk_refl hc, fun hw' => k _ (Nat.le_refl _) hw'⟩
    · try simp only [gdTT, gdFF, gdTF, gdFT, pvS, pickT, pickF, faP, lenS, capS, nilP, exA, exB, exC, notB, cndT, cndF, Bool.not_true, Bool.not_false, Nat.zero_add, Nat.add_zero]
      rw [decide_eq_false fun q => h5 q.2.1] at k
      exact fun hc => ⟨_, wk_refl hc, fun hw' => k _ (Nat.le_refl _) hw'⟩
  · try simp only [gdTT, gdFF, gdTF, gdFT, pvS, pickT, pickF, faP, lenS, capS, nilP, exA, exB, exC, notB, cndT, cndF, Bool.not_true, Bool.not_false, Nat.zero_add, Nat.add_zero]
    rw [decide_eq_false fun q => h4 q.1] at k
    exact fun hc => ⟨_, wk_refl hc, fun hw' => k _ (Nat.le_refl _) hw'⟩
/-- dice.Sound -/
theorem dcsound_c {ud ul uh : Value} {l : List Dm} {lo hi : List Int} (hd : dimsD F ud l) (hl : sF F 1 ul lo.length (ic lo)) (hh : sF F 1 uh hi.length (ic hi)) (hll : lo.length ≤ 140737488351232) (hhl : hi.length ≤ 140737488351232)
    (k : ∀ F' N', (Hp.mk F' M N').wf → subF F F' → N ≤ N' → K (.bool (boxOK l lo hi)) ⟨F', M, N'⟩) :
    callv Tryd.prog (.func (.func 70) #[] #[]) #[ud, ul, uh] K E ⟨F, M, N⟩ := by
  refine callv_of_text mixed Tryd.func70 (by kernel_rfl) (t70 _ E _ _ _) (fun hw => ?_)
  have hm : clean M N := hw.m
  obtain ⟨la, lc, hlf, _⟩ := hl.form
  obtain ⟨ha, hc0, hhf, _⟩ := hh.form
  obtain ⟨da, dc, hdf⟩ := hd.form
  have hlv : lenV ul = some (.int .i64 (lo.length : Nat)) := by rw [hlf]; rfl
  have hdv : lenV ud = some (.int .i64 (l.length : Nat)) := by rw [hdf]; rfl
  refine nw_r (cs := [ud]) (fun b1 hb1 => ?_) (by rw [hdf]; rfl)
  refine nw_r (cs := [ul]) (fun b2 hb2 => ?_) (by rw [hlf]; rfl)
  refine nw_r (cs := [uh]) (fun b3 hb3 => ?_) (by rw [hhf]; rfl)
  refine ldM (v := ul) ?_
  refine pv_r hlv ?_
  refine ldM (v := ud) (pv_r hdv ?_)
  refine eql_r (fun hq => ?_) (fun hq => ?_)
  · try simp only [gdTT, gdFF, gdTF, gdFT, pvS, pickT, pickF, faP, lenS, capS, nilP, exA, exB, exC, notB, cndT, cndF, Bool.not_true, Bool.not_false, Nat.zero_add, Nat.add_zero]
    refine ldM (v := ul) (ldM (v := uh) ?_)
    refine nws_r (cs := [ul, uh]) (by rw [hlf, hhf]; kernel_rfl) (fun b4 hb4 => ?_)
    refine callv_go (fun hc => ⟨_, wk_P (p := fun q => q = b4) hc, ?_⟩)
    have hs := subF_frzP (p := fun q => q = b4) hc
    have g4 := frzP_at (F := F) (p := fun q => q = b4) rfl (upd_same (upd (upd (upd M b1 (some (.cells 28 [ud] [ud].length))) b2 (some (.cells 37 [ul] [ul].length))) b3 (some (.cells 37 [uh] [uh].length))) b4 (some (.cells 37 [ul, uh] [ul, uh].length)))
    generalize hM4 : upd (upd (upd (upd M b1 _) b2 _) b3 _) b4 _ = M4 at *
    have hk4 : ∀ q, q ≠ b4 → keepM M4 (fun q => ¬ q = b4) q = M4 q := fun q hq => keepM_in hq
    have g1 : keepM M4 (fun q => ¬ q = b4) b1 = some (.cells 28 [ud] 1) := (hk4 _ (by omega)).trans (by rw [← hM4]; exact (upd_ne _ _ (by omega)).trans ((upd_ne _ _ (by omega)).trans ((upd_ne _ _ (by omega)).trans (upd_same _ _ _))))
    have g2 : keepM M4 (fun q => ¬ q = b4) b2 = some (.cells 37 [ul] 1) := (hk4 _ (by omega)).trans (by rw [← hM4]; exact (upd_ne _ _ (by omega)).trans ((upd_ne _ _ (by omega)).trans (upd_same _ _ _)))
    have g3 : keepM M4 (fun q => ¬ q = b4) b3 = some (.cells 37 [uh] 1) := (hk4 _ (by omega)).trans (by rw [← hM4]; exact (upd_ne _ _ (by omega)).trans (upd_same _ _ _))
    have hMM : ∀ q, q < N → keepM M4 (fun q => ¬ q = b4) q = M q := fun q hq => (hk4 _ (by omega)).trans (by rw [← hM4]; exact (upd_ne _ _ (by omega)).trans ((upd_ne _ _ (by omega)).trans ((upd_ne _ _ (by omega)).trans (upd_ne _ _ (by omega)))))
    generalize keepM M4 (fun q => ¬ q = b4) = M5 at *
    generalize frzP F M4 (fun q => q = b4) = F5 at *
    have hl5 := hl.mono hs
    have hh5 := hh.mono hs
    have hd5 := hd.mono hs
    have hks : kksD .i64 F5 (.slice (some ⟨b4, 0, none⟩) 2 2) [lo, hi] := by
      have h0 := rowsF.nil (fun (r : List Value) (c : List Int) => ∃ u, r = [u] ∧ sF F5 1 u c.length (ick .i64 c) ∧ c.length ≤ 140737488351232) 1
      exact lits_D (ks := [lo, hi]) g4 rfl (rowsF_snoc1 (rowsF_snoc1 h0 (sF_one hl5) (kk_row hl5 hll)) (sF_one hh5) (kk_row hh5 hhl))
    refine every_c (n := lo.length) (p := boxP l lo hi) hks (by simp) (by simp) rfl hll (fun hlen K1 N1 i hN1 hi1 hK => ?_) (fun N' hN' hw' => ?_)
    · exact dsound1_c g2 g3 g1 hl5 hh5 hd5 hi1 (by rw [hlen hi (by simp)]; exact hi1) (by omega) hK
    · try simp only [gdTT, gdFF, gdTF, gdFT, pvS, pickT, pickF, faP, lenS, capS, nilP, exA, exB, exC, notB, cndT, cndF, Bool.not_true, Bool.not_false, Nat.zero_add, Nat.add_zero]
      refine fun hc => ⟨_, frz_wf hm hMM hc, fun hw'' => ?_⟩
      have e : boxOK l lo hi = (([lo, hi].all fun x => decide (x.length = lo.length)) && (List.range lo.length).all (boxP l lo hi)) := by
        have e0 : decide (lo.length = l.length ∧ hi.length = l.length) = decide (hi.length = lo.length) := decide_eq_decide.2 ⟨fun q => by omega, fun q => by omega⟩
        unfold boxOK boxP
        rw [e0]
        congr 1
        simp
      have := k _ _ hw'' (hs.trans (subF_frzAll hc)) (by omega)
      rw [e] at this; exact this
  · try simp only [gdTT, gdFF, gdTF, gdFT, pvS, pickT, pickF, faP, lenS, capS, nilP, exA, exB, exC, notB, cndT, cndF, Bool.not_true, Bool.not_false, Nat.zero_add, Nat.add_zero]
    refine fun hc => ⟨⟨F, M, b3 + 1⟩, wk_drop hc (subM_drop (subM_drop (subM_drop (subM_refl _) (hm _ (by omega))) (hm _ (by omega))) (hm _ (by omega))), fun hw' => ?_⟩
    have e : boxOK l lo hi = false := by unfold boxOK; rw [decide_eq_false (by omega)]; rfl
    have := k _ _ hw' (subF.refl _) (by omega)
    rw [e] at this; exact this
/-- Sound of boxes, of the reference -/
theorem rcsound_c {ud ul uh : Value} {l : List Dm} {lo hi : List Int} (hd : dimsD F ud l) (hl : sF F 1 ul lo.length (ic lo)) (hh : sF F 1 uh hi.length (ic hi)) (hdl : l.length ≤ 140737488351232)
    (k : ∀ N', N ≤ N' → (Hp.mk F M N').wf → K (.bool (boxOK l lo hi)) ⟨F, M, N'⟩) :
    callv Tryd.prog (.func (.func 72) #[] #[]) #[ud, ul, uh] K E ⟨F, M, N⟩ := by
  refine callv_of_text mixed Tryd.func72 (by kernel_rfl) (t72 _ E _ _ _) (fun hw => ?_)
  have hlv : lenV ul = some (.int .i64 (lo.length : Nat)) := by obtain ⟨a, c, rfl, _⟩ := hl.form; rfl
  have hhv : lenV uh = some (.int .i64 (hi.length : Nat)) := by obtain ⟨a, c, rfl, _⟩ := hh.form; rfl
  have hdv : lenV ud = some (.int .i64 (l.length : Nat)) := by obtain ⟨a, c, rfl⟩ := hd.form; rfl
  have fin : ∀ v', v' = boxOK l lo hi → ∀ N', N ≤ N' → ∀ h', h' = (⟨F, M, N'⟩ : Hp) → h'.wf → ∃ h'', h'.wk h'' ∧ (h''.wf → K (.bool v') h'') := fun v' e N' hN h' e' hc => by
    subst e; subst e'
    exact ⟨_, wk_refl hc, fun hw' => k _ hN hw'⟩
  refine pv_r hlv (pv_r hdv ?_)
  refine neq_r (fun h1 => ?_) (fun h1 => ?_)
  · try simp only [gdTT, gdFF, gdTF, gdFT, pvS, pickT, pickF, faP, lenS, capS, nilP, exA, exB, exC, notB, cndT, cndF, Bool.not_true, Bool.not_false, Nat.zero_add, Nat.add_zero]
    exact fin _ (by unfold boxOK; rw [decide_eq_false (by omega)]; rfl) _ (Nat.le_refl _) _ rfl
  try simp only [gdTT, gdFF, gdTF, gdFT, pvS, pickT, pickF, faP, lenS, capS, nilP, exA, exB, exC, notB, cndT, cndF, Bool.not_true, Bool.not_false, Nat.zero_add, Nat.add_zero]
  refine pv_r hhv (pv_r hdv ?_)
  refine neq_r (fun h2 => ?_) (fun h2 => ?_)
  · try simp only [gdTT, gdFF, gdTF, gdFT, pvS, pickT, pickF, faP, lenS, capS, nilP, exA, exB, exC, notB, cndT, cndF, Bool.not_true, Bool.not_false, Nat.zero_add, Nat.add_zero]
    exact fin _ (by unfold boxOK; rw [decide_eq_false (by omega)]; rfl) _ (Nat.le_refl _) _ rfl
  try simp only [gdTT, gdFF, gdTF, gdFT, pvS, pickT, pickF, faP, lenS, capS, nilP, exA, exB, exC, notB, cndT, cndF, Bool.not_true, Bool.not_false, Nat.zero_add, Nat.add_zero]
  have hb : boxOK l lo hi = (List.range l.length).all (boxP l lo hi) := by
    unfold boxOK boxP
    rw [decide_eq_true ⟨by omega, by omega⟩, Bool.true_and, show lo.length = l.length by omega]
  rw [hb] at fin
  refine l72_1_1_0_1_0_0 (σ := Nat) (fun i => .int .i64 (i : Nat)) (fun i h => h = ⟨F, M, N⟩ ∧ i ≤ l.length ∧ (List.range i).all (boxP l lo hi) = true) (fun i => l.length - i) 0 rfl
    (fun hw1 => ⟨_, wk_refl hw1, rfl, Nat.zero_le _, rfl⟩) (fun k1 i j h1 hI hw1 next => ?_)
  obtain ⟨rfl, hi', he⟩ := hI
  refine pv_r hdv ?_
  refine lss_r (fun hlt => ?_) (fun hge => ?_)
  · have i3 : i < l.length := by omega
    have i1 : i < lo.length := by omega
    have i2 : i < hi.length := by omega
    have hp : boxP l lo hi i = decide (0 ≤ lo[i] ∧ lo[i] ≤ hi[i] ∧ hi[i] ≤ l[i].1) := by
      unfold boxP
      rw [getD_at i1, getD_at i2, getD_at i3]
    try simp only [gdTT, gdFF, gdTF, gdFT, pvS, pickT, pickF, faP, lenS, capS, nilP, exA, exB, exC, notB, cndT, cndF, Bool.not_true, Bool.not_false, Nat.zero_add, Nat.add_zero]
    refine ixn_r hl i1 fun p => ?_
    refine lss_r (fun h4 => ?_) (fun h4 => ?_)
    · try simp only [gdTT, gdFF, gdTF, gdFT, pvS, pickT, pickF, faP, lenS, capS, nilP, exA, exB, exC, notB, cndT, cndF, Bool.not_true, Bool.not_false, Nat.zero_add, Nat.add_zero]
      exact fin _ (all_range_no i3 (by rw [hp]; exact decide_eq_false (by omega))).symm _ (Nat.le_refl _) _ rfl
    try simp only [gdTT, gdFF, gdTF, gdFT, pvS, pickT, pickF, faP, lenS, capS, nilP, exA, exB, exC, notB, cndT, cndF, Bool.not_true, Bool.not_false, Nat.zero_add, Nat.add_zero]
    refine ixn_r hl i1 fun p => ixn_r hh i2 fun p => ?_
    refine gtr_r (fun h5 => ?_) (fun h5 => ?_)
    · try simp only [gdTT, gdFF, gdTF, gdFT, pvS, pickT, pickF, faP, lenS, capS, nilP, exA, exB, exC, notB, cndT, cndF, Bool.not_true, Bool.not_false, Nat.zero_add, Nat.add_zero]
      exact fin _ (all_range_no i3 (by rw [hp]; exact decide_eq_false (by omega))).symm _ (Nat.le_refl _) _ rfl
    try simp only [gdTT, gdFF, gdTF, gdFT, pvS, pickT, pickF, faP, lenS, capS, nilP, exA, exB, exC, notB, cndT, cndF, Bool.not_true, Bool.not_false, Nat.zero_add, Nat.add_zero]
    refine ixn_r hh i2 fun p => dims_at hd i3 fun p q => ?_
    refine gtr_r (fun h6 => ?_) (fun h6 => ?_)
    · try simp only [gdTT, gdFF, gdTF, gdFT, pvS, pickT, pickF, faP, lenS, capS, nilP, exA, exB, exC, notB, cndT, cndF, Bool.not_true, Bool.not_false, Nat.zero_add, Nat.add_zero]
      exact fin _ (all_range_no i3 (by rw [hp]; exact decide_eq_false (by omega))).symm _ (Nat.le_refl _) _ rfl
    try simp only [gdTT, gdFF, gdTF, gdFT, pvS, pickT, pickF, faP, lenS, capS, nilP, exA, exB, exC, notB, cndT, cndF, Bool.not_true, Bool.not_false, Nat.zero_add, Nat.add_zero]
    refine inc_r (by omega) ?_
    exact next (i + 1) _ _ (by omega) (fun hw3 => ⟨_, wk_refl hw3, rfl, i3, all_range_succ he (by rw [hp]; exact decide_eq_true ⟨by omega, by omega, by omega⟩)⟩)
  · try simp only [gdTT, gdFF, gdTF, gdFT, pvS, pickT, pickF, faP, lenS, capS, nilP, exA, exB, exC, notB, cndT, cndF, Bool.not_true, Bool.not_false, Nat.zero_add, Nat.add_zero]
    rw [t72_1_1_1]
    rw [show i = l.length by omega] at he
    exact fin _ he.symm _ (Nat.le_refl _) _ rfl
/-- Within, of the reference -/
theorem rwithin_c {ul uh uk : Value} {lo hi key : List Int} (hl : sF F 1 ul lo.length (ic lo)) (hh : sF F 1 uh hi.length (ic hi)) (hk : sF F 1 uk key.length (ic key)) (hll : lo.length ≤ 140737488351232)
    (k : ∀ N', N ≤ N' → (Hp.mk F M N').wf → K (.bool (withinF lo hi key)) ⟨F, M, N'⟩) :
    callv Tryd.prog (.func (.func 91) #[] #[]) #[ul, uh, uk] K E ⟨F, M, N⟩ := by
  refine callv_of_text mixed Tryd.func91 (by kernel_rfl) (t91 _ E _ _ _) (fun hw => ?_)
  have hlv : lenV ul = some (.int .i64 (lo.length : Nat)) := by obtain ⟨a, c, rfl, _⟩ := hl.form; rfl
  have hhv : lenV uh = some (.int .i64 (hi.length : Nat)) := by obtain ⟨a, c, rfl, _⟩ := hh.form; rfl
  have hkv : lenV uk = some (.int .i64 (key.length : Nat)) := by obtain ⟨a, c, rfl, _⟩ := hk.form; rfl
  have fin : ∀ v', v' = withinF lo hi key → ∀ N', N ≤ N' → ∀ h', h' = (⟨F, M, N'⟩ : Hp) → h'.wf → ∃ h'', h'.wk h'' ∧ (h''.wf → K (.bool v') h'') := fun v' e N' hN h' e' hc => by
    subst e; subst e'
    exact ⟨_, wk_refl hc, fun hw' => k _ hN hw'⟩
  refine pv_r hlv (pv_r hhv ?_)
  refine neq_r (fun h1 => ?_) (fun h1 => ?_)
  · try simp only [gdTT, gdFF, gdTF, gdFT, pvS, pickT, pickF, faP, lenS, capS, nilP, exA, exB, exC, notB, cndT, cndF, Bool.not_true, Bool.not_false, Nat.zero_add, Nat.add_zero]
    exact fin _ (by unfold withinF; rw [decide_eq_false (by omega)]; rfl) _ (Nat.le_refl _) _ rfl
  try simp only [gdTT, gdFF, gdTF, gdFT, pvS, pickT, pickF, faP, lenS, capS, nilP, exA, exB, exC, notB, cndT, cndF, Bool.not_true, Bool.not_false, Nat.zero_add, Nat.add_zero]
  refine pv_r hlv (pv_r hkv ?_)
  refine neq_r (fun h2 => ?_) (fun h2 => ?_)
  · try simp only [gdTT, gdFF, gdTF, gdFT, pvS, pickT, pickF, faP, lenS, capS, nilP, exA, exB, exC, notB, cndT, cndF, Bool.not_true, Bool.not_false, Nat.zero_add, Nat.add_zero]
    exact fin _ (by unfold withinF; rw [decide_eq_false (by omega)]; rfl) _ (Nat.le_refl _) _ rfl
  try simp only [gdTT, gdFF, gdTF, gdFT, pvS, pickT, pickF, faP, lenS, capS, nilP, exA, exB, exC, notB, cndT, cndF, Bool.not_true, Bool.not_false, Nat.zero_add, Nat.add_zero]
  have hb : withinF lo hi key = (List.range lo.length).all fun i => decide (lo.getD i 0 ≤ key.getD i 0 ∧ key.getD i 0 < hi.getD i 0) := by
    unfold withinF
    rw [decide_eq_true ⟨by omega, by omega⟩, Bool.true_and]
  rw [hb] at fin
  refine l91_1_1_0_1_0_0 (σ := Nat) (fun i => .int .i64 (i : Nat)) (fun i h => h = ⟨F, M, N⟩ ∧ i ≤ lo.length ∧ ((List.range i).all fun i => decide (lo.getD i 0 ≤ key.getD i 0 ∧ key.getD i 0 < hi.getD i 0)) = true) (fun i => lo.length - i) 0 rfl
    (fun hw1 => ⟨_, wk_refl hw1, rfl, Nat.zero_le _, rfl⟩) (fun k1 i j h1 hI hw1 next => ?_)
  obtain ⟨rfl, hi', he⟩ := hI
  refine pv_r hlv ?_
  refine lss_r (fun hlt => ?_) (fun hge => ?_)
  · have i1 : i < lo.length := by omega
    have i2 : i < hi.length := by omega
    have i3 : i < key.length := by omega
    have hp : decide (lo.getD i 0 ≤ key.getD i 0 ∧ key.getD i 0 < hi.getD i 0) = decide (lo[i] ≤ key[i] ∧ key[i] < hi[i]) := by
      rw [getD_at i1, getD_at i2, getD_at i3]
    try simp only [gdTT, gdFF, gdTF, gdFT, pvS, pickT, pickF, faP, lenS, capS, nilP, exA, exB, exC, notB, cndT, cndF, Bool.not_true, Bool.not_false, Nat.zero_add, Nat.add_zero]
    refine ixn_r hk i3 fun p => ixn_r hl i1 fun p => ?_
    refine lss_r (fun h4 => ?_) (fun h4 => ?_)
    · try simp only [gdTT, gdFF, gdTF, gdFT, pvS, pickT, pickF, faP, lenS, capS, nilP, exA, exB, exC, notB, cndT, cndF, Bool.not_true, Bool.not_false, Nat.zero_add, Nat.add_zero]
      exact fin _ (all_range_no i1 (by rw [hp]; exact decide_eq_false (by omega))).symm _ (Nat.le_refl _) _ rfl
    try simp only [gdTT, gdFF, gdTF, gdFT, pvS, pickT, pickF, faP, lenS, capS, nilP, exA, exB, exC, notB, cndT, cndF, Bool.not_true, Bool.not_false, Nat.zero_add, Nat.add_zero]
    refine ixn_r hk i3 fun p => ixn_r hh i2 fun p => ?_
    refine geq_r (fun h5 => ?_) (fun h5 => ?_)
    · try simp only [gdTT, gdFF, gdTF, gdFT, pvS, pickT, pickF, faP, lenS, capS, nilP, exA, exB, exC, notB, cndT, cndF, Bool.not_true, Bool.not_false, Nat.zero_add, Nat.add_zero]
      exact fin _ (all_range_no i1 (by rw [hp]; exact decide_eq_false (by omega))).symm _ (Nat.le_refl _) _ rfl
    try simp only [gdTT, gdFF, gdTF, gdFT, pvS, pickT, pickF, faP, lenS, capS, nilP, exA, exB, exC, notB, cndT, cndF, Bool.not_true, Bool.not_false, Nat.zero_add, Nat.add_zero]
    refine inc_r (by omega) ?_
    exact next (i + 1) _ _ (by omega) (fun hw3 => ⟨_, wk_refl hw3, rfl, i1, all_range_succ he (by rw [hp]; exact decide_eq_true ⟨by omega, by omega⟩)⟩)
  · try simp only [gdTT, gdFF, gdTF, gdFT, pvS, pickT, pickF, faP, lenS, capS, nilP, exA, exB, exC, notB, cndT, cndF, Bool.not_true, Bool.not_false, Nat.zero_add, Nat.add_zero]
    rw [t91_1_1_1]
    rw [show i = lo.length by omega] at he
    exact fin _ he.symm _ (Nat.le_refl _) _ rfl
end Go.Proofs.YthpacapdaembpaaDoor.A
open Go Go.RowKit Go.Proofs.YthpacapdaembpaaDoor.K Go.Proofs.YthpacapdaembpaaDoor.T
set_option linter.unusedVariables false
set_option linter.unusedSimpArgs false
namespace Go.Proofs.YthpacapdaembpaaDoor.A
variable {F F' : Nat → Option (List Value)} {M M' : Nat → Option Chunk} {N N' : Nat} {K : Kont} {E : PanK}
/-- The rows whose keys are in a box. -/
def cutF (lo hi : List Int) (t : List Rw) : List Rw := t.filter fun r => withinF lo hi r.1
theorem cutF_len (lo hi : List Int) (t : List Rw) : (cutF lo hi t).length ≤ t.length := List.length_filter_le _ _
theorem cutF_t {lo hi : List Int} {t : List Rw} {i : Nat} (h : i < t.length) (hp : withinF lo hi t[i].1 = true) : cutF lo hi (t.take (i + 1)) = cutF lo hi (t.take i) ++ [t[i]] := by
  unfold cutF
  rw [List.take_add_one, List.getElem?_eq_getElem h, Option.toList_some, List.filter_append]
  simp [hp]
theorem cutF_f {lo hi : List Int} {t : List Rw} {i : Nat} (h : i < t.length) (hp : withinF lo hi t[i].1 = false) : cutF lo hi (t.take (i + 1)) = cutF lo hi (t.take i) := by
  unfold cutF
  rw [List.take_add_one, List.getElem?_eq_getElem h, Option.toList_some, List.filter_append]
  simp [hp]
set_option maxRecDepth 10000 in
/-- dice.Cut -/
theorem dcut_c {v ul uh : Value} {t : List Rw} {lo hi : List Int} (hv : tblD F v t) (hl : sF F 1 ul lo.length (ic lo)) (hh : sF F 1 uh hi.length (ic hi)) (hll : lo.length ≤ 140737488351232) (hhl : hi.length ≤ 140737488351232) (htl : t.length ≤ 1000000000) (hk : ∀ r ∈ t, r.1.length ≤ 10000000000)
    (k : ∀ v' F' N', (Hp.mk F' M N').wf → subF F F' → N ≤ N' → tblD F' v' (cutF lo hi t) → K v' ⟨F', M, N'⟩) :
    callv Tryd.prog (.func (.func 64) #[] #[]) #[v, ul, uh] K E ⟨F, M, N⟩ := by
  refine callv_of_text mixed Tryd.func64 (by kernel_rfl) (t64 _ E _ _ _) (fun hw => ?_)
  have hm : clean M N := hw.m
  obtain ⟨trs, hvs, hrs⟩ := hv
  refine lenF_r hvs ?_
  refine l64_1_1_0_1_0_0 (σ := Nat × Value) (fun s => s.2) (fun s => .int .i64 (s.1 : Nat))
    (fun s h => ∃ F' M' N' rows, h = ⟨F', M', N'⟩ ∧ subF F F' ∧ N ≤ N' ∧ (∀ q, q < N → M' q = M q) ∧ clean M' N' ∧ s.1 ≤ t.length ∧ own M' N 43 5 s.2 (cutF lo hi (t.take s.1)).length rows.flatten ∧ rowsF (rowD F') 5 rows (cutF lo hi (t.take s.1))) (fun s => t.length - s.1) (0, .slice none 0 0) rfl rfl
    (fun hw1 => ⟨_, wk_refl hw1, F, M, N, [], rfl, subF.refl _, Nat.le_refl _, fun _ _ => rfl, hm, Nat.zero_le _, own.nil, rowsF.nil _ _⟩) (fun k1 s j h1 hI hw1 next => ?_)
  obtain ⟨F1, M1, N1, rows, rfl, hF1, hN1, hM1, hm1, hi', ho, hr⟩ := hI
  have hcl := cutF_len lo hi (t.take s.1)
  rw [List.length_take] at hcl
  refine lss_r (fun hlt => ?_) (fun hge => ?_)
  · have h1 : s.1 < t.length := by omega
    try simp only [gdTT, gdFF, gdTF, gdFT, pvS, pickT, pickF, faP, lenS, capS, nilP, exA, exB, exC, notB, cndT, cndF, Bool.not_true, Bool.not_false, Nat.zero_add, Nat.add_zero]
    refine row_r (hvs.mono hF1) (hrs.mono fun _ _ h => h.mono hF1) (by decide) h1 (fun p r _ hR hrl hr1 => ?_)
    obtain ⟨kv, hre, hkv, hkl⟩ := hR
    subst hre
    refine nw_r (fun b1 hb1 => ?_)
    refine stM (cs' := kv :: t[s.1].2.cs) ?_ (upd_same _ _ _) rfl rfl hr1
    refine pv_r rfl (ldM (v := kv) ?_)
    rw [upd_upd]
    have hM2 : ∀ q, q < N → upd M1 b1 (some (.cells 43 (kv :: t[s.1].2.cs) 5)) q = M q := fun q hq => (upd_ne _ _ (by omega)).trans (hM1 q hq)
    have hb2 := upd_same M1 b1 (some (.cells 43 (kv :: t[s.1].2.cs) 5))
    have ho2 := ho.box hm1 hb1 (some (.cells 43 (kv :: t[s.1].2.cs) 5))
    refine within_c (hl.mono hF1) (hh.mono hF1) hkv hll hhl hkl (fun F2 N2 hw2 hF2 hN2 => ?_)
    have hm2 : clean (upd M1 b1 (some (.cells 43 (kv :: t[s.1].2.cs) 5))) N2 := hw2.m
    generalize upd M1 b1 _ = M2 at *
    cases hp : withinF lo hi t[s.1].1
    · try simp only [gdTT, gdFF, gdTF, gdFT, pvS, pickT, pickF, faP, lenS, capS, nilP, exA, exB, exC, notB, cndT, cndF, Bool.not_true, Bool.not_false, Nat.zero_add, Nat.add_zero]
      rw [t64_1_1_0_1_0_0_1_1_1]
      refine inc_r (by omega) ?_
      refine next (s.1 + 1, s.2) _ _ (by simp only; omega) (fun hw3 => ⟨_, wk_refl hw3, F2, M2, N2, rows, rfl, hF1.trans hF2, by omega, hM2, hm2, h1, ?_, ?_⟩)
      · simp only; rw [cutF_f h1 hp]; exact ho2
      · simp only; rw [cutF_f h1 hp]; exact hr.mono fun _ _ h => h.mono hF2
    · try simp only [gdTT, gdFF, gdTF, gdFT, pvS, pickT, pickF, faP, lenS, capS, nilP, exA, exB, exC, notB, cndT, cndF, Bool.not_true, Bool.not_false, Nat.zero_add, Nat.add_zero]
      refine ldM (v := kv) ?_ hb2
      try simp only [gdTT, gdFF, gdTF, gdFT, pvS, pickT, pickF, faP, lenS, capS, nilP, exA, exB, exC, notB, cndT, cndF, Bool.not_true, Bool.not_false, Nat.zero_add, Nat.add_zero]
      refine ldMa (vs := t[s.1].2.cs) ?_ hb2
      refine clone_f hm2 (hkv.mono hF2).sR (by have := hk _ (List.getElem_mem h1); omega) (fun kv' F3 N3 hw3 hF3 hN3 hkv' => ?_)
      refine ⟨ldV_a (row_M hb2) (by exact Nat.le_of_ble_eq_true rfl) rfl, ?_⟩
      have hrc := row_cells (c := t[s.1].2) hkv'
      obtain ⟨ak, ck, hkf, hck⟩ := hkv'.form
      refine pv_r (v := .agg (kv' :: t[s.1].2.cs).toArray) (by rw [hkf]; kernel_rfl) ?_
      refine push_r (new := kv' :: t[s.1].2.cs) ho2 hw3.m (by omega) (by rw [hkf]; kernel_rfl) hrc.1 hrc.2 (by omega) (by unfold maxLen; omega) (fun p v' M4 N4 h4 h5 h6 h7 => ?_)
      rw [t64_1_1_0_1_0_0_1_1_1]
      refine inc_r (by omega) ?_
      refine next (s.1 + 1, v') _ _ (by simp only; omega) (fun hw5 => ⟨_, wk_refl hw5, F3, M4, N4, rows ++ [kv' :: t[s.1].2.cs], rfl, (hF1.trans hF2).trans hF3, by omega, fun q hq => ?_, h7, h1, ?_, ?_⟩)
      · exact ((h5 q (fun e => by have := (ho2.ge q e).1; omega) (by omega)).1).trans (hM2 q hq)
      · simp only; rw [cutF_t h1 hp, List.length_append]; simpa using h4
      · simp only
        rw [cutF_t h1 hp]
        exact rowsF_snoc1 (hr.mono fun _ _ h => h.mono (hF2.trans hF3)) hrc ⟨kv', rfl, hkv', hkl⟩
  · try simp only [gdTT, gdFF, gdTF, gdFT, pvS, pickT, pickF, faP, lenS, capS, nilP, exA, exB, exC, notB, cndT, cndF, Bool.not_true, Bool.not_false, Nat.zero_add, Nat.add_zero]
    rw [t64_1_1_1]
    rw [List.take_of_length_le (by omega)] at ho hr
    exact fun hc => ⟨_, frz_wf hm hM1 hc, fun hw' => k _ _ _ hw' (hF1.trans (subF_frzAll hc)) hN1 (tbl_frz hc ho hr)⟩
set_option maxRecDepth 10000 in
/-- Cut, of the reference -/
theorem rcut_c {v ul uh : Value} {t : List Rw} {lo hi : List Int} (hv : tblD F v t) (hl : sF F 1 ul lo.length (ic lo)) (hh : sF F 1 uh hi.length (ic hi)) (hll : lo.length ≤ 140737488351232) (htl : t.length ≤ 1000000000) (hk : ∀ r ∈ t, r.1.length ≤ 10000000000)
    (k : ∀ v' F' N', (Hp.mk F' M N').wf → subF F F' → N ≤ N' → tblD F' v' (cutF lo hi t) → K v' ⟨F', M, N'⟩) :
    callv Tryd.prog (.func (.func 66) #[] #[]) #[v, ul, uh] K E ⟨F, M, N⟩ := by
  refine callv_of_text mixed Tryd.func66 (by kernel_rfl) (t66 _ E _ _ _) (fun hw => ?_)
  have hm : clean M N := hw.m
  obtain ⟨trs, hvs, hrs⟩ := hv
  have hlv : lenV v = some (.int .i64 (t.length : Nat)) := by obtain ⟨a, c, rfl, _⟩ := hvs.form; rfl
  refine l66_1_1_0_1_0_0 (σ := Nat × Value) (fun s => s.2) (fun s => .int .i64 (s.1 : Nat))
    (fun s h => ∃ F' M' N' rows, h = ⟨F', M', N'⟩ ∧ subF F F' ∧ N ≤ N' ∧ (∀ q, q < N → M' q = M q) ∧ clean M' N' ∧ s.1 ≤ t.length ∧ own M' N 43 5 s.2 (cutF lo hi (t.take s.1)).length rows.flatten ∧ rowsF (rowD F') 5 rows (cutF lo hi (t.take s.1))) (fun s => t.length - s.1) (0, .slice none 0 0) rfl rfl
    (fun hw1 => ⟨_, wk_refl hw1, F, M, N, [], rfl, subF.refl _, Nat.le_refl _, fun _ _ => rfl, hm, Nat.zero_le _, own.nil, rowsF.nil _ _⟩) (fun k1 s j h1 hI hw1 next => ?_)
  obtain ⟨F1, M1, N1, rows, rfl, hF1, hN1, hM1, hm1, hi', ho, hr⟩ := hI
  have hcl := cutF_len lo hi (t.take s.1)
  rw [List.length_take] at hcl
  refine pv_r hlv ?_
  refine lss_r (fun hlt => ?_) (fun hge => ?_)
  · have h1 : s.1 < t.length := by omega
    have hvs1 := hvs.mono hF1
    have hrs1 : rowsF (rowD F1) 5 trs t := hrs.mono fun _ _ h => h.mono hF1
    try simp only [gdTT, gdFF, gdTF, gdFT, pvS, pickT, pickF, faP, lenS, capS, nilP, exA, exB, exC, notB, cndT, cndF, Bool.not_true, Bool.not_false, Nat.zero_add, Nat.add_zero]
    refine key_r hvs1 hrs1 h1 fun p q kv hkv hkl => ?_
    refine rwithin_c (hl.mono hF1) (hh.mono hF1) hkv hll (fun N2 hN2 hw2 => ?_)
    have hm2 : clean M1 N2 := hw2.m
    cases hp : withinF lo hi t[s.1].1
    · try simp only [gdTT, gdFF, gdTF, gdFT, pvS, pickT, pickF, faP, lenS, capS, nilP, exA, exB, exC, notB, cndT, cndF, Bool.not_true, Bool.not_false, Nat.zero_add, Nat.add_zero]
      rw [t66_1_1_0_1_0_0_1_1]
      refine inc_r (by omega) ?_
      refine next (s.1 + 1, s.2) _ _ (by simp only; omega) (fun hw3 => ⟨_, wk_refl hw3, F1, M1, N2, rows, rfl, hF1, by omega, hM1, hm2, h1, ?_, ?_⟩)
      · simp only; rw [cutF_f h1 hp]; exact ho
      · simp only; rw [cutF_f h1 hp]; exact hr
    · try simp only [gdTT, gdFF, gdTF, gdFT, pvS, pickT, pickF, faP, lenS, capS, nilP, exA, exB, exC, notB, cndT, cndF, Bool.not_true, Bool.not_false, Nat.zero_add, Nat.add_zero]
      refine key_r hvs1 hrs1 h1 fun p q kv hkv hkl => ?_
      have hkl2 := hk _ (List.getElem_mem h1)
      refine (own.nil (B := N2)).app hm2 (Nat.le_refl _) hkv.sR (ints_one _) (by omega) (by unfold maxLen; omega) (fun kv' M3 N3 h4 h5 h6 h7 => ?_)
      rw [Nat.zero_add, List.nil_append] at h4
      refine cell_r hvs1 hrs1 h1 fun p q => ?_
      obtain ⟨ak, ck, hkf, hck⟩ := h4.form
      have hrc : (kv' :: t[s.1].2.cs).length = 5 ∧ ∀ x ∈ kv' :: t[s.1].2.cs, x.oneCell' = true := by rw [hkf]; exact ⟨rfl, List.all_eq_true.1 rfl⟩
      have hon : ∀ q, kv'.ownBlock = some q → N2 ≤ q ∧ q < N3 := fun q e => ⟨(h4.ge q e).1, h4.lt h7 q e⟩
      have hos : ∀ q, s.2.ownBlock = some q → q < N2 := fun q e => ho.lt hm2 q e
      refine pv_r (v := .agg (kv' :: t[s.1].2.cs).toArray) (by rw [hkf]; kernel_rfl) ?_
      refine push_r (new := kv' :: t[s.1].2.cs) (ho.keep (fun q hq => (h5 q (by simp [Value.ownBlock]) (hos q hq)).1) (Nat.le_refl _)) h7 (by omega) (by rw [hkf]; kernel_rfl) hrc.1 hrc.2 (by omega) (by unfold maxLen; omega) (fun p v' M4 N4 g4 g5 g6 g7 => ?_)
      rw [t66_1_1_0_1_0_0_1_1]
      refine inc_r (by omega) ?_
      have h8 : own M4 N2 3 1 kv' t[s.1].1.length (ic t[s.1].1) := h4.keep (fun q hq => (g5 q (fun e => by have := hos q e; have := hon q hq; omega) (hon q hq).2).1) (Nat.le_refl _)
      have hne : ∀ q, v'.ownBlock = some q → ¬ kv'.ownBlock = some q := fun q e e' => (g5 q (fun e2 => by have := hos q e2; have := hon q e'; omega) (hon q e').2).2 e
      refine next (s.1 + 1, v') _ _ (by simp only; omega) (fun hw5 => ⟨_, wk_P (p := fun q => kv'.ownBlock = some q) hw5, frzP F1 M4 (fun q => kv'.ownBlock = some q), keepM M4 (fun q => ¬ kv'.ownBlock = some q), N4, rows ++ [kv' :: t[s.1].2.cs], rfl, hF1.trans (subF_frzP hw5), by omega, fun q hq => ?_, keepM_clean g7, h1, ?_, ?_⟩)
      · rw [keepM_in (fun e => by have := hon q e; omega)]
        have e1 : kv'.ownBlock ≠ some q := fun e => by have := hon q e; omega
        exact ((g5 q (fun e => by have := (ho.ge q e).1; omega) (by omega)).1).trans (((h5 q (by simp [Value.ownBlock]) (by omega)).1).trans (hM1 q hq))
      · simp only; rw [cutF_t h1 hp, List.length_append]
        refine own.keep ?_ (fun q hq => keepM_in (hne q hq)) (Nat.le_refl _)
        simpa using g4
      · simp only
        rw [cutF_t h1 hp]
        exact rowsF_snoc1 (hr.mono fun _ _ h => h.mono (subF_frzP hw5)) hrc ⟨kv', rfl, h8.frzP (fun q h => h), hkl⟩
  · try simp only [gdTT, gdFF, gdTF, gdFT, pvS, pickT, pickF, faP, lenS, capS, nilP, exA, exB, exC, notB, cndT, cndF, Bool.not_true, Bool.not_false, Nat.zero_add, Nat.add_zero]
    rw [t66_1_1_1]
    rw [List.take_of_length_le (by omega)] at ho hr
    exact fun hc => ⟨_, frz_wf hm hM1 hc, fun hw' => k _ _ _ hw' (hF1.trans (subF_frzAll hc)) hN1 (tbl_frz hc ho hr)⟩
end Go.Proofs.YthpacapdaembpaaDoor.A
open Go Go.RowKit Go.Proofs.YthpacapdaembpaaDoor.K Go.Proofs.YthpacapdaembpaaDoor.T
set_option linter.unusedVariables false
set_option linter.unusedSimpArgs false
namespace Go.Proofs.YthpacapdaembpaaDoor.A
variable {F F' : Nat → Option (List Value)} {M M' : Nat → Option Chunk} {N N' : Nat} {K : Kont} {E : PanK}
/-- Is there a level for each dimension? -/
def lvP (l : List Dm) (m : List Int) (i : Nat) : Bool := decide (0 ≤ m.getD i 0 ∧ m.getD i 0 < ((l.getD i (0, [])).2.length + 2 : Nat))
def lvOK (l : List Dm) (m : List Int) : Bool := decide (m.length = l.length) && (List.range l.length).all (lvP l m)
/-- query.Check$1 -/
theorem lvl1_c {cs : List Value} {d : Dm} {n : Int} (hd : dimD F cs d) (k : ∀ N', N ≤ N' → (Hp.mk F M N').wf → K (.bool (decide (0 ≤ n ∧ n < (d.2.length + 2 : Nat)))) ⟨F, M, N'⟩) :
    callv Tryd.prog (.func (.func 67) #[] #[]) #[.agg cs.toArray, .int .i64 n] K E ⟨F, M, N⟩ := by
  refine callv_of_text mixed Tryd.func67 (by kernel_rfl) (t67 _ E _ _) (fun hw => ?_)
  have hm := hw.m
  have hd' := hd
  obtain ⟨v, rfl, hv, hvl⟩ := hd
  refine nw_r (cs := [.int .i64 d.1, v]) (fun b hb => ?_)
  refine geq_r (fun h1 => ?_) (fun h1 => ?_)
  · try simp only [gdTT, gdFF, gdTF, gdFT, pvS, pickT, pickF, faP, lenS, capS, nilP, exA, exB, exC, notB, cndT, cndF, Bool.not_true, Bool.not_false, Nat.zero_add, Nat.add_zero]
    refine ldMa (vs := [.int .i64 d.1, v]) ?_
    refine levels_c hd' (fun N1 hN1 hw1 => ?_)
    refine lss_r (fun h2 => ?_) (fun h2 => ?_)
    · try simp only [gdTT, gdFF, gdTF, gdFT, pvS, pickT, pickF, faP, lenS, capS, nilP, exA, exB, exC, notB, cndT, cndF, Bool.not_true, Bool.not_false, Nat.zero_add, Nat.add_zero]
      rw [decide_eq_true ⟨h1, h2⟩] at k
      exact fun hc => ⟨⟨F, M, N1⟩, wk_end hc, fun hw' => k _ (by omega) hw'⟩
    · try simp only [gdTT, gdFF, gdTF, gdFT, pvS, pickT, pickF, faP, lenS, capS, nilP, exA, exB, exC, notB, cndT, cndF, Bool.not_true, Bool.not_false, Nat.zero_add, Nat.add_zero]
      rw [decide_eq_false fun q => h2 q.2] at k
      exact fun hc => ⟨⟨F, M, N1⟩, wk_end hc, fun hw' => k _ (by omega) hw'⟩
  · try simp only [gdTT, gdFF, gdTF, gdFT, pvS, pickT, pickF, faP, lenS, capS, nilP, exA, exB, exC, notB, cndT, cndF, Bool.not_true, Bool.not_false, Nat.zero_add, Nat.add_zero]
    rw [decide_eq_false fun q => h1 q.1] at k
    exact fun hc => ⟨⟨F, M, b + 1⟩, wk_end hc, fun hw' => k _ (by omega) hw'⟩
/-- slices.EqualFunc of dimensions and levels. -/
theorem eqf_c {v u : Value} {l : List Dm} {m : List Int} (hv : dimsD F v l) (hu : sF F 1 u m.length (ic m)) (hl : l.length ≤ 140737488351232) (k : ∀ N', N ≤ N' → (Hp.mk F M N').wf → K (.bool (lvOK l m)) ⟨F, M, N'⟩) :
    callv Tryd.prog (.func (.func 69) #[] #[]) #[v, u, .func (.func 67) #[] #[]] K E ⟨F, M, N⟩ := by
  refine callv_of_text mixed Tryd.func69 (by kernel_rfl) (t69 _ E _ _ _) (fun hw => ?_)
  have hm : clean M N := hw.m
  have hlv : lenV v = some (.int .i64 (l.length : Nat)) := by obtain ⟨a, c, rfl⟩ := hv.form; rfl
  have hlu : lenV u = some (.int .i64 (m.length : Nat)) := by obtain ⟨a, c, rfl, _⟩ := hu.form; rfl
  have fin : ∀ v', v' = lvOK l m → ∀ N', N ≤ N' → ∀ h', h' = (⟨F, M, N'⟩ : Hp) → h'.wf → ∃ h'', h'.wk h'' ∧ (h''.wf → K (.bool v') h'') := fun v' e N' hN h' e' hc => by
    subst e; subst e'
    exact ⟨_, wk_refl hc, fun hw' => k _ hN hw'⟩
  unfold lvOK at fin
  refine pv_r hlv (pv_r hlu ?_)
  refine neq_r (fun h1 => ?_) (fun h1 => ?_)
  · try simp only [gdTT, gdFF, gdTF, gdFT, pvS, pickT, pickF, faP, lenS, capS, nilP, exA, exB, exC, notB, cndT, cndF, Bool.not_true, Bool.not_false, Nat.zero_add, Nat.add_zero]
    exact fin _ (by rw [decide_eq_false (by omega)]; rfl) _ (Nat.le_refl _) _ rfl
  rw [decide_eq_true (by omega), Bool.true_and] at fin
  try simp only [gdTT, gdFF, gdTF, gdFT, pvS, pickT, pickF, faP, lenS, capS, nilP, exA, exB, exC, notB, cndT, cndF, Bool.not_true, Bool.not_false, Nat.zero_add, Nat.add_zero]
  refine pv_r hlv ?_
  obtain ⟨rows, hv1, hv2⟩ := hv
  refine l69_1_1_0_1_0_0 (σ := Nat) (fun i => .int .i64 (i : Nat)) (fun i h => ∃ N', h = ⟨F, M, N'⟩ ∧ N ≤ N' ∧ i ≤ l.length ∧ (List.range i).all (lvP l m) = true) (fun i => l.length - i) 0 rfl
    (fun hw1 => ⟨_, wk_refl hw1, N, rfl, Nat.le_refl _, Nat.zero_le _, rfl⟩) (fun k1 i j h1' hI hw1 next => ?_)
  obtain ⟨N1, rfl, hN1, hi, he⟩ := hI
  have hm1 : clean M N1 := hw1.m
  refine lss_r (fun hlt => ?_) (fun hge => ?_)
  · have i1 : i < l.length := by omega
    have i2 : i < m.length := by omega
    try simp only [gdTT, gdFF, gdTF, gdFT, pvS, pickT, pickF, faP, lenS, capS, nilP, exA, exB, exC, notB, cndT, cndF, Bool.not_true, Bool.not_false, Nat.zero_add, Nat.add_zero]
    refine row_r hv1 hv2 (by decide) i1 fun p r _ hR hr2 hr1 => ?_
    have hR' := hR
    obtain ⟨kv, hre, hkv, hkl⟩ := hR
    subst hre
    refine nw_r (fun b1 hb1 => ?_)
    refine stM (cs' := [.int .i64 l[i].1, kv]) ?_ (upd_same _ _ _) rfl rfl hr1
    rw [upd_upd]
    refine ixn_r hu i2 fun p => ?_
    refine ldMa (vs := [.int .i64 l[i].1, kv]) ?_
    refine lvl1_c hR' (fun N2 hN2 hw2 => ?_)
    have hp : lvP l m i = decide (0 ≤ m[i] ∧ m[i] < (l[i].2.length + 2 : Nat)) := by
      unfold lvP
      rw [getD_at i1, getD_at i2]
    rw [← hp]
    have hdrop : ∀ {h : Hp}, h = (⟨F, upd M b1 (some (.cells 51 [.int .i64 l[i].1, kv] 2)), N2⟩ : Hp) → h.wf → h.wk ⟨F, M, N2⟩ := fun e hc => by subst e; exact wk_drop hc (subM_drop (subM_refl _) (hm1 _ hb1))
    cases hpi : lvP l m i
    · try simp only [gdTT, gdFF, gdTF, gdFT, pvS, pickT, pickF, faP, lenS, capS, nilP, exA, exB, exC, notB, cndT, cndF, Bool.not_true, Bool.not_false, Nat.zero_add, Nat.add_zero]
      refine fun hc => ⟨⟨F, M, N2⟩, hdrop rfl hc, fun hw' => ?_⟩
      have := k N2 (by omega) hw'
      rw [show lvOK l m = false by unfold lvOK; rw [all_range_no i1 hpi]; simp] at this
      exact this
    · try simp only [gdTT, gdFF, gdTF, gdFT, pvS, pickT, pickF, faP, lenS, capS, nilP, exA, exB, exC, notB, cndT, cndF, Bool.not_true, Bool.not_false, Nat.zero_add, Nat.add_zero]
      refine inc_r (by omega) ?_
      exact next (i + 1) _ _ (by omega) (fun hw3 => ⟨⟨F, M, N2⟩, hdrop rfl hw3, N2, rfl, by omega, i1, all_range_succ he hpi⟩)
  · try simp only [gdTT, gdFF, gdTF, gdFT, pvS, pickT, pickF, faP, lenS, capS, nilP, exA, exB, exC, notB, cndT, cndF, Bool.not_true, Bool.not_false, Nat.zero_add, Nat.add_zero]
    rw [t69_1_1_1]
    rw [show i = l.length by omega] at he
    exact fin _ he.symm _ hN1 _ rfl
/-- What is asked. -/
def queryD (F : Nat → Option (List Value)) (cs : List Value) (m lo hi : List Int) : Prop := ∃ a b c, cs = [a, b, c] ∧ sF F 1 a m.length (ic m) ∧ sF F 1 b lo.length (ic lo) ∧ sF F 1 c hi.length (ic hi) ∧ m.length ≤ 140737488351232 ∧ lo.length ≤ 140737488351232 ∧ hi.length ≤ 140737488351232
theorem queryD.mono {cs : List Value} {m lo hi : List Int} (h : queryD F cs m lo hi) (hF : subF F F') : queryD F' cs m lo hi := let ⟨a, b, c, e, h1, h2, h3, h4⟩ := h; ⟨a, b, c, e, h1.mono hF, h2.mono hF, h3.mono hF, h4⟩
/-- Why something may not be asked. -/
def checkE (l : List Dm) (m lo hi : List Int) : Nat := if okDims l = false then 30 else if lvOK l m = false then 40 else if boxOK l lo hi = false then 60 else 0
/-- query.Check -/
theorem check_c {u : Value} {cs : List Value} {l : List Dm} {m lo hi : List Int} (hu : dimsD F u l) (hl : l.length ≤ 140737488351232) (hq : queryD F cs m lo hi)
    (k : ∀ F' N', (Hp.mk F' M N').wf → subF F F' → N ≤ N' → K (.int .u16 ((checkE l m lo hi : Nat) : Int)) ⟨F', M, N'⟩) :
    callv Tryd.prog (.func (.func 38) #[] #[]) #[u, .agg cs.toArray] K E ⟨F, M, N⟩ := by
  refine callv_of_text mixed Tryd.func38 (by kernel_rfl) (t38 _ E _ _) (fun hw => ?_)
  have hm : clean M N := hw.m
  obtain ⟨a, b, c, rfl, ha, hb, hc, hml, hlol, hhil⟩ := hq
  refine nw_r (cs := [a, b, c]) (fun b1 hb1 => ?_)
  have fin : ∀ n, n = checkE l m lo hi → ∀ F' N', subF F F' → N ≤ N' → ∀ h', h' = (⟨F', upd M b1 (some (.cells 64 [a, b, c] 3)), N'⟩ : Hp) → h'.wf → ∃ h'', h'.wk h'' ∧ (h''.wf → K (.int .u16 ((n : Nat) : Int)) h'') := fun n e F' N' hF hN h' e' hc => by
    subst e; subst e'
    exact ⟨⟨F', M, N'⟩, wk_drop hc (subM_drop (subM_refl _) (hm _ hb1)), fun hw' => k _ _ hw' hF hN⟩
  unfold checkE at fin
  refine dsound_c hu hl (fun N1 hN1 hw1 => ?_)
  cases h1 : okDims l
  · try simp only [gdTT, gdFF, gdTF, gdFT, pvS, pickT, pickF, faP, lenS, capS, nilP, exA, exB, exC, notB, cndT, cndF, Bool.not_true, Bool.not_false, Nat.zero_add, Nat.add_zero]
    exact fin 30 (by rw [h1]; rfl) F N1 (subF.refl _) (by omega) _ rfl
  rw [h1, if_neg (by decide)] at fin
  try simp only [gdTT, gdFF, gdTF, gdFT, pvS, pickT, pickF, faP, lenS, capS, nilP, exA, exB, exC, notB, cndT, cndF, Bool.not_true, Bool.not_false, Nat.zero_add, Nat.add_zero]
  refine ldM (v := a) ?_
  refine eqf_c hu ha hl (fun N2 hN2 hw2 => ?_)
  cases h2 : lvOK l m
  · try simp only [gdTT, gdFF, gdTF, gdFT, pvS, pickT, pickF, faP, lenS, capS, nilP, exA, exB, exC, notB, cndT, cndF, Bool.not_true, Bool.not_false, Nat.zero_add, Nat.add_zero]
    exact fin 40 (by rw [h2]; rfl) F N2 (subF.refl _) (by omega) _ rfl
  rw [h2, if_neg (by decide)] at fin
  try simp only [gdTT, gdFF, gdTF, gdFT, pvS, pickT, pickF, faP, lenS, capS, nilP, exA, exB, exC, notB, cndT, cndF, Bool.not_true, Bool.not_false, Nat.zero_add, Nat.add_zero]
  refine ldM (v := b) ?_
  try simp only [gdTT, gdFF, gdTF, gdFT, pvS, pickT, pickF, faP, lenS, capS, nilP, exA, exB, exC, notB, cndT, cndF, Bool.not_true, Bool.not_false, Nat.zero_add, Nat.add_zero]
  refine ldM (v := c) ?_
  refine dcsound_c hu hb hc hlol hhil (fun F3 N3 hw3 hF3 hN3 => ?_)
  cases h3 : boxOK l lo hi
  · try simp only [gdTT, gdFF, gdTF, gdFT, pvS, pickT, pickF, faP, lenS, capS, nilP, exA, exB, exC, notB, cndT, cndF, Bool.not_true, Bool.not_false, Nat.zero_add, Nat.add_zero]
    exact fin 60 (by rw [h3]; rfl) F3 N3 hF3 (by omega) _ rfl
  rw [h3, if_neg (by decide)] at fin
  try simp only [gdTT, gdFF, gdTF, gdFT, pvS, pickT, pickF, faP, lenS, capS, nilP, exA, exB, exC, notB, cndT, cndF, Bool.not_true, Bool.not_false, Nat.zero_add, Nat.add_zero]
  exact fin 0 rfl F3 N3 hF3 (by omega) _ rfl
/-- Check, of the reference -/
theorem rcheck_c {u : Value} {cs : List Value} {l : List Dm} {m lo hi : List Int} (hu : dimsD F u l) (hl : l.length ≤ 140737488351232) (hq : queryD F cs m lo hi)
    (k : ∀ N', (Hp.mk F M N').wf → N ≤ N' → K (.int .i64 ((checkE l m lo hi : Nat) : Int)) ⟨F, M, N'⟩) :
    callv Tryd.prog (.func (.func 39) #[] #[]) #[u, .agg cs.toArray] K E ⟨F, M, N⟩ := by
  refine callv_of_text mixed Tryd.func39 (by kernel_rfl) (t39 _ E _ _) (fun hw => ?_)
  have hm : clean M N := hw.m
  obtain ⟨a, b, c, rfl, ha, hb, hc, hml, hlol, hhil⟩ := hq
  refine nw_r (cs := [a, b, c]) (fun b1 hb1 => ?_)
  have fin : ∀ n, n = checkE l m lo hi → ∀ N', N ≤ N' → ∀ h', h' = (⟨F, upd M b1 (some (.cells 64 [a, b, c] 3)), N'⟩ : Hp) → h'.wf → ∃ h'', h'.wk h'' ∧ (h''.wf → K (.int .i64 ((n : Nat) : Int)) h'') := fun n e N' hN h' e' hc => by
    subst e; subst e'
    exact ⟨⟨F, M, N'⟩, wk_drop hc (subM_drop (subM_refl _) (hm _ hb1)), fun hw' => k _ hw' hN⟩
  have hlu : lenV u = some (.int .i64 (l.length : Nat)) := by obtain ⟨a, c, rfl⟩ := hu.form; rfl
  have hla : lenV a = some (.int .i64 (m.length : Nat)) := by obtain ⟨a, c, rfl, _⟩ := ha.form; rfl
  unfold checkE at fin
  refine rdsound_c hu hl (fun N1 hN1 hw1 => ?_)
  cases h1 : okDims l
  · try simp only [gdTT, gdFF, gdTF, gdFT, pvS, pickT, pickF, faP, lenS, capS, nilP, exA, exB, exC, notB, cndT, cndF, Bool.not_true, Bool.not_false, Nat.zero_add, Nat.add_zero]
    exact fin 30 (by rw [h1]; rfl) N1 (by omega) _ rfl
  rw [h1, if_neg (by decide)] at fin
  try simp only [gdTT, gdFF, gdTF, gdFT, pvS, pickT, pickF, faP, lenS, capS, nilP, exA, exB, exC, notB, cndT, cndF, Bool.not_true, Bool.not_false, Nat.zero_add, Nat.add_zero]
  refine ldM (v := a) (pv_r hla (pv_r hlu ?_))
  refine neq_r (fun h2 => ?_) (fun h2 => ?_)
  · try simp only [gdTT, gdFF, gdTF, gdFT, pvS, pickT, pickF, faP, lenS, capS, nilP, exA, exB, exC, notB, cndT, cndF, Bool.not_true, Bool.not_false, Nat.zero_add, Nat.add_zero]
    exact fin 40 (by rw [if_pos (by unfold lvOK; rw [decide_eq_false (by omega)]; rfl)]) N1 (by omega) _ rfl
  have hlv : lvOK l m = (List.range l.length).all (lvP l m) := by unfold lvOK; rw [decide_eq_true (by omega), Bool.true_and]
  rw [hlv] at fin
  try simp only [gdTT, gdFF, gdTF, gdFT, pvS, pickT, pickF, faP, lenS, capS, nilP, exA, exB, exC, notB, cndT, cndF, Bool.not_true, Bool.not_false, Nat.zero_add, Nat.add_zero]
  have hu' := hu
  obtain ⟨rows, hu1, hu2⟩ := hu'
  refine l39_1_1_1_0_1_0_0 (σ := Nat) (fun i => .int .i64 (i : Nat)) (fun i h => ∃ N', h = ⟨F, upd M b1 (some (.cells 64 [a, b, c] 3)), N'⟩ ∧ N ≤ N' ∧ i ≤ l.length ∧ (List.range i).all (lvP l m) = true) (fun i => l.length - i) 0 rfl
    (fun hw1 => ⟨_, wk_refl hw1, N1, rfl, by omega, Nat.zero_le _, rfl⟩) (fun k1 i j h1' hI hw1 next => ?_)
  obtain ⟨N2, rfl, hN2, hii, he⟩ := hI
  refine pv_r hlu ?_
  refine lss_r (fun hlt => ?_) (fun hge => ?_)
  · have i1 : i < l.length := by omega
    have i2 : i < m.length := by omega
    have hp : lvP l m i = decide (0 ≤ m[i] ∧ m[i] < (l[i].2.length + 2 : Nat)) := by
      unfold lvP
      rw [getD_at i1, getD_at i2]
    try simp only [gdTT, gdFF, gdTF, gdFT, pvS, pickT, pickF, faP, lenS, capS, nilP, exA, exB, exC, notB, cndT, cndF, Bool.not_true, Bool.not_false, Nat.zero_add, Nat.add_zero]
    refine ldM (v := a) (ixn_r ha i2 fun p => ?_)
    refine lss_r (fun h6 => ?_) (fun h6 => ?_)
    · try simp only [gdTT, gdFF, gdTF, gdFT, pvS, pickT, pickF, faP, lenS, capS, nilP, exA, exB, exC, notB, cndT, cndF, Bool.not_true, Bool.not_false, Nat.zero_add, Nat.add_zero]
      refine ⟨fun h => by simp [isB] at h, fun h => by simp [isB] at h, ?_⟩
      exact fin 40 (by rw [if_pos (all_range_no i1 (by rw [hp]; exact decide_eq_false (by omega)))]) _ hN2 _ rfl
    try simp only [gdTT, gdFF, gdTF, gdFT, pvS, pickT, pickF, faP, lenS, capS, nilP, exA, exB, exC, notB, cndT, cndF, Bool.not_true, Bool.not_false, Nat.zero_add, Nat.add_zero]
    refine ldM (v := a) ?_
    obtain ⟨bb, bo, bc, bcs, hvb, hbF, hbx⟩ := ints_at ha i2
    subst hvb
    refine iaN_r i2 (ld_r (ldV_c (row_F hbF) hbx) ?_)
    refine row_r hu1 hu2 (by decide) i1 fun p r _ hR hr2 hr1 => ?_
    refine rlevels_c hR (fun N3 hN3 hw3 => ?_)
    refine ⟨fun _ => ldV_c (row_F hbF) hbx, fun _ => ldV_c (row_M (upd_same _ _ _)) rfl, ?_⟩
    refine geq_r (fun h8 => ?_) (fun h8 => ?_)
    · try simp only [gdTT, gdFF, gdTF, gdFT, pvS, pickT, pickF, faP, lenS, capS, nilP, exA, exB, exC, notB, cndT, cndF, Bool.not_true, Bool.not_false, Nat.zero_add, Nat.add_zero]
      exact fin 40 (by rw [if_pos (all_range_no i1 (by rw [hp]; exact decide_eq_false (by omega)))]) _ (by omega) _ rfl
    try simp only [gdTT, gdFF, gdTF, gdFT, pvS, pickT, pickF, faP, lenS, capS, nilP, exA, exB, exC, notB, cndT, cndF, Bool.not_true, Bool.not_false, Nat.zero_add, Nat.add_zero]
    refine inc_r (by omega) ?_
    exact next (i + 1) _ _ (by omega) (fun hw3 => ⟨_, wk_refl hw3, N3, rfl, by omega, i1, all_range_succ he (by rw [hp]; exact decide_eq_true ⟨by omega, by omega⟩)⟩)
  · try simp only [gdTT, gdFF, gdTF, gdFT, pvS, pickT, pickF, faP, lenS, capS, nilP, exA, exB, exC, notB, cndT, cndF, Bool.not_true, Bool.not_false, Nat.zero_add, Nat.add_zero]
    rw [t39_1_1_1_1]
    rw [show i = l.length by omega] at he
    rw [he, if_neg (by decide)] at fin
    try simp only [gdTT, gdFF, gdTF, gdFT, pvS, pickT, pickF, faP, lenS, capS, nilP, exA, exB, exC, notB, cndT, cndF, Bool.not_true, Bool.not_false, Nat.zero_add, Nat.add_zero]
    refine ldM (v := b) ?_
    try simp only [gdTT, gdFF, gdTF, gdFT, pvS, pickT, pickF, faP, lenS, capS, nilP, exA, exB, exC, notB, cndT, cndF, Bool.not_true, Bool.not_false, Nat.zero_add, Nat.add_zero]
    refine ldM (v := c) ?_
    refine rcsound_c hu hb hc hl (fun N3 hN3 hw3 => ?_)
    cases h3 : boxOK l lo hi
    · try simp only [gdTT, gdFF, gdTF, gdFT, pvS, pickT, pickF, faP, lenS, capS, nilP, exA, exB, exC, notB, cndT, cndF, Bool.not_true, Bool.not_false, Nat.zero_add, Nat.add_zero]
      exact fin 60 (by rw [h3]; rfl) N3 (by omega) _ rfl
    rw [h3, if_neg (by decide)] at fin
    try simp only [gdTT, gdFF, gdTF, gdFT, pvS, pickT, pickF, faP, lenS, capS, nilP, exA, exB, exC, notB, cndT, cndF, Bool.not_true, Bool.not_false, Nat.zero_add, Nat.add_zero]
    exact fin 0 rfl N3 (by omega) _ rfl
end Go.Proofs.YthpacapdaembpaaDoor.A
open Go Go.RowKit Go.Proofs.YthpacapdaembpaaDoor.K Go.Proofs.YthpacapdaembpaaDoor.T
set_option linter.unusedVariables false
set_option linter.unusedSimpArgs false
namespace Go.Proofs.YthpacapdaembpaaDoor.A
variable {F F' : Nat → Option (List Value)} {M M' : Nat → Option Chunk} {N N' : Nat} {K : Kont} {E : PanK}
theorem soundL_all {p : Int} : ∀ {t : List Rw} {o : Option (List Int)}, soundL p o t = true → (∀ r ∈ t, okRow p r = true) ∧ srt t ∧ (∀ k, o = some k → ∀ r ∈ t, kcmp k r.1 < 0)
  | [], o, _ => ⟨by simp, .nil, by simp⟩
  | r :: t, o, h => by
    unfold soundL at h
    rw [Bool.and_eq_true, Bool.and_eq_true] at h
    obtain ⟨⟨h1, h2⟩, h3⟩ := h
    obtain ⟨a, b, c⟩ := soundL_all h3
    refine ⟨fun x hx => ?_, List.pairwise_cons.2 ⟨fun x hx => c _ rfl x hx, b⟩, fun k hk x hx => ?_⟩
    · rcases List.mem_cons.1 hx with rfl | hx
      · exact h1
      · exact a x hx
    · subst hk
      have h4 := of_decide_eq_true h2
      rcases List.mem_cons.1 hx with rfl | hx
      · exact h4
      · exact kcmp_trans h4 (c _ rfl x hx)
theorem soundT_cut {p : Int} {t : List Rw} {lo hi : List Int} (h : soundT p t = true) : soundT p (cutF lo hi t) = true := by
  obtain ⟨a, b, _⟩ := soundL_all (show soundL p none t = true from h)
  exact soundT_of (fun r hr => a r ((List.mem_filter.1 hr).1)) (List.Pairwise.filter _ b)
theorem lvOK_lev {l : List Dm} {m : List Int} (h : lvOK l m = true) : m.length = l.length ∧ okLev l m := by
  unfold lvOK at h
  rw [Bool.and_eq_true] at h
  obtain ⟨h1, h2⟩ := h
  refine ⟨of_decide_eq_true h1, fun i hi => ?_⟩
  have h3 := List.all_eq_true.1 h2 i (List.mem_range.2 hi)
  unfold lvP at h3
  rw [getD_at hi] at h3
  have := of_decide_eq_true h3
  omega
/-- The table of a query. -/
def runRows (l : List Dm) (t : List Rw) (m lo hi : List Int) : List Rw := rollT l (cutF lo hi t) (zeros l.length) m
def runE (l : List Dm) (t : List Rw) (m lo hi : List Int) : Nat := if checkE l m lo hi = 0 then (if soundT l.length t = false then 1 else if (runRows l t m lo hi).length > 500 then 61 else 0) else checkE l m lo hi
def runT (l : List Dm) (t : List Rw) (m lo hi : List Int) : List Rw := if runE l t m lo hi = 0 then runRows l t m lo hi else []
theorem checkE_le (l : List Dm) (m lo hi : List Int) : checkE l m lo hi ≤ 60 := by unfold checkE; split; omega; split; omega; split <;> omega
theorem runE_le (l : List Dm) (t : List Rw) (m lo hi : List Int) : runE l t m lo hi ≤ 61 := by
  have := checkE_le l m lo hi
  unfold runE; split; split; omega; split <;> omega; omega
theorem checkE_ok {l : List Dm} {m lo hi : List Int} (h : checkE l m lo hi = 0) : okDims l = true ∧ lvOK l m = true ∧ boxOK l lo hi = true := by
  unfold checkE at h
  cases h1 : okDims l
  · rw [h1] at h; simp at h
  cases h2 : lvOK l m
  · rw [h1, h2] at h; simp at h
  cases h3 : boxOK l lo hi
  · rw [h1, h2, h3] at h; simp at h
  exact ⟨rfl, rfl, rfl⟩
theorem rollE_ok {l : List Dm} {t : List Rw} {m lo hi : List Int} (h : checkE l m lo hi = 0) (ht : soundT l.length t = true) : rollE l (cutF lo hi t) (zeros l.length) m = 0 := by
  obtain ⟨h1, h2, h3⟩ := checkE_ok h
  obtain ⟨h4, h5⟩ := lvOK_lev h2
  unfold rollE
  rw [h1, levF_of (zeros_up h4 h5), soundT_cut ht]; rfl
theorem runT_len (l : List Dm) (t : List Rw) (m lo hi : List Int) : (runT l t m lo hi).length ≤ t.length := by
  have h1 := rollT_len l (cutF lo hi t) (zeros l.length) m
  have h2 := cutF_len lo hi t
  unfold runT
  split
  · unfold runRows; omega
  · simp
/-- query.short -/
theorem short_c {v : Value} {t : List Rw} (hv : tblD F v t) (k : K (if t.length > 500 then .tuple #[.slice none 0 0, .int .u16 61] else .tuple #[v, .int .u16 0]) ⟨F, M, N⟩) :
    callv Tryd.prog (.func (.func 65) #[] #[]) #[v] K E ⟨F, M, N⟩ := by
  refine callv_of_text mixed Tryd.func65 (by kernel_rfl) (t65 _ E _) (fun hw => ?_)
  have hlv : lenV v = some (.int .i64 (t.length : Nat)) := by obtain ⟨a, c, rfl⟩ := hv.form; rfl
  refine pv_r hlv ?_
  refine gtr_r (fun h1 => ?_) (fun h1 => ?_)
  · try simp only [gdTT, gdFF, gdTF, gdFT, pvS, pickT, pickF, faP, lenS, capS, nilP, exA, exB, exC, notB, cndT, cndF, Bool.not_true, Bool.not_false, Nat.zero_add, Nat.add_zero]
    rw [if_pos (by omega)] at k
    exact fun hc => ⟨_, wk_refl hc, fun _ => k⟩
  · try simp only [gdTT, gdFF, gdTF, gdFT, pvS, pickT, pickF, faP, lenS, capS, nilP, exA, exB, exC, notB, cndT, cndF, Bool.not_true, Bool.not_false, Nat.zero_add, Nat.add_zero]
    rw [if_neg (by omega)] at k
    exact fun hc => ⟨_, wk_refl hc, fun _ => k⟩
set_option maxRecDepth 10000 in
/-- query.Run -/
theorem run_c {u vt : Value} {cs : List Value} {l : List Dm} {t : List Rw} {m lo hi : List Int} (hu : dimsD F u l) (hl : l.length ≤ 140737488351232) (ht : tblD F vt t) (htl : t.length ≤ 1000000000) (hq : queryD F cs m lo hi) (hmi : ∀ x ∈ m, i64 x) (hti : ∀ r ∈ t, ∀ x ∈ r.1, i64 x) (hk' : checkE l m lo hi = 0 → ∀ r ∈ t, r.1.length ≤ 10000000000)
    (k : ∀ v' F' N', (Hp.mk F' M N').wf → subF F F' → N ≤ N' → tblD F' v' (runT l t m lo hi) → K (.tuple #[v', .int .u16 ((runE l t m lo hi : Nat) : Int)]) ⟨F', M, N'⟩) :
    callv Tryd.prog (.func (.func 36) #[] #[]) #[u, vt, .agg cs.toArray] K E ⟨F, M, N⟩ := by
  refine callv_of_text mixed Tryd.func36 (by kernel_rfl) (t36 _ E _ _ _) (fun hw => ?_)
  have hm : clean M N := hw.m
  have hq' := hq
  obtain ⟨a, b, c, rfl, ha, hb, hc, hml, hlol, hhil⟩ := hq'
  have hlu : lenV u = some (.int .i64 (l.length : Nat)) := by obtain ⟨a, c, rfl⟩ := hu.form; rfl
  refine nw_r (cs := [a, b, c]) (fun b1 hb1 => ?_)
  refine ldMa (vs := [a, b, c]) ?_
  have fin : ∀ v' (n : Nat) F' M' N', n = runE l t m lo hi → subF F F' → N ≤ N' → (∀ q, q < N → M' q = M q) → tblD F' v' (runT l t m lo hi) → ∀ h', h' = (⟨F', M', N'⟩ : Hp) → h'.wf → ∃ h'', h'.wk h'' ∧ (h''.wf → K (.tuple #[v', .int .u16 ((n : Nat) : Int)]) h'') := fun v' n F' M' N' e hF hN hM hv h' e' hc => by
    subst e; subst e'
    exact ⟨_, frz_wf hm hM hc, fun hw' => k _ _ _ hw' (hF.trans (subF_frzAll hc)) hN (hv.mono (subF_frzAll hc))⟩
  have hM1 : ∀ q, q < N → upd M b1 (some (.cells 64 [a, b, c] 3)) q = M q := fun q hq => upd_ne _ _ (by omega)
  refine check_c hu hl hq (fun F2 N2 hw2 hF2 hN2 => ?_)
  refine neq_r (fun h1 => ?_) (fun h1 => ?_)
  · try simp only [gdTT, gdFF, gdTF, gdFT, pvS, pickT, pickF, faP, lenS, capS, nilP, exA, exB, exC, notB, cndT, cndF, Bool.not_true, Bool.not_false, Nat.zero_add, Nat.add_zero]
    have e1 : checkE l m lo hi = runE l t m lo hi := by unfold runE; rw [if_neg (by omega)]
    refine fin _ _ _ _ _ e1 hF2 (by omega) hM1 ?_ _ rfl
    unfold runT; rw [if_neg (by omega)]; exact tblD.nil
  have hch : checkE l m lo hi = 0 := by omega
  have hk := hk' hch
  obtain ⟨hokd, hoklv, hokb⟩ := checkE_ok hch
  have hl4 := okDims_len hokd
  try simp only [gdTT, gdFF, gdTF, gdFT, pvS, pickT, pickF, faP, lenS, capS, nilP, exA, exB, exC, notB, cndT, cndF, Bool.not_true, Bool.not_false, Nat.zero_add, Nat.add_zero]
  refine pv_r hlu ?_
  refine tsound_c (ht.mono hF2) (by omega) (fun N3 hN3 hw3 => ?_)
  cases hs : soundT l.length t
  · try simp only [gdTT, gdFF, gdTF, gdFT, pvS, pickT, pickF, faP, lenS, capS, nilP, exA, exB, exC, notB, cndT, cndF, Bool.not_true, Bool.not_false, Nat.zero_add, Nat.add_zero]
    have e1 : 1 = runE l t m lo hi := by unfold runE; rw [if_pos hch, if_pos hs]
    refine fin _ 1 _ _ _ e1 hF2 (by omega) hM1 ?_ _ rfl
    unfold runT; rw [if_neg (by omega)]; exact tblD.nil
  have hre := rollE_ok hch hs
  have hcl := cutF_len lo hi t
  have hrl : (runRows l t m lo hi).length ≤ t.length := by unfold runRows; have := rollT_len l (cutF lo hi t) (zeros l.length) m; omega
  have hrun : runE l t m lo hi = if (runRows l t m lo hi).length > 500 then 61 else 0 := by unfold runE; rw [if_pos hch, if_neg (by rw [hs]; decide)]
  have htci : ∀ r ∈ cutF lo hi t, ∀ x ∈ r.1, i64 x := fun r hr => hti r ((List.mem_filter.1 hr).1)
  try simp only [gdTT, gdFF, gdTF, gdFT, pvS, pickT, pickF, faP, lenS, capS, nilP, exA, exB, exC, notB, cndT, cndF, Bool.not_true, Bool.not_false, Nat.zero_add, Nat.add_zero]
  refine ldM (v := b) ?_
  try simp only [gdTT, gdFF, gdTF, gdFT, pvS, pickT, pickF, faP, lenS, capS, nilP, exA, exB, exC, notB, cndT, cndF, Bool.not_true, Bool.not_false, Nat.zero_add, Nat.add_zero]
  refine ldM (v := c) ?_
  refine pv_r hlu ?_
  try simp only [gdTT, gdFF, gdTF, gdFT, pvS, pickT, pickF, faP, lenS, capS, nilP, exA, exB, exC, notB, cndT, cndF, Bool.not_true, Bool.not_false, Nat.zero_add, Nat.add_zero]
  refine ldM (v := a) ?_
  -- what comes after the roll
  have last : ∀ v' F' M' N', subF F F' → N ≤ N' → (∀ q, q < N → M' q = M q) → tblD F' v' (runRows l t m lo hi) → callv Tryd.prog (.func (.func 65) #[] #[]) #[v'] (fun t23 => pv (exV 0 t23) fun t24 => pv (exV 1 t23) fun t25 => fun h => h.wf → ∃ h', h.wk h' ∧ (h'.wf → K (.tuple #[t24, t25]) h')) E ⟨F', M', N'⟩ := fun v' F' M' N' hF hN hM hv => by
    refine short_c hv ?_
    split
    · rename_i h500
      try simp only [gdTT, gdFF, gdTF, gdFT, pvS, pickT, pickF, faP, lenS, capS, nilP, exA, exB, exC, notB, cndT, cndF, Bool.not_true, Bool.not_false, Nat.zero_add, Nat.add_zero]
      refine fin _ 61 _ _ _ (by rw [hrun, if_pos h500]) hF hN hM ?_ _ rfl
      unfold runT; rw [if_neg (by rw [hrun, if_pos h500]; decide)]; exact tblD.nil
    · rename_i h500
      try simp only [gdTT, gdFF, gdTF, gdFT, pvS, pickT, pickF, faP, lenS, capS, nilP, exA, exB, exC, notB, cndT, cndF, Bool.not_true, Bool.not_false, Nat.zero_add, Nat.add_zero]
      refine fin _ 0 _ _ _ (by rw [hrun, if_neg h500]) hF hN hM ?_ _ rfl
      unfold runT; rw [if_pos (by rw [hrun, if_neg h500])]; exact hv
  have FF := hF2
  have hbox := upd_same M b1 (some (.cells 64 [a, b, c] 3))
  have hm1 : clean (upd M b1 (some (.cells 64 [a, b, c] 3))) N3 := hw3.m
  have hb13 : b1 < N3 := hm1.lt hbox
  generalize upd M b1 _ = M1 at *
  refine ⟨?_, ?_⟩
  · refine dcut_c (ht.mono hF2) (hb.mono hF2) (hc.mono hF2) hlol hhil htl hk (fun v4 F4 N4 hw4 hF4 hN4 hcut => ?_)
    refine ⟨ldV_c (row_M hbox) rfl, ?_⟩
    refine mkz_r (by omega) (fun b5 hb5 => ?_)
    refine ⟨ldV_c (row_M ((upd_ne _ _ (by omega)).trans hbox)) rfl, ?_⟩
    refine callv_go (fun hc' => ⟨_, wk_P (p := fun q => q = b5) hc', ?_⟩)
    have hs5 := subF_frzP (p := fun q => q = b5) hc'
    have hz : sF (frzP F4 (upd M1 b5 (some (.cells 3 (ic (zeros l.length)) l.length))) (fun q => q = b5)) 1 (.slice (some ⟨b5, 0, none⟩) l.length l.length) (zeros l.length).length (ic (zeros l.length)) := by
      rw [zeros_len]; exact sF_lit (frzP_at (p := fun q => q = b5) rfl (upd_same _ _ _)) (by simp [ic, zeros]) (Nat.le_refl _)
    have hM5 : ∀ q, q < N → keepM (upd M1 b5 (some (.cells 3 (ic (zeros l.length)) l.length))) (fun q => ¬ q = b5) q = M q := fun q hq => (keepM_in (by omega)).trans ((upd_ne _ _ (by omega)).trans (hM1 q hq))
    generalize frzP F4 _ _ = F5 at *
    generalize keepM _ _ = M5 at *
    have F25 := hF4.trans hs5
    refine troll_c ((hu.mono hF2).mono F25) hl (hcut.mono hs5) (by omega) hz ((ha.mono hF2).mono F25) hmi htci (fun v6 F6 N6 hw6 hF6 hN6 hr => ?_)
    rw [hre]
    try simp only [gdTT, gdFF, gdTF, gdFT, pvS, pickT, pickF, faP, lenS, capS, nilP, exA, exB, exC, notB, cndT, cndF, Bool.not_true, Bool.not_false, Nat.zero_add, Nat.add_zero]
    refine neq_f (by simp) ?_
    try simp only [gdTT, gdFF, gdTF, gdFT, pvS, pickT, pickF, faP, lenS, capS, nilP, exA, exB, exC, notB, cndT, cndF, Bool.not_true, Bool.not_false, Nat.zero_add, Nat.add_zero]
    exact last _ _ _ _ ((hF2.trans F25).trans hF6) (by omega) hM5 hr
  · refine mkz_r (by omega) (fun b5 hb5 => ?_)
    refine ⟨ldV_c (row_M ((upd_ne _ _ (by omega)).trans hbox)) rfl, ldV_c (row_M ((upd_ne _ _ (by omega)).trans hbox)) rfl, ldV_c (row_M ((upd_ne _ _ (by omega)).trans hbox)) rfl, ?_⟩
    refine callv_go (fun hc' => ⟨_, wk_P (p := fun q => q = b5) hc', ?_⟩)
    have hs5 := subF_frzP (p := fun q => q = b5) hc'
    have hz : sF (frzP F2 (upd M1 b5 (some (.cells 3 (ic (zeros l.length)) l.length))) (fun q => q = b5)) 1 (.slice (some ⟨b5, 0, none⟩) l.length l.length) (zeros l.length).length (ic (zeros l.length)) := by
      rw [zeros_len]; exact sF_lit (frzP_at (p := fun q => q = b5) rfl (upd_same _ _ _)) (by simp [ic, zeros]) (Nat.le_refl _)
    have hM5 : ∀ q, q < N → keepM (upd M1 b5 (some (.cells 3 (ic (zeros l.length)) l.length))) (fun q => ¬ q = b5) q = M q := fun q hq => (keepM_in (by omega)).trans ((upd_ne _ _ (by omega)).trans (hM1 q hq))
    have hbox5 : keepM (upd M1 b5 (some (.cells 3 (ic (zeros l.length)) l.length))) (fun q => ¬ q = b5) b1 = some (.cells 64 [a, b, c] 3) := (keepM_in (by omega)).trans ((upd_ne _ _ (by omega)).trans hbox)
    generalize frzP F2 _ _ = F5 at *
    generalize keepM _ _ = M5 at *
    refine dcut_c ((ht.mono hF2).mono hs5) ((hb.mono hF2).mono hs5) ((hc.mono hF2).mono hs5) hlol hhil htl hk (fun v4 F4 N4 hw4 hF4 hN4 hcut => ?_)
    refine ⟨ldV_c (row_M hbox5) rfl, ?_⟩
    have F25 := hs5.trans hF4
    refine troll_c ((hu.mono hF2).mono F25) hl hcut (by omega) (hz.mono hF4) ((ha.mono hF2).mono F25) hmi htci (fun v6 F6 N6 hw6 hF6 hN6 hr => ?_)
    rw [hre]
    try simp only [gdTT, gdFF, gdTF, gdFT, pvS, pickT, pickF, faP, lenS, capS, nilP, exA, exB, exC, notB, cndT, cndF, Bool.not_true, Bool.not_false, Nat.zero_add, Nat.add_zero]
    refine neq_f (by simp) ?_
    try simp only [gdTT, gdFF, gdTF, gdFT, pvS, pickT, pickF, faP, lenS, capS, nilP, exA, exB, exC, notB, cndT, cndF, Bool.not_true, Bool.not_false, Nat.zero_add, Nat.add_zero]
    exact last _ _ _ _ ((hF2.trans F25).trans hF6) (by omega) hM5 hr
end Go.Proofs.YthpacapdaembpaaDoor.A
open Go Go.RowKit Go.Proofs.YthpacapdaembpaaDoor.K Go.Proofs.YthpacapdaembpaaDoor.T
set_option linter.unusedVariables false
set_option linter.unusedSimpArgs false
namespace Go.Proofs.YthpacapdaembpaaDoor.A
variable {F F' : Nat → Option (List Value)} {M M' : Nat → Option Chunk} {N N' : Nat} {K : Kont} {E : PanK}
theorem zeros_snoc (n : Nat) : ic (zeros (n + 1)) = ic (zeros n) ++ [.int .i64 0] := by
  unfold zeros ic
  rw [List.replicate_succ', List.map_append]; rfl
set_option maxRecDepth 10000 in
/-- Run, of the reference -/
theorem rrun_c {u vt : Value} {cs : List Value} {l : List Dm} {t : List Rw} {m lo hi : List Int} (hu : dimsD F u l) (hl : l.length ≤ 140737488351232) (ht : tblD F vt t) (htl : t.length ≤ 1000000000) (hq : queryD F cs m lo hi) (hmi : ∀ x ∈ m, i64 x) (hti : ∀ r ∈ t, ∀ x ∈ r.1, i64 x) (hk' : checkE l m lo hi = 0 → ∀ r ∈ t, r.1.length ≤ 10000000000)
    (k : ∀ v' F' N', (Hp.mk F' M N').wf → subF F F' → N ≤ N' → tblD F' v' (runT l t m lo hi) → K (.tuple #[v', .int .i64 ((runE l t m lo hi : Nat) : Int)]) ⟨F', M, N'⟩) :
    callv Tryd.prog (.func (.func 37) #[] #[]) #[u, vt, .agg cs.toArray] K E ⟨F, M, N⟩ := by
  refine callv_of_text mixed Tryd.func37 (by kernel_rfl) (t37 _ E _ _ _) (fun hw => ?_)
  have hm : clean M N := hw.m
  have hq' := hq
  obtain ⟨a, b, c, rfl, ha, hb, hc, hml, hlol, hhil⟩ := hq'
  have hlu : lenV u = some (.int .i64 (l.length : Nat)) := by obtain ⟨a, c, rfl⟩ := hu.form; rfl
  refine nw_r (cs := [a, b, c]) (fun b1 hb1 => ?_)
  refine ldMa (vs := [a, b, c]) ?_
  have fin : ∀ v' (n : Nat) F' M' N', n = runE l t m lo hi → subF F F' → N ≤ N' → (∀ q, q < N → M' q = M q) → tblD F' v' (runT l t m lo hi) → ∀ h', h' = (⟨F', M', N'⟩ : Hp) → h'.wf → ∃ h'', h'.wk h'' ∧ (h''.wf → K (.tuple #[v', .int .i64 ((n : Nat) : Int)]) h'') := fun v' n F' M' N' e hF hN hM hv h' e' hc => by
    subst e; subst e'
    exact ⟨_, frz_wf hm hM hc, fun hw' => k _ _ _ hw' (hF.trans (subF_frzAll hc)) hN (hv.mono (subF_frzAll hc))⟩
  have hM1 : ∀ q, q < N → upd M b1 (some (.cells 64 [a, b, c] 3)) q = M q := fun q hq => upd_ne _ _ (by omega)
  refine rcheck_c hu hl hq (fun N2 hw2 hN2 => ?_)
  refine neq_r (fun h1 => ?_) (fun h1 => ?_)
  · try simp only [gdTT, gdFF, gdTF, gdFT, pvS, pickT, pickF, faP, lenS, capS, nilP, exA, exB, exC, notB, cndT, cndF, Bool.not_true, Bool.not_false, Nat.zero_add, Nat.add_zero]
    have e1 : checkE l m lo hi = runE l t m lo hi := by unfold runE; rw [if_neg (by omega)]
    refine fin _ _ _ _ _ e1 (subF.refl _) (by omega) hM1 ?_ _ rfl
    unfold runT; rw [if_neg (by omega)]; exact tblD.nil
  have hch : checkE l m lo hi = 0 := by omega
  have hk := hk' hch
  obtain ⟨hokd, hoklv, hokb⟩ := checkE_ok hch
  have hl4 := okDims_len hokd
  try simp only [gdTT, gdFF, gdTF, gdFT, pvS, pickT, pickF, faP, lenS, capS, nilP, exA, exB, exC, notB, cndT, cndF, Bool.not_true, Bool.not_false, Nat.zero_add, Nat.add_zero]
  refine pv_r hlu ?_
  refine rtsound_c ht (by omega) (fun N3 hN3 hw3 => ?_)
  cases hs : soundT l.length t
  · try simp only [gdTT, gdFF, gdTF, gdFT, pvS, pickT, pickF, faP, lenS, capS, nilP, exA, exB, exC, notB, cndT, cndF, Bool.not_true, Bool.not_false, Nat.zero_add, Nat.add_zero]
    have e1 : 1 = runE l t m lo hi := by unfold runE; rw [if_pos hch, if_pos hs]
    refine fin _ 1 _ _ _ e1 (subF.refl _) (by omega) hM1 ?_ _ rfl
    unfold runT; rw [if_neg (by omega)]; exact tblD.nil
  have hre := rollE_ok hch hs
  have hcl := cutF_len lo hi t
  have hrl : (runRows l t m lo hi).length ≤ t.length := by unfold runRows; have := rollT_len l (cutF lo hi t) (zeros l.length) m; omega
  have hrun : runE l t m lo hi = if (runRows l t m lo hi).length > 500 then 61 else 0 := by unfold runE; rw [if_pos hch, if_neg (by rw [hs]; decide)]
  have htci : ∀ r ∈ cutF lo hi t, ∀ x ∈ r.1, i64 x := fun r hr => hti r ((List.mem_filter.1 hr).1)
  try simp only [gdTT, gdFF, gdTF, gdFT, pvS, pickT, pickF, faP, lenS, capS, nilP, exA, exB, exC, notB, cndT, cndF, Bool.not_true, Bool.not_false, Nat.zero_add, Nat.add_zero]
  have hbox := upd_same M b1 (some (.cells 64 [a, b, c] 3))
  have hm1 : clean (upd M b1 (some (.cells 64 [a, b, c] 3))) N3 := hw3.m
  have hb13 : b1 < N3 := hm1.lt hbox
  generalize upd M b1 _ = M1 at *
  refine l37_1_1_1_1_1_0_1_0_0 (σ := Nat × Value) (fun s => s.2) (fun s => .int .i64 (s.1 : Nat))
    (fun s h => ∃ M' N', h = ⟨F, M', N'⟩ ∧ N3 ≤ N' ∧ (∀ q, q < N3 → M' q = M1 q) ∧ clean M' N' ∧ s.1 ≤ l.length ∧ own M' N3 3 1 s.2 s.1 (ic (zeros s.1))) (fun s => l.length - s.1) (0, .slice none 0 0) rfl rfl
    (fun hw4 => ⟨_, wk_refl hw4, M1, N3, rfl, Nat.le_refl _, fun _ _ => rfl, hm1, Nat.zero_le _, own.nil⟩) (fun k1 s j h1' hI hw4 next => ?_)
  obtain ⟨M4, N4, rfl, hN4, hM4, hm4, hii, ho⟩ := hI
  refine pv_r hlu ?_
  refine lss_r (fun hlt => ?_) (fun hge => ?_)
  · have i1 : s.1 < l.length := by omega
    try simp only [gdTT, gdFF, gdTF, gdFT, pvS, pickT, pickF, faP, lenS, capS, nilP, exA, exB, exC, notB, cndT, cndF, Bool.not_true, Bool.not_false, Nat.zero_add, Nat.add_zero]
    refine push_r (new := [.int .i64 0]) ho hm4 (by omega) (by kernel_rfl) rfl (List.all_eq_true.1 rfl) (by omega) (by unfold maxLen; omega) (fun p v' M5 N5 h4 h5 h6 h7 => ?_)
    refine inc_r (by omega) ?_
    refine next (s.1 + 1, v') _ _ (by simp only; omega) (fun hw5 => ⟨_, wk_refl hw5, M5, N5, rfl, by omega, fun q hq => ?_, h7, i1, ?_⟩)
    · exact ((h5 q (fun e => by have := (ho.ge q e).1; omega) (by omega)).1).trans (hM4 q hq)
    · simp only; rw [zeros_snoc]; exact h4
  · try simp only [gdTT, gdFF, gdTF, gdFT, pvS, pickT, pickF, faP, lenS, capS, nilP, exA, exB, exC, notB, cndT, cndF, Bool.not_true, Bool.not_false, Nat.zero_add, Nat.add_zero]
    rw [t37_1_1_1_1_1_1]
    rw [show s.1 = l.length by omega] at ho
    have hbox4 : M4 b1 = some (.cells 64 [a, b, c] 3) := (hM4 _ hb13).trans hbox
    try simp only [gdTT, gdFF, gdTF, gdFT, pvS, pickT, pickF, faP, lenS, capS, nilP, exA, exB, exC, notB, cndT, cndF, Bool.not_true, Bool.not_false, Nat.zero_add, Nat.add_zero]
    refine ldM (v := b) ?_ hbox4
    try simp only [gdTT, gdFF, gdTF, gdFT, pvS, pickT, pickF, faP, lenS, capS, nilP, exA, exB, exC, notB, cndT, cndF, Bool.not_true, Bool.not_false, Nat.zero_add, Nat.add_zero]
    refine ldM (v := c) ?_ hbox4
    try simp only [gdTT, gdFF, gdTF, gdFT, pvS, pickT, pickF, faP, lenS, capS, nilP, exA, exB, exC, notB, cndT, cndF, Bool.not_true, Bool.not_false, Nat.zero_add, Nat.add_zero]
    refine ldM (v := a) ?_ hbox4
    refine callv_go (fun hc' => ⟨_, wk_P (p := fun q => s.2.ownBlock = some q) hc', ?_⟩)
    have hs5 := subF_frzP (p := fun q => s.2.ownBlock = some q) hc'
    have hz : sF (frzP F M4 (fun q => s.2.ownBlock = some q)) 1 s.2 (zeros l.length).length (ic (zeros l.length)) := by rw [zeros_len]; exact ho.frzP (fun q h => h)
    have hnb : ∀ q, q < N3 → ¬ s.2.ownBlock = some q := fun q hq e => by have := (ho.ge q e).1; omega
    have hM5 : ∀ q, q < N → keepM M4 (fun q => ¬ s.2.ownBlock = some q) q = M q := fun q hq => (keepM_in (hnb q (by omega))).trans ((hM4 q (by omega)).trans (hM1 q hq))
    have hbox5 : keepM M4 (fun q => ¬ s.2.ownBlock = some q) b1 = some (.cells 64 [a, b, c] 3) := (keepM_in (hnb b1 hb13)).trans hbox4
    generalize frzP F M4 _ = F5 at *
    generalize keepM M4 _ = M5 at *
    refine rcut_c (ht.mono hs5) (hb.mono hs5) (hc.mono hs5) hlol htl hk (fun v6 F6 N6 hw6 hF6 hN6 hcut => ?_)
    refine ⟨ldV_c (row_M hbox5) rfl, ?_⟩
    have F56 := hs5.trans hF6
    refine rroll_c (hu.mono F56) hl hcut (by omega) (hz.mono hF6) (ha.mono F56) hmi htci (fun v7 F7 N7 hw7 hF7 hN7 hr => ?_)
    rw [hre]
    try simp only [gdTT, gdFF, gdTF, gdFT, pvS, pickT, pickF, faP, lenS, capS, nilP, exA, exB, exC, notB, cndT, cndF, Bool.not_true, Bool.not_false, Nat.zero_add, Nat.add_zero]
    refine pv_r (v := .int .i64 ((runRows l t m lo hi).length : Nat)) (by obtain ⟨a, c, h⟩ := hr.form; rw [h]; rfl) ?_
    refine gtr_r (fun h500 => ?_) (fun h500 => ?_)
    · try simp only [gdTT, gdFF, gdTF, gdFT, pvS, pickT, pickF, faP, lenS, capS, nilP, exA, exB, exC, notB, cndT, cndF, Bool.not_true, Bool.not_false, Nat.zero_add, Nat.add_zero]
      refine fin _ 61 _ _ _ (by rw [hrun, if_pos (by omega)]) (F56.trans hF7) (by omega) hM5 ?_ _ rfl
      unfold runT; rw [if_neg (by rw [hrun, if_pos (by omega)]; decide)]; exact tblD.nil
    · try simp only [gdTT, gdFF, gdTF, gdFT, pvS, pickT, pickF, faP, lenS, capS, nilP, exA, exB, exC, notB, cndT, cndF, Bool.not_true, Bool.not_false, Nat.zero_add, Nat.add_zero]
      refine fin _ 0 _ _ _ (by rw [hrun, if_neg (by omega)]) (F56.trans hF7) (by omega) hM5 ?_ _ rfl
      unfold runT; rw [if_pos (by rw [hrun, if_neg (by omega)])]; exact hr
end Go.Proofs.YthpacapdaembpaaDoor.A
open Go Go.RowKit Go.Proofs.YthpacapdaembpaaDoor.K Go.Proofs.YthpacapdaembpaaDoor.T
set_option linter.unusedVariables false
set_option linter.unusedSimpArgs false
namespace Go.Proofs.YthpacapdaembpaaDoor.A
variable {F F' : Nat → Option (List Value)} {M M' : Nat → Option Chunk} {N N' : Nat} {K : Kont} {E : PanK}
/-- What is small. -/
def smallQ (l : List Dm) (m lo hi : List Int) : Prop := l.length ≤ 4 ∧ (∀ d ∈ l, d.2.length ≤ 4) ∧ m.length ≤ 4 ∧ lo.length ≤ 4 ∧ hi.length ≤ 4
theorem checkE_small {l : List Dm} {m lo hi : List Int} (h : checkE l m lo hi = 0) : smallQ l m lo hi := by
  obtain ⟨h1, h2, h3⟩ := checkE_ok h
  have h4 := okDims_len h1
  have h5 := (lvOK_lev h2).1
  unfold boxOK at h3
  rw [Bool.and_eq_true] at h3
  have h6 := of_decide_eq_true h3.1
  exact ⟨h4, fun d hd => okDim_div (okDims_all h1 d hd), by omega, by omega, by omega⟩
set_option maxRecDepth 10000 in
/-- heavy, of stratumlaw06 -/
theorem heavyq_c {u v : Value} {cs : List Value} {l : List Dm} {t : List Rw} {m lo hi : List Int} (hu : dimsD F u l) (hv : tblD F v t) (hq : queryD F cs m lo hi) (hul : l.length ≤ 140737488351232) (hvl : t.length ≤ 140737488351232)
    (k : ∀ r N', N ≤ N' → (Hp.mk F M N').wf → (r = false → t.length ≤ 300 ∧ (smallQ l m lo hi → wt (t.map (·.1)) ≤ 2000)) → K (.bool r) ⟨F, M, N'⟩) :
    callv Tryd.prog (.func (.func 34) #[] #[]) #[u, v, .agg cs.toArray] K E ⟨F, M, N⟩ := by
  refine callv_of_text mixed Tryd.func34 (by kernel_rfl) (t34 _ E _ _ _) (fun hw => ?_)
  have hm : clean M N := hw.m
  obtain ⟨a, b, c, rfl, ha, hb, hc, hml, hlol, hhil⟩ := hq
  obtain ⟨rv, hv1, hv2⟩ := hv
  have hlu : lenV u = some (.int .i64 (l.length : Nat)) := by obtain ⟨a, c, rfl⟩ := hu.form; rfl
  have hlv : lenV v = some (.int .i64 (t.length : Nat)) := by obtain ⟨a, c, rfl, _⟩ := hv1.form; rfl
  have hla : lenV a = some (.int .i64 (m.length : Nat)) := by obtain ⟨a, c, rfl, _⟩ := ha.form; rfl
  have hlb : lenV b = some (.int .i64 (lo.length : Nat)) := by obtain ⟨a, c, rfl, _⟩ := hb.form; rfl
  have hlc : lenV c = some (.int .i64 (hi.length : Nat)) := by obtain ⟨a, c, rfl, _⟩ := hc.form; rfl
  obtain ⟨ru, hu1, hu2⟩ := hu
  have hku : ∀ r ∈ t, r.1.length ≤ 140737488351232 := fun r hr => by
    obtain ⟨i, hi, rfl⟩ := List.mem_iff_getElem.1 hr
    obtain ⟨_, _, _, _, _, _, _, _, ⟨kv, _, _, h⟩, _⟩ := row_at hv1 hv2 (by decide) hi
    exact h
  have ht1 : ∀ i, i ≤ t.length → wt ((t.take i).map (·.1)) ≤ i * 140737488351233 := fun i hi => by
    have := wt_le ((t.take i).map (·.1)) (fun k hk => by obtain ⟨r, hr, rfl⟩ := List.mem_map.1 hk; exact hku r (List.mem_of_mem_take hr))
    simpa [List.length_take, Nat.min_eq_left hi] using this
  refine nw_r (cs := [a, b, c]) (fun b1 hb1 => ?_)
  refine pv_r hlu ?_
  try simp only [gdTT, gdFF, gdTF, gdFT, pvS, pickT, pickF, faP, lenS, capS, nilP, exA, exB, exC, notB, cndT, cndF, Bool.not_true, Bool.not_false, Nat.zero_add, Nat.add_zero]
  refine ldM (v := a) (pv_r hla (add_n (by omega) ?_))
  try simp only [gdTT, gdFF, gdTF, gdFT, pvS, pickT, pickF, faP, lenS, capS, nilP, exA, exB, exC, notB, cndT, cndF, Bool.not_true, Bool.not_false, Nat.zero_add, Nat.add_zero]
  refine ldM (v := b) (pv_r hlb (add_n (by omega) ?_))
  try simp only [gdTT, gdFF, gdTF, gdFT, pvS, pickT, pickF, faP, lenS, capS, nilP, exA, exB, exC, notB, cndT, cndF, Bool.not_true, Bool.not_false, Nat.zero_add, Nat.add_zero]
  refine ldM (v := c) (pv_r hlc (add_n (by omega) ?_))
  have hdrop : ∀ {h : Hp}, h = (⟨F, upd M b1 (some (.cells 64 [a, b, c] 3)), b1 + 1⟩ : Hp) → h.wf → h.wk ⟨F, M, b1 + 1⟩ := fun e hc => by subst e; exact wk_drop hc (subM_drop (subM_refl _) (hm _ hb1))
  refine l34_1_1_0_1_0_0 (σ := Nat × Int) (fun s => .int .i64 s.2) (fun s => .int .i64 (s.1 : Nat)) (fun s h => h = ⟨F, M, b1 + 1⟩ ∧ s.1 ≤ l.length ∧ (smallQ l m lo hi → 0 ≤ s.2 ∧ s.2 ≤ 16 + 4 * s.1)) (fun s => l.length - s.1) (0, ((l.length + m.length + lo.length + hi.length : Nat) : Int)) rfl rfl
    (fun hw1 => ⟨_, hdrop rfl hw1, rfl, Nat.zero_le _, fun hs => by obtain ⟨h1, h2, h3, h4, h5⟩ := hs; simp only; omega⟩) (fun k1 s j h1 hI hw1 next => ?_)
  obtain ⟨rfl, hii, he⟩ := hI
  refine pv_r hlu ?_
  refine lss_r (fun hlt => ?_) (fun hge => ?_)
  · have h1 : s.1 < l.length := by omega
    try simp only [gdTT, gdFF, gdTF, gdFT, pvS, pickT, pickF, faP, lenS, capS, nilP, exA, exB, exC, notB, cndT, cndF, Bool.not_true, Bool.not_false, Nat.zero_add, Nat.add_zero]
    refine fld_r hu1 hu2 (by decide) h1 (off := 1) (by decide) fun p q r x hR _ hx => ?_
    obtain ⟨kv, rfl, hkv, hkl⟩ := hR
    simp at hx
    subst hx
    refine lenF_r hkv ?_
    refine addw_r (inc_r (by omega) ?_)
    refine next (s.1 + 1, IntKind.i64.wrap (s.2 + ((l[s.1].2.length : Nat) : Int))) _ _ (by simp only; omega) (fun hw2 => ⟨_, wk_refl hw2, rfl, h1, fun h3 => ?_⟩)
    have h4 := he h3
    have h5 := h3.2.1 _ (List.getElem_mem h1)
    have h6 := h3.1
    simp only
    rw [wrap_in (by omega) (by omega)]
    omega
  · try simp only [gdTT, gdFF, gdTF, gdFT, pvS, pickT, pickF, faP, lenS, capS, nilP, exA, exB, exC, notB, cndT, cndF, Bool.not_true, Bool.not_false, Nat.zero_add, Nat.add_zero]
    rw [t34_1_1_1]
    refine l34_1_1_1_0_1_0_0 (σ := Nat × Int) (fun s => .int .i64 s.2) (fun s => .int .i64 (s.1 : Nat)) (fun s h => h = ⟨F, M, b1 + 1⟩ ∧ s.1 ≤ t.length ∧ (smallQ l m lo hi → t.length ≤ 300 → (wt ((t.take s.1).map (·.1)) : Int) ≤ s.2 ∧ s.2 ≤ 32 + wt ((t.take s.1).map (·.1)))) (fun s => t.length - s.1) (0, s.2) rfl rfl
      (fun hw1 => ⟨_, wk_refl hw1, rfl, Nat.zero_le _, fun hs _ => by have := he hs; have := hs.1; simp [wt]; omega⟩) (fun k1 s j h1 hI hw1 next => ?_)
    obtain ⟨rfl, hii, he⟩ := hI
    refine pv_r hlv ?_
    refine lss_r (fun hlt => ?_) (fun hge => ?_)
    · have h1 : s.1 < t.length := by omega
      try simp only [gdTT, gdFF, gdTF, gdFT, pvS, pickT, pickF, faP, lenS, capS, nilP, exA, exB, exC, notB, cndT, cndF, Bool.not_true, Bool.not_false, Nat.zero_add, Nat.add_zero]
      refine key_r hv1 hv2 h1 fun p q kv hkv' hkl => lenF_r hkv' ?_
      refine add_n (a := 1) (by omega) (addw_r (inc_r (by omega) ?_))
      refine next (s.1 + 1, IntKind.i64.wrap (s.2 + ((1 + t[s.1].1.length : Nat) : Int))) _ _ (by simp only; omega) (fun hw2 => ⟨_, wk_refl hw2, rfl, h1, fun h3 h3' => ?_⟩)
      have h4 := ht1 s.1 hii
      have h5 : s.1 * 140737488351233 ≤ 300 * 140737488351233 := Nat.mul_le_mul_right _ (by omega)
      have h6 := he h3 h3'
      simp only
      rw [wrap_in (by omega) (by omega), List.take_add_one, List.getElem?_eq_getElem h1, Option.toList_some, List.map_append, List.map_singleton, wt_snoc]
      omega
    · try simp only [gdTT, gdFF, gdTF, gdFT, pvS, pickT, pickF, faP, lenS, capS, nilP, exA, exB, exC, notB, cndT, cndF, Bool.not_true, Bool.not_false, Nat.zero_add, Nat.add_zero]
      rw [t34_1_1_1_1]
      rw [List.take_of_length_le (by omega)] at he
      refine gtr_r (fun h1 => ?_) (fun h1 => ?_)
      · try simp only [gdTT, gdFF, gdTF, gdFT, pvS, pickT, pickF, faP, lenS, capS, nilP, exA, exB, exC, notB, cndT, cndF, Bool.not_true, Bool.not_false, Nat.zero_add, Nat.add_zero]
        exact fun hc => ⟨_, wk_refl hc, fun hw' => k _ _ (by omega) hw' (fun h => by cases h)⟩
      · try simp only [gdTT, gdFF, gdTF, gdFT, pvS, pickT, pickF, faP, lenS, capS, nilP, exA, exB, exC, notB, cndT, cndF, Bool.not_true, Bool.not_false, Nat.zero_add, Nat.add_zero]
        refine pv_r hlv ?_
        refine gtr_r (fun h2 => ?_) (fun h2 => ?_)
        · try simp only [gdTT, gdFF, gdTF, gdFT, pvS, pickT, pickF, faP, lenS, capS, nilP, exA, exB, exC, notB, cndT, cndF, Bool.not_true, Bool.not_false, Nat.zero_add, Nat.add_zero]
          exact fun hc => ⟨_, wk_refl hc, fun hw' => k _ _ (by omega) hw' (fun h => by cases h)⟩
        · try simp only [gdTT, gdFF, gdTF, gdFT, pvS, pickT, pickF, faP, lenS, capS, nilP, exA, exB, exC, notB, cndT, cndF, Bool.not_true, Bool.not_false, Nat.zero_add, Nat.add_zero]
          refine fun hc => ⟨_, wk_refl hc, fun hw' => k _ _ (by omega) hw' (fun _ => ⟨by omega, fun hs => ?_⟩)⟩
          have := he hs (by omega)
          omega
theorem run_known : runE [(10, [5])] [([1], ⟨1, 0, 0, 0⟩), ([4], ⟨1, 0, 0, 0⟩), ([7], ⟨1, 0, 0, 0⟩)] [1] [0] [10] = 0 ∧ runT [(10, [5])] [([1], ⟨1, 0, 0, 0⟩), ([4], ⟨1, 0, 0, 0⟩), ([7], ⟨1, 0, 0, 0⟩)] [1] [0] [10] = [([0], ⟨2, 0, 0, 0⟩), ([1], ⟨1, 0, 0, 0⟩)] ∧ checkE [(10, [5])] [] [] [] = 40 := by decide +kernel
theorem int1 {b : Nat} {x : Int} (h : F b = some [.int .i64 x]) : sF F 1 (.slice (some ⟨b, 0, none⟩) 1 1) [x].length (ic [x]) := sF_lit h rfl (by decide)
theorem row_cons {b : Nat} {x : Int} {c : CE} {rows : List (List Value)} {t : List Rw} (h : F b = some [.int .i64 x]) (hr : rowsF (rowD F) 5 rows t) : rowsF (rowD F) 5 ((.slice (some ⟨b, 0, none⟩) 1 1 :: c.cs) :: rows) (([x], c) :: t) := by
  have hk := int1 h
  have h1 : rowD F (.slice (some ⟨b, 0, none⟩) 1 1 :: c.cs) ([x], c) := ⟨_, rfl, hk, by simp⟩
  have := rows_app ((rowsF.nil (rowD F) 5).snoc (row_cells (c := c) hk).1 (row_cells (c := c) hk).2 h1) hr
  simpa using this
set_option maxRecDepth 10000 in
/-- known, of stratumlaw06 -/
theorem knownq_c (k : ∀ F' N', subF F F' → N ≤ N' → (Hp.mk F' M N').wf → K (.bool true) ⟨F', M, N'⟩) : callv Tryd.prog (.func (.func 35) #[] #[]) #[] K E ⟨F, M, N⟩ := by
  refine callv_of_text mixed Tryd.func35 (by kernel_rfl) (t35 _ E) (fun hw => ?_)
  have hm : clean M N := hw.m
  refine nws_r (cs := [.int .i64 5]) (by kernel_rfl) (fun b1 hb1 => ?_)
  refine pv_r (v := .agg #[.int .i64 10, .slice (some ⟨b1, 0, none⟩) 1 1]) (by kernel_rfl) ?_
  refine nws_r (cs := [.int .i64 10, .slice (some ⟨b1, 0, none⟩) 1 1]) (by kernel_rfl) (fun b2 hb2 => ?_)
  refine nws_r (cs := [.int .i64 1]) (by kernel_rfl) (fun b3 hb3 => ?_)
  refine pv_r (v := .agg (CE.mk 1 0 0 0).cs.toArray) (by kernel_rfl) ?_
  refine pv_r (v := .agg (.slice (some ⟨b3, 0, none⟩) 1 1 :: (CE.mk 1 0 0 0).cs).toArray) (by kernel_rfl) ?_
  refine nws_r (cs := [.int .i64 4]) (by kernel_rfl) (fun b4 hb4 => ?_)
  refine pv_r (v := .agg (CE.mk 1 0 0 0).cs.toArray) (by kernel_rfl) ?_
  refine pv_r (v := .agg (.slice (some ⟨b4, 0, none⟩) 1 1 :: (CE.mk 1 0 0 0).cs).toArray) (by kernel_rfl) ?_
  refine nws_r (cs := [.int .i64 7]) (by kernel_rfl) (fun b5 hb5 => ?_)
  refine pv_r (v := .agg (CE.mk 1 0 0 0).cs.toArray) (by kernel_rfl) ?_
  refine pv_r (v := .agg (.slice (some ⟨b5, 0, none⟩) 1 1 :: (CE.mk 1 0 0 0).cs).toArray) (by kernel_rfl) ?_
  refine nws_r (cs := (.slice (some ⟨b3, 0, none⟩) 1 1 :: (CE.mk 1 0 0 0).cs) ++ (.slice (some ⟨b4, 0, none⟩) 1 1 :: (CE.mk 1 0 0 0).cs) ++ (.slice (some ⟨b5, 0, none⟩) 1 1 :: (CE.mk 1 0 0 0).cs)) (by kernel_rfl) (fun b6 hb6 => ?_)
  refine nws_r (cs := [.int .i64 1]) (by kernel_rfl) (fun b7 hb7 => ?_)
  refine nws_r (cs := [.int .i64 0]) (by kernel_rfl) (fun b8 hb8 => ?_)
  refine nws_r (cs := [.int .i64 10]) (by kernel_rfl) (fun b9 hb9 => ?_)
  refine pv_r (v := .agg #[.slice (some ⟨b7, 0, none⟩) 1 1, .slice (some ⟨b8, 0, none⟩) 1 1, .slice (some ⟨b9, 0, none⟩) 1 1]) (by kernel_rfl) ?_
  generalize hM9 : upd (upd (upd (upd (upd (upd (upd (upd (upd M b1 _) b2 _) b3 _) b4 _) b5 _) b6 _) b7 _) b8 _) b9 _ = M9
  have g9 : M9 b9 = some (.cells 3 [.int .i64 10] 1) := by rw [← hM9]; exact upd_same _ _ _
  have g8 : M9 b8 = some (.cells 3 [.int .i64 0] 1) := by rw [← hM9]; exact (upd_ne _ _ (by omega)).trans (upd_same _ _ _)
  have g7 : M9 b7 = some (.cells 3 [.int .i64 1] 1) := by rw [← hM9]; exact (upd_ne _ _ (by omega)).trans ((upd_ne _ _ (by omega)).trans (upd_same _ _ _))
  have g6 : M9 b6 = some (.cells 43 ((.slice (some ⟨b3, 0, none⟩) 1 1 :: (CE.mk 1 0 0 0).cs) ++ (.slice (some ⟨b4, 0, none⟩) 1 1 :: (CE.mk 1 0 0 0).cs) ++ (.slice (some ⟨b5, 0, none⟩) 1 1 :: (CE.mk 1 0 0 0).cs)) 15) := by rw [← hM9]; exact (upd_ne _ _ (by omega)).trans ((upd_ne _ _ (by omega)).trans ((upd_ne _ _ (by omega)).trans (upd_same _ _ _)))
  have g5 : M9 b5 = some (.cells 3 [.int .i64 7] 1) := by rw [← hM9]; exact (upd_ne _ _ (by omega)).trans ((upd_ne _ _ (by omega)).trans ((upd_ne _ _ (by omega)).trans ((upd_ne _ _ (by omega)).trans (upd_same _ _ _))))
  have g4 : M9 b4 = some (.cells 3 [.int .i64 4] 1) := by rw [← hM9]; exact (upd_ne _ _ (by omega)).trans ((upd_ne _ _ (by omega)).trans ((upd_ne _ _ (by omega)).trans ((upd_ne _ _ (by omega)).trans ((upd_ne _ _ (by omega)).trans (upd_same _ _ _)))))
  have g3 : M9 b3 = some (.cells 3 [.int .i64 1] 1) := by rw [← hM9]; exact (upd_ne _ _ (by omega)).trans ((upd_ne _ _ (by omega)).trans ((upd_ne _ _ (by omega)).trans ((upd_ne _ _ (by omega)).trans ((upd_ne _ _ (by omega)).trans ((upd_ne _ _ (by omega)).trans (upd_same _ _ _))))))
  have g2 : M9 b2 = some (.cells 51 [.int .i64 10, .slice (some ⟨b1, 0, none⟩) 1 1] 2) := by rw [← hM9]; exact (upd_ne _ _ (by omega)).trans ((upd_ne _ _ (by omega)).trans ((upd_ne _ _ (by omega)).trans ((upd_ne _ _ (by omega)).trans ((upd_ne _ _ (by omega)).trans ((upd_ne _ _ (by omega)).trans ((upd_ne _ _ (by omega)).trans (upd_same _ _ _)))))))
  have g1 : M9 b1 = some (.cells 3 [.int .i64 5] 1) := by rw [← hM9]; exact (upd_ne _ _ (by omega)).trans ((upd_ne _ _ (by omega)).trans ((upd_ne _ _ (by omega)).trans ((upd_ne _ _ (by omega)).trans ((upd_ne _ _ (by omega)).trans ((upd_ne _ _ (by omega)).trans ((upd_ne _ _ (by omega)).trans ((upd_ne _ _ (by omega)).trans (upd_same _ _ _))))))))
  have hMM : ∀ q, q < N → M9 q = M q := fun q hq => by rw [← hM9]; exact (upd_ne _ _ (by omega)).trans ((upd_ne _ _ (by omega)).trans ((upd_ne _ _ (by omega)).trans ((upd_ne _ _ (by omega)).trans ((upd_ne _ _ (by omega)).trans ((upd_ne _ _ (by omega)).trans ((upd_ne _ _ (by omega)).trans ((upd_ne _ _ (by omega)).trans (upd_ne _ _ (by omega)))))))))
  clear hM9
  obtain ⟨N9, hN9⟩ : ∃ n, n = b9 + 1 := ⟨_, rfl⟩
  rw [← hN9]
  refine callv_go (fun hc => ⟨_, frz_wf hm hMM hc, ?_⟩)
  have hs := subF_frzAll (N := N) hc
  have f1 := frz_at (F := F) (N := N) (by omega) g1
  have f2 := frz_at (F := F) (N := N) (by omega) g2
  have f3 := frz_at (F := F) (N := N) (by omega) g3
  have f4 := frz_at (F := F) (N := N) (by omega) g4
  have f5 := frz_at (F := F) (N := N) (by omega) g5
  have f6 := frz_at (F := F) (N := N) (by omega) g6
  have f7 := frz_at (F := F) (N := N) (by omega) g7
  have f8 := frz_at (F := F) (N := N) (by omega) g8
  have f9 := frz_at (F := F) (N := N) (by omega) g9
  generalize frzAll F M9 N = F9 at *
  have hd : dimsD F9 (.slice (some ⟨b2, 0, none⟩) 1 1) [(10, [5])] := by
    have hd1 : dimD F9 [.int .i64 10, .slice (some ⟨b1, 0, none⟩) 1 1] (10, [5]) := ⟨_, rfl, int1 f1, by decide⟩
    exact ⟨[[.int .i64 10, .slice (some ⟨b1, 0, none⟩) 1 1]], sF_lit f2 rfl (by decide), rowsF_snoc1 (rowsF.nil (dimD F9) 2) hd1.one hd1⟩
  have ht : tblD F9 (.slice (some ⟨b6, 0, none⟩) 3 3) [([1], ⟨1, 0, 0, 0⟩), ([4], ⟨1, 0, 0, 0⟩), ([7], ⟨1, 0, 0, 0⟩)] :=
    ⟨[.slice (some ⟨b3, 0, none⟩) 1 1 :: (CE.mk 1 0 0 0).cs, .slice (some ⟨b4, 0, none⟩) 1 1 :: (CE.mk 1 0 0 0).cs, .slice (some ⟨b5, 0, none⟩) 1 1 :: (CE.mk 1 0 0 0).cs], sF_lit f6 rfl (by decide), row_cons f3 (row_cons f4 (row_cons f5 (rowsF.nil _ _)))⟩
  have hq : queryD F9 [.slice (some ⟨b7, 0, none⟩) 1 1, .slice (some ⟨b8, 0, none⟩) 1 1, .slice (some ⟨b9, 0, none⟩) 1 1] [1] [0] [10] := ⟨_, _, _, rfl, int1 f7, int1 f8, int1 f9, by decide, by decide, by decide⟩
  refine run_c hd (by decide) ht (by decide) hq (by simp [i64]) (by simp [i64]) (fun _ => by simp) (fun v' F' N' hw' hF hN hr => ?_)
  obtain ⟨e1, e2, e3⟩ := run_known
  rw [e1]
  rw [e2] at hr
  obtain ⟨rows, ht1, ht2⟩ := hr
  try simp only [gdTT, gdFF, gdTF, gdFT, pvS, pickT, pickF, faP, lenS, capS, nilP, exA, exB, exC, notB, cndT, cndF, Bool.not_true, Bool.not_false, Nat.zero_add, Nat.add_zero]
  refine eql_t rfl ?_
  try simp only [gdTT, gdFF, gdTF, gdFT, pvS, pickT, pickF, faP, lenS, capS, nilP, exA, exB, exC, notB, cndT, cndF, Bool.not_true, Bool.not_false, Nat.zero_add, Nat.add_zero]
  refine lenF_r ht1 ?_
  refine eql_t rfl ?_
  try simp only [gdTT, gdFF, gdTF, gdFT, pvS, pickT, pickF, faP, lenS, capS, nilP, exA, exB, exC, notB, cndT, cndF, Bool.not_true, Bool.not_false, Nat.zero_add, Nat.add_zero]
  refine cf_r 0 (i := 0) (x := .int .i64 2) ht1 ht2 (by decide) rfl fun p q q' => ?_
  refine eql_t rfl ?_
  try simp only [gdTT, gdFF, gdTF, gdFT, pvS, pickT, pickF, faP, lenS, capS, nilP, exA, exB, exC, notB, cndT, cndF, Bool.not_true, Bool.not_false, Nat.zero_add, Nat.add_zero]
  refine key_r (i := 1) ht1 ht2 (by decide) fun p q kv hkv hkl => ?_
  refine ixn_r (i := 0) hkv (by decide) fun p => ?_
  refine eql_t rfl ?_
  try simp only [gdTT, gdFF, gdTF, gdFT, pvS, pickT, pickF, faP, lenS, capS, nilP, exA, exB, exC, notB, cndT, cndF, Bool.not_true, Bool.not_false, Nat.zero_add, Nat.add_zero]
  refine pv_r (v := .agg #[.slice none 0 0, .slice none 0 0, .slice none 0 0]) (by kernel_rfl) ?_
  have hq0 : queryD F' [.slice none 0 0, .slice none 0 0, .slice none 0 0] [] [] [] := ⟨_, _, _, rfl, sF.nil _ _ _, sF.nil _ _ _, sF.nil _ _ _, by decide, by decide, by decide⟩
  refine check_c (hd.mono hF) (by decide) hq0 (fun F2 N2 hw2 hF2 hN2 => ?_)
  rw [e3]
  refine eql_t rfl ?_
  try simp only [gdTT, gdFF, gdTF, gdFT, pvS, pickT, pickF, faP, lenS, capS, nilP, exA, exB, exC, notB, cndT, cndF, Bool.not_true, Bool.not_false, Nat.zero_add, Nat.add_zero]
  exact fun hc => ⟨_, wk_refl hc, fun hw' => k _ _ ((hs.trans hF).trans hF2) (by omega) hw'⟩
end Go.Proofs.YthpacapdaembpaaDoor.A
