import Derived.Test.YtgjdjdjhoipfmaaGreatDoorProg
import Derived.Test.YtgjdjdjhoipfmaaGreatDoorZ1
import Derived.Test.YtgjdjdjhoipfmaaGreatDoorZ4
import Derived.Test.YtgjdjdjhoipfmaaGreatDoorZ3
set_option maxHeartbeats 4000000
open Go Go.RowKit Go.Proofs.YtgjdjdjhoipfmaaGreatDoor.K
set_option linter.unusedVariables false
set_option maxRecDepth 100000
namespace Go.Proofs.YtgjdjdjhoipfmaaGreatDoor.T
theorem t20 (K : Kont) (E : PanK) (x0 x1 : Value)  : den Tryz.prog (sel (bodyOf Tryz.f20) []) (bodyQ Tryz.prog Tryz.f20.results.toList K E) #[x0, x1, undef, undef, undef, undef, undef, undef, undef, undef, undef, undef] =
  callv Tryz.prog (.func (.func 42) #[] #[]) #[(.slice none 0 0), x0] (fun t1 =>
  bs t1 fun t2 =>
  callv Tryz.prog (.func (.func 42) #[] #[]) #[(.slice none 0 0), x1] (fun t3 h4 => (bsV h4 t1 t2) ∧ (
    bs t3 fun t5 =>
    pv (binV .none .eql t2 t5) fun t6 =>
    K t6) h4) E) E := by kernel_rfl

theorem t42 (K : Kont) (E : PanK) (x0 x1 : Value)  : den Tryz.prog (sel (bodyOf Tryz.f42) []) (bodyQ Tryz.prog Tryz.f42.results.toList K E) #[x0, x1, undef, undef, undef, undef, undef, undef, undef, undef, undef, undef, undef, undef, undef, undef, undef, undef, undef, undef, undef, undef, undef, undef, undef, undef, undef, undef, undef, undef, undef, undef, undef, undef, undef, undef, undef, undef, undef, undef, undef, undef, undef, undef, undef, undef, undef, undef, undef, undef, undef, undef, undef, undef, undef, undef, undef] =
  pv (lenV x1) fun t1 =>
  pv (cvV .u64 t1) fun t2 =>
  callv Tryz.prog (.func (.func 80) #[] #[]) #[x0, t2, (.int .i64 4)] (fun t3 =>
  lp (fun k1 => den Tryz.prog (sel (bodyOf Tryz.f42) [1, 1, 0, 1, 0, 0]) (thenD k1 (blk 0 (thenD (den Tryz.prog (sel (bodyOf Tryz.f42) [1, 1, 1]) (bodyQ Tryz.prog Tryz.f42.results.toList K E)) (bodyQ Tryz.prog Tryz.f42.results.toList K E))))) #[t3, x1, undef, undef, (.slice none 0 0), (.int .i64 0), undef, x0, x1, t1, t2, t3, undef, undef, undef, undef, undef, undef, undef, undef, undef, undef, undef, undef, undef, undef, undef, undef, undef, undef, undef, undef, undef, undef, undef, undef, undef, undef, undef, undef, undef, undef, undef, undef, undef, undef, undef, undef, undef, undef, undef, undef, undef, undef, undef, undef, undef]) E := by kernel_rfl
def m42_1_1_0_1_0_0 (x1 x2 x3 x4 x7 x8 x9 x10 x11 x56 : Value) (v0 v5 : Value) (j : Nat → Value) : Env := #[v0, x1, x2, x3, x4, v5, (j 6), x7, x8, x9, x10, x11, (j 12), (j 13), (j 14), (j 15), (j 16), (j 17), (j 18), (j 19), (j 20), (j 21), (j 22), (j 23), (j 24), (j 25), (j 26), (j 27), (j 28), (j 29), (j 30), (j 31), (j 32), (j 33), (j 34), (j 35), (j 36), (j 37), (j 38), (j 39), (j 40), (j 41), (j 42), (j 43), (j 44), (j 45), (j 46), (j 47), (j 48), (j 49), (j 50), (j 51), (j 52), (j 53), (j 54), (j 55), x56]
theorem t42_1_1_0_1_0_0 (K : Kont) (E : PanK) (k1 : Env → Hp → Prop) (x1 x2 x3 x4 x7 x8 x9 x10 x11 x56 v0 v5 : Value) (j : Nat → Value) : den Tryz.prog (sel (bodyOf Tryz.f42) [1, 1, 0, 1, 0, 0]) (thenD k1 (blk 0 (thenD (den Tryz.prog (sel (bodyOf Tryz.f42) [1, 1, 1]) (bodyQ Tryz.prog Tryz.f42.results.toList K E)) (bodyQ Tryz.prog Tryz.f42.results.toList K E)))) (m42_1_1_0_1_0_0 x1 x2 x3 x4 x7 x8 x9 x10 x11 x56 v0 v5 j) =
  pv (lenV x1) fun t1 =>
  pv (binV .none .lss v5 t1) fun t2 =>
  cnd t2 (
    pv (iaV none 2 x1 v5) fun t3 =>
    pv (faV 0 t3) fun t4 =>
    ld false 1 t4 fun t5 =>
    pv (lenV t5) fun t6 =>
    pv (cvV .u64 t6) fun t7 =>
    callv Tryz.prog (.func (.func 80) #[] #[]) #[v0, t7, (.int .i64 1)] (fun t8 =>
    lp (fun k2 => den Tryz.prog (sel (bodyOf Tryz.f42) [1, 1, 0, 1, 0, 0, 1, 0, 0, 1, 0, 1, 0, 0]) (thenD k2 (blk 2 (thenD (den Tryz.prog (sel (bodyOf Tryz.f42) [1, 1, 0, 1, 0, 0, 1, 0, 0, 1, 1]) (blk 1 (thenD (den Tryz.prog (sel (bodyOf Tryz.f42) [1, 1, 0, 1, 0, 0, 1, 1]) (thenD k1 (blk 0 (thenD (den Tryz.prog (sel (bodyOf Tryz.f42) [1, 1, 1]) (bodyQ Tryz.prog Tryz.f42.results.toList K E)) (bodyQ Tryz.prog Tryz.f42.results.toList K E))))) (thenD k1 (blk 0 (thenD (den Tryz.prog (sel (bodyOf Tryz.f42) [1, 1, 1]) (bodyQ Tryz.prog Tryz.f42.results.toList K E)) (bodyQ Tryz.prog Tryz.f42.results.toList K E))))))) (blk 1 (thenD (den Tryz.prog (sel (bodyOf Tryz.f42) [1, 1, 0, 1, 0, 0, 1, 1]) (thenD k1 (blk 0 (thenD (den Tryz.prog (sel (bodyOf Tryz.f42) [1, 1, 1]) (bodyQ Tryz.prog Tryz.f42.results.toList K E)) (bodyQ Tryz.prog Tryz.f42.results.toList K E))))) (thenD k1 (blk 0 (thenD (den Tryz.prog (sel (bodyOf Tryz.f42) [1, 1, 1]) (bodyQ Tryz.prog Tryz.f42.results.toList K E)) (bodyQ Tryz.prog Tryz.f42.results.toList K E)))))))))) #[t8, x1, x2, x3, x4, v5, (.int .i64 0), x7, x8, x9, x10, x11, v5, x1, t1, t2, (j 16), (j 17), v0, x1, v5, t3, t4, t5, t6, t7, t8, (j 27), (j 28), (j 29), (j 30), (j 31), (j 32), (j 33), (j 34), (j 35), (j 36), (j 37), (j 38), (j 39), (j 40), (j 41), (j 42), (j 43), (j 44), (j 45), (j 46), (j 47), (j 48), (j 49), (j 50), (j 51), (j 52), (j 53), (j 54), (j 55), x56]) E) (
    den Tryz.prog (sel (bodyOf Tryz.f42) [1, 1, 1]) (bodyQ Tryz.prog Tryz.f42.results.toList K E) #[v0, x1, x2, x3, x4, v5, (j 6), x7, x8, x9, x10, x11, v5, x1, t1, t2, (j 16), (j 17), (j 18), (j 19), (j 20), (j 21), (j 22), (j 23), (j 24), (j 25), (j 26), (j 27), (j 28), (j 29), (j 30), (j 31), (j 32), (j 33), (j 34), (j 35), (j 36), (j 37), (j 38), (j 39), (j 40), (j 41), (j 42), (j 43), (j 44), (j 45), (j 46), (j 47), (j 48), (j 49), (j 50), (j 51), (j 52), (j 53), (j 54), (j 55), x56]) := by kernel_rfl
theorem t42_1_1_1 (K : Kont) (E : PanK) (x0 x1 x2 x3 x4 x5 x6 x7 x8 x9 x10 x11 x12 x13 x14 x15 x16 x17 x18 x19 x20 x21 x22 x23 x24 x25 x26 x27 x28 x29 x30 x31 x32 x33 x34 x35 x36 x37 x38 x39 x40 x41 x42 x43 x44 x45 x46 x47 x48 x49 x50 x51 x52 x53 x54 x55 x56 : Value)  : den Tryz.prog (sel (bodyOf Tryz.f42) [1, 1, 1]) (bodyQ Tryz.prog Tryz.f42.results.toList K E) #[x0, x1, x2, x3, x4, x5, x6, x7, x8, x9, x10, x11, x12, x13, x14, x15, x16, x17, x18, x19, x20, x21, x22, x23, x24, x25, x26, x27, x28, x29, x30, x31, x32, x33, x34, x35, x36, x37, x38, x39, x40, x41, x42, x43, x44, x45, x46, x47, x48, x49, x50, x51, x52, x53, x54, x55, x56] =
  K x0 := by kernel_rfl
def m42_1_1_0_1_0_0_1_0_0_1_0_1_0_0 (x1 x2 x3 x4 x5 x7 x8 x9 x10 x11 x12 x13 x14 x15 x16 x17 x18 x19 x20 x21 x22 x23 x24 x25 x26 x48 x49 x50 x51 x52 x53 x54 x55 x56 : Value) (v0 v6 : Value) (j : Nat → Value) : Env := #[v0, x1, x2, x3, x4, x5, v6, x7, x8, x9, x10, x11, x12, x13, x14, x15, x16, x17, x18, x19, x20, x21, x22, x23, x24, x25, x26, (j 27), (j 28), (j 29), (j 30), (j 31), (j 32), (j 33), (j 34), (j 35), (j 36), (j 37), (j 38), (j 39), (j 40), (j 41), (j 42), (j 43), (j 44), (j 45), (j 46), (j 47), x48, x49, x50, x51, x52, x53, x54, x55, x56]
theorem t42_1_1_0_1_0_0_1_0_0_1_0_1_0_0 (K : Kont) (E : PanK) (k1 k2 : Env → Hp → Prop) (x1 x2 x3 x4 x5 x7 x8 x9 x10 x11 x12 x13 x14 x15 x16 x17 x18 x19 x20 x21 x22 x23 x24 x25 x26 x48 x49 x50 x51 x52 x53 x54 x55 x56 v0 v6 : Value) (j : Nat → Value) : den Tryz.prog (sel (bodyOf Tryz.f42) [1, 1, 0, 1, 0, 0, 1, 0, 0, 1, 0, 1, 0, 0]) (thenD k2 (blk 2 (thenD (den Tryz.prog (sel (bodyOf Tryz.f42) [1, 1, 0, 1, 0, 0, 1, 0, 0, 1, 1]) (blk 1 (thenD (den Tryz.prog (sel (bodyOf Tryz.f42) [1, 1, 0, 1, 0, 0, 1, 1]) (thenD k1 (blk 0 (thenD (den Tryz.prog (sel (bodyOf Tryz.f42) [1, 1, 1]) (bodyQ Tryz.prog Tryz.f42.results.toList K E)) (bodyQ Tryz.prog Tryz.f42.results.toList K E))))) (thenD k1 (blk 0 (thenD (den Tryz.prog (sel (bodyOf Tryz.f42) [1, 1, 1]) (bodyQ Tryz.prog Tryz.f42.results.toList K E)) (bodyQ Tryz.prog Tryz.f42.results.toList K E))))))) (blk 1 (thenD (den Tryz.prog (sel (bodyOf Tryz.f42) [1, 1, 0, 1, 0, 0, 1, 1]) (thenD k1 (blk 0 (thenD (den Tryz.prog (sel (bodyOf Tryz.f42) [1, 1, 1]) (bodyQ Tryz.prog Tryz.f42.results.toList K E)) (bodyQ Tryz.prog Tryz.f42.results.toList K E))))) (thenD k1 (blk 0 (thenD (den Tryz.prog (sel (bodyOf Tryz.f42) [1, 1, 1]) (bodyQ Tryz.prog Tryz.f42.results.toList K E)) (bodyQ Tryz.prog Tryz.f42.results.toList K E))))))))) (m42_1_1_0_1_0_0_1_0_0_1_0_1_0_0 x1 x2 x3 x4 x5 x7 x8 x9 x10 x11 x12 x13 x14 x15 x16 x17 x18 x19 x20 x21 x22 x23 x24 x25 x26 x48 x49 x50 x51 x52 x53 x54 x55 x56 v0 v6 j) =
  pv (iaV none 2 x1 x5) fun t1 =>
  pv (faV 0 t1) fun t2 =>
  ld false 1 t2 fun t3 =>
  pv (lenV t3) fun t4 =>
  pv (binV .none .lss v6 t4) fun t5 =>
  cnd t5 (
    pv (iaV none 2 x1 x5) fun t6 =>
    pv (faV 0 t6) fun t7 =>
    ld false 1 t7 fun t8 =>
    pv (iaV none 1 t8 v6) fun t9 =>
    ld false 1 t9 fun t10 =>
    pv (cvV .u64 t10) fun t11 =>
    callv Tryz.prog (.func (.func 80) #[] #[]) #[v0, t11, (.int .i64 4)] (fun t12 =>
    pv (binV .none .add v6 (.int .i64 1)) fun t13 =>
    k2 (m42_1_1_0_1_0_0_1_0_0_1_0_1_0_0 x1 x2 x3 x4 x5 x7 x8 x9 x10 x11 x12 x13 x14 x15 x16 x17 x18 x19 x20 x21 x22 x23 x24 x25 x26 x48 x49 x50 x51 x52 x53 x54 x55 x56 t12 t13 (jf #[t12, x1, x2, x3, x4, x5, t13, x7, x8, x9, x10, x11, x12, x13, x14, x15, x16, x17, x18, x19, x20, x21, x22, x23, x24, x25, x26, v6, x1, x5, t1, t2, t3, t4, t5, v6, t13, v0, x1, x5, t6, t7, t8, v6, t9, t10, t11, t12, x48, x49, x50, x51, x52, x53, x54, x55, x56]))) E) (
    den Tryz.prog (sel (bodyOf Tryz.f42) [1, 1, 0, 1, 0, 0, 1, 0, 0, 1, 1]) (blk 1 (thenD (den Tryz.prog (sel (bodyOf Tryz.f42) [1, 1, 0, 1, 0, 0, 1, 1]) (thenD k1 (blk 0 (thenD (den Tryz.prog (sel (bodyOf Tryz.f42) [1, 1, 1]) (bodyQ Tryz.prog Tryz.f42.results.toList K E)) (bodyQ Tryz.prog Tryz.f42.results.toList K E))))) (thenD k1 (blk 0 (thenD (den Tryz.prog (sel (bodyOf Tryz.f42) [1, 1, 1]) (bodyQ Tryz.prog Tryz.f42.results.toList K E)) (bodyQ Tryz.prog Tryz.f42.results.toList K E)))))) #[v0, x1, x2, x3, x4, x5, v6, x7, x8, x9, x10, x11, x12, x13, x14, x15, x16, x17, x18, x19, x20, x21, x22, x23, x24, x25, x26, v6, x1, x5, t1, t2, t3, t4, t5, (j 35), (j 36), (j 37), (j 38), (j 39), (j 40), (j 41), (j 42), (j 43), (j 44), (j 45), (j 46), (j 47), x48, x49, x50, x51, x52, x53, x54, x55, x56]) := by kernel_rfl
theorem t42_1_1_0_1_0_0_1_0_0_1_1 (K : Kont) (E : PanK) (k1 : Env → Hp → Prop) (x0 x1 x2 x3 x4 x5 x6 x7 x8 x9 x10 x11 x12 x13 x14 x15 x16 x17 x18 x19 x20 x21 x22 x23 x24 x25 x26 x27 x28 x29 x30 x31 x32 x33 x34 x35 x36 x37 x38 x39 x40 x41 x42 x43 x44 x45 x46 x47 x48 x49 x50 x51 x52 x53 x54 x55 x56 : Value)  : den Tryz.prog (sel (bodyOf Tryz.f42) [1, 1, 0, 1, 0, 0, 1, 0, 0, 1, 1]) (blk 1 (thenD (den Tryz.prog (sel (bodyOf Tryz.f42) [1, 1, 0, 1, 0, 0, 1, 1]) (thenD k1 (blk 0 (thenD (den Tryz.prog (sel (bodyOf Tryz.f42) [1, 1, 1]) (bodyQ Tryz.prog Tryz.f42.results.toList K E)) (bodyQ Tryz.prog Tryz.f42.results.toList K E))))) (thenD k1 (blk 0 (thenD (den Tryz.prog (sel (bodyOf Tryz.f42) [1, 1, 1]) (bodyQ Tryz.prog Tryz.f42.results.toList K E)) (bodyQ Tryz.prog Tryz.f42.results.toList K E)))))) #[x0, x1, x2, x3, x4, x5, x6, x7, x8, x9, x10, x11, x12, x13, x14, x15, x16, x17, x18, x19, x20, x21, x22, x23, x24, x25, x26, x27, x28, x29, x30, x31, x32, x33, x34, x35, x36, x37, x38, x39, x40, x41, x42, x43, x44, x45, x46, x47, x48, x49, x50, x51, x52, x53, x54, x55, x56] =
  pv (iaV none 2 x1 x5) fun t1 =>
  pv (faV 1 t1) fun t2 =>
  ld false 1 t2 fun t3 =>
  pv (cvV .u64 t3) fun t4 =>
  callv Tryz.prog (.func (.func 80) #[] #[]) #[x0, t4, (.int .i64 8)] (fun t5 =>
  den Tryz.prog (sel (bodyOf Tryz.f42) [1, 1, 0, 1, 0, 0, 1, 1]) (thenD k1 (blk 0 (thenD (den Tryz.prog (sel (bodyOf Tryz.f42) [1, 1, 1]) (bodyQ Tryz.prog Tryz.f42.results.toList K E)) (bodyQ Tryz.prog Tryz.f42.results.toList K E)))) #[t5, x1, x2, x3, x4, x5, x6, x7, x8, x9, x10, x11, x12, x13, x14, x15, x16, x17, x18, x19, x20, x21, x22, x23, x24, x25, x26, x27, x28, x29, x30, x31, x32, x33, x34, x35, x36, x37, x38, x39, x40, x41, x42, x43, x44, x45, x46, x47, x0, x1, x5, t1, t2, t3, t4, t5, x56]) E := by kernel_rfl
theorem t42_1_1_0_1_0_0_1_1 (K : Kont) (E : PanK) (k1 : Env → Hp → Prop) (x0 x1 x2 x3 x4 x5 x6 x7 x8 x9 x10 x11 x12 x13 x14 x15 x16 x17 x18 x19 x20 x21 x22 x23 x24 x25 x26 x27 x28 x29 x30 x31 x32 x33 x34 x35 x36 x37 x38 x39 x40 x41 x42 x43 x44 x45 x46 x47 x48 x49 x50 x51 x52 x53 x54 x55 x56 : Value)  : den Tryz.prog (sel (bodyOf Tryz.f42) [1, 1, 0, 1, 0, 0, 1, 1]) (thenD k1 (blk 0 (thenD (den Tryz.prog (sel (bodyOf Tryz.f42) [1, 1, 1]) (bodyQ Tryz.prog Tryz.f42.results.toList K E)) (bodyQ Tryz.prog Tryz.f42.results.toList K E)))) #[x0, x1, x2, x3, x4, x5, x6, x7, x8, x9, x10, x11, x12, x13, x14, x15, x16, x17, x18, x19, x20, x21, x22, x23, x24, x25, x26, x27, x28, x29, x30, x31, x32, x33, x34, x35, x36, x37, x38, x39, x40, x41, x42, x43, x44, x45, x46, x47, x48, x49, x50, x51, x52, x53, x54, x55, x56] =
  pv (binV .none .add x5 (.int .i64 1)) fun t1 =>
  k1 (m42_1_1_0_1_0_0 x1 x2 x3 x4 x7 x8 x9 x10 x11 x56 x0 t1 (jf #[x0, x1, x2, x3, x4, t1, x6, x7, x8, x9, x10, x11, x12, x13, x14, x15, x5, t1, x18, x19, x20, x21, x22, x23, x24, x25, x26, x27, x28, x29, x30, x31, x32, x33, x34, x35, x36, x37, x38, x39, x40, x41, x42, x43, x44, x45, x46, x47, x48, x49, x50, x51, x52, x53, x54, x55, x56])) := by kernel_rfl
theorem l42_1_1_0_1_0_0 {K : Kont} {E : PanK} {σ : Type} {x1 x2 x3 x4 x7 x8 x9 x10 x11 x56 v0 v5 y6 y12 y13 y14 y15 y16 y17 y18 y19 y20 y21 y22 y23 y24 y25 y26 y27 y28 y29 y30 y31 y32 y33 y34 y35 y36 y37 y38 y39 y40 y41 y42 y43 y44 y45 y46 y47 y48 y49 y50 y51 y52 y53 y54 y55 : Value} {h : Hp} (f0 f5 : σ → Value) (I : σ → Hp → Prop) (μ : σ → Nat) (s0 : σ) (e0 : v0 = f0 s0) (e5 : v5 = f5 s0) (h0 : h.wf → ∃ h', h.wk h' ∧ I s0 h')
  (round : ∀ (k1 : Env → Hp → Prop) (s : σ) (j : Nat → Value) (h : Hp), I s h → h.wf → (∀ s' j' h', μ s' < μ s → (h'.wf → ∃ h'', h'.wk h'' ∧ I s' h'') → k1 (m42_1_1_0_1_0_0 x1 x2 x3 x4 x7 x8 x9 x10 x11 x56 (f0 s') (f5 s') j') h') → (
  pv (lenV x1) fun t1 =>
  pv (binV .none .lss (f5 s) t1) fun t2 =>
  cnd t2 (
    pv (iaV none 2 x1 (f5 s)) fun t3 =>
    pv (faV 0 t3) fun t4 =>
    ld false 1 t4 fun t5 =>
    pv (lenV t5) fun t6 =>
    pv (cvV .u64 t6) fun t7 =>
    callv Tryz.prog (.func (.func 80) #[] #[]) #[(f0 s), t7, (.int .i64 1)] (fun t8 =>
    lp (fun k2 => den Tryz.prog (sel (bodyOf Tryz.f42) [1, 1, 0, 1, 0, 0, 1, 0, 0, 1, 0, 1, 0, 0]) (thenD k2 (blk 2 (thenD (den Tryz.prog (sel (bodyOf Tryz.f42) [1, 1, 0, 1, 0, 0, 1, 0, 0, 1, 1]) (blk 1 (thenD (den Tryz.prog (sel (bodyOf Tryz.f42) [1, 1, 0, 1, 0, 0, 1, 1]) (thenD k1 (blk 0 (thenD (den Tryz.prog (sel (bodyOf Tryz.f42) [1, 1, 1]) (bodyQ Tryz.prog Tryz.f42.results.toList K E)) (bodyQ Tryz.prog Tryz.f42.results.toList K E))))) (thenD k1 (blk 0 (thenD (den Tryz.prog (sel (bodyOf Tryz.f42) [1, 1, 1]) (bodyQ Tryz.prog Tryz.f42.results.toList K E)) (bodyQ Tryz.prog Tryz.f42.results.toList K E))))))) (blk 1 (thenD (den Tryz.prog (sel (bodyOf Tryz.f42) [1, 1, 0, 1, 0, 0, 1, 1]) (thenD k1 (blk 0 (thenD (den Tryz.prog (sel (bodyOf Tryz.f42) [1, 1, 1]) (bodyQ Tryz.prog Tryz.f42.results.toList K E)) (bodyQ Tryz.prog Tryz.f42.results.toList K E))))) (thenD k1 (blk 0 (thenD (den Tryz.prog (sel (bodyOf Tryz.f42) [1, 1, 1]) (bodyQ Tryz.prog Tryz.f42.results.toList K E)) (bodyQ Tryz.prog Tryz.f42.results.toList K E)))))))))) #[t8, x1, x2, x3, x4, (f5 s), (.int .i64 0), x7, x8, x9, x10, x11, (f5 s), x1, t1, t2, (j 16), (j 17), (f0 s), x1, (f5 s), t3, t4, t5, t6, t7, t8, (j 27), (j 28), (j 29), (j 30), (j 31), (j 32), (j 33), (j 34), (j 35), (j 36), (j 37), (j 38), (j 39), (j 40), (j 41), (j 42), (j 43), (j 44), (j 45), (j 46), (j 47), (j 48), (j 49), (j 50), (j 51), (j 52), (j 53), (j 54), (j 55), x56]) E) (
    den Tryz.prog (sel (bodyOf Tryz.f42) [1, 1, 1]) (bodyQ Tryz.prog Tryz.f42.results.toList K E) #[(f0 s), x1, x2, x3, x4, (f5 s), (j 6), x7, x8, x9, x10, x11, (f5 s), x1, t1, t2, (j 16), (j 17), (j 18), (j 19), (j 20), (j 21), (j 22), (j 23), (j 24), (j 25), (j 26), (j 27), (j 28), (j 29), (j 30), (j 31), (j 32), (j 33), (j 34), (j 35), (j 36), (j 37), (j 38), (j 39), (j 40), (j 41), (j 42), (j 43), (j 44), (j 45), (j 46), (j 47), (j 48), (j 49), (j 50), (j 51), (j 52), (j 53), (j 54), (j 55), x56])) h) :
  lp (fun k1 => den Tryz.prog (sel (bodyOf Tryz.f42) [1, 1, 0, 1, 0, 0]) (thenD k1 (blk 0 (thenD (den Tryz.prog (sel (bodyOf Tryz.f42) [1, 1, 1]) (bodyQ Tryz.prog Tryz.f42.results.toList K E)) (bodyQ Tryz.prog Tryz.f42.results.toList K E))))) #[v0, x1, x2, x3, x4, v5, y6, x7, x8, x9, x10, x11, y12, y13, y14, y15, y16, y17, y18, y19, y20, y21, y22, y23, y24, y25, y26, y27, y28, y29, y30, y31, y32, y33, y34, y35, y36, y37, y38, y39, y40, y41, y42, y43, y44, y45, y46, y47, y48, y49, y50, y51, y52, y53, y54, y55, x56] h := by
  subst e0
  subst e5
  have e : (#[(f0 s0), x1, x2, x3, x4, (f5 s0), y6, x7, x8, x9, x10, x11, y12, y13, y14, y15, y16, y17, y18, y19, y20, y21, y22, y23, y24, y25, y26, y27, y28, y29, y30, y31, y32, y33, y34, y35, y36, y37, y38, y39, y40, y41, y42, y43, y44, y45, y46, y47, y48, y49, y50, y51, y52, y53, y54, y55, x56] : Env) = m42_1_1_0_1_0_0 x1 x2 x3 x4 x7 x8 x9 x10 x11 x56 (f0 s0) (f5 s0) (jf #[(f0 s0), x1, x2, x3, x4, (f5 s0), y6, x7, x8, x9, x10, x11, y12, y13, y14, y15, y16, y17, y18, y19, y20, y21, y22, y23, y24, y25, y26, y27, y28, y29, y30, y31, y32, y33, y34, y35, y36, y37, y38, y39, y40, y41, y42, y43, y44, y45, y46, y47, y48, y49, y50, y51, y52, y53, y54, y55, x56]) := by kernel_rfl
  rw [e]
  exact loop_r (fun s j => m42_1_1_0_1_0_0 x1 x2 x3 x4 x7 x8 x9 x10 x11 x56 (f0 s) (f5 s) j) I μ (fun k s j h hI hw next => by rw [t42_1_1_0_1_0_0]; exact round k s j h hI hw next) s0 (jf #[(f0 s0), x1, x2, x3, x4, (f5 s0), y6, x7, x8, x9, x10, x11, y12, y13, y14, y15, y16, y17, y18, y19, y20, y21, y22, y23, y24, y25, y26, y27, y28, y29, y30, y31, y32, y33, y34, y35, y36, y37, y38, y39, y40, y41, y42, y43, y44, y45, y46, y47, y48, y49, y50, y51, y52, y53, y54, y55, x56]) h0
theorem l42_1_1_0_1_0_0_1_0_0_1_0_1_0_0 {K : Kont} {E : PanK} {k1 : Env → Hp → Prop} {σ : Type} {x1 x2 x3 x4 x5 x7 x8 x9 x10 x11 x12 x13 x14 x15 x16 x17 x18 x19 x20 x21 x22 x23 x24 x25 x26 x48 x49 x50 x51 x52 x53 x54 x55 x56 v0 v6 y27 y28 y29 y30 y31 y32 y33 y34 y35 y36 y37 y38 y39 y40 y41 y42 y43 y44 y45 y46 y47 : Value} {h : Hp} (f0 f6 : σ → Value) (I : σ → Hp → Prop) (μ : σ → Nat) (s0 : σ) (e0 : v0 = f0 s0) (e6 : v6 = f6 s0) (h0 : h.wf → ∃ h', h.wk h' ∧ I s0 h')
  (round : ∀ (k2 : Env → Hp → Prop) (s : σ) (j : Nat → Value) (h : Hp), I s h → h.wf → (∀ s' j' h', μ s' < μ s → (h'.wf → ∃ h'', h'.wk h'' ∧ I s' h'') → k2 (m42_1_1_0_1_0_0_1_0_0_1_0_1_0_0 x1 x2 x3 x4 x5 x7 x8 x9 x10 x11 x12 x13 x14 x15 x16 x17 x18 x19 x20 x21 x22 x23 x24 x25 x26 x48 x49 x50 x51 x52 x53 x54 x55 x56 (f0 s') (f6 s') j') h') → (
  pv (iaV none 2 x1 x5) fun t1 =>
  pv (faV 0 t1) fun t2 =>
  ld false 1 t2 fun t3 =>
  pv (lenV t3) fun t4 =>
  pv (binV .none .lss (f6 s) t4) fun t5 =>
  cnd t5 (
    pv (iaV none 2 x1 x5) fun t6 =>
    pv (faV 0 t6) fun t7 =>
    ld false 1 t7 fun t8 =>
    pv (iaV none 1 t8 (f6 s)) fun t9 =>
    ld false 1 t9 fun t10 =>
    pv (cvV .u64 t10) fun t11 =>
    callv Tryz.prog (.func (.func 80) #[] #[]) #[(f0 s), t11, (.int .i64 4)] (fun t12 =>
    pv (binV .none .add (f6 s) (.int .i64 1)) fun t13 =>
    k2 (m42_1_1_0_1_0_0_1_0_0_1_0_1_0_0 x1 x2 x3 x4 x5 x7 x8 x9 x10 x11 x12 x13 x14 x15 x16 x17 x18 x19 x20 x21 x22 x23 x24 x25 x26 x48 x49 x50 x51 x52 x53 x54 x55 x56 t12 t13 (jf #[t12, x1, x2, x3, x4, x5, t13, x7, x8, x9, x10, x11, x12, x13, x14, x15, x16, x17, x18, x19, x20, x21, x22, x23, x24, x25, x26, (f6 s), x1, x5, t1, t2, t3, t4, t5, (f6 s), t13, (f0 s), x1, x5, t6, t7, t8, (f6 s), t9, t10, t11, t12, x48, x49, x50, x51, x52, x53, x54, x55, x56]))) E) (
    den Tryz.prog (sel (bodyOf Tryz.f42) [1, 1, 0, 1, 0, 0, 1, 0, 0, 1, 1]) (blk 1 (thenD (den Tryz.prog (sel (bodyOf Tryz.f42) [1, 1, 0, 1, 0, 0, 1, 1]) (thenD k1 (blk 0 (thenD (den Tryz.prog (sel (bodyOf Tryz.f42) [1, 1, 1]) (bodyQ Tryz.prog Tryz.f42.results.toList K E)) (bodyQ Tryz.prog Tryz.f42.results.toList K E))))) (thenD k1 (blk 0 (thenD (den Tryz.prog (sel (bodyOf Tryz.f42) [1, 1, 1]) (bodyQ Tryz.prog Tryz.f42.results.toList K E)) (bodyQ Tryz.prog Tryz.f42.results.toList K E)))))) #[(f0 s), x1, x2, x3, x4, x5, (f6 s), x7, x8, x9, x10, x11, x12, x13, x14, x15, x16, x17, x18, x19, x20, x21, x22, x23, x24, x25, x26, (f6 s), x1, x5, t1, t2, t3, t4, t5, (j 35), (j 36), (j 37), (j 38), (j 39), (j 40), (j 41), (j 42), (j 43), (j 44), (j 45), (j 46), (j 47), x48, x49, x50, x51, x52, x53, x54, x55, x56])) h) :
  lp (fun k2 => den Tryz.prog (sel (bodyOf Tryz.f42) [1, 1, 0, 1, 0, 0, 1, 0, 0, 1, 0, 1, 0, 0]) (thenD k2 (blk 2 (thenD (den Tryz.prog (sel (bodyOf Tryz.f42) [1, 1, 0, 1, 0, 0, 1, 0, 0, 1, 1]) (blk 1 (thenD (den Tryz.prog (sel (bodyOf Tryz.f42) [1, 1, 0, 1, 0, 0, 1, 1]) (thenD k1 (blk 0 (thenD (den Tryz.prog (sel (bodyOf Tryz.f42) [1, 1, 1]) (bodyQ Tryz.prog Tryz.f42.results.toList K E)) (bodyQ Tryz.prog Tryz.f42.results.toList K E))))) (thenD k1 (blk 0 (thenD (den Tryz.prog (sel (bodyOf Tryz.f42) [1, 1, 1]) (bodyQ Tryz.prog Tryz.f42.results.toList K E)) (bodyQ Tryz.prog Tryz.f42.results.toList K E))))))) (blk 1 (thenD (den Tryz.prog (sel (bodyOf Tryz.f42) [1, 1, 0, 1, 0, 0, 1, 1]) (thenD k1 (blk 0 (thenD (den Tryz.prog (sel (bodyOf Tryz.f42) [1, 1, 1]) (bodyQ Tryz.prog Tryz.f42.results.toList K E)) (bodyQ Tryz.prog Tryz.f42.results.toList K E))))) (thenD k1 (blk 0 (thenD (den Tryz.prog (sel (bodyOf Tryz.f42) [1, 1, 1]) (bodyQ Tryz.prog Tryz.f42.results.toList K E)) (bodyQ Tryz.prog Tryz.f42.results.toList K E)))))))))) #[v0, x1, x2, x3, x4, x5, v6, x7, x8, x9, x10, x11, x12, x13, x14, x15, x16, x17, x18, x19, x20, x21, x22, x23, x24, x25, x26, y27, y28, y29, y30, y31, y32, y33, y34, y35, y36, y37, y38, y39, y40, y41, y42, y43, y44, y45, y46, y47, x48, x49, x50, x51, x52, x53, x54, x55, x56] h := by
  subst e0
  subst e6
  have e : (#[(f0 s0), x1, x2, x3, x4, x5, (f6 s0), x7, x8, x9, x10, x11, x12, x13, x14, x15, x16, x17, x18, x19, x20, x21, x22, x23, x24, x25, x26, y27, y28, y29, y30, y31, y32, y33, y34, y35, y36, y37, y38, y39, y40, y41, y42, y43, y44, y45, y46, y47, x48, x49, x50, x51, x52, x53, x54, x55, x56] : Env) = m42_1_1_0_1_0_0_1_0_0_1_0_1_0_0 x1 x2 x3 x4 x5 x7 x8 x9 x10 x11 x12 x13 x14 x15 x16 x17 x18 x19 x20 x21 x22 x23 x24 x25 x26 x48 x49 x50 x51 x52 x53 x54 x55 x56 (f0 s0) (f6 s0) (jf #[(f0 s0), x1, x2, x3, x4, x5, (f6 s0), x7, x8, x9, x10, x11, x12, x13, x14, x15, x16, x17, x18, x19, x20, x21, x22, x23, x24, x25, x26, y27, y28, y29, y30, y31, y32, y33, y34, y35, y36, y37, y38, y39, y40, y41, y42, y43, y44, y45, y46, y47, x48, x49, x50, x51, x52, x53, x54, x55, x56]) := by kernel_rfl
  rw [e]
  exact loop_r (fun s j => m42_1_1_0_1_0_0_1_0_0_1_0_1_0_0 x1 x2 x3 x4 x5 x7 x8 x9 x10 x11 x12 x13 x14 x15 x16 x17 x18 x19 x20 x21 x22 x23 x24 x25 x26 x48 x49 x50 x51 x52 x53 x54 x55 x56 (f0 s) (f6 s) j) I μ (fun k s j h hI hw next => by rw [t42_1_1_0_1_0_0_1_0_0_1_0_1_0_0]; exact round k s j h hI hw next) s0 (jf #[(f0 s0), x1, x2, x3, x4, x5, (f6 s0), x7, x8, x9, x10, x11, x12, x13, x14, x15, x16, x17, x18, x19, x20, x21, x22, x23, x24, x25, x26, y27, y28, y29, y30, y31, y32, y33, y34, y35, y36, y37, y38, y39, y40, y41, y42, y43, y44, y45, y46, y47, x48, x49, x50, x51, x52, x53, x54, x55, x56]) h0

theorem t80 (K : Kont) (E : PanK) (x0 x1 x2 : Value)  : den Tryz.prog (sel (bodyOf Tryz.f80) []) (bodyQ Tryz.prog Tryz.f80.results.toList K E) #[x0, x1, x2, undef, undef, undef, undef, undef, undef, undef, undef, undef, undef, undef, undef, undef, undef, undef, undef, undef, undef, undef, undef, undef] =
  pv (binV .none .sub x2 (.int .i64 1)) fun t1 =>
  lp (fun k1 => den Tryz.prog (sel (bodyOf Tryz.f80) [1, 0, 1, 0, 0]) (thenD k1 (blk 0 (thenD (den Tryz.prog (sel (bodyOf Tryz.f80) [1, 1]) (bodyQ Tryz.prog Tryz.f80.results.toList K E)) (bodyQ Tryz.prog Tryz.f80.results.toList K E))))) #[x0, x1, x2, undef, undef, undef, (.slice none 0 0), t1, x2, t1, undef, undef, undef, undef, undef, undef, undef, undef, undef, undef, undef, undef, undef, undef] := by kernel_rfl
def m80_1_0_1_0_0 (x1 x2 x3 x4 x5 x6 x8 x9 x23 : Value) (v0 v7 : Value) (j : Nat → Value) : Env := #[v0, x1, x2, x3, x4, x5, x6, v7, x8, x9, (j 10), (j 11), (j 12), (j 13), (j 14), (j 15), (j 16), (j 17), (j 18), (j 19), (j 20), (j 21), (j 22), x23]
theorem t80_1_0_1_0_0 (K : Kont) (E : PanK) (k1 : Env → Hp → Prop) (x1 x2 x3 x4 x5 x6 x8 x9 x23 v0 v7 : Value) (j : Nat → Value) : den Tryz.prog (sel (bodyOf Tryz.f80) [1, 0, 1, 0, 0]) (thenD k1 (blk 0 (thenD (den Tryz.prog (sel (bodyOf Tryz.f80) [1, 1]) (bodyQ Tryz.prog Tryz.f80.results.toList K E)) (bodyQ Tryz.prog Tryz.f80.results.toList K E)))) (m80_1_0_1_0_0 x1 x2 x3 x4 x5 x6 x8 x9 x23 v0 v7 j) =
  pv (binV .none .geq v7 (.int .i64 0)) fun t1 =>
  cnd t1 (
    pv (cvV .u64 v7) fun t2 =>
    pv (binV .none .mul (.int .u64 8) t2) fun t3 =>
    pv (binV .none .shr x1 t3) fun t4 =>
    pv (cvV .u8 t4) fun t5 =>
    nws 5 1 (bsC #[(.int .u8 0)] 1 1 #[(0, t5)]) fun t6 =>
    appX 5 1 1 v0 t6 fun t7 =>
    pv (binV .none .sub v7 (.int .i64 1)) fun t8 =>
    k1 (m80_1_0_1_0_0 x1 x2 x3 x4 x5 x6 x8 x9 x23 t7 t8 (jf #[t7, x1, x2, x3, x4, x5, x6, t8, x8, x9, v7, t1, v7, t8, v0, x1, v7, t2, t3, t4, t5, t6, t7, x23]))) (
    den Tryz.prog (sel (bodyOf Tryz.f80) [1, 1]) (bodyQ Tryz.prog Tryz.f80.results.toList K E) #[v0, x1, x2, x3, x4, x5, x6, v7, x8, x9, v7, t1, (j 12), (j 13), (j 14), (j 15), (j 16), (j 17), (j 18), (j 19), (j 20), (j 21), (j 22), x23]) := by kernel_rfl
theorem t80_1_1 (K : Kont) (E : PanK) (x0 x1 x2 x3 x4 x5 x6 x7 x8 x9 x10 x11 x12 x13 x14 x15 x16 x17 x18 x19 x20 x21 x22 x23 : Value)  : den Tryz.prog (sel (bodyOf Tryz.f80) [1, 1]) (bodyQ Tryz.prog Tryz.f80.results.toList K E) #[x0, x1, x2, x3, x4, x5, x6, x7, x8, x9, x10, x11, x12, x13, x14, x15, x16, x17, x18, x19, x20, x21, x22, x23] =
  K x0 := by kernel_rfl
theorem l80_1_0_1_0_0 {K : Kont} {E : PanK} {σ : Type} {x1 x2 x3 x4 x5 x6 x8 x9 x23 v0 v7 y10 y11 y12 y13 y14 y15 y16 y17 y18 y19 y20 y21 y22 : Value} {h : Hp} (f0 f7 : σ → Value) (I : σ → Hp → Prop) (μ : σ → Nat) (s0 : σ) (e0 : v0 = f0 s0) (e7 : v7 = f7 s0) (h0 : h.wf → ∃ h', h.wk h' ∧ I s0 h')
  (round : ∀ (k1 : Env → Hp → Prop) (s : σ) (j : Nat → Value) (h : Hp), I s h → h.wf → (∀ s' j' h', μ s' < μ s → (h'.wf → ∃ h'', h'.wk h'' ∧ I s' h'') → k1 (m80_1_0_1_0_0 x1 x2 x3 x4 x5 x6 x8 x9 x23 (f0 s') (f7 s') j') h') → (
  pv (binV .none .geq (f7 s) (.int .i64 0)) fun t1 =>
  cnd t1 (
    pv (cvV .u64 (f7 s)) fun t2 =>
    pv (binV .none .mul (.int .u64 8) t2) fun t3 =>
    pv (binV .none .shr x1 t3) fun t4 =>
    pv (cvV .u8 t4) fun t5 =>
    nws 5 1 (bsC #[(.int .u8 0)] 1 1 #[(0, t5)]) fun t6 =>
    appX 5 1 1 (f0 s) t6 fun t7 =>
    pv (binV .none .sub (f7 s) (.int .i64 1)) fun t8 =>
    k1 (m80_1_0_1_0_0 x1 x2 x3 x4 x5 x6 x8 x9 x23 t7 t8 (jf #[t7, x1, x2, x3, x4, x5, x6, t8, x8, x9, (f7 s), t1, (f7 s), t8, (f0 s), x1, (f7 s), t2, t3, t4, t5, t6, t7, x23]))) (
    den Tryz.prog (sel (bodyOf Tryz.f80) [1, 1]) (bodyQ Tryz.prog Tryz.f80.results.toList K E) #[(f0 s), x1, x2, x3, x4, x5, x6, (f7 s), x8, x9, (f7 s), t1, (j 12), (j 13), (j 14), (j 15), (j 16), (j 17), (j 18), (j 19), (j 20), (j 21), (j 22), x23])) h) :
  lp (fun k1 => den Tryz.prog (sel (bodyOf Tryz.f80) [1, 0, 1, 0, 0]) (thenD k1 (blk 0 (thenD (den Tryz.prog (sel (bodyOf Tryz.f80) [1, 1]) (bodyQ Tryz.prog Tryz.f80.results.toList K E)) (bodyQ Tryz.prog Tryz.f80.results.toList K E))))) #[v0, x1, x2, x3, x4, x5, x6, v7, x8, x9, y10, y11, y12, y13, y14, y15, y16, y17, y18, y19, y20, y21, y22, x23] h := by
  subst e0
  subst e7
  have e : (#[(f0 s0), x1, x2, x3, x4, x5, x6, (f7 s0), x8, x9, y10, y11, y12, y13, y14, y15, y16, y17, y18, y19, y20, y21, y22, x23] : Env) = m80_1_0_1_0_0 x1 x2 x3 x4 x5 x6 x8 x9 x23 (f0 s0) (f7 s0) (jf #[(f0 s0), x1, x2, x3, x4, x5, x6, (f7 s0), x8, x9, y10, y11, y12, y13, y14, y15, y16, y17, y18, y19, y20, y21, y22, x23]) := by kernel_rfl
  rw [e]
  exact loop_r (fun s j => m80_1_0_1_0_0 x1 x2 x3 x4 x5 x6 x8 x9 x23 (f0 s) (f7 s) j) I μ (fun k s j h hI hw next => by rw [t80_1_0_1_0_0]; exact round k s j h hI hw next) s0 (jf #[(f0 s0), x1, x2, x3, x4, x5, x6, (f7 s0), x8, x9, y10, y11, y12, y13, y14, y15, y16, y17, y18, y19, y20, y21, y22, x23]) h0

end Go.Proofs.YtgjdjdjhoipfmaaGreatDoor.T
open Go Go.RowKit Go.Proofs.YtgjdjdjhoipfmaaGreatDoor.K Go.Proofs.YtgjdjdjhoipfmaaGreatDoor.T
set_option linter.unusedVariables false
set_option linter.unusedSimpArgs false
namespace Go.Proofs.YtgjdjdjhoipfmaaGreatDoor.A
variable {F F' : Nat → Option (List Value)} {M M' : Nat → Option Chunk} {N N' : Nat} {K : Kont} {E : PanK}
/-! ### Facts as bytes, of the reference -/
theorem bsU_r {v : Value} {l : List Int} {h : Hp} (hv : sRead h 1 v l.length (bts l)) (k : K (.string ⟨(l.map (fun n => UInt8.ofNat (Int.toNat n))).toArray⟩) h) : bs v K h := ⟨_, ⟨_, l, hv, rfl⟩, k⟩
theorem eqs_r {e : EqK} {s : ByteArray} {h : Hp} (k : K (.bool true) h) : pv (binV e .eql (.string s) (.string s)) K h := ⟨.bool true, by simp [binV, strV], k⟩
theorem btsA (l m : List Int) : bts (l ++ m) = bts l ++ bts m := by simp [bts]
def putB (x : Int) (k : Nat) : Int := IntKind.u8.wrap (x.fdiv (2 ^ (min (8 * k) 64)))
/-- A number's bytes, i of so many. -/
def putI (x : Int) (size i : Nat) : List Int := (List.range i).map fun j => putB x (size - 1 - j)
def putL (x : Int) (size : Nat) : List Int := putI x size size
theorem putI_len (x : Int) (size i : Nat) : (putI x size i).length = i := by simp [putI]
theorem putL_len (x : Int) (size : Nat) : (putL x size).length = size := putI_len _ _ _
theorem putI_succ (x : Int) (size i : Nat) : putI x size (i + 1) = putI x size i ++ [putB x (size - 1 - i)] := by simp [putI, List.range_succ]
/-- Bytes are appended. -/
def appU (F : Nat → Option (List Value)) (M : Nat → Option Chunk) (N B n : Nat) (v : Value) (cs : List Value) (out : List Int) (K : Kont) : Prop :=
  ∀ v' M' N', own M' B 5 1 v' (n + out.length) (cs ++ bts out) → fr M M' N v v' → N ≤ N' → clean M' N' → (Hp.mk F M' N').wf → K v' ⟨F, M', N'⟩
theorem shr_r {x : Int} {k : Nat} {h : Hp} (kk : K (.int .u64 (x.fdiv (2 ^ (min k 64)))) h) : pv (binV .none .shr (.int .u64 x) (.int .u64 (k : Nat))) K h :=
  ⟨_, by
    have e : binV .none .shr (.int .u64 x) (.int .u64 (k : Nat)) = shiftV .shr .u64 x (k : Nat) := rfl
    rw [e]; unfold shiftV; rw [if_neg (by omega)]; simp only [Int.toNat_natCast]; rfl, kk⟩
set_option maxRecDepth 10000 in
/-- Put -/
theorem put_c {B n size : Nat} {v : Value} {cs : List Value} {x : Int} (h : own M B 5 1 v n cs) (hB : B ≤ N) (hs : size ≤ 8) (hn : n ≤ 1000000000000) (k : appU F M N B n v cs (putL x size) K) :
    callv Tryz.prog (.func (.func 80) #[] #[]) #[v, .int .u64 x, .int .i64 (size : Nat)] K E ⟨F, M, N⟩ := by
  refine callv_of_text mixed Tryz.func80 (by kernel_rfl) (t80 _ E _ _ _) (fun hw => ?_)
  have hm : clean M N := hw.m
  refine sub_r (by omega) (by omega) ?_
  refine l80_1_0_1_0_0 (σ := Nat × Value) (fun s => s.2) (fun s => .int .i64 ((size : Int) - 1 - (s.1 : Nat)))
    (fun s h' => ∃ M' N', h' = ⟨F, M', N'⟩ ∧ N ≤ N' ∧ clean M' N' ∧ s.1 ≤ size ∧ own M' B 5 1 s.2 (n + s.1) (cs ++ bts (putI x size s.1)) ∧ fr M M' N v s.2) (fun s => size - s.1) (0, v) rfl (by simp)
    (fun hw2 => ⟨_, wk_refl hw2, M, N, rfl, Nat.le_refl _, hm, Nat.zero_le _, by simpa [putI, bts] using h, fr.refl⟩) (fun kk s j h1 hI hw2 next => ?_)
  obtain ⟨M1, N1, rfl, hN1, hm1, hi, ho, hfr⟩ := hI
  refine geq_r (fun hlt => ?_) (fun hge => ?_)
  · have i1 : s.1 < size := by omega
    have e7 : (size : Int) - 1 - (s.1 : Nat) = ((size - 1 - s.1 : Nat) : Int) := by omega
    rw [e7]
    try simp only [gdTT, gdFF, gdTF, gdFT, pvS, pickT, pickF, faP, lenS, capS, nilP, exA, exB, exC, notB, cndT, cndF, Bool.not_true, Bool.not_false, Nat.zero_add, Nat.add_zero]
    refine cv_u64 (by omega) (umul (a := 8) (by omega) (shr_r ?_))
    refine pv_r (v := .int .u8 (putB x (size - 1 - s.1))) rfl ?_
    refine push_r (new := [.int .u8 (putB x (size - 1 - s.1))]) ho hm1 (by omega) (by kernel_rfl) rfl (List.all_eq_true.1 rfl) (by omega) (by unfold maxLen; omega) (fun p v' M5 N5 g1 g2 g3 g4 => ?_)
    refine sub_r (by omega) (by omega) ?_
    have e8 : ((size - 1 - s.1 : Nat) : Int) - 1 = (size : Int) - 1 - ((s.1 + 1 : Nat) : Int) := by omega
    rw [e8]
    refine next (s.1 + 1, v') _ _ (by simp only; omega) (fun hw5 => ⟨_, wk_refl hw5, M5, N5, rfl, by omega, g4, i1, ?_, hfr.trans g2 hN1⟩)
    simp only
    rw [putI_succ, btsA, ← List.append_assoc, ← Nat.add_assoc]
    exact g1
  · try simp only [gdTT, gdFF, gdTF, gdFT, pvS, pickT, pickF, faP, lenS, capS, nilP, exA, exB, exC, notB, cndT, cndF, Bool.not_true, Bool.not_false, Nat.zero_add, Nat.add_zero]
    rw [t80_1_1]
    have es : s.1 = size := by omega
    rw [es] at ho
    refine fun hc => ⟨_, wk_refl hc, fun hw' => k s.2 M1 N1 ?_ hfr hN1 hm1 hw'⟩
    rw [putL_len]; exact ho
def u64i (x : Int) : Int := IntKind.u64.wrap x
theorem u64i_r {x : Int} {k : IntKind} {h : Hp} (kk : K (.int .u64 (u64i x)) h) : pv (cvV .u64 (.int k x)) K h := ⟨_, rfl, kk⟩
/-- A key, a fact, facts, entries as bytes. -/
def encK (l : List Int) : List Int := l.flatMap fun x => putL (u64i x) 4
def encF (f : Fc) : List Int := putL (u64i (f.1.length : Nat)) 1 ++ (encK f.1 ++ putL (u64i f.2) 8)
def encFs (l : List Fc) : List Int := putL (u64i (l.length : Nat)) 4 ++ l.flatMap encF
def encE (e : En) : List Int := putL (u64i e.1) 4 ++ encFs e.2
def encEs (l : List En) : List Int := putL (u64i (l.length : Nat)) 4 ++ l.flatMap encE
theorem encK_len (l : List Int) : (encK l).length = l.length * 4 := by
  induction l with
  | nil => rfl
  | cons x l ih =>
    unfold encK at ih ⊢
    rw [List.flatMap_cons, List.length_append, ih, putL_len, List.length_cons]; omega
theorem flatMap_take {α : Type} (f : α → List Int) (l : List α) {i : Nat} (hi : i < l.length) : (l.take (i + 1)).flatMap f = (l.take i).flatMap f ++ f l[i] := by
  rw [List.take_add_one, List.getElem?_eq_getElem hi, Option.toList_some, List.flatMap_append]; simp
theorem flatMap_le {α : Type} (f : α → List Int) (l : List α) (i : Nat) : ((l.take i).flatMap f).length ≤ (l.flatMap f).length := by
  conv => rhs; rw [← List.take_append_drop i l]
  rw [List.flatMap_append, List.length_append]; omega
theorem own_app3 {B n a : Nat} {v : Value} {cs : List Value} {x y : List Int} (h : own M B 5 1 v (n + x.length + a) (cs ++ bts x ++ bts y)) (ha : a = y.length) : own M B 5 1 v (n + (x ++ y).length) (cs ++ bts (x ++ y)) := by
  rw [btsA, ← List.append_assoc, List.length_append, ← Nat.add_assoc, ← ha]; exact h
set_option maxRecDepth 10000 in
/-- Facts as bytes -/
theorem encFs_c {B n : Nat} {v fv : Value} {cs : List Value} {l : List Fc} (h : own M B 5 1 v n cs) (hB : B ≤ N) (hf : fctsD F fv l) (hl : l.length ≤ 1000000) (hn : n + (encFs l).length ≤ 1000000000000) (k : appU F M N B n v cs (encFs l) K) :
    callv Tryz.prog (.func (.func 42) #[] #[]) #[v, fv] K E ⟨F, M, N⟩ := by
  refine callv_of_text mixed Tryz.func42 (by kernel_rfl) (t42 _ E _ _) (fun hw => ?_)
  have hm : clean M N := hw.m
  obtain ⟨rows, hf1, hf2⟩ := hf
  unfold encFs at hn
  rw [List.length_append, putL_len] at hn
  refine lenF_r hf1 (u64i_r ?_)
  refine put_c (size := 4) h hB (by omega) (by omega) (fun v1 M1 N1 ho1 hfr1 hN1 hm1 hw1 => ?_)
  rw [putL_len] at ho1
  refine l42_1_1_0_1_0_0 (σ := Nat × Value) (fun s => s.2) (fun s => .int .i64 (s.1 : Nat))
    (fun s h' => ∃ M' N', h' = ⟨F, M', N'⟩ ∧ N ≤ N' ∧ clean M' N' ∧ s.1 ≤ l.length ∧ own M' B 5 1 s.2 (n + (putL (u64i (l.length : Nat)) 4 ++ (l.take s.1).flatMap encF).length) (cs ++ bts (putL (u64i (l.length : Nat)) 4 ++ (l.take s.1).flatMap encF)) ∧ fr M M' N v s.2) (fun s => l.length - s.1) (0, v1) rfl rfl
    (fun hw2 => ⟨_, wk_refl hw2, M1, N1, rfl, hN1, hm1, Nat.zero_le _, by simpa [putL_len] using ho1, hfr1⟩) (fun kk s j h1 hI hw2 next => ?_)
  obtain ⟨M2, N2, rfl, hN2, hm2, hi, ho, hfr⟩ := hI
  refine lenF_r hf1 ?_
  refine lss_r (fun hlt => ?_) (fun hge => ?_)
  · have i1 : s.1 < l.length := by omega
    have et := flatMap_take encF l i1
    have hle := flatMap_le encF l (s.1 + 1)
    rw [et, List.length_append] at hle
    have hfl : (encF l[s.1]).length = 1 + l[s.1].1.length * 4 + 8 := by unfold encF; rw [List.length_append, List.length_append, putL_len, putL_len, encK_len]; omega
    obtain ⟨pre, hpre⟩ : ∃ p, p = putL (u64i (l.length : Nat)) 4 ++ (l.take s.1).flatMap encF := ⟨_, rfl⟩
    have hpl : pre.length + (encF l[s.1]).length ≤ 4 + (l.flatMap encF).length := by rw [hpre, List.length_append, putL_len]; omega
    rw [← hpre] at ho
    try simp only [gdTT, gdFF, gdTF, gdFT, pvS, pickT, pickF, faP, lenS, capS, nilP, exA, exB, exC, notB, cndT, cndF, Bool.not_true, Bool.not_false, Nat.zero_add, Nat.add_zero]
    refine fld_r hf1 hf2 (by decide) i1 (off := 0) (by decide) fun p q r x hR _ hx => ?_
    obtain ⟨kv, rfl, hkv, hkl⟩ := hR
    have hx' : x = kv := by simpa using hx.symm
    subst hx'
    refine lenF_r hkv (u64i_r ?_)
    refine put_c (size := 1) ho (by omega) (by omega) (by omega) (fun v3 M3 N3 ho3 hfr3 hN3 hm3 hw3 => ?_)
    rw [putL_len] at ho3
    refine l42_1_1_0_1_0_0_1_0_0_1_0_1_0_0 (σ := Nat × Value) (fun t => t.2) (fun t => .int .i64 (t.1 : Nat))
      (fun t h' => ∃ M' N', h' = ⟨F, M', N'⟩ ∧ N ≤ N' ∧ clean M' N' ∧ t.1 ≤ l[s.1].1.length ∧ own M' B 5 1 t.2 (n + (pre ++ (putL (u64i (l[s.1].1.length : Nat)) 1 ++ encK (l[s.1].1.take t.1))).length) (cs ++ bts (pre ++ (putL (u64i (l[s.1].1.length : Nat)) 1 ++ encK (l[s.1].1.take t.1)))) ∧ fr M M' N v t.2) (fun t => l[s.1].1.length - t.1) (0, v3) rfl rfl
      (fun hw4 => ⟨_, wk_refl hw4, M3, N3, rfl, by omega, hm3, Nat.zero_le _, ?_, hfr.trans hfr3 hN2⟩) (fun kk2 t j2 h2 hI2 hw4 next2 => ?_)
    · have e0 : encK (l[s.1].1.take 0) = [] := by simp [encK]
      simp only
      rw [e0, List.append_nil]
      exact own_app3 ho3 (by rw [putL_len])
    obtain ⟨M4, N4, rfl, hN4, hm4, hi4, ho4, hfr4⟩ := hI2
    have htl : (encK (l[s.1].1.take t.1)).length ≤ l[s.1].1.length * 4 := by rw [encK_len, List.length_take]; exact Nat.mul_le_mul_right _ (by omega)
    have hqb : (pre ++ (putL (u64i (l[s.1].1.length : Nat)) 1 ++ encK (l[s.1].1.take t.1))).length ≤ 4 + (l.flatMap encF).length := by
      rw [List.length_append, List.length_append, putL_len]; omega
    try simp only [gdTT, gdFF, gdTF, gdFT, pvS, pickT, pickF, faP, lenS, capS, nilP, exA, exB, exC, notB, cndT, cndF, Bool.not_true, Bool.not_false, Nat.zero_add, Nat.add_zero]
    refine fld_r hf1 hf2 (by decide) i1 (off := 0) (by decide) fun p q r x hR _ hx => ?_
    obtain ⟨kv, rfl, hkv, hkl⟩ := hR
    have hx' : x = kv := by simpa using hx.symm
    subst hx'
    refine lenF_r hkv ?_
    refine lss_r (fun hlt2 => ?_) (fun hge2 => ?_)
    · have k1 : t.1 < l[s.1].1.length := by omega
      try simp only [gdTT, gdFF, gdTF, gdFT, pvS, pickT, pickF, faP, lenS, capS, nilP, exA, exB, exC, notB, cndT, cndF, Bool.not_true, Bool.not_false, Nat.zero_add, Nat.add_zero]
      refine fld_r hf1 hf2 (by decide) i1 (off := 0) (by decide) fun p q r y hR _ hy => ?_
      obtain ⟨kv, rfl, hkv, hkl⟩ := hR
      have hy' : y = kv := by simpa using hy.symm
      subst hy'
      refine ixn_r hkv k1 fun p => u64i_r ?_
      refine put_c (size := 4) ho4 (by omega) (by omega) (by omega) (fun v5 M5 N5 ho5 hfr5 hN5 hm5 hw5 => ?_)
      rw [putL_len] at ho5
      refine inc_r (by omega) ?_
      have ek : encK (l[s.1].1.take (t.1 + 1)) = encK (l[s.1].1.take t.1) ++ putL (u64i l[s.1].1[t.1]) 4 := flatMap_take _ _ k1
      refine next2 (t.1 + 1, v5) _ _ (by simp only; omega) (fun hw6 => ⟨_, wk_refl hw6, M5, N5, rfl, by omega, hm5, k1, ?_, hfr4.trans hfr5 hN4⟩)
      simp only
      rw [ek, ← List.append_assoc, ← List.append_assoc, List.append_assoc pre]
      exact own_app3 ho5 (by rw [putL_len])
    · try simp only [gdTT, gdFF, gdTF, gdFT, pvS, pickT, pickF, faP, lenS, capS, nilP, exA, exB, exC, notB, cndT, cndF, Bool.not_true, Bool.not_false, Nat.zero_add, Nat.add_zero]
      rw [t42_1_1_0_1_0_0_1_0_0_1_1]
      rw [List.take_of_length_le (by omega)] at ho4
      refine fld_r hf1 hf2 (by decide) i1 (off := 1) (by decide) fun p q r y hR _ hy => ?_
      obtain ⟨kv, rfl, hkv, hkl⟩ := hR
      have hy' : y = .int .i64 l[s.1].2 := by simpa using hy.symm
      subst hy'
      refine u64i_r ?_
      refine put_c (size := 8) ho4 (by omega) (by omega) (by rw [List.length_append, List.length_append, putL_len, encK_len]; omega) (fun v5 M5 N5 ho5 hfr5 hN5 hm5 hw5 => ?_)
      rw [putL_len] at ho5
      rw [t42_1_1_0_1_0_0_1_1]
      refine inc_r (by omega) ?_
      refine next (s.1 + 1, v5) _ _ (by simp only; omega) (fun hw6 => ⟨_, wk_refl hw6, M5, N5, rfl, by omega, hm5, i1, ?_, hfr4.trans hfr5 hN4⟩)
      simp only
      rw [et, ← List.append_assoc, ← hpre]
      have := own_app3 ho5 (by rw [putL_len])
      rw [List.append_assoc pre, List.append_assoc] at this
      exact this
  · try simp only [gdTT, gdFF, gdTF, gdFT, pvS, pickT, pickF, faP, lenS, capS, nilP, exA, exB, exC, notB, cndT, cndF, Bool.not_true, Bool.not_false, Nat.zero_add, Nat.add_zero]
    rw [t42_1_1_1]
    rw [List.take_of_length_le (by omega)] at ho
    exact fun hc => ⟨_, wk_refl hc, fun hw' => k s.2 M2 N2 ho hfr hN2 hm2 hw'⟩
/-- SameFacts, of the same facts -/
theorem samef_c {u v : Value} {l : List Fc} (hu : fctsD F u l) (hv : fctsD F v l) (hl : l.length ≤ 1000000) (hn : (encFs l).length ≤ 100000000000) (k : ∀ N', N ≤ N' → (Hp.mk F M N').wf → K (.bool true) ⟨F, M, N'⟩) :
    callv Tryz.prog (.func (.func 20) #[] #[]) #[u, v] K E ⟨F, M, N⟩ := by
  refine callv_of_text mixed Tryz.func20 (by kernel_rfl) (t20 _ E _ _) (fun hw => ?_)
  have hm : clean M N := hw.m
  refine encFs_c (B := N) own.nil (Nat.le_refl _) hu hl (by omega) (fun v1 M1 N1 ho1 hfr1 hN1 hm1 hw1 => ?_)
  rw [Nat.zero_add, List.nil_append] at ho1
  refine bsU_r ho1.rd.read ?_
  refine encFs_c (B := N) own.nil (by omega) hv hl (by omega) (fun v2 M2 N2 ho2 hfr2 hN2 hm2 hw2 => ?_)
  rw [Nat.zero_add, List.nil_append] at ho2
  have ho1' : own M2 N 5 1 v1 (encFs l).length (bts (encFs l)) := ho1.keep (fun q hq => (hfr2 q (by simp [Value.ownBlock]) (ho1.lt hm1 q hq)).1) (Nat.le_refl _)
  refine ⟨⟨_, encFs l, ho1'.rd.read, rfl⟩, ?_⟩
  refine bsU_r ho2.rd.read (eqs_r ?_)
  exact fun hc => ⟨_, wk_drop hc (fun q c hq => by rw [(hfr2 q (by simp [Value.ownBlock]) (by have := hm.lt hq; omega)).1, (hfr1 q (by simp [Value.ownBlock]) (hm.lt hq)).1]; exact hq), fun hw' => k _ (by omega) hw'⟩
end Go.Proofs.YtgjdjdjhoipfmaaGreatDoor.A
open Go Go.RowKit Go.Proofs.YtgjdjdjhoipfmaaGreatDoor.K Go.Proofs.YtgjdjdjhoipfmaaGreatDoor.T
set_option linter.unusedVariables false
set_option linter.unusedSimpArgs false
namespace Go.Proofs.YtgjdjdjhoipfmaaGreatDoor.A
variable {F F' : Nat → Option (List Value)} {M M' : Nat → Option Chunk} {N N' : Nat} {K : Kont} {E : PanK}
/-! ### The reference's cube -/
/-- The reference's cube of facts. -/
structure isRef (F : Nat → Option (List Value)) (M : Nat → Option Chunk) (g : Nat) (dv lv : Value) (l : List Dm) (h : List En) : Prop where
  gg : M g = some (.cells 102 [dv, lv] 2)
  dd : dimsD F dv l
  ll : entsD F lv h
theorem isRef.keep {g : Nat} {dv lv : Value} {l : List Dm} {h : List En} (hC : isRef F M g dv lv l h) (hF : subF F F') (hM : M' g = M g) : isRef F' M' g dv lv l h := ⟨hM.trans hC.gg, hC.dd.mono hF, hC.ll.mono hF⟩
end Go.Proofs.YtgjdjdjhoipfmaaGreatDoor.A
open Go Go.RowKit Go.Proofs.YtgjdjdjhoipfmaaGreatDoor.K Go.Proofs.YtgjdjdjhoipfmaaGreatDoor.T
set_option linter.unusedVariables false
set_option linter.unusedSimpArgs false
namespace Go.Proofs.YtgjdjdjhoipfmaaGreatDoor.A
variable {F F' : Nat → Option (List Value)} {M M' : Nat → Option Chunk} {N N' : Nat} {K : Kont} {E : PanK}
end Go.Proofs.YtgjdjdjhoipfmaaGreatDoor.A
open Go Go.RowKit Go.Proofs.YtgjdjdjhoipfmaaGreatDoor.K Go.Proofs.YtgjdjdjhoipfmaaGreatDoor.T
set_option linter.unusedVariables false
set_option linter.unusedSimpArgs false
namespace Go.Proofs.YtgjdjdjhoipfmaaGreatDoor.A
variable {F F' : Nat → Option (List Value)} {M M' : Nat → Option Chunk} {N N' : Nat} {K : Kont} {E : PanK}
theorem there_mem {h : List En} {t : Int} (hs : risen h) : there h t = true ↔ ∃ e ∈ h, e.1 = t := by
  constructor
  · intro ht
    have hi := there_lt ht
    rw [there_in hi] at ht
    exact ⟨_, List.getElem_mem hi, of_decide_eq_true ht⟩
  · rintro ⟨e, he, het⟩
    obtain ⟨i, hi, rfl⟩ := List.mem_iff_getElem.1 he
    have e1 : i = place h t := by
      rcases Nat.lt_trichotomy i (place h t) with h1 | h1 | h1
      · have := place_lt hi h1; omega
      · exact h1
      · have hp : place h t < h.length := by omega
        have h2 := place_ge (t := t) hs hp (Nat.le_refl _)
        have h3 := List.pairwise_iff_getElem.1 hs (place h t) i hp hi h1
        omega
    subst e1
    rw [there_in hi]; exact decide_eq_true het
end Go.Proofs.YtgjdjdjhoipfmaaGreatDoor.A
open Go Go.RowKit Go.Proofs.YtgjdjdjhoipfmaaGreatDoor.K Go.Proofs.YtgjdjdjhoipfmaaGreatDoor.T
set_option linter.unusedVariables false
set_option linter.unusedSimpArgs false
namespace Go.Proofs.YtgjdjdjhoipfmaaGreatDoor.A
variable {F F' : Nat → Option (List Value)} {M M' : Nat → Option Chunk} {N N' : Nat} {K : Kont} {E : PanK}
/-- The entry of a place in the reference's cube. -/
theorem entD.at {cs : List Value} {e : En} (h : entD F cs e) : ∃ v, cs = [.int .u32 e.1, v] ∧ fctsD F v e.2 := let ⟨v, h1, h2, _⟩ := h; ⟨v, h1, h2⟩
end Go.Proofs.YtgjdjdjhoipfmaaGreatDoor.A
open Go Go.RowKit Go.Proofs.YtgjdjdjhoipfmaaGreatDoor.K Go.Proofs.YtgjdjdjhoipfmaaGreatDoor.T
set_option linter.unusedVariables false
set_option linter.unusedSimpArgs false
namespace Go.Proofs.YtgjdjdjhoipfmaaGreatDoor.A
variable {F F' : Nat → Option (List Value)} {M M' : Nat → Option Chunk} {N N' : Nat} {K : Kont} {E : PanK}
theorem tillF_mem {h : List En} {t : Int} {f : Fc} (hf : f ∈ tillF h t) : ∃ e ∈ h, f ∈ e.2 := by
  unfold tillF allF at hf
  obtain ⟨x, hx, hfx⟩ := List.mem_flatten.1 hf
  obtain ⟨e, he, rfl⟩ := List.mem_map.1 hx
  exact ⟨e, (List.mem_filter.1 he).1, hfx⟩
def lastT (es : List En) (i : Nat) : Int := if h : 0 < i ∧ i ≤ es.length then es[i - 1].1 else 0
end Go.Proofs.YtgjdjdjhoipfmaaGreatDoor.A
open Go Go.RowKit Go.Proofs.YtgjdjdjhoipfmaaGreatDoor.K Go.Proofs.YtgjdjdjhoipfmaaGreatDoor.T
set_option linter.unusedVariables false
set_option linter.unusedSimpArgs false
namespace Go.Proofs.YtgjdjdjhoipfmaaGreatDoor.A
variable {F F' : Nat → Option (List Value)} {M M' : Nat → Option Chunk} {N N' : Nat} {K : Kont} {E : PanK}
theorem lay1_all {P : En → Prop} {h : List En} {e : En} (h0 : P e) (ha : ∀ d : En, d.1 = e.1 → P d → P (e.1, d.2 ++ e.2)) (hp : ∀ d ∈ h, P d) : ∀ d ∈ lay1 h e, P d := by
  unfold lay1
  split
  · exact withR_all h0 ha hp
  · exact hp
theorem layAll_all {P : En → Prop} (ha : ∀ e d : En, P e → P d → P (e.1, d.2 ++ e.2)) : ∀ {es h : List En}, (∀ d ∈ h, P d) → (∀ e ∈ es, P e) → ∀ d ∈ layAll h es, P d
  | [], h, hp, _ => hp
  | e :: es, h, hp, he => layAll_all ha (es := es) (h := lay1 h e) (lay1_all (he e List.mem_cons_self) (fun d _ hd => ha e d (he e List.mem_cons_self) hd) hp) fun x hx => he x (List.mem_cons_of_mem _ hx)
end Go.Proofs.YtgjdjdjhoipfmaaGreatDoor.A
open Go Go.RowKit Go.Proofs.YtgjdjdjhoipfmaaGreatDoor.K Go.Proofs.YtgjdjdjhoipfmaaGreatDoor.T
set_option linter.unusedVariables false
set_option linter.unusedSimpArgs false
namespace Go.Proofs.YtgjdjdjhoipfmaaGreatDoor.A
variable {F F' : Nat → Option (List Value)} {M M' : Nat → Option Chunk} {N N' : Nat} {K : Kont} {E : PanK}
end Go.Proofs.YtgjdjdjhoipfmaaGreatDoor.A
open Go Go.RowKit Go.Proofs.YtgjdjdjhoipfmaaGreatDoor.K Go.Proofs.YtgjdjdjhoipfmaaGreatDoor.T
set_option linter.unusedVariables false
set_option linter.unusedSimpArgs false
namespace Go.Proofs.YtgjdjdjhoipfmaaGreatDoor.A
variable {F F' : Nat → Option (List Value)} {M M' : Nat → Option Chunk} {N N' : Nat} {K : Kont} {E : PanK}
end Go.Proofs.YtgjdjdjhoipfmaaGreatDoor.A
open Go Go.RowKit Go.Proofs.YtgjdjdjhoipfmaaGreatDoor.K
set_option linter.unusedVariables false
set_option maxRecDepth 100000
namespace Go.Proofs.YtgjdjdjhoipfmaaGreatDoor.T
end Go.Proofs.YtgjdjdjhoipfmaaGreatDoor.T
open Go Go.RowKit Go.Proofs.YtgjdjdjhoipfmaaGreatDoor.K Go.Proofs.YtgjdjdjhoipfmaaGreatDoor.T
set_option linter.unusedVariables false
set_option linter.unusedSimpArgs false
namespace Go.Proofs.YtgjdjdjhoipfmaaGreatDoor.A
variable {F F' : Nat → Option (List Value)} {M M' : Nat → Option Chunk} {N N' : Nat} {K : Kont} {E : PanK}
/-! ### Calls on a cube -/
structure OpC where
  kind : Int
  at' : Int
  keys : List (List Int)
  v : List Int
  facts : List Fc
  fr : Int
  to : Int
  L : List En
/-- What is known of a call that comes in. -/
structure OpC.ok (o : OpC) : Prop where
  kd : 0 ≤ o.kind ∧ o.kind < 256
  ta : 0 ≤ o.at' ∧ o.at' < 4294967296
  kl : o.keys.length ≤ 140737488351232
  kc : ∀ k ∈ o.keys, ∀ x ∈ k, 0 ≤ x ∧ x < 65536
  vl : o.v.length ≤ 140737488351232
  vc : ∀ x ∈ o.v, i64 x
  fl : o.facts.length ≤ 140737488351232
  fc : ∀ f ∈ o.facts, i64 f.2
  fo : 0 ≤ o.fr ∧ o.fr < 65536
  tt : 0 ≤ o.to ∧ o.to < 65536
  ll : o.L.length ≤ 140737488351232
  lt : ∀ e ∈ o.L, 0 ≤ e.1 ∧ e.1 < 4294967296
  lc : ∀ e ∈ o.L, ∀ f ∈ e.2, i64 f.2
def opcD (F : Nat → Option (List Value)) (cs : List Value) (o : OpC) : Prop := ∃ k v f L, cs = [.int .u8 o.kind, .int .u32 o.at', k, v, f, .int .u16 o.fr, .int .u16 o.to, L] ∧ kksD .u16 F k o.keys ∧ sF F 1 v o.v.length (ic o.v) ∧ fctsD F f o.facts ∧ entsD F L o.L ∧ o.ok
theorem opcD.mono {cs : List Value} {o : OpC} (h : opcD F cs o) (hF : subF F F') : opcD F' cs o := let ⟨k, v, f, L, e, h1, h2, h3, h4, h5⟩ := h; ⟨k, v, f, L, e, h1.mono hF, h2.mono hF, h3.mono hF, h4.mono hF, h5⟩
theorem kksD.form {k : IntKind} {v : Value} {ks : List (List Int)} (h : kksD k F v ks) : ∃ a c, v = .slice a ks.length c := let ⟨rows, h1, _⟩ := h; let ⟨a, c, h2, _⟩ := h1.form; ⟨a, c, h2⟩
theorem opcD.one {cs : List Value} {o : OpC} (h : opcD F cs o) : cs.length = 8 ∧ ∀ c ∈ cs, c.oneCell' = true := by
  obtain ⟨k, v, f, L, rfl, h1, h2, h3, h4, _⟩ := h
  obtain ⟨a1, c1, rfl⟩ := h1.form
  obtain ⟨a2, c2, rfl, _⟩ := h2.form
  obtain ⟨a3, c3, rfl⟩ := h3.form
  obtain ⟨a4, c4, rfl⟩ := h4.form
  exact ⟨rfl, List.all_eq_true.1 rfl⟩
def opsD (F : Nat → Option (List Value)) (v : Value) (l : List OpC) : Prop := ∃ rows, sF F 8 v l.length rows.flatten ∧ rowsF (opcD F) 8 rows l
theorem opsD.mono {v : Value} {l : List OpC} (h : opsD F v l) (hF : subF F F') : opsD F' v l := let ⟨rows, h1, h2⟩ := h; ⟨rows, h1.mono hF, h2.mono fun _ _ hr => hr.mono hF⟩
/-- The facts of a call's entry. -/
def pick (l : List Fc) (fr to : Int) (i n : Nat) : List Fc := ((l.take n).mapIdx fun k f => (k, f)).filterMap fun p => if fr ≤ p.2.1.getD 0 0 ∧ p.2.1.getD 0 0 < to ∧ p.1 % (i + 1) = 0 then some p.2 else none
/-- Entries that a call puts. -/
def entOf (l : List Dm) (o : OpC) : List En := (o.L.take 20).mapIdx fun i e => ((i : Int) * 3 + 1 + e.1 % 3, pick (factsOf l o.keys o.v) o.fr o.to i (factsOf l o.keys o.v).length)
theorem pick_mem {l : List Fc} {fr to : Int} {i : Nat} : ∀ {n : Nat} {f : Fc}, f ∈ pick l fr to i n → f ∈ l ∧ fr ≤ f.1.getD 0 0 ∧ f.1.getD 0 0 < to := by
  intro n f hf
  unfold pick at hf
  obtain ⟨p, hp, he⟩ := List.mem_filterMap.1 hf
  split at he
  · rename_i hc
    cases he
    obtain ⟨j, hj, rfl⟩ := List.mem_iff_getElem.1 hp
    rw [List.getElem_mapIdx] at hc ⊢
    exact ⟨List.mem_of_mem_take (List.getElem_mem _), hc.1, hc.2.1⟩
  · cases he
theorem entOf_len (l : List Dm) (o : OpC) : (entOf l o).length = min 20 o.L.length := by simp [entOf]
end Go.Proofs.YtgjdjdjhoipfmaaGreatDoor.A
open Go Go.RowKit Go.Proofs.YtgjdjdjhoipfmaaGreatDoor.K Go.Proofs.YtgjdjdjhoipfmaaGreatDoor.T
set_option linter.unusedVariables false
set_option linter.unusedSimpArgs false
namespace Go.Proofs.YtgjdjdjhoipfmaaGreatDoor.A
variable {F F' : Nat → Option (List Value)} {M M' : Nat → Option Chunk} {N N' : Nat} {K : Kont} {E : PanK}
theorem entOf_at {l : List Dm} {o : OpC} {i : Nat} (h1 : i < o.L.length) (h2 : i < 20) (h3 : i < (entOf l o).length) : (entOf l o)[i] = ((i : Int) * 3 + 1 + o.L[i].1 % 3, pick (factsOf l o.keys o.v) o.fr o.to i (factsOf l o.keys o.v).length) := by
  have h : (entOf l o)[i]? = some ((i : Int) * 3 + 1 + o.L[i].1 % 3, pick (factsOf l o.keys o.v) o.fr o.to i (factsOf l o.keys o.v).length) := by
    unfold entOf
    rw [List.getElem?_mapIdx, List.getElem?_take, if_pos h2, List.getElem?_eq_getElem h1]; rfl
  rw [List.getElem?_eq_getElem h3] at h
  exact Option.some.inj h
end Go.Proofs.YtgjdjdjhoipfmaaGreatDoor.A
open Go Go.RowKit Go.Proofs.YtgjdjdjhoipfmaaGreatDoor.K Go.Proofs.YtgjdjdjhoipfmaaGreatDoor.T
set_option linter.unusedVariables false
set_option linter.unusedSimpArgs false
namespace Go.Proofs.YtgjdjdjhoipfmaaGreatDoor.A
variable {F F' : Nat → Option (List Value)} {M M' : Nat → Option Chunk} {N N' : Nat} {K : Kont} {E : PanK}
/-- The program's cube and the reference's, of the same facts. -/
structure both (F : Nat → Option (List Value)) (M : Nat → Option Chunk) (B g g2 : Nat) (hv dv : Value) (rows : List (List Value)) (dv2 lv2 : Value) (l : List Dm) (h : List En) : Prop where
  c : isCube F M B g hv dv rows l h
  r : isRef F M g2 dv2 lv2 l h
  o : okH l 5000 200 h
  n1 : g2 ≠ g
  n2 : hv.ownBlock ≠ some g2
/-- What a call makes of the facts. -/
def doesH (l : List Dm) (h : List En) (o : OpC) : List En :=
  if o.kind % 6 = 4 then addH l h o.at' o.facts else if o.kind % 6 = 5 then replF l o.fr o.to (replF l o.fr o.to h o.L) (entOf l o) else addH l h (o.at' % 40) (factsOf l o.keys o.v)
theorem okH.does {l : List Dm} {h : List En} (k : okH l 5000 200 h) {o : OpC} (ok : o.ok) : okH l 5000 200 (doesH l h o) := by
  unfold doesH
  split
  · exact k.add ok.ta.1 _
  · split
    · exact (k.repl _ _ _).repl _ _ _
    · have := ok.ta; exact k.add (by omega) _
theorem entOf_time {l : List Dm} {o : OpC} (ok : o.ok) : ∀ e ∈ entOf l o, 0 ≤ e.1 ∧ e.1 < 4294967296 := fun e he => by
  obtain ⟨i, hi, rfl⟩ := List.mem_iff_getElem.1 he
  have hl := entOf_len l o
  rw [entOf_at (by omega) (by omega) hi]
  simp only; omega
end Go.Proofs.YtgjdjdjhoipfmaaGreatDoor.A
open Go Go.RowKit Go.Proofs.YtgjdjdjhoipfmaaGreatDoor.K Go.Proofs.YtgjdjdjhoipfmaaGreatDoor.T
set_option linter.unusedVariables false
set_option linter.unusedSimpArgs false
namespace Go.Proofs.YtgjdjdjhoipfmaaGreatDoor.A
variable {F F' : Nat → Option (List Value)} {M M' : Nat → Option Chunk} {N N' : Nat} {K : Kont} {E : PanK}
theorem fold_keys : ∀ (l t : List Rw) (r : Rw), r ∈ l.foldl (fun t r => layR t r.1 r.2) t → (∃ x ∈ l, x.1 = r.1) ∨ r ∈ t
  | [], t, r, h => .inr h
  | x :: l, t, r, h => by
    rcases fold_keys l _ r h with ⟨y, hy, e⟩ | h
    · exact .inl ⟨y, List.mem_cons_of_mem _ hy, e⟩
    · rcases layR_keys t x.1 x.2 r h with h | h
      · exact .inl ⟨x, List.mem_cons_self, h.symm⟩
      · exact .inr h
theorem tab_keys (l : List Rw) (r : Rw) (h : r ∈ tab l) : ∃ x ∈ l, x.1 = r.1 := (fold_keys l [] r h).elim id (fun h => by cases h)
theorem okH.total {l : List Dm} {n m : Nat} {h : List En} (o : okH l n m h) : (allF h).length ≤ n * m := by
  have key : ∀ (h : List En), (∀ e ∈ h, e.2.length ≤ m) → (allF h).length ≤ h.length * m := by
    intro h
    induction h with
    | nil => intro _; simp [allF]
    | cons e h ih =>
      intro hp
      have h1 := ih fun x hx => hp x (List.mem_cons_of_mem _ hx)
      have h2 := hp e List.mem_cons_self
      rw [allF_cons, List.length_append, List.length_cons, Nat.succ_mul]; omega
  exact Nat.le_trans (key h o.fl) (Nat.mul_le_mul_right _ o.le)
theorem inF_okK {l : List Dm} (hl : goodDims l) {k : List Int} (h : inF l k = true) : goodKey l k := by
  have hlen := inF_len h
  unfold inF at h
  rw [Bool.and_eq_true, List.all_eq_true] at h
  refine ⟨hlen, fun x hx => ?_⟩
  obtain ⟨i, hi, rfl⟩ := List.mem_iff_getElem.1 hx
  have hi' : i < l.length := by omega
  have := h.2 i (List.mem_range.2 hi')
  unfold inP at this
  rw [getD_at hi, getD_at hi'] at this
  have h1 := of_decide_eq_true this
  have h2 := hl.2.2 _ (List.getElem_mem hi')
  omega
theorem goodKey_okK {l : List Dm} (hl : goodDims l) {k : List Int} (h : goodKey l k) : okK k := by
  have := hl.2.1
  exact ⟨by rw [h.1]; omega, fun x hx => by have := h.2 x hx; unfold i64; omega⟩
theorem okH.okK {l : List Dm} (hl : goodDims l) {n m : Nat} {h : List En} (o : okH l n m h) : ∀ e ∈ h, ∀ f ∈ e.2, A.okK f.1 := fun e he f hf => goodKey_okK hl (inF_okK hl (o.fi e he f hf))
theorem okH.tab {l : List Dm} (hl : goodDims l) {n m : Nat} {h : List En} (o : okH l n m h) (t : Int) : ∀ r ∈ A.tab ((tillF h t).map fr1), A.okK r.1 := fun r hr => by
  obtain ⟨x, hx, e⟩ := tab_keys _ r hr
  obtain ⟨f, hf, rfl⟩ := List.mem_map.1 hx
  obtain ⟨d, hd, hfd⟩ := tillF_mem hf
  rw [← e]; exact o.okK hl d hd f hfd
theorem encFs_le {m d : Nat} {fs : List Fc} (h1 : fs.length ≤ m) (h2 : ∀ f ∈ fs, f.1.length ≤ d) : (encFs fs).length ≤ 4 + m * (9 + 4 * d) := by
  have key : ∀ fs : List Fc, (∀ f ∈ fs, f.1.length ≤ d) → (fs.flatMap encF).length ≤ fs.length * (9 + 4 * d) := by
    intro fs
    induction fs with
    | nil => intro _; simp
    | cons f fs ih =>
      intro hp
      have h1 := ih fun x hx => hp x (List.mem_cons_of_mem _ hx)
      have h2 := hp f List.mem_cons_self
      have h3 : (encF f).length = 1 + f.1.length * 4 + 8 := by unfold encF; rw [List.length_append, List.length_append, putL_len, putL_len, encK_len]; omega
      rw [List.flatMap_cons, List.length_append, List.length_cons, Nat.succ_mul]; omega
  have h3 := key fs h2
  have h4 : fs.length * (9 + 4 * d) ≤ m * (9 + 4 * d) := Nat.mul_le_mul_right _ h1
  unfold encFs
  rw [List.length_append, putL_len]; omega
theorem encEs_le {n m d : Nat} {h : List En} (h1 : h.length ≤ n) (h2 : ∀ e ∈ h, e.2.length ≤ m ∧ ∀ f ∈ e.2, f.1.length ≤ d) : (encEs h).length ≤ 4 + n * (8 + m * (9 + 4 * d)) := by
  have key : ∀ h : List En, (∀ e ∈ h, e.2.length ≤ m ∧ ∀ f ∈ e.2, f.1.length ≤ d) → (h.flatMap encE).length ≤ h.length * (8 + m * (9 + 4 * d)) := by
    intro h
    induction h with
    | nil => intro _; simp
    | cons e h ih =>
      intro hp
      have h1 := ih fun x hx => hp x (List.mem_cons_of_mem _ hx)
      obtain ⟨h2, h3⟩ := hp e List.mem_cons_self
      have h4 := encFs_le h2 h3
      have h5 : (encE e).length = 4 + (encFs e.2).length := by unfold encE; rw [List.length_append, putL_len]
      rw [List.flatMap_cons, List.length_append, List.length_cons, Nat.succ_mul]; omega
  have h3 := key h h2
  have h4 : h.length * (8 + m * (9 + 4 * d)) ≤ n * (8 + m * (9 + 4 * d)) := Nat.mul_le_mul_right _ h1
  unfold encEs
  rw [List.length_append, putL_len]; omega
theorem okH.enc {l : List Dm} (hl : goodDims l) {h : List En} (o : okH l 5000 200 h) : (encEs h).length ≤ 100000000 := by
  have h4 := hl.2.1
  have := encEs_le (d := 4) o.le fun e he => ⟨o.fl e he, fun f hf => by have := inF_len (o.fi e he f hf); omega⟩
  omega
theorem both.keep {B g g2 : Nat} {hv dv dv2 lv2 : Value} {rows : List (List Value)} {l : List Dm} {h : List En} (b : both F M B g g2 hv dv rows dv2 lv2 l h) (hF : subF F F') (hM : ∀ q, q = g ∨ q = g2 ∨ hv.ownBlock = some q → M' q = M q) : both F' M' B g g2 hv dv rows dv2 lv2 l h :=
  ⟨b.c.keep hF (fun q hq => hM q (hq.elim .inl (fun h => .inr (.inr h)))), b.r.keep hF (hM g2 (.inr (.inl rfl))), b.o, b.n1, b.n2⟩
theorem both.lt {B g g2 : Nat} {hv dv dv2 lv2 : Value} {rows : List (List Value)} {l : List Dm} {h : List En} (b : both F M B g g2 hv dv rows dv2 lv2 l h) (hm : clean M N) : ∀ q, q = g ∨ q = g2 ∨ hv.ownBlock = some q → q < N := fun q hq => by
  rcases hq with hq | hq | hq
  · exact (b.c.lt hm q (.inl hq)).2
  · subst hq; exact hm.lt b.r.gg
  · exact (b.c.lt hm q (.inr hq)).2
end Go.Proofs.YtgjdjdjhoipfmaaGreatDoor.A
open Go Go.RowKit Go.Proofs.YtgjdjdjhoipfmaaGreatDoor.K
set_option linter.unusedVariables false
set_option maxRecDepth 100000
namespace Go.Proofs.YtgjdjdjhoipfmaaGreatDoor.T
end Go.Proofs.YtgjdjdjhoipfmaaGreatDoor.T
open Go Go.RowKit Go.Proofs.YtgjdjdjhoipfmaaGreatDoor.K Go.Proofs.YtgjdjdjhoipfmaaGreatDoor.T
set_option linter.unusedVariables false
set_option linter.unusedSimpArgs false
namespace Go.Proofs.YtgjdjdjhoipfmaaGreatDoor.A
variable {F F' : Nat → Option (List Value)} {M M' : Nat → Option Chunk} {N N' : Nat} {K : Kont} {E : PanK}
theorem queryD.box {cs : List Value} {m lo hi : List Int} (h : queryD F cs m lo hi) : cs.length = 3 ∧ ∀ c ∈ cs, c.oneCell' = true := by
  obtain ⟨a, b, c, rfl, h1, h2, h3, _⟩ := h
  obtain ⟨a1, c1, rfl, _⟩ := h1.form
  obtain ⟨a2, c2, rfl, _⟩ := h2.form
  obtain ⟨a3, c3, rfl, _⟩ := h3.form
  exact ⟨rfl, List.all_eq_true.1 rfl⟩
end Go.Proofs.YtgjdjdjhoipfmaaGreatDoor.A
open Go Go.RowKit Go.Proofs.YtgjdjdjhoipfmaaGreatDoor.K
set_option linter.unusedVariables false
set_option maxRecDepth 100000
namespace Go.Proofs.YtgjdjdjhoipfmaaGreatDoor.T
end Go.Proofs.YtgjdjdjhoipfmaaGreatDoor.T
open Go Go.RowKit Go.Proofs.YtgjdjdjhoipfmaaGreatDoor.K Go.Proofs.YtgjdjdjhoipfmaaGreatDoor.T
set_option linter.unusedVariables false
set_option linter.unusedSimpArgs false
namespace Go.Proofs.YtgjdjdjhoipfmaaGreatDoor.A
variable {F F' : Nat → Option (List Value)} {M M' : Nat → Option Chunk} {N N' : Nat} {K : Kont} {E : PanK}
end Go.Proofs.YtgjdjdjhoipfmaaGreatDoor.A
open Go Go.RowKit Go.Proofs.YtgjdjdjhoipfmaaGreatDoor.K Go.Proofs.YtgjdjdjhoipfmaaGreatDoor.T
set_option linter.unusedVariables false
set_option linter.unusedSimpArgs false
namespace Go.Proofs.YtgjdjdjhoipfmaaGreatDoor.A
variable {F F' : Nat → Option (List Value)} {M M' : Nat → Option Chunk} {N N' : Nat} {K : Kont} {E : PanK}
abbrev rQuery : (Nat → Option (List Value)) → List Value → List Int × List Int × List Int → Prop := rP (rS 1 (rI .i64)) (rP (rS 1 (rI .i64)) (rS 1 (rI .i64)))
abbrev rFact : (Nat → Option (List Value)) → List Value → List Int × Int → Prop := rP (rS 1 (rI .i64)) (rI .i64)
abbrev rEnt : (Nat → Option (List Value)) → List Value → Int × List (List Int × Int) → Prop := rP (rI .u32) (rS 2 rFact)
abbrev OpY := Int × Int × List (List Int) × List Int × List (List Int × Int) × Int × Int × List (Int × List (List Int × Int))
abbrev rOp : (Nat → Option (List Value)) → List Value → OpY → Prop := rP (rI .u8) (rP (rI .u32) (rP (rS 1 (rS 1 (rI .u16))) (rP (rS 1 (rI .i64)) (rP (rS 2 rFact) (rP (rI .u16) (rP (rI .u16) (rS 2 rEnt)))))))
def toOp (y : OpY) : OpC := ⟨y.1, y.2.1, y.2.2.1, y.2.2.2.1, y.2.2.2.2.1, y.2.2.2.2.2.1, y.2.2.2.2.2.2.1, y.2.2.2.2.2.2.2⟩
end Go.Proofs.YtgjdjdjhoipfmaaGreatDoor.A
open Go Go.RowKit Go.Proofs.YtgjdjdjhoipfmaaGreatDoor.K
set_option linter.unusedVariables false
set_option maxRecDepth 100000
namespace Go.Proofs.YtgjdjdjhoipfmaaGreatDoor.T
end Go.Proofs.YtgjdjdjhoipfmaaGreatDoor.T
open Go Go.RowKit Go.Proofs.YtgjdjdjhoipfmaaGreatDoor.K Go.Proofs.YtgjdjdjhoipfmaaGreatDoor.T
set_option linter.unusedVariables false
set_option linter.unusedSimpArgs false
namespace Go.Proofs.YtgjdjdjhoipfmaaGreatDoor.A
variable {F F' : Nat → Option (List Value)} {M M' : Nat → Option Chunk} {N N' : Nat} {K : Kont} {E : PanK}
end Go.Proofs.YtgjdjdjhoipfmaaGreatDoor.A
open Go Go.RowKit Go.Proofs.YtgjdjdjhoipfmaaGreatDoor.K
set_option linter.unusedVariables false
set_option maxRecDepth 100000
namespace Go.Proofs.YtgjdjdjhoipfmaaGreatDoor.T
end Go.Proofs.YtgjdjdjhoipfmaaGreatDoor.T
open Go Go.RowKit Go.Proofs.YtgjdjdjhoipfmaaGreatDoor.K Go.Proofs.YtgjdjdjhoipfmaaGreatDoor.T
set_option linter.unusedVariables false
set_option linter.unusedSimpArgs false
namespace Go.Proofs.YtgjdjdjhoipfmaaGreatDoor.A
variable {F F' : Nat → Option (List Value)} {M M' : Nat → Option Chunk} {N N' : Nat} {K : Kont} {E : PanK}
theorem inR_all {l : List Dm} (hl : goodDims l) {f : Fc} (h : inF l f.1 = true) : inR 0 10000 f = true := by
  have hlen := inF_len h
  have h0 := hl.1
  have hk0 : 0 < f.1.length := by omega
  unfold inF at h
  rw [Bool.and_eq_true, List.all_eq_true] at h
  have := h.2 0 (List.mem_range.2 h0)
  unfold inP at this
  rw [getD_at hk0, getD_at h0] at this
  have h1 := of_decide_eq_true this
  have h2 := hl.2.2 _ (List.getElem_mem h0)
  unfold inR
  rw [getD_at hk0]
  exact decide_eq_true ⟨hk0, h1.1, by omega⟩
end Go.Proofs.YtgjdjdjhoipfmaaGreatDoor.A
open Go Go.RowKit Go.Proofs.YtgjdjdjhoipfmaaGreatDoor.K
set_option linter.unusedVariables false
set_option maxRecDepth 100000
namespace Go.Proofs.YtgjdjdjhoipfmaaGreatDoor.T
end Go.Proofs.YtgjdjdjhoipfmaaGreatDoor.T
open Go Go.RowKit Go.Proofs.YtgjdjdjhoipfmaaGreatDoor.K Go.Proofs.YtgjdjdjhoipfmaaGreatDoor.T
set_option linter.unusedVariables false
set_option linter.unusedSimpArgs false
namespace Go.Proofs.YtgjdjdjhoipfmaaGreatDoor.A
variable {F F' : Nat → Option (List Value)} {M M' : Nat → Option Chunk} {N N' : Nat} {K : Kont} {E : PanK}
/-! ### What is asked of a range depends on its facts alone -/
/-- Numbers of facts are whole numbers of 64 bits. -/
def valH (h : List En) : Prop := ∀ e ∈ h, ∀ f ∈ e.2, i64 f.2
theorem valH.add {l : List Dm} {h : List En} (k : valH h) {t : Int} {fs : List Fc} (hf : ∀ f ∈ fs, i64 f.2) : valH (addH l h t fs) := by
  by_cases e : addE l h t fs = 0
  · rw [addH_eq e]
    exact withR_all (P := fun e => ∀ f ∈ e.2, i64 f.2) hf (fun e _ he f hx => (List.mem_append.1 hx).elim (he f) (hf f)) k
  · unfold addH; rw [if_neg e]; exact k
theorem valH.rest {h : List En} (k : valH h) (a b : Int) : valH (restH a b h) := fun x hx => by
  obtain ⟨e, he, rfl⟩ := restH_mem hx
  exact fun f hf => k e he f (List.mem_filter.1 hf).1
theorem valH.repl {l : List Dm} {h es : List En} (k : valH h) (ke : valH es) (a b : Int) : valH (replF l a b h es) := by
  unfold replF
  split
  · exact layAll_all (P := fun e => ∀ f ∈ e.2, i64 f.2) (fun e d he hd f hf => (List.mem_append.1 hf).elim (hd f) (he f)) (k.rest a b) ke
  · exact k
theorem valH.does {l : List Dm} {h : List En} (k : valH h) {o : OpC} (ok : o.ok) : valH (doesH l h o) := by
  have hfs := facts_i64 (l := l) (ks := o.keys) ok.vc
  unfold doesH
  split
  · exact k.add ok.fc
  · split
    · refine (k.repl ok.lc _ _).repl (fun e he f hf => ?_) _ _
      obtain ⟨i, hi, rfl⟩ := List.mem_iff_getElem.1 he
      have hl := entOf_len l o
      rw [entOf_at (by omega) (by omega) hi] at hf
      exact hfs f (pick_mem hf).1
    · exact k.add hfs
end Go.Proofs.YtgjdjdjhoipfmaaGreatDoor.A
open Go Go.RowKit Go.Proofs.YtgjdjdjhoipfmaaGreatDoor.K Go.Proofs.YtgjdjdjhoipfmaaGreatDoor.T
set_option linter.unusedVariables false
set_option linter.unusedSimpArgs false
namespace Go.Proofs.YtgjdjdjhoipfmaaGreatDoor.A
variable {F F' : Nat → Option (List Value)} {M M' : Nat → Option Chunk} {N N' : Nat} {K : Kont} {E : PanK}
/-- Times of a history are whole numbers of 32 bits. -/
def timH (h : List En) : Prop := ∀ e ∈ h, e.1 < 4294967296
theorem timH.add {l : List Dm} {h : List En} (k : timH h) {t : Int} (fs : List Fc) (ht : t < 4294967296) : timH (addH l h t fs) := by
  by_cases e : addE l h t fs = 0
  · rw [addH_eq e]
    exact withR_all (P := fun e => e.1 < 4294967296) ht (fun _ _ _ => ht) k
  · unfold addH; rw [if_neg e]; exact k
theorem timH.rest {h : List En} (k : timH h) (a b : Int) : timH (restH a b h) := fun x hx => by
  obtain ⟨e, he, rfl⟩ := restH_mem hx
  exact k e he
theorem timH.repl {l : List Dm} {h es : List En} (k : timH h) (ke : timH es) (a b : Int) : timH (replF l a b h es) := by
  unfold replF
  split
  · exact layAll_all (P := fun e => e.1 < 4294967296) (fun e d he hd => he) (k.rest a b) ke
  · exact k
theorem timH.does {l : List Dm} {h : List En} (k : timH h) {o : OpC} (ok : o.ok) : timH (doesH l h o) := by
  unfold doesH
  split
  · exact k.add _ ok.ta.2
  · split
    · exact (k.repl (fun e he => (ok.lt e he).2) _ _).repl (fun e he => (entOf_time ok e he).2) _ _
    · exact k.add _ (by have := ok.ta; omega)
end Go.Proofs.YtgjdjdjhoipfmaaGreatDoor.A
open Go Go.RowKit Go.Proofs.YtgjdjdjhoipfmaaGreatDoor.K Go.Proofs.YtgjdjdjhoipfmaaGreatDoor.T
set_option linter.unusedVariables false
set_option linter.unusedSimpArgs false
namespace Go.Proofs.YtgjdjdjhoipfmaaGreatDoor.A
variable {F F' : Nat → Option (List Value)} {M M' : Nat → Option Chunk} {N N' : Nat} {K : Kont} {E : PanK}
end Go.Proofs.YtgjdjdjhoipfmaaGreatDoor.A
open Go Go.RowKit Go.Proofs.YtgjdjdjhoipfmaaGreatDoor.K Go.Proofs.YtgjdjdjhoipfmaaGreatDoor.T
set_option linter.unusedVariables false
set_option linter.unusedSimpArgs false
namespace Go.Proofs.YtgjdjdjhoipfmaaGreatDoor.A
variable {F F' : Nat → Option (List Value)} {M M' : Nat → Option Chunk} {N N' : Nat} {K : Kont} {E : PanK}
theorem withR_has : ∀ (h : List En) (t : Int) (fs : List Fc), ∃ e ∈ withR h t fs, e.1 = t
  | [], t, fs => ⟨(t, fs), by simp [withR], rfl⟩
  | e :: h, t, fs => by
    unfold withR
    split
    · obtain ⟨x, hx, h1⟩ := withR_has h t fs; exact ⟨x, List.mem_cons_of_mem _ hx, h1⟩
    · split
      · exact ⟨_, List.mem_cons_self, rfl⟩
      · exact ⟨_, List.mem_cons_self, rfl⟩
theorem withR_old : ∀ {h : List En} {t : Int} {fs : List Fc} {e : En}, e ∈ h → ∃ x ∈ withR h t fs, x.1 = e.1
  | d :: h, t, fs, e, he => by
    unfold withR
    rcases List.mem_cons.1 he with rfl | he
    · split
      · exact ⟨_, List.mem_cons_self, rfl⟩
      · split
        · rename_i h1; exact ⟨_, List.mem_cons_self, h1.symm⟩
        · exact ⟨_, List.mem_cons_of_mem _ List.mem_cons_self, rfl⟩
    · split
      · obtain ⟨x, hx, h1⟩ := withR_old (t := t) (fs := fs) he; exact ⟨x, List.mem_cons_of_mem _ hx, h1⟩
      · split
        · exact ⟨e, List.mem_cons_of_mem _ he, rfl⟩
        · exact ⟨e, List.mem_cons_of_mem _ (List.mem_cons_of_mem _ he), rfl⟩
/-- What is seen: one at each time that is there. -/
def seenD (s : List Int) (h : List En) : Prop := s.length = 256 ∧ ∀ (j : Nat) (hj : j < s.length), s[j] = if there h (j : Nat) = true then 1 else 0
theorem seenD.nil {n : Nat} {s : List Int} (e : s = zeros n) (hn : n = 256) : seenD s [] := by
  refine ⟨by rw [e, zeros_len]; exact hn, fun j hj => ?_⟩
  have h0 : s[j] = 0 := by subst e; simp [zeros]
  rw [h0, there_out (by simp [place])]
  simp
theorem seenD.add {s : List Int} {h : List En} {t : Nat} {fs : List Fc} (hs : seenD s h) (hr : risen h) : seenD (s.set t 1) (withR h (t : Nat) fs) := by
  have hr' : risen (withR h (t : Nat) fs) := withR_risen hr
  refine ⟨by rw [List.length_set]; exact hs.1, fun j hj => ?_⟩
  rw [List.length_set] at hj
  rw [List.getElem_set]
  by_cases e : t = j
  · subst e
    rw [if_pos rfl, if_pos ((there_mem hr').2 (withR_has h _ fs))]
  · rw [if_neg e, hs.2 j hj]
    have : there (withR h (t : Nat) fs) (j : Nat) = there h (j : Nat) := by
      rw [Bool.eq_iff_iff, there_mem hr', there_mem hr]
      constructor
      · rintro ⟨x, hx, h1⟩
        rcases withR_mem hx with h2 | h2
        · omega
        · exact ⟨x, h2, h1⟩
      · rintro ⟨x, hx, h1⟩
        obtain ⟨y, hy, h2⟩ := withR_old (t := (t : Nat)) (fs := fs) hx
        exact ⟨y, hy, by omega⟩
    rw [this]
end Go.Proofs.YtgjdjdjhoipfmaaGreatDoor.A
open Go Go.RowKit Go.Proofs.YtgjdjdjhoipfmaaGreatDoor.K
set_option linter.unusedVariables false
set_option maxRecDepth 100000
namespace Go.Proofs.YtgjdjdjhoipfmaaGreatDoor.T
end Go.Proofs.YtgjdjdjhoipfmaaGreatDoor.T
open Go Go.RowKit Go.Proofs.YtgjdjdjhoipfmaaGreatDoor.K Go.Proofs.YtgjdjdjhoipfmaaGreatDoor.T
set_option linter.unusedVariables false
set_option linter.unusedSimpArgs false
namespace Go.Proofs.YtgjdjdjhoipfmaaGreatDoor.A
variable {F F' : Nat → Option (List Value)} {M M' : Nat → Option Chunk} {N N' : Nat} {K : Kont} {E : PanK}
end Go.Proofs.YtgjdjdjhoipfmaaGreatDoor.A
open Go Go.RowKit Go.Proofs.YtgjdjdjhoipfmaaGreatDoor.K Go.Proofs.YtgjdjdjhoipfmaaGreatDoor.T
set_option linter.unusedVariables false
set_option linter.unusedSimpArgs false
namespace Go.Proofs.YtgjdjdjhoipfmaaGreatDoor.A
variable {F F' : Nat → Option (List Value)} {M M' : Nat → Option Chunk} {N N' : Nat} {K : Kont} {E : PanK}
theorem own.cell {B : Nat} {e : TypeId} {sz n : Nat} {v : Value} {cs : List Value} (h : own M B e sz v n cs) : ∀ q, v.ownBlock = some q → ∃ cs tot, M q = some (.cells e cs tot) := fun q hq => by
  rcases h.2 with ⟨rfl, _⟩ | ⟨b, c, rest, rfl, _, _, _, h4⟩
  · simp [Value.ownBlock] at hq
  · simp [Value.ownBlock] at hq
    subst hq
    exact ⟨_, _, h4⟩
/-- What is of another type is another block. -/
theorem own.kp {B B' : Nat} {e : TypeId} {sz n : Nat} {v : Value} {cs : List Value} (h : own M B e sz v n cs) (hM : ∀ q cs tot, M q = some (.cells e cs tot) → M' q = M q) (hB : B' ≤ B := by omega) : own M' B' e sz v n cs :=
  h.keep (fun q hq => let ⟨cs, tot, h1⟩ := h.cell q hq; hM q cs tot h1) hB
/-- A fact whose key is one's own. -/
def ofct (M : Nat → Option Chunk) (B : Nat) (cs : List Value) (f : Fc) : Prop := ∃ v, cs = [v, .int .i64 f.2] ∧ own M B 3 1 v f.1.length (ic f.1) ∧ f.1.length ≤ 140737488351232
theorem ofct.one {B : Nat} {cs : List Value} {f : Fc} (h : ofct M B cs f) : cs.length = 2 ∧ ∀ c ∈ cs, c.oneCell' = true := by
  obtain ⟨v, rfl, hv, _⟩ := h
  obtain ⟨a, c, rfl, _⟩ := hv.form
  exact ⟨rfl, List.all_eq_true.1 rfl⟩
theorem ofct.kp {B B' : Nat} {cs : List Value} {f : Fc} (h : ofct M B cs f) (hM : ∀ q cs tot, M q = some (.cells 3 cs tot) → M' q = M q) (hB : B' ≤ B := by omega) : ofct M' B' cs f :=
  let ⟨v, e, h1, h2⟩ := h; ⟨v, e, h1.kp hM hB, h2⟩
/-- Facts of one's own, keys and all. -/
def ofcts (M : Nat → Option Chunk) (B : Nat) (v : Value) (l : List Fc) : Prop := ∃ rows, own M B 48 2 v l.length rows.flatten ∧ rowsF (ofct M B) 2 rows l
theorem ofcts.form {B : Nat} {v : Value} {l : List Fc} (h : ofcts M B v l) : ∃ a c, v = .slice a l.length c := let ⟨_, h1, _⟩ := h; let ⟨a, c, e, _⟩ := h1.form; ⟨a, c, e⟩
theorem ofcts.kp {B B' : Nat} {v : Value} {l : List Fc} (h : ofcts M B v l) (hM : ∀ q cs tot, M q = some (.cells 3 cs tot) ∨ M q = some (.cells 48 cs tot) → M' q = M q) (hB : B' ≤ B := by omega) : ofcts M' B' v l :=
  let ⟨rows, h1, h2⟩ := h; ⟨rows, h1.kp (fun q cs tot h => hM q cs tot (.inr h)) hB, h2.mono fun _ _ h => h.kp (fun q cs tot h => hM q cs tot (.inl h)) hB⟩
set_option maxRecDepth 10000 in
/-- clone of facts of one's own -/
theorem cclone_i {B : Nat} {v : Value} {l : List Fc} (hv : ofcts M B v l) (hl : l.length ≤ 1000000000) (hk : ∀ f ∈ l, f.1.length ≤ 10000000000)
    (k : ∀ v' F' N', (Hp.mk F' M N').wf → subF F F' → N ≤ N' → fctsD F' v' l → K v' ⟨F', M, N'⟩) :
    callv Tryz.prog (.func (.func 66) #[] #[]) #[v] K E ⟨F, M, N⟩ := by
  refine callv_of_text mixed Tryz.func66 (by kernel_rfl) (t66 _ E _) (fun hw => ?_)
  have hm : clean M N := hw.m
  have hlv : lenV v = some (.int .i64 (l.length : Nat)) := by obtain ⟨a, c, e⟩ := hv.form; rw [e]; rfl
  refine pv_r hlv ?_
  refine l66_1_1_0_1_0_0 (σ := Nat × Value) (fun s => s.2) (fun s => .int .i64 (s.1 : Nat))
    (fun s h => ∃ F' M' N' rows, h = ⟨F', M', N'⟩ ∧ subF F F' ∧ N ≤ N' ∧ (∀ q, q < N → M' q = M q) ∧ clean M' N' ∧ s.1 ≤ l.length ∧ own M' N 48 2 s.2 s.1 rows.flatten ∧ rowsF (fctD F') 2 rows (l.take s.1)) (fun s => l.length - s.1) (0, .slice none 0 0) rfl rfl
    (fun hw1 => ⟨_, wk_refl hw1, F, M, N, [], rfl, subF.refl _, Nat.le_refl _, fun _ _ => rfl, hm, Nat.zero_le _, own.nil, rowsF.nil _ _⟩) (fun k1 s j h1 hI hw1 next => ?_)
  obtain ⟨F1, M1, N1, rows, rfl, hF1, hN1, hM1, hm1, hi', ho, hr⟩ := hI
  refine lss_r (fun hlt => ?_) (fun hge => ?_)
  · have h1 : s.1 < l.length := by omega
    obtain ⟨vrows, hvs, hrs⟩ : ofcts M1 B v l := hv.kp (fun q cs tot h => hM1 q (h.elim hm.lt hm.lt))
    try simp only [gdTT, gdFF, gdTF, gdFT, pvS, pickT, pickF, faP, lenS, capS, nilP, exA, exB, exC, notB, cndT, cndF, Bool.not_true, Bool.not_false, Nat.zero_add, Nat.add_zero]
    refine orow_r hvs hrs (by decide) h1 (fun p r _ hR hrl hr1 => ?_)
    obtain ⟨kv, hre, hkv, hkl⟩ := hR
    subst hre
    refine nw_r (fun b1 hb1 => ?_)
    refine stM (cs' := [kv, .int .i64 l[s.1].2]) ?_ (upd_same _ _ _) rfl rfl hr1
    rw [upd_upd]
    have hb2 := upd_same M1 b1 (some (.cells 48 [kv, .int .i64 l[s.1].2] [Value.slice none 0 0, Value.int .i64 0].length))
    have hM2 : ∀ q, q < N → upd M1 b1 (some (.cells 48 [kv, .int .i64 l[s.1].2] [Value.slice none 0 0, Value.int .i64 0].length)) q = M q := fun q hq => (upd_ne _ _ (by omega)).trans (hM1 q hq)
    have ho2 := ho.box hm1 hb1 (some (.cells 48 [kv, .int .i64 l[s.1].2] [Value.slice none 0 0, Value.int .i64 0].length))
    have hkv2 := hkv.box hm1 hb1 (some (.cells 48 [kv, .int .i64 l[s.1].2] [Value.slice none 0 0, Value.int .i64 0].length))
    have hm2 := hm1.new hb1 (some (.cells 48 [kv, .int .i64 l[s.1].2] [Value.slice none 0 0, Value.int .i64 0].length))
    generalize upd M1 b1 _ = M2 at *
    try simp only [gdTT, gdFF, gdTF, gdFT, pvS, pickT, pickF, faP, lenS, capS, nilP, exA, exB, exC, notB, cndT, cndF, Bool.not_true, Bool.not_false, Nat.zero_add, Nat.add_zero]
    refine ldM (v := kv) ?_ hb2
    try simp only [gdTT, gdFF, gdTF, gdFT, pvS, pickT, pickF, faP, lenS, capS, nilP, exA, exB, exC, notB, cndT, cndF, Bool.not_true, Bool.not_false, Nat.zero_add, Nat.add_zero]
    refine ldM (v := .int .i64 l[s.1].2) ?_ hb2
    refine clone_f hm2 hkv2.rd (by have := hk _ (List.getElem_mem h1); omega) (fun kv' F3 N3 hw3 hF3 hN3 hkv' => ?_)
    refine ⟨ldV_c (row_M hb2) rfl, ?_⟩
    have h1f : fctD F3 [kv', .int .i64 l[s.1].2] l[s.1] := ⟨kv', rfl, hkv', hkl⟩
    obtain ⟨ak, ck, hkf, hck⟩ := hkv'.form
    refine pv_r (v := .agg #[kv', .int .i64 l[s.1].2]) (by rw [hkf]; kernel_rfl) ?_
    refine push_r (new := [kv', .int .i64 l[s.1].2]) ho2 hw3.m (by omega) (by rw [hkf]; kernel_rfl) rfl h1f.one.2 (by omega) (by unfold maxLen; omega) (fun p v' M4 N4 h4 h5 h6 h7 => ?_)
    refine inc_r (by omega) ?_
    refine next (s.1 + 1, v') _ _ (by simp only; omega) (fun hw5 => ⟨_, wk_refl hw5, F3, M4, N4, rows ++ [[kv', .int .i64 l[s.1].2]], rfl, hF1.trans hF3, by omega, fun q hq => ?_, h7, h1, ?_, ?_⟩)
    · exact ((h5 q (fun e => by have := (ho2.ge q e).1; omega) (by omega)).1).trans (hM2 q hq)
    · simpa using h4
    · simp only
      rw [List.take_add_one, List.getElem?_eq_getElem h1, Option.toList_some]
      exact rowsF_snoc1 (hr.mono fun _ _ h => h.mono hF3) h1f.one h1f
  · try simp only [gdTT, gdFF, gdTF, gdFT, pvS, pickT, pickF, faP, lenS, capS, nilP, exA, exB, exC, notB, cndT, cndF, Bool.not_true, Bool.not_false, Nat.zero_add, Nat.add_zero]
    rw [t66_1_1_1]
    rw [show s.1 = l.length by omega] at ho
    rw [List.take_of_length_le (by omega)] at hr
    exact fun hc => ⟨_, frz_wf hm hM1 hc, fun hw' => k _ _ _ hw' (hF1.trans (subF_frzAll hc)) hN1 (fcts_frzA hc ho hr)⟩
set_option maxRecDepth 10000 in
/-- Facts, of stratumlaw04, of the caller's own. -/
theorem facts_o {u v w : Value} {l : List Dm} {ks : List (List Int)} {c : List Int} (hu : dimsD F u l) (hv : kksD .u16 F v ks) (hw' : sF F 1 w c.length (ic c)) (hl : l.length ≤ 1000000) (hs : ∀ d ∈ l, 0 < d.1 ∧ d.1 ≤ 1000000) (hc : ∀ k ∈ ks, ∀ x ∈ k, 0 ≤ x ∧ x < 65536) (hkl : ks.length ≤ 140737488351232) (hcl : c.length ≤ 140737488351232)
    (k : ∀ v' M' N', (Hp.mk F M' N').wf → (∀ q, q < N → M' q = M q) → N ≤ N' → ofcts M' N v' (factsOf l ks c) → K v' ⟨F, M', N'⟩) :
    callv Tryz.prog (.func (.func 16) #[] #[]) #[u, v, w] K E ⟨F, M, N⟩ := by
  refine callv_of_text mixed Tryz.func16 (by kernel_rfl) (t16 _ E _ _ _) (fun hw => ?_)
  have hm : clean M N := hw.m
  have hlv : lenV v = some (.int .i64 (ks.length : Nat)) := by obtain ⟨rows, h1, _⟩ := hv; obtain ⟨a, c, rfl, _⟩ := h1.form; rfl
  have hlw : lenV w = some (.int .i64 (c.length : Nat)) := by obtain ⟨a, c, rfl, _⟩ := hw'.form; rfl
  refine l16_1_1_0_1_0_0 (σ := Nat × Value) (fun s => s.2) (fun s => .int .i64 (s.1 : Nat))
    (fun s h => ∃ M' N' rows, h = ⟨F, M', N'⟩ ∧ N ≤ N' ∧ (∀ q, q < N → M' q = M q) ∧ clean M' N' ∧ s.1 ≤ ks.length ∧ s.1 ≤ 200 ∧ own M' N 48 2 s.2 s.1 rows.flatten ∧ rowsF (ofct M' N) 2 rows ((ks.take s.1).mapIdx fun i k => (keyOf l k, c.getD (i % c.length) 0))) (fun s => 200 - s.1) (0, .slice none 0 0) rfl rfl
    (fun hw2 => ⟨_, wk_refl hw2, M, N, [], rfl, Nat.le_refl _, fun _ _ => rfl, hm, Nat.zero_le _, Nat.zero_le _, own.nil, rowsF.nil _ _⟩) (fun k1 s j h1 hI hw2 next => ?_)
  obtain ⟨M2, N2, rows, rfl, hN2, hM2, hm2, hi, hi2, ho2, hr2⟩ := hI
  have fin : (¬ s.1 < ks.length ∨ ¬ s.1 < 200) → ∀ h', h' = (⟨F, M2, N2⟩ : Hp) → h'.wf → ∃ h'', h'.wk h'' ∧ (h''.wf → K s.2 h'') := fun hend h' e hc' => by
    subst e
    have e1 : ks.take s.1 = ks.take 200 := by
      rcases hend with h | h
      · rw [List.take_of_length_le (by omega), List.take_of_length_le (by omega)]
      · rw [show s.1 = 200 by omega]
    have e2 : s.1 = (factsOf l ks c).length := by
      rw [factsOf_len]
      rcases hend with h | h <;> omega
    refine ⟨_, wk_refl hc', fun hw' => k _ _ _ hw' hM2 hN2 ⟨rows, ?_, ?_⟩⟩
    · rw [← e2]; exact ho2
    · unfold factsOf
      rw [← e1]; exact hr2
  simp only [hlv]
  try simp only [gdTT, gdFF, gdTF, gdFT, pvS, pickT, pickF, faP, lenS, capS, nilP, exA, exB, exC, notB, cndT, cndF, Bool.not_true, Bool.not_false, Nat.zero_add, Nat.add_zero]
  refine lss_r (fun hlt => ?_) (fun hge => ?_)
  · try simp only [gdTT, gdFF, gdTF, gdFT, pvS, pickT, pickF, faP, lenS, capS, nilP, exA, exB, exC, notB, cndT, cndF, Bool.not_true, Bool.not_false, Nat.zero_add, Nat.add_zero]
    refine lss_r (fun hlt2 => ?_) (fun hge2 => ?_)
    · have h1 : s.1 < ks.length := by omega
      try simp only [gdTT, gdFF, gdTF, gdFT, pvS, pickT, pickF, faP, lenS, capS, nilP, exA, exB, exC, notB, cndT, cndF, Bool.not_true, Bool.not_false, Nat.zero_add, Nat.add_zero]
      refine kk_r hv h1 fun p kv hkv hkvl => ?_
      refine key_o hu hkv hl hs (hc _ (List.getElem_mem _)) hkvl (fun key M3 N3 hkey hM3 hN3 hm3 hw3 => ?_)
      have hkl2 : (keyOf l ks[s.1]).length ≤ 1000000 := by rw [keyOf_len]; omega
      obtain ⟨ka, kc, hkf, _⟩ := hkey.form
      have ho3 : own M3 N 48 2 s.2 s.1 rows.flatten := ho2.keep (fun q hq => hM3 q (ho2.lt hm2 q hq)) (Nat.le_refl _)
      have hr3 := hr2.mono fun _ _ h => h.kp (M' := M3) (B' := N) (fun q cs tot h => hM3 q (hm2.lt h))
      have hM3' : ∀ q, q < N → M3 q = M q := fun q hq => (hM3 q (by omega)).trans (hM2 q hq)
      refine pv_r (v := .agg #[key, .int .i64 0]) (by rw [hkf]; kernel_rfl) ?_
      refine nw_r (fun b1 hb1 => ?_)
      refine stM (cs' := [key, .int .i64 0]) ?_ (upd_same _ _ _) rfl rfl (by rw [hkf]; exact List.all_eq_true.1 rfl)
      rw [upd_upd]
      simp only [hlw]
      try simp only [gdTT, gdFF, gdTF, gdFT, pvS, pickT, pickF, faP, lenS, capS, nilP, exA, exB, exC, notB, cndT, cndF, Bool.not_true, Bool.not_false, Nat.zero_add, Nat.add_zero]
      refine gtr_r (fun h0 => ?_) (fun h0 => ?_)
      try simp only [gdTT, gdFF, gdTF, gdFT, pvS, pickT, pickF, faP, lenS, capS, nilP, exA, exB, exC, notB, cndT, cndF, Bool.not_true, Bool.not_false, Nat.zero_add, Nat.add_zero]
      refine rem_n (a := s.1) (b := c.length) (by omega) ?_
      have hmod : s.1 % c.length < c.length := Nat.mod_lt _ (by omega)
      refine ixn_r hw' hmod fun p => ?_
      refine stM (cs' := [key, .int .i64 c[s.1 % c.length]]) ?_ (upd_same _ _ _) rfl rfl (List.all_eq_true.1 rfl) (by exact Nat.le_of_ble_eq_true rfl)
      rw [upd_upd]
      obtain ⟨n, hn, hn2⟩ : ∃ n, c[s.1 % c.length] = n ∧ n = c.getD (s.1 % c.length) 0 := ⟨_, rfl, by rw [List.getD_eq_getElem?_getD, List.getElem?_eq_getElem hmod]; rfl⟩
      rw [hn]
      rotate_left
      try simp only [gdTT, gdFF, gdTF, gdFT, pvS, pickT, pickF, faP, lenS, capS, nilP, exA, exB, exC, notB, cndT, cndF, Bool.not_true, Bool.not_false, Nat.zero_add, Nat.add_zero]
      obtain ⟨n, hn, hn2⟩ : ∃ n : Int, (0 : Int) = n ∧ n = c.getD (s.1 % c.length) 0 := ⟨_, rfl, by rw [List.getD_eq_getElem?_getD, List.getElem?_eq_none (by omega)]; rfl⟩
      rw [show ([key, .int .i64 0] : List Value) = [key, .int .i64 n] by rw [← hn]]
      all_goals
        rw [t16_1_1_0_1_0_0_1_0_0_1_1]
        refine ldMa (vs := [key, .int .i64 n]) ?_ (upd_same _ _ _)
        have ho4 := ho3.box hm3 hb1 (some (.cells 48 [key, .int .i64 n] [Value.slice none 0 0, Value.int .i64 0].length))
        have hk4 := hkey.box hm3 hb1 (some (.cells 48 [key, .int .i64 n] [Value.slice none 0 0, Value.int .i64 0].length))
        have hr4 := hr3.mono fun _ _ h => h.kp (M' := upd M3 b1 (some (.cells 48 [key, .int .i64 n] [Value.slice none 0 0, Value.int .i64 0].length))) (B' := N) (fun q cs tot h => upd_ne _ _ (fun e => by have := hm3.lt h; omega))
        have hm4 := hm3.new hb1 (some (.cells 48 [key, .int .i64 n] [Value.slice none 0 0, Value.int .i64 0].length))
        have hM4 : ∀ q, q < N → upd M3 b1 (some (.cells 48 [key, .int .i64 n] [Value.slice none 0 0, Value.int .i64 0].length)) q = M q := fun q hq => (upd_ne _ _ (by omega)).trans (hM3' q hq)
        refine push_r (new := [key, .int .i64 n]) ho4 hm4 (by omega) (by rw [hkf]; kernel_rfl) rfl (by rw [hkf]; exact List.all_eq_true.1 rfl) (by omega) (by unfold maxLen; omega) (fun p v' M5 N5 h4 h5 h6 h7 => ?_)
        have hT : ∀ q cs tot, upd M3 b1 (some (.cells 48 [key, .int .i64 n] [Value.slice none 0 0, Value.int .i64 0].length)) q = some (.cells 3 cs tot) → M5 q = upd M3 b1 (some (.cells 48 [key, .int .i64 n] [Value.slice none 0 0, Value.int .i64 0].length)) q := fun q cs tot h => (h5 q (fun e => by obtain ⟨c2, t2, h2⟩ := ho4.cell q e; rw [h] at h2; cases h2) (hm4.lt h)).1
        rw [t16_1_1_0_1_0_0_1_1]
        refine inc_r (by omega) ?_
        refine next (s.1 + 1, v') _ _ (by simp only; omega) (fun hw3 => ⟨_, wk_refl hw3, M5, N5, rows ++ [[key, .int .i64 n]], rfl, by omega, fun q hq => ?_, h7, h1, by simp only; omega, ?_, ?_⟩)
        · exact ((h5 q (fun e => by have := (ho4.ge q e).1; omega) (by omega)).1).trans (hM4 q hq)
        · simpa using h4
        · simp only
          rw [mapIdx_take _ ks h1]
          have hr1 : ofct M5 N [key, .int .i64 n] (keyOf l ks[s.1], c.getD (s.1 % c.length) 0) := ⟨key, by rw [← hn2], hk4.kp hT, by simp only; omega⟩
          exact rowsF_snoc1 (hr4.mono fun _ _ h => h.kp hT) hr1.one hr1
    · try simp only [gdTT, gdFF, gdTF, gdFT, pvS, pickT, pickF, faP, lenS, capS, nilP, exA, exB, exC, notB, cndT, cndF, Bool.not_true, Bool.not_false, Nat.zero_add, Nat.add_zero]
      rw [t16_1_1_1]
      exact fin (by omega) _ rfl
  · try simp only [gdTT, gdFF, gdTF, gdFT, pvS, pickT, pickF, faP, lenS, capS, nilP, exA, exB, exC, notB, cndT, cndF, Bool.not_true, Bool.not_false, Nat.zero_add, Nat.add_zero]
    rw [t16_1_1_1]
    exact fin (by omega) _ rfl
end Go.Proofs.YtgjdjdjhoipfmaaGreatDoor.A
open Go Go.RowKit Go.Proofs.YtgjdjdjhoipfmaaGreatDoor.K Go.Proofs.YtgjdjdjhoipfmaaGreatDoor.T
set_option linter.unusedVariables false
set_option linter.unusedSimpArgs false
namespace Go.Proofs.YtgjdjdjhoipfmaaGreatDoor.A
variable {F F' : Nat → Option (List Value)} {M M' : Nat → Option Chunk} {N N' : Nat} {K : Kont} {E : PanK}
set_option maxRecDepth 10000 in
/-- dims.In of a key of one's own -/
theorem din_i {B : Nat} {v u : Value} {l : List Dm} {m : List Int} (hv : dimsD F v l) (hu : own M B 3 1 u m.length (ic m)) (hl : l.length ≤ 140737488351232) (k : ∀ N', N ≤ N' → (Hp.mk F M N').wf → K (.bool (inF l m)) ⟨F, M, N'⟩) :
    callv Tryz.prog (.func (.func 64) #[] #[]) #[v, u] K E ⟨F, M, N⟩ := by
  refine callv_of_text mixed Tryz.func64 (by kernel_rfl) (t64 _ E _ _) (fun hw => ?_)
  refine callv_of_text mixed Tryz.func95 (by kernel_rfl) (t95 _ E _ _ _) (fun hw => ?_)
  have hm : clean M N := hw.m
  have hlv : lenV v = some (.int .i64 (l.length : Nat)) := by obtain ⟨a, c, rfl⟩ := hv.form; rfl
  have hlu : lenV u = some (.int .i64 (m.length : Nat)) := by obtain ⟨a, c, rfl, _⟩ := hu.form; rfl
  refine pv_r hlv (pv_r hlu ?_)
  refine neq_r (fun h1 => ?_) (fun h1 => ?_)
  · try simp only [gdTT, gdFF, gdTF, gdFT, pvS, pickT, pickF, faP, lenS, capS, nilP, exA, exB, exC, notB, cndT, cndF, Bool.not_true, Bool.not_false, Nat.zero_add, Nat.add_zero]
    refine fun hc => ⟨_, wk_refl hc, fun hw' hc => ⟨_, wk_refl hc, fun hw' => ?_⟩⟩
    have := k _ (Nat.le_refl _) hw'
    rw [show inF l m = false by unfold inF; rw [decide_eq_false (by omega)]; rfl] at this
    exact this
  try simp only [gdTT, gdFF, gdTF, gdFT, pvS, pickT, pickF, faP, lenS, capS, nilP, exA, exB, exC, notB, cndT, cndF, Bool.not_true, Bool.not_false, Nat.zero_add, Nat.add_zero]
  refine pv_r hlv ?_
  obtain ⟨rows, hv1, hv2⟩ := hv
  refine l95_1_1_0_1_0_0 (σ := Nat) (fun i => .int .i64 (i : Nat)) (fun i h => ∃ N', h = ⟨F, M, N'⟩ ∧ N ≤ N' ∧ i ≤ l.length ∧ (List.range i).all (inP l m) = true) (fun i => l.length - i) 0 rfl
    (fun hw1 => ⟨_, wk_refl hw1, N, rfl, Nat.le_refl _, Nat.zero_le _, rfl⟩) (fun k1 i j h1' hI hw1 next => ?_)
  obtain ⟨N1, rfl, hN1, hi, he⟩ := hI
  have hm1 : clean M N1 := hw1.m
  refine lss_r (fun hlt => ?_) (fun hge => ?_)
  · have i1 : i < l.length := by omega
    have i2 : i < m.length := by omega
    try simp only [gdTT, gdFF, gdTF, gdFT, pvS, pickT, pickF, faP, lenS, capS, nilP, exA, exB, exC, notB, cndT, cndF, Bool.not_true, Bool.not_false, Nat.zero_add, Nat.add_zero]
    refine row_r hv1 hv2 (by decide) i1 fun p r _ hR hr2 hr1 => ?_
    have hR' := hR
    obtain ⟨kv, hre, hkv, hkl⟩ := hR
    subst hre
    refine nw_r (fun b1 hb1 => ?_)
    refine stM (cs' := [.int .i64 l[i].1, kv]) ?_ (upd_same _ _ _) rfl rfl hr1
    rw [upd_upd]
    refine get_r (hu.box hm1 hb1 _) i2 fun p => ?_
    refine ldMa (vs := [.int .i64 l[i].1, kv]) ?_
    refine in1_c hR' (fun N2 hN2 hw2 => ?_)
    have hp : inP l m i = decide (0 ≤ m[i] ∧ m[i] < l[i].1) := by
      unfold inP
      rw [getD_at i1, getD_at i2]
    rw [← hp]
    have hdrop : ∀ {h : Hp}, h = (⟨F, upd M b1 (some (.cells 74 [.int .i64 l[i].1, kv] 2)), N2⟩ : Hp) → h.wf → h.wk ⟨F, M, N2⟩ := fun e hc => by subst e; exact wk_drop hc (subM_drop (subM_refl _) (hm1 _ hb1))
    cases hpi : inP l m i
    · try simp only [gdTT, gdFF, gdTF, gdFT, pvS, pickT, pickF, faP, lenS, capS, nilP, exA, exB, exC, notB, cndT, cndF, Bool.not_true, Bool.not_false, Nat.zero_add, Nat.add_zero]
      refine fun hc => ⟨⟨F, M, N2⟩, hdrop rfl hc, fun hw' hc => ⟨_, wk_refl hc, fun hw' => ?_⟩⟩
      have := k N2 (by omega) hw'
      rw [show inF l m = false by unfold inF; rw [all_range_no i1 hpi]; simp] at this
      exact this
    · try simp only [gdTT, gdFF, gdTF, gdFT, pvS, pickT, pickF, faP, lenS, capS, nilP, exA, exB, exC, notB, cndT, cndF, Bool.not_true, Bool.not_false, Nat.zero_add, Nat.add_zero]
      refine inc_r (by omega) ?_
      exact next (i + 1) _ _ (by omega) (fun hw3 => ⟨⟨F, M, N2⟩, hdrop rfl hw3, N2, rfl, by omega, i1, all_range_succ he hpi⟩)
  · try simp only [gdTT, gdFF, gdTF, gdFT, pvS, pickT, pickF, faP, lenS, capS, nilP, exA, exB, exC, notB, cndT, cndF, Bool.not_true, Bool.not_false, Nat.zero_add, Nat.add_zero]
    rw [t95_1_1_1]
    rw [show i = l.length by omega] at he
    refine fun hc => ⟨_, wk_refl hc, fun hw' hc => ⟨_, wk_refl hc, fun hw' => ?_⟩⟩
    have := k _ hN1 hw'
    rw [show inF l m = true by unfold inF; rw [he, decide_eq_true (by omega)]; rfl] at this
    exact this
/-- Fits$1, of a fact of one's own -/
theorem fits1_i {B b g : Nat} {e1 : TypeId} {t1 : Nat} {hv dv : Value} {cs : List Value} {l : List Dm} {f : Fc} (hb : M b = some (.cells e1 [.pointer (some ⟨g, 0, none⟩)] t1)) (hg : M g = some (.cells 84 [hv, dv] 2)) (hd : dimsD F dv l) (hl : l.length ≤ 140737488351232) (hf : ofct M B cs f)
    (k : ∀ N', N ≤ N' → (Hp.mk F M N').wf → K (.bool (!inF l f.1)) ⟨F, M, N'⟩) : callv Tryz.prog (.func (.func 63) #[] #[.pointer (some ⟨b, 0, none⟩)]) #[.agg cs.toArray] K E ⟨F, M, N⟩ := by
  refine callv_of_text mixed Tryz.func63 (by kernel_rfl) (t63 _ E _ _) (fun hw => ?_)
  have hm : clean M N := hw.m
  have hbN := hm.lt hb
  have hgN := hm.lt hg
  obtain ⟨kv, rfl, hkv, hkl⟩ := hf
  obtain ⟨ak, ck, hkf, _⟩ := hkv.form
  refine nw_r (cs := [kv, .int .i64 f.2]) (fun b2 hb2 => ?_) (by rw [hkf]; rfl)
  refine ldM (v := .pointer (some ⟨g, 0, none⟩)) ?_ ((upd_ne _ _ (by omega)).trans hb)
  try simp only [gdTT, gdFF, gdTF, gdFT, pvS, pickT, pickF, faP, lenS, capS, nilP, exA, exB, exC, notB, cndT, cndF, Bool.not_true, Bool.not_false, Nat.zero_add, Nat.add_zero]
  refine ldM (v := dv) ?_ ((upd_ne _ _ (by omega)).trans hg)
  try simp only [gdTT, gdFF, gdTF, gdFT, pvS, pickT, pickF, faP, lenS, capS, nilP, exA, exB, exC, notB, cndT, cndF, Bool.not_true, Bool.not_false, Nat.zero_add, Nat.add_zero]
  refine ldM (v := kv) ?_
  refine din_i hd (hkv.box hm hb2 _) hl (fun N2 hN2 hw2 => ?_)
  try simp only [gdTT, gdFF, gdTF, gdFT, pvS, pickT, pickF, faP, lenS, capS, nilP, exA, exB, exC, notB, cndT, cndF, Bool.not_true, Bool.not_false, Nat.zero_add, Nat.add_zero]
  exact fun hc => ⟨⟨F, M, N2⟩, wk_drop hc (subM_drop (subM_refl _) (hm _ hb2)), fun hw' => k _ (by omega) hw'⟩
theorem fidx_i {B b g : Nat} {e1 : TypeId} {t1 : Nat} {v hv dv : Value} {l : List Dm} {fs : List Fc} (hb : M b = some (.cells e1 [.pointer (some ⟨g, 0, none⟩)] t1)) (hg : M g = some (.cells 84 [hv, dv] 2)) (hd : dimsD F dv l) (hl : l.length ≤ 140737488351232) (hf : ofcts M B v fs) (hfl : fs.length ≤ 140737488351232)
    (k : ∀ (r : Int) N', N ≤ N' → (Hp.mk F M N').wf → (decide (r ≥ 0) = !fs.all fun f => inF l f.1) → K (.int .i64 r) ⟨F, M, N'⟩) :
    callv Tryz.prog (.func (.func 94) #[] #[]) #[v, .func (.func 63) #[] #[.pointer (some ⟨b, 0, none⟩)]] K E ⟨F, M, N⟩ := by
  refine callv_of_text mixed Tryz.func94 (by kernel_rfl) (t94 _ E _ _) (fun hw => ?_)
  have hlv : lenV v = some (.int .i64 (fs.length : Nat)) := by obtain ⟨a, c, e⟩ := hf.form; rw [e]; rfl
  obtain ⟨rows, hv1, hv2⟩ := hf
  refine pv_r hlv ?_
  refine l94_1_0_1_0_0 (σ := Nat) (fun i => .int .i64 (i : Nat)) (fun i h => ∃ N', h = ⟨F, M, N'⟩ ∧ N ≤ N' ∧ i ≤ fs.length ∧ (fs.all fun f => inF l f.1) = ((fs.drop i).all fun f => inF l f.1)) (fun i => fs.length - i) 0 rfl
    (fun hw1 => ⟨_, wk_refl hw1, N, rfl, Nat.le_refl _, Nat.zero_le _, rfl⟩) (fun k1 i j h1 hI hw1 next => ?_)
  obtain ⟨N1, rfl, hN1, hi, he⟩ := hI
  refine lss_r (fun hlt => ?_) (fun hge => ?_)
  · have h1 : i < fs.length := by omega
    try simp only [gdTT, gdFF, gdTF, gdFT, pvS, pickT, pickF, faP, lenS, capS, nilP, exA, exB, exC, notB, cndT, cndF, Bool.not_true, Bool.not_false, Nat.zero_add, Nat.add_zero]
    refine orow_r hv1 hv2 (by decide) h1 fun p r _ hR _ _ => fits1_i hb hg hd hl hR (fun N2 hN2 hw2 => ?_)
    rw [List.drop_eq_getElem_cons h1, List.all_cons] at he
    cases hn : inF l fs[i].1
    · try simp only [gdTT, gdFF, gdTF, gdFT, pvS, pickT, pickF, faP, lenS, capS, nilP, exA, exB, exC, notB, cndT, cndF, Bool.not_true, Bool.not_false, Nat.zero_add, Nat.add_zero]
      refine fun hc => ⟨_, wk_refl hc, fun hw' => k _ _ (by omega) hw' ?_⟩
      rw [he, hn, decide_eq_true (by omega)]; rfl
    · try simp only [gdTT, gdFF, gdTF, gdFT, pvS, pickT, pickF, faP, lenS, capS, nilP, exA, exB, exC, notB, cndT, cndF, Bool.not_true, Bool.not_false, Nat.zero_add, Nat.add_zero]
      refine inc_r (by omega) ?_
      refine next (i + 1) _ _ (by omega) (fun hw3 => ⟨_, wk_refl hw3, N2, rfl, by omega, by omega, ?_⟩)
      rw [he, hn, Bool.true_and]
  · try simp only [gdTT, gdFF, gdTF, gdFT, pvS, pickT, pickF, faP, lenS, capS, nilP, exA, exB, exC, notB, cndT, cndF, Bool.not_true, Bool.not_false, Nat.zero_add, Nat.add_zero]
    rw [t94_1_1]
    refine fun hc => ⟨_, wk_refl hc, fun hw' => k _ _ hN1 hw' ?_⟩
    rw [he, List.drop_eq_nil_of_le (by omega)]; rfl
/-- Fits, of facts of one's own -/
theorem fits_i {B g : Nat} {v hv dv : Value} {l : List Dm} {fs : List Fc} (hg : M g = some (.cells 84 [hv, dv] 2)) (hd : dimsD F dv l) (hl : l.length ≤ 140737488351232) (hf : ofcts M B v fs) (hfl : fs.length ≤ 140737488351232)
    (k : ∀ N', N ≤ N' → (Hp.mk F M N').wf → K (.bool (fitsF l fs)) ⟨F, M, N'⟩) :
    callv Tryz.prog (.func (.func 34) #[] #[]) #[.pointer (some ⟨g, 0, none⟩), v] K E ⟨F, M, N⟩ := by
  refine callv_of_text mixed Tryz.func34 (by kernel_rfl) (t34 _ E _ _) (fun hw => ?_)
  have hm : clean M N := hw.m
  have hgN := hm.lt hg
  have hlv : lenV v = some (.int .i64 (fs.length : Nat)) := by obtain ⟨a, c, h⟩ := hf.form; rw [h]; rfl
  unfold fitsF at k
  refine nw_r (cs := [.pointer (some ⟨g, 0, none⟩)]) (fun b1 hb1 => ?_)
  have hf1 : ∀ x, ofcts (upd M b1 x) B v fs := fun x => hf.kp (fun q cs tot h => upd_ne _ _ (fun e => by have := h.elim hm.lt hm.lt; omega))
  refine pv_r hlv ?_
  refine leq_r (fun h1 => ?_) (fun h1 => ?_)
  · rw [decide_eq_true (by omega), Bool.true_and] at k
    try simp only [gdTT, gdFF, gdTF, gdFT, pvS, pickT, pickF, faP, lenS, capS, nilP, exA, exB, exC, notB, cndT, cndF, Bool.not_true, Bool.not_false, Nat.zero_add, Nat.add_zero]
    refine callv_of_text mixed Tryz.func62 (by kernel_rfl) (t62 _ E _ _) (fun hw => ?_)
    refine fidx_i (upd_same _ _ _) ((upd_ne _ _ (by omega)).trans hg) hd hl (hf1 _) hfl (fun r N2 hN2 hw2 hr => ?_)
    cases ha : fs.all fun f => inF l f.1
    · rw [ha] at hr k
      refine geq_t (by simpa using hr) fun hc => ⟨_, wk_refl hc, fun hw' => ?_⟩
      try simp only [gdTT, gdFF, gdTF, gdFT, pvS, pickT, pickF, faP, lenS, capS, nilP, exA, exB, exC, notB, cndT, cndF, Bool.not_true, Bool.not_false, Nat.zero_add, Nat.add_zero]
      exact fun hc => ⟨⟨F, M, N2⟩, wk_drop hc (subM_drop (subM_refl _) (hm _ hb1)), fun hw' => k _ (by omega) hw'⟩
    · rw [ha] at hr k
      refine geq_f (by simpa using hr) fun hc => ⟨_, wk_refl hc, fun hw' => ?_⟩
      try simp only [gdTT, gdFF, gdTF, gdFT, pvS, pickT, pickF, faP, lenS, capS, nilP, exA, exB, exC, notB, cndT, cndF, Bool.not_true, Bool.not_false, Nat.zero_add, Nat.add_zero]
      exact fun hc => ⟨⟨F, M, N2⟩, wk_drop hc (subM_drop (subM_refl _) (hm _ hb1)), fun hw' => k _ (by omega) hw'⟩
  · rw [decide_eq_false (by omega), Bool.false_and] at k
    try simp only [gdTT, gdFF, gdTF, gdFT, pvS, pickT, pickF, faP, lenS, capS, nilP, exA, exB, exC, notB, cndT, cndF, Bool.not_true, Bool.not_false, Nat.zero_add, Nat.add_zero]
    exact fun hc => ⟨⟨F, M, b1 + 1⟩, wk_drop hc (subM_drop (subM_refl _) (hm _ hb1)), fun hw' => k _ (by omega) hw'⟩
set_option maxRecDepth 10000 in
/-- with, at a time that is not there, of facts of one's own -/
theorem hwith_i {A B : Nat} {v fv : Value} {rows : List (List Value)} {h : List En} {t : Int} {fs : List Fc} (hv : own M B 52 2 v h.length rows.flatten) (hB : B ≤ N) (hr : rowsF (entD F) 2 rows h) (hs : risen h) (hl : h.length ≤ 10000000000) (ht : there h t = false) (hf : ofcts M A fv fs) (hfl : fs.length ≤ 1000000) (hk : ∀ f ∈ fs, f.1.length ≤ 10000000000)
    (k : ∀ v' F' M' N' rows', subF F F' → own M' B 52 2 v' (layE h t fs).length rows'.flatten → rowsF (entD F') 2 rows' (layE h t fs) → (∀ q, v.ownBlock ≠ some q → q < N → M' q = M q ∧ v'.ownBlock ≠ some q) → N ≤ N' → clean M' N' → (Hp.mk F' M' N').wf → K v' ⟨F', M', N'⟩) :
    callv Tryz.prog (.func (.func 35) #[] #[]) #[v, .int .u32 t, fv] K E ⟨F, M, N⟩ := by
  refine callv_of_text mixed Tryz.func35 (by kernel_rfl) (t35 _ E _ _ _) (fun hw => ?_)
  have hm : clean M N := hw.m
  have hpl := place_le h t
  refine find_c hv hr hs (by omega) (fun N1 hN1 hw1 => ?_)
  rw [ht]
  try simp only [gdTT, gdFF, gdTF, gdFT, pvS, pickT, pickF, faP, lenS, capS, nilP, exA, exB, exC, notB, cndT, cndF, Bool.not_true, Bool.not_false, Nat.zero_add, Nat.add_zero]
  refine cclone_i hf (by omega) hk (fun v2 F2 N2 hw2 hF2 hN2 hf2 => ?_)
  have hm2 : clean M N2 := hw2.m
  have he : entD F2 [.int .u32 t, v2] (t, fs) := ⟨v2, rfl, hf2, by simp only; omega⟩
  obtain ⟨a2, c2, e2⟩ := hf2.form
  refine pv_r (v := .agg #[.int .u32 t, v2]) (by rw [e2]; kernel_rfl) ?_
  refine nws_r (cs := [.int .u32 t, v2]) (by rw [e2]; kernel_rfl) (fun b3 hb3 => ?_)
  have hr2 : rowsF (entD F2) 2 rows h := hr.mono fun _ _ h => h.mono hF2
  have hvb : v.ownBlock ≠ some b3 := fun e => by have := hv.lt hm _ e; omega
  refine ins_c (i := place h t) (r := [.int .u32 t, v2]) (hv.box hm (by omega) _) (hm2.new hb3 _) (by omega) hr.all.1 hr.len hr.one (upd_same _ _ _) hvb rfl he.one.2 hpl (by omega) (fun v4 M4 N4 g1 g2 g3 g4 g5 => ?_)
  refine fun hc => ⟨_, wk_refl hc, fun hw' => k v4 F2 M4 N4 _ hF2 (by rw [layE_len]; exact g1) ?_ (fun q hq hqN => ?_) (by omega) g4 hw'⟩
  · have h1 := rowsF_snoc1 (rowsF.nil (entD F2) 2) he.one he
    exact rows_app (rows_take hr2 (place h t)) (by have := rows_app h1 (rows_drop hr2 (place h t)); simpa using this)
  · obtain ⟨x1, x2⟩ := g2 q hq (by omega)
    exact ⟨x1.trans (upd_ne _ _ (by omega)), x2⟩
set_option maxRecDepth 10000 in
/-- Add, of facts of one's own -/
theorem add_to_i {A B g : Nat} {hv dv fv : Value} {rows : List (List Value)} {l : List Dm} {h : List En} {t : Int} {fs : List Fc} (hC : isCube F M B g hv dv rows l h) (hB : B ≤ N) (hdl : l.length ≤ 1000) (hl : h.length ≤ 5000) (ht0 : 0 ≤ t) (hf : ofcts M A fv fs) (hfl : fs.length ≤ 140737488351232)
    (k : ∀ hv' F' M' N' rows', subF F F' → isCube F' M' B g hv' dv rows' l (addH l h t fs) → (∀ q, hv.ownBlock ≠ some q → q ≠ g → q < N → M' q = M q ∧ hv'.ownBlock ≠ some q) → N ≤ N' → clean M' N' → (Hp.mk F' M' N').wf → K (.int .u16 ((addE l h t fs : Nat) : Int)) ⟨F', M', N'⟩) :
    callv Tryz.prog (.func (.func 15) #[] #[]) #[.pointer (some ⟨g, 0, none⟩), .int .u32 t, fv] K E ⟨F, M, N⟩ := by
  refine callv_of_text mixed Tryz.func15 (by kernel_rfl) (t15 _ E _ _ _) (fun hw => ?_)
  have hm : clean M N := hw.m
  have hlv : lenV hv = some (.int .i64 (h.length : Nat)) := by obtain ⟨a, c, e, _⟩ := hC.oo.form; rw [e]; rfl
  have fin : ∀ n : Nat, n ≠ 0 → n = addE l h t fs → ∀ N', N ≤ N' → ∀ h', h' = (⟨F, M, N'⟩ : Hp) → h'.wf → ∃ h'', h'.wk h'' ∧ (h''.wf → K (.int .u16 ((n : Nat) : Int)) h'') := fun n n0 e N' hN h' e' hc => by
    subst e'
    refine ⟨_, wk_refl hc, fun hw' => ?_⟩
    rw [e]
    refine k hv F M N' rows (subF.refl _) ?_ (fun _ h _ _ => ⟨rfl, h⟩) hN hw'.m hw'
    unfold addH; rw [if_neg (by omega)]; exact hC
  try simp only [gdTT, gdFF, gdTF, gdFT, pvS, pickT, pickF, faP, lenS, capS, nilP, exA, exB, exC, notB, cndT, cndF, Bool.not_true, Bool.not_false, Nat.zero_add, Nat.add_zero]
  refine ldM (v := hv) ?_ hC.gg
  refine find_c hC.oo hC.rr hC.rs (by omega) (fun N1 hN1 hw1 => ?_)
  try simp only [gdTT, gdFF, gdTF, gdFT, pvS, pickT, pickF, faP, lenS, capS, nilP, exA, exB, exC, notB, cndT, cndF, Bool.not_true, Bool.not_false, Nat.zero_add, Nat.add_zero]
  refine fits_i hC.gg hC.dd (by omega) hf hfl (fun N2 hN2 hw2 => ?_)
  cases h1 : fitsF l fs
  · try simp only [gdTT, gdFF, gdTF, gdFT, pvS, pickT, pickF, faP, lenS, capS, nilP, exA, exB, exC, notB, cndT, cndF, Bool.not_true, Bool.not_false, Nat.zero_add, Nat.add_zero]
    exact fin 1 (by decide) (by unfold addE; rw [if_pos h1]) N2 (by omega) _ rfl
  try simp only [gdTT, gdFF, gdTF, gdFT, pvS, pickT, pickF, faP, lenS, capS, nilP, exA, exB, exC, notB, cndT, cndF, Bool.not_true, Bool.not_false, Nat.zero_add, Nat.add_zero]
  have last : (h2 : ¬ t = 0) → addE l h t fs = (if there h t = true then 130 else if h.length ≥ 5000 then 3 else 0) := fun h2 => by
    unfold addE; rw [if_neg (by rw [h1]; decide)]
    by_cases h3 : there h t = true
    · rw [if_pos (.inr h3), if_pos h3]
    · rw [if_neg (by rintro (q | q); exact h2 q; exact h3 q), if_neg h3]
  refine eql_r (fun h2 => ?_) (fun h2 => ?_)
  · try simp only [gdTT, gdFF, gdTF, gdFT, pvS, pickT, pickF, faP, lenS, capS, nilP, exA, exB, exC, notB, cndT, cndF, Bool.not_true, Bool.not_false, Nat.zero_add, Nat.add_zero]
    rw [t15_1_1_0_0_1_1_1]
    try simp only [gdTT, gdFF, gdTF, gdFT, pvS, pickT, pickF, faP, lenS, capS, nilP, exA, exB, exC, notB, cndT, cndF, Bool.not_true, Bool.not_false, Nat.zero_add, Nat.add_zero]
    exact fin 130 (by decide) (by unfold addE; rw [if_neg (by rw [h1]; decide), if_pos (.inl h2)]) N2 (by omega) _ rfl
  · try simp only [gdTT, gdFF, gdTF, gdFT, pvS, pickT, pickF, faP, lenS, capS, nilP, exA, exB, exC, notB, cndT, cndF, Bool.not_true, Bool.not_false, Nat.zero_add, Nat.add_zero]
    rw [t15_1_1_0_0_1_1_1]
    cases h3 : there h t
    · try simp only [gdTT, gdFF, gdTF, gdFT, pvS, pickT, pickF, faP, lenS, capS, nilP, exA, exB, exC, notB, cndT, cndF, Bool.not_true, Bool.not_false, Nat.zero_add, Nat.add_zero]
      refine ldM (v := hv) ?_ hC.gg
      refine pv_r hlv ?_
      refine geq_r (fun h4 => ?_) (fun h4 => ?_)
      · try simp only [gdTT, gdFF, gdTF, gdFT, pvS, pickT, pickF, faP, lenS, capS, nilP, exA, exB, exC, notB, cndT, cndF, Bool.not_true, Bool.not_false, Nat.zero_add, Nat.add_zero]
        exact fin 3 (by decide) (by rw [last h2, if_neg (by rw [h3]; decide), if_pos (by omega)]) N2 (by omega) _ rfl
      · try simp only [gdTT, gdFF, gdTF, gdFT, pvS, pickT, pickF, faP, lenS, capS, nilP, exA, exB, exC, notB, cndT, cndF, Bool.not_true, Bool.not_false, Nat.zero_add, Nat.add_zero]
        rw [t15_1_1_1]
        try simp only [gdTT, gdFF, gdTF, gdFT, pvS, pickT, pickF, faP, lenS, capS, nilP, exA, exB, exC, notB, cndT, cndF, Bool.not_true, Bool.not_false, Nat.zero_add, Nat.add_zero]
        refine ldM (v := hv) ?_ hC.gg
        obtain ⟨f1, f2⟩ := fitsF_of h1
        refine hwith_i hC.oo (by omega) hC.rr hC.rs (by omega) h3 hf (by omega) (fun f hf => by have := inF_len (f2 f hf); omega) (fun v' F3 M3 N3 rows' hF3 g1 g2 g3 g4 g5 g6 => ?_)
        have hgN := hm.lt hC.gg
        obtain ⟨x1, x2⟩ := g3 g hC.vg (by omega)
        have hg3 : M3 g = some (.cells 84 [hv, dv] 2) := x1.trans hC.gg
        obtain ⟨a, c, e, _⟩ := g1.form
        try simp only [gdTT, gdFF, gdTF, gdFT, pvS, pickT, pickF, faP, lenS, capS, nilP, exA, exB, exC, notB, cndT, cndF, Bool.not_true, Bool.not_false, Nat.zero_add, Nat.add_zero]
        refine stM (cs' := [v', dv]) ?_ hg3 (by rw [e]; rfl) (by rw [e]; rfl) (by rw [e]; exact List.all_eq_true.1 rfl)
        have e0 : addE l h t fs = 0 := by rw [last h2, if_neg (by rw [h3]; decide), if_neg (by omega)]
        refine fun hc => ⟨_, wk_refl hc, fun hw' => ?_⟩
        rw [e0] at k
        refine k v' F3 _ N3 rows' hF3 ?_ (fun q hq hqg hqN => ?_) (by omega) (g5.set (g5.lt hg3) _) hw'
        · unfold addH; rw [if_pos e0]
          exact ⟨upd_same _ _ _, hC.gB, g1.keep (fun q hq => upd_ne _ _ (fun e => x2 (e ▸ hq))) (Nat.le_refl _), g2, x2, hC.dd.mono hF3, layE_risen hC.rs h3⟩
        · obtain ⟨y1, y2⟩ := g3 q hq (by omega)
          exact ⟨(upd_ne _ _ hqg).trans y1, y2⟩
    · try simp only [gdTT, gdFF, gdTF, gdFT, pvS, pickT, pickF, faP, lenS, capS, nilP, exA, exB, exC, notB, cndT, cndF, Bool.not_true, Bool.not_false, Nat.zero_add, Nat.add_zero]
      exact fin 130 (by decide) (by rw [last h2, if_pos h3]) N2 (by omega) _ rfl
end Go.Proofs.YtgjdjdjhoipfmaaGreatDoor.A
open Go Go.RowKit Go.Proofs.YtgjdjdjhoipfmaaGreatDoor.K Go.Proofs.YtgjdjdjhoipfmaaGreatDoor.T
set_option linter.unusedVariables false
set_option linter.unusedSimpArgs false
namespace Go.Proofs.YtgjdjdjhoipfmaaGreatDoor.A
variable {F F' : Nat → Option (List Value)} {M M' : Nat → Option Chunk} {N N' : Nat} {K : Kont} {E : PanK}
theorem own_new0 {B b tot : Nat} {e : TypeId} {sz : Nat} (hM : M b = some (.cells e [] tot)) (ht : tot = 0) (hb : B ≤ b) : own M B e sz (.slice (some ⟨b, 0, none⟩) 0 0) 0 [] :=
  ⟨by simp, .inr ⟨b, 0, [], rfl, Nat.le_refl _, by simp [maxLen], hb, by rw [hM, ht]; simp⟩⟩
/-- slices.Clone of numbers, a list of the caller's own. -/
theorem clone_oo {v : Value} {l : List Int} (hv : sF F 1 v l.length (ic l)) (hl : l.length ≤ 1000000000000)
    (k : ∀ v' M' N', (Hp.mk F M' N').wf → (∀ q, q < N → M' q = M q) → N ≤ N' → clean M' N' → own M' N 3 1 v' l.length (ic l) → K v' ⟨F, M', N'⟩) :
    callv Tryz.prog (.func (.func 30) #[] #[]) #[v] K E ⟨F, M, N⟩ := by
  refine callv_of_text mixed Tryz.func30 (by kernel_rfl) (t30 _ E _) (fun hw => ?_)
  have hm : clean M N := hw.m
  obtain ⟨a, c, rfl, hc⟩ := hv.form
  cases a with
  | none =>
    have h0 : l.length = 0 := by rcases hv.2 with ⟨a', c', h1, h2⟩ | ⟨b, o, c', cs, h1, _⟩; exact h2; simp at h1
    have hl0 : l = [] := List.eq_nil_of_length_eq_zero h0
    refine pv_r rfl (cnd_t fun hc => ⟨_, wk_refl hc, fun hw' => k _ M N hw' (fun _ _ => rfl) (Nat.le_refl _) hm ?_⟩)
    rw [hl0]; exact own.nil
  | some ad =>
    refine pv_r rfl (cnd_f ?_)
    refine nws_r (cs := []) (by kernel_rfl) (fun b0 hb0 => ?_)
    refine own.app (n := 0) (cs := []) (m := l.length) (news := ic l) (B := N) (own_new0 (upd_same _ _ _) rfl hb0) (hm.new hb0 _) (by omega) (hv.sR.new hm hb0) (ints_one _) (by omega) (by unfold maxLen; omega) (fun v' M' N' h1 h2 h3 h4 => ?_)
    rw [Nat.zero_add, List.nil_append] at h1
    exact fun hc => ⟨_, wk_refl hc, fun hw' => k _ _ _ hw' (fun q hq => ((h2 q (by simp [Value.ownBlock]; omega) (by omega)).1).trans (upd_ne _ _ (by omega))) (by omega) h4 h1⟩
set_option maxRecDepth 10000 in
/-- clone of facts, keys and all the caller's own -/
theorem cclone_oo {v : Value} {l : List Fc} (hv : fctsD F v l) (hl : l.length ≤ 1000000000) (hk : ∀ f ∈ l, f.1.length ≤ 10000000000)
    (k : ∀ v' M' N', (Hp.mk F M' N').wf → (∀ q, q < N → M' q = M q) → N ≤ N' → clean M' N' → ofcts M' N v' l → K v' ⟨F, M', N'⟩) :
    callv Tryz.prog (.func (.func 66) #[] #[]) #[v] K E ⟨F, M, N⟩ := by
  refine callv_of_text mixed Tryz.func66 (by kernel_rfl) (t66 _ E _) (fun hw => ?_)
  have hm : clean M N := hw.m
  obtain ⟨trs, hvs, hrs⟩ := hv
  refine lenF_r hvs ?_
  refine l66_1_1_0_1_0_0 (σ := Nat × Value) (fun s => s.2) (fun s => .int .i64 (s.1 : Nat))
    (fun s h => ∃ M' N' rows, h = ⟨F, M', N'⟩ ∧ N ≤ N' ∧ (∀ q, q < N → M' q = M q) ∧ clean M' N' ∧ s.1 ≤ l.length ∧ own M' N 48 2 s.2 s.1 rows.flatten ∧ rowsF (ofct M' N) 2 rows (l.take s.1)) (fun s => l.length - s.1) (0, .slice none 0 0) rfl rfl
    (fun hw1 => ⟨_, wk_refl hw1, M, N, [], rfl, Nat.le_refl _, fun _ _ => rfl, hm, Nat.zero_le _, own.nil, rowsF.nil _ _⟩) (fun k1 s j h1 hI hw1 next => ?_)
  obtain ⟨M1, N1, rows, rfl, hN1, hM1, hm1, hi', ho, hr⟩ := hI
  refine lss_r (fun hlt => ?_) (fun hge => ?_)
  · have h1 : s.1 < l.length := by omega
    try simp only [gdTT, gdFF, gdTF, gdFT, pvS, pickT, pickF, faP, lenS, capS, nilP, exA, exB, exC, notB, cndT, cndF, Bool.not_true, Bool.not_false, Nat.zero_add, Nat.add_zero]
    refine row_r hvs hrs (by decide) h1 (fun p r _ hR hrl hr1 => ?_)
    obtain ⟨kv, hre, hkv, hkl⟩ := hR
    subst hre
    refine nw_r (fun b1 hb1 => ?_)
    refine stM (cs' := [kv, .int .i64 l[s.1].2]) ?_ (upd_same _ _ _) rfl rfl hr1
    rw [upd_upd]
    obtain ⟨M2, hM2e⟩ : ∃ M2, M2 = upd M1 b1 (some (.cells 48 [kv, .int .i64 l[s.1].2] [Value.slice none 0 0, Value.int .i64 0].length)) := ⟨_, rfl⟩
    have hb2 : M2 b1 = some (.cells 48 [kv, .int .i64 l[s.1].2] [Value.slice none 0 0, Value.int .i64 0].length) := by rw [hM2e]; exact upd_same _ _ _
    have hM12 : ∀ q, q < N1 → M2 q = M1 q := fun q hq => by rw [hM2e]; exact upd_ne _ _ (by omega)
    have hM2 : ∀ q, q < N → M2 q = M q := fun q hq => (hM12 q (by omega)).trans (hM1 q hq)
    have ho2 : own M2 N 48 2 s.2 s.1 rows.flatten := by rw [hM2e]; exact ho.box hm1 hb1 _
    have hr2 := hr.mono fun _ _ h => h.kp (M' := M2) (B' := N) (fun q cs tot h => hM12 q (hm1.lt h))
    have hm2 : clean M2 (b1 + 1) := by rw [hM2e]; exact hm1.new hb1 _
    rw [← hM2e]
    clear hM2e
    try simp only [gdTT, gdFF, gdTF, gdFT, pvS, pickT, pickF, faP, lenS, capS, nilP, exA, exB, exC, notB, cndT, cndF, Bool.not_true, Bool.not_false, Nat.zero_add, Nat.add_zero]
    refine ldM (v := kv) ?_ hb2
    try simp only [gdTT, gdFF, gdTF, gdFT, pvS, pickT, pickF, faP, lenS, capS, nilP, exA, exB, exC, notB, cndT, cndF, Bool.not_true, Bool.not_false, Nat.zero_add, Nat.add_zero]
    refine ldM (v := .int .i64 l[s.1].2) ?_ hb2
    refine clone_oo hkv (by have := hk _ (List.getElem_mem h1); omega) (fun kv' M3 N3 hw3 hM3 hN3 hm3 hkv' => ?_)
    have hb3 := (hM3 b1 (by omega)).trans hb2
    refine ⟨ldV_c (row_M hb3) rfl, ?_⟩
    have ho3 : own M3 N 48 2 s.2 s.1 rows.flatten := ho2.keep (fun q hq => hM3 q (ho2.lt hm2 q hq)) (Nat.le_refl _)
    have hr3 := hr2.mono fun _ _ h => h.kp (M' := M3) (B' := N) (fun q cs tot h => hM3 q (hm2.lt h))
    obtain ⟨ak, ck, hkf, hck⟩ := hkv'.form
    refine pv_r (v := .agg #[kv', .int .i64 l[s.1].2]) (by rw [hkf]; kernel_rfl) ?_
    refine push_r (new := [kv', .int .i64 l[s.1].2]) ho3 hm3 (by omega) (by rw [hkf]; kernel_rfl) rfl (by rw [hkf]; exact List.all_eq_true.1 rfl) (by omega) (by unfold maxLen; omega) (fun p v' M4 N4 h4 h5 h6 h7 => ?_)
    have hT : ∀ q cs tot, M3 q = some (.cells 3 cs tot) → M4 q = M3 q := fun q cs tot h => (h5 q (fun e => by obtain ⟨c2, t2, h2⟩ := ho3.cell q e; rw [h] at h2; cases h2) (hm3.lt h)).1
    refine inc_r (by omega) ?_
    refine next (s.1 + 1, v') _ _ (by simp only; omega) (fun hw5 => ⟨_, wk_refl hw5, M4, N4, rows ++ [[kv', .int .i64 l[s.1].2]], rfl, by omega, fun q hq => ?_, h7, h1, ?_, ?_⟩)
    · exact ((h5 q (fun e => by have := (ho3.ge q e).1; omega) (by omega)).1).trans ((hM3 q (by omega)).trans (hM2 q hq))
    · simpa using h4
    · simp only
      rw [List.take_add_one, List.getElem?_eq_getElem h1, Option.toList_some]
      have h1f : ofct M4 N [kv', .int .i64 l[s.1].2] l[s.1] := ⟨kv', rfl, hkv'.kp hT, hkl⟩
      exact rowsF_snoc1 (hr3.mono fun _ _ h => h.kp hT) h1f.one h1f
  · try simp only [gdTT, gdFF, gdTF, gdFT, pvS, pickT, pickF, faP, lenS, capS, nilP, exA, exB, exC, notB, cndT, cndF, Bool.not_true, Bool.not_false, Nat.zero_add, Nat.add_zero]
    rw [t66_1_1_1]
    rw [show s.1 = l.length by omega] at ho
    rw [List.take_of_length_le (by omega)] at hr
    exact fun hc => ⟨_, wk_refl hc, fun hw' => k _ _ _ hw' hM1 hN1 hm1 ⟨rows, ho, hr⟩⟩
/-- within$1, of a fact of one's own -/
theorem inR_i {B : Nat} {w : Value} {a b : Int} {cs : List Value} {f : Fc} (hW : isW F w a b) (hf : ofct M B cs f) (k : ∀ N', N ≤ N' → (Hp.mk F M N').wf → K (.bool (inR a b f)) ⟨F, M, N'⟩) :
    callv Tryz.prog w #[.agg cs.toArray] K E ⟨F, M, N⟩ := by
  obtain ⟨c1, c2, rfl, hc1, hc2⟩ := hW
  obtain ⟨kv, rfl, hkv, hkl⟩ := hf
  refine callv_of_text mixed Tryz.func79 (by kernel_rfl) (t79 _ E _ _ _) (fun hw => ?_)
  have hm : clean M N := hw.m
  have hlk : lenV kv = some (.int .i64 (f.1.length : Nat)) := by obtain ⟨a, c, e, _⟩ := hkv.form; rw [e]; rfl
  have fin : ∀ b1, N ≤ b1 → ∀ r : Bool, r = inR a b f → ∀ h', h' = (⟨F, upd M b1 (some (.cells 48 [kv, .int .i64 f.2] 2)), b1 + 1⟩ : Hp) → h'.wf → ∃ h'', h'.wk h'' ∧ (h''.wf → K (.bool r) h'') := fun b1 hb1 r e h' e' hc => by
    subst e'
    refine ⟨⟨F, M, b1 + 1⟩, wk_drop hc (subM_drop (subM_refl _) (hm _ hb1)), fun hw' => ?_⟩
    rw [e]; exact k _ (by omega) hw'
  obtain ⟨ak, ck, hkf, _⟩ := hkv.form
  refine nw_r (cs := [kv, .int .i64 f.2]) (fun b1 hb1 => ?_) (by rw [hkf]; rfl)
  have hb := upd_same M b1 (some (.cells 48 [kv, .int .i64 f.2] 2))
  have hk1 := hkv.box hm hb1 (some (.cells 48 [kv, .int .i64 f.2] 2))
  try simp only [gdTT, gdFF, gdTF, gdFT, pvS, pickT, pickF, faP, lenS, capS, nilP, exA, exB, exC, notB, cndT, cndF, Bool.not_true, Bool.not_false, Nat.zero_add, Nat.add_zero]
  refine ldM (v := kv) ?_ hb
  refine pv_r hlk ?_
  refine gtr_r (fun h0 => ?_) (fun h0 => ?_)
  · have hl : 0 < f.1.length := by omega
    try simp only [gdTT, gdFF, gdTF, gdFT, pvS, pickT, pickF, faP, lenS, capS, nilP, exA, exB, exC, notB, cndT, cndF, Bool.not_true, Bool.not_false, Nat.zero_add, Nat.add_zero]
    refine ldM (v := kv) ?_ hb
    try simp only [gdTT, gdFF, gdTF, gdFT, pvS, pickT, pickF, faP, lenS, capS, nilP, exA, exB, exC, notB, cndT, cndF, Bool.not_true, Bool.not_false, Nat.zero_add, Nat.add_zero]
    refine get_r (i := 0) hk1 hl fun p => ?_
    try simp only [gdTT, gdFF, gdTF, gdFT, pvS, pickT, pickF, faP, lenS, capS, nilP, exA, exB, exC, notB, cndT, cndF, Bool.not_true, Bool.not_false, Nat.zero_add, Nat.add_zero]
    refine ldF (v := .int .i64 a) ?_ hc1
    try simp only [gdTT, gdFF, gdTF, gdFT, pvS, pickT, pickF, faP, lenS, capS, nilP, exA, exB, exC, notB, cndT, cndF, Bool.not_true, Bool.not_false, Nat.zero_add, Nat.add_zero]
    have e0 : f.1.getD 0 0 = f.1[0] := getD_at hl 0
    refine geq_r (fun h1 => ?_) (fun h1 => ?_)
    · try simp only [gdTT, gdFF, gdTF, gdFT, pvS, pickT, pickF, faP, lenS, capS, nilP, exA, exB, exC, notB, cndT, cndF, Bool.not_true, Bool.not_false, Nat.zero_add, Nat.add_zero]
      refine ldM (v := kv) ?_ hb
      try simp only [gdTT, gdFF, gdTF, gdFT, pvS, pickT, pickF, faP, lenS, capS, nilP, exA, exB, exC, notB, cndT, cndF, Bool.not_true, Bool.not_false, Nat.zero_add, Nat.add_zero]
      refine get_r (i := 0) hk1 hl fun p => ?_
      try simp only [gdTT, gdFF, gdTF, gdFT, pvS, pickT, pickF, faP, lenS, capS, nilP, exA, exB, exC, notB, cndT, cndF, Bool.not_true, Bool.not_false, Nat.zero_add, Nat.add_zero]
      refine ldF (v := .int .i64 b) ?_ hc2
      try simp only [gdTT, gdFF, gdTF, gdFT, pvS, pickT, pickF, faP, lenS, capS, nilP, exA, exB, exC, notB, cndT, cndF, Bool.not_true, Bool.not_false, Nat.zero_add, Nat.add_zero]
      refine lss_r (fun h2 => ?_) (fun h2 => ?_)
      · try simp only [gdTT, gdFF, gdTF, gdFT, pvS, pickT, pickF, faP, lenS, capS, nilP, exA, exB, exC, notB, cndT, cndF, Bool.not_true, Bool.not_false, Nat.zero_add, Nat.add_zero]
        exact fin b1 hb1 true (by unfold inR; rw [decide_eq_true ⟨hl, by omega, by omega⟩]) _ rfl
      · try simp only [gdTT, gdFF, gdTF, gdFT, pvS, pickT, pickF, faP, lenS, capS, nilP, exA, exB, exC, notB, cndT, cndF, Bool.not_true, Bool.not_false, Nat.zero_add, Nat.add_zero]
        exact fin b1 hb1 false (by unfold inR; rw [decide_eq_false (by omega)]) _ rfl
    · try simp only [gdTT, gdFF, gdTF, gdFT, pvS, pickT, pickF, faP, lenS, capS, nilP, exA, exB, exC, notB, cndT, cndF, Bool.not_true, Bool.not_false, Nat.zero_add, Nat.add_zero]
      exact fin b1 hb1 false (by unfold inR; rw [decide_eq_false (by omega)]) _ rfl
  · try simp only [gdTT, gdFF, gdTF, gdFT, pvS, pickT, pickF, faP, lenS, capS, nilP, exA, exB, exC, notB, cndT, cndF, Bool.not_true, Bool.not_false, Nat.zero_add, Nat.add_zero]
    exact fin b1 hb1 false (by unfold inR; rw [decide_eq_false (by omega)]) _ rfl
/-- chosen$1, of a fact of one's own -/
theorem chosen1_i {B b1 b2 : Nat} {w : Value} {a b : Int} {want : Bool} {cs : List Value} {f : Fc} (h1 : F b1 = some [w]) (h2 : F b2 = some [.bool want]) (hW : isW F w a b) (hf : ofct M B cs f) (k : ∀ N', N ≤ N' → (Hp.mk F M N').wf → K (.bool (!ofK a b want f)) ⟨F, M, N'⟩) :
    callv Tryz.prog (.func (.func 78) #[] #[.pointer (some ⟨b1, 0, none⟩), .pointer (some ⟨b2, 0, none⟩)]) #[.agg cs.toArray] K E ⟨F, M, N⟩ := by
  have hf' := hf
  obtain ⟨kv, rfl, hkv, hkl⟩ := hf'
  refine callv_of_text mixed Tryz.func78 (by kernel_rfl) (t78 _ E _ _ _) (fun hw => ?_)
  have hm : clean M N := hw.m
  obtain ⟨ak, ck, hkf, _⟩ := hkv.form
  refine nw_r (cs := [kv, .int .i64 f.2]) (fun b3 hb3 => ?_) (by rw [hkf]; rfl)
  refine ldF (v := w) ?_ h1
  refine ldMa (vs := [kv, .int .i64 f.2]) ?_
  refine ldF (v := .bool want) ?_ h2
  refine inR_i (B := B) hW (hf.kp (fun q cs tot h => upd_ne _ _ (fun e => by have := hm.lt h; omega))) (fun N2 hN2 hw2 => ?_)
  refine ⟨ldV_c (row_F h2) rfl, ?_⟩
  refine pv_r bneV ?_
  exact fun hc => ⟨⟨F, M, N2⟩, wk_drop hc (subM_drop (subM_refl _) (hm _ hb3)), fun hw' => k _ (by omega) hw'⟩
/-- slices.DeleteFunc, of facts of one's own that all stay. -/
theorem delf_i {B : Nat} {v d : Value} {l : List Fc} {p : Fc → Bool} (hv : ofcts M B v l) (hl : l.length ≤ 1000000000)
    (hd : ∀ {K : Kont} (N1 : Nat) (cs : List Value) (f : Fc), ofct M B cs f → (∀ N', N1 ≤ N' → (Hp.mk F M N').wf → K (.bool (!p f)) ⟨F, M, N'⟩) → callv Tryz.prog d #[.agg cs.toArray] K E ⟨F, M, N1⟩)
    (hp : ∀ f ∈ l, p f = true) (k : ∀ N', N ≤ N' → (Hp.mk F M N').wf → ∃ h', (Hp.mk F M N').wk h' ∧ (h'.wf → K v h')) :
    callv Tryz.prog (.func (.func 77) #[] #[]) #[v, d] K E ⟨F, M, N⟩ := by
  refine callv_of_text mixed Tryz.func77 (by kernel_rfl) (t77 _ E _ _) (fun hw => ?_)
  have hlv : lenV v = some (.int .i64 (l.length : Nat)) := by obtain ⟨a, c, e⟩ := hv.form; rw [e]; rfl
  refine callv_of_text mixed Tryz.func94 (by kernel_rfl) (t94 _ E _ _) (fun hw => ?_)
  obtain ⟨rows, hv1, hv2⟩ := hv
  refine pv_r hlv ?_
  refine l94_1_0_1_0_0 (σ := Nat) (fun i => .int .i64 (i : Nat)) (fun i h => ∃ N', h = ⟨F, M, N'⟩ ∧ N ≤ N' ∧ i ≤ l.length) (fun i => l.length - i) 0 rfl
    (fun hw1 => ⟨_, wk_refl hw1, N, rfl, Nat.le_refl _, Nat.zero_le _⟩) (fun kk i j h1 hI hw1 next => ?_)
  obtain ⟨N1, rfl, hN1, hi⟩ := hI
  refine lss_r (fun hlt => ?_) (fun hge => ?_)
  · have i1 : i < l.length := by omega
    try simp only [gdTT, gdFF, gdTF, gdFT, pvS, pickT, pickF, faP, lenS, capS, nilP, exA, exB, exC, notB, cndT, cndF, Bool.not_true, Bool.not_false, Nat.zero_add, Nat.add_zero]
    refine orow_r hv1 hv2 (by decide) i1 fun q r _ hR _ _ => hd _ _ _ hR (fun N2 hN2 hw2 => ?_)
    rw [hp _ (List.getElem_mem i1)]
    refine cnd_f ?_
    refine inc_r (by omega) ?_
    exact next (i + 1) _ _ (by omega) (fun hw3 => ⟨_, wk_refl hw3, N2, rfl, by omega, i1⟩)
  · try simp only [gdTT, gdFF, gdTF, gdFT, pvS, pickT, pickF, faP, lenS, capS, nilP, exA, exB, exC, notB, cndT, cndF, Bool.not_true, Bool.not_false, Nat.zero_add, Nat.add_zero]
    rw [t94_1_1]
    refine fun hc => ⟨_, wk_refl hc, fun hw' => ?_⟩
    refine eql_t rfl ?_
    try simp only [gdTT, gdFF, gdTF, gdFT, pvS, pickT, pickF, faP, lenS, capS, nilP, exA, exB, exC, notB, cndT, cndF, Bool.not_true, Bool.not_false, Nat.zero_add, Nat.add_zero]
    exact fun hc => k N1 hN1 hc
/-- chosen, of facts that all stay: keys and all the caller's own -/
theorem chosen_o {v w : Value} {l : List Fc} {a b : Int} (hv : fctsD F v l) (hW : isW F w a b) (hl : l.length ≤ 1000000000) (hk : ∀ f ∈ l, f.1.length ≤ 10000000000) (hp : ∀ f ∈ l, inR a b f = true)
    (k : ∀ v' F' M' N', (Hp.mk F' M' N').wf → subF F F' → (∀ q, q < N → M' q = M q) → N ≤ N' → clean M' N' → ofcts M' N v' l → K v' ⟨F', M', N'⟩) :
    callv Tryz.prog (.func (.func 40) #[] #[]) #[v, w, .bool true] K E ⟨F, M, N⟩ := by
  refine callv_of_text mixed Tryz.func40 (by kernel_rfl) (t40 _ E _ _ _) (fun hw => ?_)
  have hm : clean M N := hw.m
  have hW' := hW
  obtain ⟨c1, c2, hwf, _, _⟩ := hW'
  refine nw_r (cs := [w]) (fun b1 hb1 => ?_) (by rw [hwf]; rfl)
  refine nw_r (cs := [.bool true]) (fun b2 hb2 => ?_)
  generalize hM2 : upd (upd M b1 _) b2 _ = M2
  have g1 : ∃ e, M2 b1 = some (.cells e [w] 1) := ⟨_, by rw [← hM2]; exact (upd_ne _ _ (by omega)).trans (upd_same _ _ _)⟩
  have g2 : ∃ e, M2 b2 = some (.cells e [.bool true] 1) := ⟨_, by rw [← hM2]; exact upd_same _ _ _⟩
  have hM2' : ∀ q, q < N → M2 q = M q := fun q hq => by rw [← hM2]; exact (upd_ne _ _ (by omega)).trans (upd_ne _ _ (by omega))
  clear hM2
  obtain ⟨ty1, g1⟩ := g1
  obtain ⟨ty2, g2⟩ := g2
  refine callv_go (fun hc => ⟨_, frz_wf hm hM2' hc, ?_⟩)
  have hs := subF_frzAll (N := N) hc
  have f1 := frz_at (F := F) (N := N) (b := b1) (by omega) g1
  have f2 := frz_at (F := F) (N := N) (b := b2) (by omega) g2
  generalize frzAll F M2 N = F1 at *
  clear hc g1 g2 hM2' M2
  refine cclone_oo (hv.mono hs) hl hk (fun v2 M2 N2 hw2 hM2 hN2 hm2 ho => ?_)
  refine delf_i (p := ofK a b true) ho hl (fun N1 cs f hf kk => chosen1_i f1 f2 (hW.mono hs) hf kk) (fun f hf => by rw [ofK_true]; exact hp f hf) (fun N3 hN3 hc3 => ⟨_, wk_refl hc3, fun hw3 => ?_⟩)
  exact fun hc => ⟨_, wk_refl hc, fun hw' => k _ _ _ _ hw' hs (fun q hq => hM2 q (by omega)) (by omega) (hm2.up hN3) (ho.kp (fun _ _ _ _ => rfl))⟩
/-- An entry of one's own, keys and all. -/
def oent (M : Nat → Option Chunk) (B : Nat) (cs : List Value) (e : En) : Prop := ∃ v, cs = [.int .u32 e.1, v] ∧ ofcts M B v e.2
theorem oent.one {B : Nat} {cs : List Value} {e : En} (h : oent M B cs e) : cs.length = 2 ∧ ∀ c ∈ cs, c.oneCell' = true := by
  obtain ⟨v, rfl, hv⟩ := h
  obtain ⟨a, c, rfl⟩ := hv.form
  exact ⟨rfl, List.all_eq_true.1 rfl⟩
theorem oent.kp {B B' : Nat} {cs : List Value} {e : En} (h : oent M B cs e) (hM : ∀ q cs tot, M q = some (.cells 3 cs tot) ∨ M q = some (.cells 48 cs tot) → M' q = M q) (hB : B' ≤ B := by omega) : oent M' B' cs e :=
  let ⟨v, e, h1⟩ := h; ⟨v, e, h1.kp hM hB⟩
set_option maxRecDepth 10000 in
set_option maxHeartbeats 4000000 in
/-- Entries of a cube, all of a range: keys and all the caller's own -/
theorem entries_o {B g : Nat} {hv dv : Value} {rows : List (List Value)} {l : List Dm} {h : List En} {a b : Int} (hC : isCube F M B g hv dv rows l h) (o : okH l 5000 200 h) (hdl : l.length ≤ 1000) (hp : ∀ e ∈ h, ∀ f ∈ e.2, inR a b f = true)
    (k : ∀ v' F' M' N' rows', (Hp.mk F' M' N').wf → subF F F' → N ≤ N' → (∀ q, q < N → M' q = M q) → clean M' N' → own M' N 52 2 v' (entF a b h).length rows'.flatten → rowsF (oent M' N) 2 rows' (entF a b h) → K v' ⟨F', M', N'⟩) :
    callv Tryz.prog (.func (.func 19) #[] #[]) #[.pointer (some ⟨g, 0, none⟩), .int .i64 a, .int .i64 b] K E ⟨F, M, N⟩ := by
  refine callv_of_text mixed Tryz.func19 (by kernel_rfl) (t19 _ E _ _ _) (fun hw => ?_)
  have hm : clean M N := hw.m
  have hgN := hm.lt hC.gg
  have hol := o.le
  have hlv : lenV hv = some (.int .i64 (h.length : Nat)) := by obtain ⟨x, c, e, _⟩ := hC.oo.form; rw [e]; rfl
  try simp only [gdTT, gdFF, gdTF, gdFT, pvS, pickT, pickF, faP, lenS, capS, nilP, exA, exB, exC, notB, cndT, cndF, Bool.not_true, Bool.not_false, Nat.zero_add, Nat.add_zero]
  refine ldM (v := hv) ?_ hC.gg
  refine pv_r hlv ?_
  refine l19_1_1_0_1_0_0 (σ := Nat × Value) (fun s => s.2) (fun s => .int .i64 (s.1 : Nat))
    (fun s h' => ∃ F' M' N' rows', h' = ⟨F', M', N'⟩ ∧ subF F F' ∧ N ≤ N' ∧ (∀ q, q < N → M' q = M q) ∧ clean M' N' ∧ s.1 ≤ h.length ∧ own M' N 52 2 s.2 (entF a b (h.take s.1)).length rows'.flatten ∧ rowsF (oent M' N) 2 rows' (entF a b (h.take s.1))) (fun s => h.length - s.1) (0, .slice none 0 0) rfl rfl
    (fun hw2 => ⟨_, wk_refl hw2, F, M, N, [], rfl, subF.refl _, Nat.le_refl _, fun _ _ => rfl, hm, Nat.zero_le _, own.nil, rowsF.nil _ _⟩) (fun kk s j h1 hI hw2 next => ?_)
  obtain ⟨F1, M1, N1, rows1, rfl, hF1, hN1, hM1, hm1, hi, ho, hr⟩ := hI
  refine lss_r (fun hlt => ?_) (fun hge => ?_)
  · have i1 : s.1 < h.length := by omega
    have e1 := take_fm (entE a b) h i1
    have hfil : h[s.1].2.filter (inR a b) = h[s.1].2 := List.filter_eq_self.2 (hp _ (List.getElem_mem i1))
    have hle : (entF a b (h.take s.1)).length ≤ s.1 := fm_len (entE a b) h s.1
    try simp only [gdTT, gdFF, gdTF, gdFT, pvS, pickT, pickF, faP, lenS, capS, nilP, exA, exB, exC, notB, cndT, cndF, Bool.not_true, Bool.not_false, Nat.zero_add, Nat.add_zero]
    have hoo1 : own M1 B 52 2 hv h.length rows.flatten := hC.oo.keep (fun q hq => hM1 q (hC.oo.lt hm q hq)) (Nat.le_refl _)
    refine orow_r hoo1 hC.rr (by decide) i1 fun p r _ hR _ hr1 => ?_
    obtain ⟨fv, rfl, hfv, hfl⟩ := hR
    have hfm := o.fl _ (List.getElem_mem i1)
    refine nw_r (fun b4 hb4 => ?_)
    refine stM (cs' := [.int .u32 h[s.1].1, fv]) ?_ (upd_same _ _ _) rfl rfl hr1
    rw [upd_upd]
    obtain ⟨M2, hM2e⟩ : ∃ M2, M2 = upd M1 b4 (some (.cells 52 [.int .u32 h[s.1].1, fv] [Value.int .u32 0, Value.slice none 0 0].length)) := ⟨_, rfl⟩
    have hbox : M2 b4 = some (.cells 52 [.int .u32 h[s.1].1, fv] [Value.int .u32 0, Value.slice none 0 0].length) := by rw [hM2e]; exact upd_same _ _ _
    have hM12 : ∀ q, q < N1 → M2 q = M1 q := fun q hq => by rw [hM2e]; exact upd_ne _ _ (by omega)
    have hM2 : ∀ q, q < N → M2 q = M q := fun q hq => (hM12 q (by omega)).trans (hM1 q hq)
    have ho2 : own M2 N 52 2 s.2 (entF a b (h.take s.1)).length rows1.flatten := by rw [hM2e]; exact ho.box hm1 hb4 _
    have hr2 := hr.mono fun _ _ h => h.kp (M' := M2) (B' := N) (fun q cs tot h => hM12 q (h.elim hm1.lt hm1.lt))
    have hm2 : clean M2 (b4 + 1) := by rw [hM2e]; exact hm1.new hb4 _
    rw [← hM2e]
    clear hM2e
    try simp only [gdTT, gdFF, gdTF, gdFT, pvS, pickT, pickF, faP, lenS, capS, nilP, exA, exB, exC, notB, cndT, cndF, Bool.not_true, Bool.not_false, Nat.zero_add, Nat.add_zero]
    refine ldM (v := fv) ?_ hbox
    refine within_cube_c (fun w F3 N3 hw3 hF3 hN3 hW => ?_)
    refine ⟨ldV_c (row_M hbox) rfl, ?_⟩
    refine chosen_o (hfv.mono (hF1.trans hF3)) hW (by omega) (o.keys hdl (List.getElem_mem i1)) (hp _ (List.getElem_mem i1)) (fun v4 F4 M4 N4 hw4 hF4 hM4 hN4 hm4 hf4 => ?_)
    have hbox4 := (hM4 b4 (by omega)).trans hbox
    have ho4 : own M4 N 52 2 s.2 (entF a b (h.take s.1)).length rows1.flatten := ho2.keep (fun q hq => hM4 q (by have := ho2.lt hm2 q hq; omega)) (Nat.le_refl _)
    have hr4 := hr2.mono fun _ _ h => h.kp (M' := M4) (B' := N) (fun q cs tot h => hM4 q (by have := h.elim hm2.lt hm2.lt; omega))
    have hl4 : lenV v4 = some (.int .i64 (h[s.1].2.length : Nat)) := by obtain ⟨x, c, e⟩ := hf4.form; rw [e]; rfl
    obtain ⟨a5, c5, e5⟩ := hf4.form
    refine pv_r hl4 ?_
    have hF4' := (hF1.trans hF3).trans hF4
    refine gtr_r (fun h0 => ?_) (fun h0 => ?_)
    · try simp only [gdTT, gdFF, gdTF, gdFT, pvS, pickT, pickF, faP, lenS, capS, nilP, exA, exB, exC, notB, cndT, cndF, Bool.not_true, Bool.not_false, Nat.zero_add, Nat.add_zero]
      refine ldM (v := .int .u32 h[s.1].1) ?_ hbox4
      refine pv_r (v := .agg #[.int .u32 h[s.1].1, v4]) (by rw [e5]; kernel_rfl) ?_
      refine push_r (new := [.int .u32 h[s.1].1, v4]) ho4 hm4 (by omega) (by rw [e5]; kernel_rfl) rfl (by rw [e5]; exact List.all_eq_true.1 rfl) (by omega) (by unfold maxLen; omega) (fun p v' M5 N5 g1 g2 g3 g4 => ?_)
      have hT : ∀ q cs tot, M4 q = some (.cells 3 cs tot) ∨ M4 q = some (.cells 48 cs tot) → M5 q = M4 q := fun q cs tot h => (g2 q (fun e => by obtain ⟨c2, t2, h2⟩ := ho4.cell q e; rcases h with h | h <;> (rw [h] at h2; cases h2)) (h.elim hm4.lt hm4.lt)).1
      rw [t19_1_1_0_1_0_0_1_1_1]
      refine inc_r (by omega) ?_
      have e2 : entF a b (h.take (s.1 + 1)) = entF a b (h.take s.1) ++ [(h[s.1].1, h[s.1].2)] := by
        unfold entF
        rw [e1]
        unfold entE
        rw [hfil, if_pos (by omega)]; rfl
      refine next (s.1 + 1, v') _ _ (by simp only; omega) (fun hw5 => ⟨_, wk_refl hw5, F4, M5, N5, rows1 ++ [[.int .u32 h[s.1].1, v4]], rfl, hF4', by omega, fun q hq => ?_, g4, i1, ?_, ?_⟩)
      · exact ((g2 q (fun e => by have := (ho4.ge q e).1; omega) (by omega)).1).trans ((hM4 q (by omega)).trans (hM2 q hq))
      · simp only
        rw [e2, List.length_append, List.length_singleton]
        exact (by simpa using g1 : own M5 N 52 2 v' _ (rows1 ++ [[.int .u32 h[s.1].1, v4]]).flatten)
      · simp only
        rw [e2]
        have he5 : oent M5 N [.int .u32 h[s.1].1, v4] (h[s.1].1, h[s.1].2) := ⟨v4, rfl, hf4.kp hT⟩
        exact rowsF_snoc1 (hr4.mono fun _ _ h => h.kp hT) he5.one he5
    · try simp only [gdTT, gdFF, gdTF, gdFT, pvS, pickT, pickF, faP, lenS, capS, nilP, exA, exB, exC, notB, cndT, cndF, Bool.not_true, Bool.not_false, Nat.zero_add, Nat.add_zero]
      rw [t19_1_1_0_1_0_0_1_1_1]
      refine inc_r (by omega) ?_
      have e2 : entF a b (h.take (s.1 + 1)) = entF a b (h.take s.1) := by
        unfold entF
        rw [e1]
        unfold entE
        rw [hfil, if_neg (by omega)]; simp
      refine next (s.1 + 1, s.2) _ _ (by simp only; omega) (fun hw5 => ⟨_, wk_refl hw5, F4, M4, N4, rows1, rfl, hF4', by omega, fun q hq => (hM4 q (by omega)).trans (hM2 q hq), hm4, i1, ?_, ?_⟩)
      · simp only
        rw [e2]; exact ho4
      · simp only
        rw [e2]; exact hr4
  · try simp only [gdTT, gdFF, gdTF, gdFT, pvS, pickT, pickF, faP, lenS, capS, nilP, exA, exB, exC, notB, cndT, cndF, Bool.not_true, Bool.not_false, Nat.zero_add, Nat.add_zero]
    rw [t19_1_1_1]
    rw [List.take_of_length_le (by omega)] at ho hr
    exact fun hc => ⟨_, wk_refl hc, fun hw' => k _ _ _ _ _ hw' hF1 hN1 hM1 hm1 ho hr⟩
end Go.Proofs.YtgjdjdjhoipfmaaGreatDoor.A
open Go Go.RowKit Go.Proofs.YtgjdjdjhoipfmaaGreatDoor.K
set_option linter.unusedVariables false
set_option maxRecDepth 100000
namespace Go.Proofs.YtgjdjdjhoipfmaaGreatDoor.T
theorem t4 (K : Kont) (E : PanK) (x0 x1 x2 : Value)  : den Tryz.prog (sel (bodyOf Tryz.f4) []) (bodyQ Tryz.prog Tryz.f4.results.toList K E) #[x0, x1, x2, undef, undef, undef, undef, undef, undef, undef, undef, undef, undef, undef, undef, undef, undef, undef, undef, undef, undef, undef, undef, undef, undef, undef, undef, undef, undef, undef, undef, undef, undef, undef, undef, undef, undef, undef, undef, undef, undef, undef, undef, undef, undef, undef, undef, undef, undef, undef, undef, undef, undef, undef, undef, undef, undef, undef, undef, undef, undef, undef, undef, undef, undef, undef, undef, undef, undef, undef, undef, undef, undef, undef, undef, undef, undef, undef, undef, undef, undef, undef, undef, undef, undef, undef, undef, undef, undef, undef, undef, undef, undef, undef, undef, undef, undef, undef, undef, undef, undef, undef, undef, undef, undef, undef, undef, undef, undef, undef, undef, undef, undef, undef, undef, undef, undef, undef, undef, undef, undef, undef, undef, undef, undef, undef, undef, undef] =
  pv (lenV x1) fun t1 =>
  pv (binV .none .gtr t1 (.int .i64 100)) fun t2 =>
  gdK t2 false (fun k => callv Tryz.prog (.func (.func 11) #[] #[]) #[] k E) fun t3 =>
  gdK t2 false (fun k => pv (unV .not t3) k) fun t4 =>
  pv (pickV t2 (.bool true) t4) fun t5 =>
  cnd t5 (
    callv Tryz.prog (.func (.func 11) #[] #[]) #[] (fun t6 =>
    K t6) E) (
    callv Tryz.prog (.func (.func 12) #[] #[]) #[x0] (fun t7 =>
    callv Tryz.prog (.func (.func 13) #[] #[]) #[t7] (fun t8 =>
    pv (binV .ptr .eql t8 (.pointer none)) fun t9 =>
    cnd t9 (
      K (.bool false)) (
      callv Tryz.prog (.func (.func 16) #[] #[]) #[t7, x1, x2] (fun t10 =>
      callv Tryz.prog (.func (.func 15) #[] #[]) #[t8, (.int .u32 3), t10] (fun t11 =>
      lp (fun k1 => den Tryz.prog (sel (bodyOf Tryz.f4) [1, 1, 1, 1, 1, 1, 1, 0, 1, 0, 0]) (thenD k1 (blk 0 (thenD (den Tryz.prog (sel (bodyOf Tryz.f4) [1, 1, 1, 1, 1, 1, 1, 1]) (bodyQ Tryz.prog Tryz.f4.results.toList K E)) (bodyQ Tryz.prog Tryz.f4.results.toList K E))))) #[x0, x1, x2, undef, undef, undef, (.bool false), t7, t8, t10, t11, (.int .i64 0), undef, undef, undef, undef, undef, x1, t1, t2, t2, t3, t4, t5, undef, x0, t7, t7, t8, t8, t9, t7, x1, x2, t10, t8, t10, t11, undef, undef, undef, undef, undef, undef, undef, undef, undef, undef, undef, undef, undef, undef, undef, undef, undef, undef, undef, undef, undef, undef, undef, undef, undef, undef, undef, undef, undef, undef, undef, undef, undef, undef, undef, undef, undef, undef, undef, undef, undef, undef, undef, undef, undef, undef, undef, undef, undef, undef, undef, undef, undef, undef, undef, undef, undef, undef, undef, undef, undef, undef, undef, undef, undef, undef, undef, undef, undef, undef, undef, undef, undef, undef, undef, undef, undef, undef, undef, undef, undef, undef, undef, undef, undef, undef, undef, undef, undef, undef]) E) E)) E) E) := by kernel_rfl
def m4_1_1_1_1_1_1_1_0_1_0_0 (x0 x1 x2 x3 x4 x5 x6 x7 x8 x9 x10 x12 x13 x14 x15 x16 x17 x18 x19 x20 x21 x22 x23 x24 x25 x26 x27 x28 x29 x30 x31 x32 x33 x34 x35 x36 x37 x54 x55 x56 x57 x58 x59 x60 x61 x62 x63 x64 x65 x66 x67 x68 x69 x70 x71 x72 x73 x74 x75 x76 x77 x78 x79 x80 x81 x82 x83 x84 x85 x86 x87 x88 x89 x90 x91 x92 x93 x94 x95 x96 x97 x98 x99 x100 x101 x102 x103 x104 x105 x106 x107 x108 x109 x110 x111 x112 x113 x114 x115 x116 x117 x118 x119 x120 x121 x122 x123 x124 x125 x126 x127 : Value) (v11 : Value) (j : Nat → Value) : Env := #[x0, x1, x2, x3, x4, x5, x6, x7, x8, x9, x10, v11, x12, x13, x14, x15, x16, x17, x18, x19, x20, x21, x22, x23, x24, x25, x26, x27, x28, x29, x30, x31, x32, x33, x34, x35, x36, x37, (j 38), (j 39), (j 40), (j 41), (j 42), (j 43), (j 44), (j 45), (j 46), (j 47), (j 48), (j 49), (j 50), (j 51), (j 52), (j 53), x54, x55, x56, x57, x58, x59, x60, x61, x62, x63, x64, x65, x66, x67, x68, x69, x70, x71, x72, x73, x74, x75, x76, x77, x78, x79, x80, x81, x82, x83, x84, x85, x86, x87, x88, x89, x90, x91, x92, x93, x94, x95, x96, x97, x98, x99, x100, x101, x102, x103, x104, x105, x106, x107, x108, x109, x110, x111, x112, x113, x114, x115, x116, x117, x118, x119, x120, x121, x122, x123, x124, x125, x126, x127]
theorem t4_1_1_1_1_1_1_1_0_1_0_0 (K : Kont) (E : PanK) (k1 : Env → Hp → Prop) (x0 x1 x2 x3 x4 x5 x6 x7 x8 x9 x10 x12 x13 x14 x15 x16 x17 x18 x19 x20 x21 x22 x23 x24 x25 x26 x27 x28 x29 x30 x31 x32 x33 x34 x35 x36 x37 x54 x55 x56 x57 x58 x59 x60 x61 x62 x63 x64 x65 x66 x67 x68 x69 x70 x71 x72 x73 x74 x75 x76 x77 x78 x79 x80 x81 x82 x83 x84 x85 x86 x87 x88 x89 x90 x91 x92 x93 x94 x95 x96 x97 x98 x99 x100 x101 x102 x103 x104 x105 x106 x107 x108 x109 x110 x111 x112 x113 x114 x115 x116 x117 x118 x119 x120 x121 x122 x123 x124 x125 x126 x127 v11 : Value) (j : Nat → Value) : den Tryz.prog (sel (bodyOf Tryz.f4) [1, 1, 1, 1, 1, 1, 1, 0, 1, 0, 0]) (thenD k1 (blk 0 (thenD (den Tryz.prog (sel (bodyOf Tryz.f4) [1, 1, 1, 1, 1, 1, 1, 1]) (bodyQ Tryz.prog Tryz.f4.results.toList K E)) (bodyQ Tryz.prog Tryz.f4.results.toList K E)))) (m4_1_1_1_1_1_1_1_0_1_0_0 x0 x1 x2 x3 x4 x5 x6 x7 x8 x9 x10 x12 x13 x14 x15 x16 x17 x18 x19 x20 x21 x22 x23 x24 x25 x26 x27 x28 x29 x30 x31 x32 x33 x34 x35 x36 x37 x54 x55 x56 x57 x58 x59 x60 x61 x62 x63 x64 x65 x66 x67 x68 x69 x70 x71 x72 x73 x74 x75 x76 x77 x78 x79 x80 x81 x82 x83 x84 x85 x86 x87 x88 x89 x90 x91 x92 x93 x94 x95 x96 x97 x98 x99 x100 x101 x102 x103 x104 x105 x106 x107 x108 x109 x110 x111 x112 x113 x114 x115 x116 x117 x118 x119 x120 x121 x122 x123 x124 x125 x126 x127 v11 j) =
  pv (lenV x9) fun t1 =>
  pv (binV .none .lss v11 t1) fun t2 =>
  cnd t2 (
    pv (iaV none 2 x9 v11) fun t3 =>
    pv (faV 0 t3) fun t4 =>
    ld false 1 t4 fun t5 =>
    pv (iaV none 1 t5 (.int .i64 0)) fun t6 =>
    st 1 t6 (.int .i64 0) fun _ =>
    pv (iaV none 2 x9 v11) fun t7 =>
    pv (faV 1 t7) fun t8 =>
    st 1 t8 (.int .i64 77) fun _ =>
    pv (binV .none .add v11 (.int .i64 1)) fun t9 =>
    k1 (m4_1_1_1_1_1_1_1_0_1_0_0 x0 x1 x2 x3 x4 x5 x6 x7 x8 x9 x10 x12 x13 x14 x15 x16 x17 x18 x19 x20 x21 x22 x23 x24 x25 x26 x27 x28 x29 x30 x31 x32 x33 x34 x35 x36 x37 x54 x55 x56 x57 x58 x59 x60 x61 x62 x63 x64 x65 x66 x67 x68 x69 x70 x71 x72 x73 x74 x75 x76 x77 x78 x79 x80 x81 x82 x83 x84 x85 x86 x87 x88 x89 x90 x91 x92 x93 x94 x95 x96 x97 x98 x99 x100 x101 x102 x103 x104 x105 x106 x107 x108 x109 x110 x111 x112 x113 x114 x115 x116 x117 x118 x119 x120 x121 x122 x123 x124 x125 x126 x127 t9 (jf #[x0, x1, x2, x3, x4, x5, x6, x7, x8, x9, x10, t9, x12, x13, x14, x15, x16, x17, x18, x19, x20, x21, x22, x23, x24, x25, x26, x27, x28, x29, x30, x31, x32, x33, x34, x35, x36, x37, v11, x9, t1, t2, v11, t9, x9, v11, t3, t4, t5, t6, x9, v11, t7, t8, x54, x55, x56, x57, x58, x59, x60, x61, x62, x63, x64, x65, x66, x67, x68, x69, x70, x71, x72, x73, x74, x75, x76, x77, x78, x79, x80, x81, x82, x83, x84, x85, x86, x87, x88, x89, x90, x91, x92, x93, x94, x95, x96, x97, x98, x99, x100, x101, x102, x103, x104, x105, x106, x107, x108, x109, x110, x111, x112, x113, x114, x115, x116, x117, x118, x119, x120, x121, x122, x123, x124, x125, x126, x127]))) (
    den Tryz.prog (sel (bodyOf Tryz.f4) [1, 1, 1, 1, 1, 1, 1, 1]) (bodyQ Tryz.prog Tryz.f4.results.toList K E) #[x0, x1, x2, x3, x4, x5, x6, x7, x8, x9, x10, v11, x12, x13, x14, x15, x16, x17, x18, x19, x20, x21, x22, x23, x24, x25, x26, x27, x28, x29, x30, x31, x32, x33, x34, x35, x36, x37, v11, x9, t1, t2, (j 42), (j 43), (j 44), (j 45), (j 46), (j 47), (j 48), (j 49), (j 50), (j 51), (j 52), (j 53), x54, x55, x56, x57, x58, x59, x60, x61, x62, x63, x64, x65, x66, x67, x68, x69, x70, x71, x72, x73, x74, x75, x76, x77, x78, x79, x80, x81, x82, x83, x84, x85, x86, x87, x88, x89, x90, x91, x92, x93, x94, x95, x96, x97, x98, x99, x100, x101, x102, x103, x104, x105, x106, x107, x108, x109, x110, x111, x112, x113, x114, x115, x116, x117, x118, x119, x120, x121, x122, x123, x124, x125, x126, x127]) := by kernel_rfl
theorem t4_1_1_1_1_1_1_1_1 (K : Kont) (E : PanK) (x0 x1 x2 x3 x4 x5 x6 x7 x8 x9 x10 x11 x12 x13 x14 x15 x16 x17 x18 x19 x20 x21 x22 x23 x24 x25 x26 x27 x28 x29 x30 x31 x32 x33 x34 x35 x36 x37 x38 x39 x40 x41 x42 x43 x44 x45 x46 x47 x48 x49 x50 x51 x52 x53 x54 x55 x56 x57 x58 x59 x60 x61 x62 x63 x64 x65 x66 x67 x68 x69 x70 x71 x72 x73 x74 x75 x76 x77 x78 x79 x80 x81 x82 x83 x84 x85 x86 x87 x88 x89 x90 x91 x92 x93 x94 x95 x96 x97 x98 x99 x100 x101 x102 x103 x104 x105 x106 x107 x108 x109 x110 x111 x112 x113 x114 x115 x116 x117 x118 x119 x120 x121 x122 x123 x124 x125 x126 x127 : Value)  : den Tryz.prog (sel (bodyOf Tryz.f4) [1, 1, 1, 1, 1, 1, 1, 1]) (bodyQ Tryz.prog Tryz.f4.results.toList K E) #[x0, x1, x2, x3, x4, x5, x6, x7, x8, x9, x10, x11, x12, x13, x14, x15, x16, x17, x18, x19, x20, x21, x22, x23, x24, x25, x26, x27, x28, x29, x30, x31, x32, x33, x34, x35, x36, x37, x38, x39, x40, x41, x42, x43, x44, x45, x46, x47, x48, x49, x50, x51, x52, x53, x54, x55, x56, x57, x58, x59, x60, x61, x62, x63, x64, x65, x66, x67, x68, x69, x70, x71, x72, x73, x74, x75, x76, x77, x78, x79, x80, x81, x82, x83, x84, x85, x86, x87, x88, x89, x90, x91, x92, x93, x94, x95, x96, x97, x98, x99, x100, x101, x102, x103, x104, x105, x106, x107, x108, x109, x110, x111, x112, x113, x114, x115, x116, x117, x118, x119, x120, x121, x122, x123, x124, x125, x126, x127] =
  callv Tryz.prog (.func (.func 19) #[] #[]) #[x8, (.int .i64 0), (.int .i64 10000)] (fun t1 =>
  lp (fun k1 => den Tryz.prog (sel (bodyOf Tryz.f4) [1, 1, 1, 1, 1, 1, 1, 1, 1, 0, 1, 0, 0]) (thenD k1 (blk 2 (thenD (den Tryz.prog (sel (bodyOf Tryz.f4) [1, 1, 1, 1, 1, 1, 1, 1, 1, 1]) (bodyQ Tryz.prog Tryz.f4.results.toList K E)) (bodyQ Tryz.prog Tryz.f4.results.toList K E))))) #[x0, x1, x2, x3, x4, x5, x6, x7, x8, x9, x10, x11, t1, (.int .i64 0), x14, x15, x16, x17, x18, x19, x20, x21, x22, x23, x24, x25, x26, x27, x28, x29, x30, x31, x32, x33, x34, x35, x36, x37, x38, x39, x40, x41, x42, x43, x44, x45, x46, x47, x48, x49, x50, x51, x52, x53, x8, t1, x56, x57, x58, x59, x60, x61, x62, x63, x64, x65, x66, x67, x68, x69, x70, x71, x72, x73, x74, x75, x76, x77, x78, x79, x80, x81, x82, x83, x84, x85, x86, x87, x88, x89, x90, x91, x92, x93, x94, x95, x96, x97, x98, x99, x100, x101, x102, x103, x104, x105, x106, x107, x108, x109, x110, x111, x112, x113, x114, x115, x116, x117, x118, x119, x120, x121, x122, x123, x124, x125, x126, x127]) E := by kernel_rfl
def m4_1_1_1_1_1_1_1_1_1_0_1_0_0 (x0 x1 x2 x3 x4 x5 x6 x7 x8 x9 x10 x11 x12 x15 x16 x17 x18 x19 x20 x21 x22 x23 x24 x25 x26 x27 x28 x29 x30 x31 x32 x33 x34 x35 x36 x37 x38 x39 x40 x41 x42 x43 x44 x45 x46 x47 x48 x49 x50 x51 x52 x53 x54 x55 x90 x91 x92 x93 x94 x95 x96 x97 x98 x99 x100 x101 x102 x103 x104 x105 x106 x107 x108 x109 x110 x111 x112 x113 x114 x115 x116 x117 x118 x119 x120 x121 x122 x123 x124 x125 x126 x127 : Value) (v13 : Value) (j : Nat → Value) : Env := #[x0, x1, x2, x3, x4, x5, x6, x7, x8, x9, x10, x11, x12, v13, (j 14), x15, x16, x17, x18, x19, x20, x21, x22, x23, x24, x25, x26, x27, x28, x29, x30, x31, x32, x33, x34, x35, x36, x37, x38, x39, x40, x41, x42, x43, x44, x45, x46, x47, x48, x49, x50, x51, x52, x53, x54, x55, (j 56), (j 57), (j 58), (j 59), (j 60), (j 61), (j 62), (j 63), (j 64), (j 65), (j 66), (j 67), (j 68), (j 69), (j 70), (j 71), (j 72), (j 73), (j 74), (j 75), (j 76), (j 77), (j 78), (j 79), (j 80), (j 81), (j 82), (j 83), (j 84), (j 85), (j 86), (j 87), (j 88), (j 89), x90, x91, x92, x93, x94, x95, x96, x97, x98, x99, x100, x101, x102, x103, x104, x105, x106, x107, x108, x109, x110, x111, x112, x113, x114, x115, x116, x117, x118, x119, x120, x121, x122, x123, x124, x125, x126, x127]
theorem t4_1_1_1_1_1_1_1_1_1_0_1_0_0 (K : Kont) (E : PanK) (k1 : Env → Hp → Prop) (x0 x1 x2 x3 x4 x5 x6 x7 x8 x9 x10 x11 x12 x15 x16 x17 x18 x19 x20 x21 x22 x23 x24 x25 x26 x27 x28 x29 x30 x31 x32 x33 x34 x35 x36 x37 x38 x39 x40 x41 x42 x43 x44 x45 x46 x47 x48 x49 x50 x51 x52 x53 x54 x55 x90 x91 x92 x93 x94 x95 x96 x97 x98 x99 x100 x101 x102 x103 x104 x105 x106 x107 x108 x109 x110 x111 x112 x113 x114 x115 x116 x117 x118 x119 x120 x121 x122 x123 x124 x125 x126 x127 v13 : Value) (j : Nat → Value) : den Tryz.prog (sel (bodyOf Tryz.f4) [1, 1, 1, 1, 1, 1, 1, 1, 1, 0, 1, 0, 0]) (thenD k1 (blk 2 (thenD (den Tryz.prog (sel (bodyOf Tryz.f4) [1, 1, 1, 1, 1, 1, 1, 1, 1, 1]) (bodyQ Tryz.prog Tryz.f4.results.toList K E)) (bodyQ Tryz.prog Tryz.f4.results.toList K E)))) (m4_1_1_1_1_1_1_1_1_1_0_1_0_0 x0 x1 x2 x3 x4 x5 x6 x7 x8 x9 x10 x11 x12 x15 x16 x17 x18 x19 x20 x21 x22 x23 x24 x25 x26 x27 x28 x29 x30 x31 x32 x33 x34 x35 x36 x37 x38 x39 x40 x41 x42 x43 x44 x45 x46 x47 x48 x49 x50 x51 x52 x53 x54 x55 x90 x91 x92 x93 x94 x95 x96 x97 x98 x99 x100 x101 x102 x103 x104 x105 x106 x107 x108 x109 x110 x111 x112 x113 x114 x115 x116 x117 x118 x119 x120 x121 x122 x123 x124 x125 x126 x127 v13 j) =
  pv (lenV x12) fun t1 =>
  pv (binV .none .lss v13 t1) fun t2 =>
  cnd t2 (
    lp (fun k2 => den Tryz.prog (sel (bodyOf Tryz.f4) [1, 1, 1, 1, 1, 1, 1, 1, 1, 0, 1, 0, 0, 1, 0, 0, 1, 0, 0]) (thenD k2 (blk 4 (blk 3 (thenD (den Tryz.prog (sel (bodyOf Tryz.f4) [1, 1, 1, 1, 1, 1, 1, 1, 1, 0, 1, 0, 0, 1, 1]) (thenD k1 (blk 2 (thenD (den Tryz.prog (sel (bodyOf Tryz.f4) [1, 1, 1, 1, 1, 1, 1, 1, 1, 1]) (bodyQ Tryz.prog Tryz.f4.results.toList K E)) (bodyQ Tryz.prog Tryz.f4.results.toList K E))))) (thenD k1 (blk 2 (thenD (den Tryz.prog (sel (bodyOf Tryz.f4) [1, 1, 1, 1, 1, 1, 1, 1, 1, 1]) (bodyQ Tryz.prog Tryz.f4.results.toList K E)) (bodyQ Tryz.prog Tryz.f4.results.toList K E))))))))) #[x0, x1, x2, x3, x4, x5, x6, x7, x8, x9, x10, x11, x12, v13, (.int .i64 0), x15, x16, x17, x18, x19, x20, x21, x22, x23, x24, x25, x26, x27, x28, x29, x30, x31, x32, x33, x34, x35, x36, x37, x38, x39, x40, x41, x42, x43, x44, x45, x46, x47, x48, x49, x50, x51, x52, x53, x54, x55, v13, x12, t1, t2, (j 60), (j 61), (j 62), (j 63), (j 64), (j 65), (j 66), (j 67), (j 68), (j 69), (j 70), (j 71), (j 72), (j 73), (j 74), (j 75), (j 76), (j 77), (j 78), (j 79), (j 80), (j 81), (j 82), (j 83), (j 84), (j 85), (j 86), (j 87), (j 88), (j 89), x90, x91, x92, x93, x94, x95, x96, x97, x98, x99, x100, x101, x102, x103, x104, x105, x106, x107, x108, x109, x110, x111, x112, x113, x114, x115, x116, x117, x118, x119, x120, x121, x122, x123, x124, x125, x126, x127]) (
    den Tryz.prog (sel (bodyOf Tryz.f4) [1, 1, 1, 1, 1, 1, 1, 1, 1, 1]) (bodyQ Tryz.prog Tryz.f4.results.toList K E) #[x0, x1, x2, x3, x4, x5, x6, x7, x8, x9, x10, x11, x12, v13, (j 14), x15, x16, x17, x18, x19, x20, x21, x22, x23, x24, x25, x26, x27, x28, x29, x30, x31, x32, x33, x34, x35, x36, x37, x38, x39, x40, x41, x42, x43, x44, x45, x46, x47, x48, x49, x50, x51, x52, x53, x54, x55, v13, x12, t1, t2, (j 60), (j 61), (j 62), (j 63), (j 64), (j 65), (j 66), (j 67), (j 68), (j 69), (j 70), (j 71), (j 72), (j 73), (j 74), (j 75), (j 76), (j 77), (j 78), (j 79), (j 80), (j 81), (j 82), (j 83), (j 84), (j 85), (j 86), (j 87), (j 88), (j 89), x90, x91, x92, x93, x94, x95, x96, x97, x98, x99, x100, x101, x102, x103, x104, x105, x106, x107, x108, x109, x110, x111, x112, x113, x114, x115, x116, x117, x118, x119, x120, x121, x122, x123, x124, x125, x126, x127]) := by kernel_rfl
theorem t4_1_1_1_1_1_1_1_1_1_1 (K : Kont) (E : PanK) (x0 x1 x2 x3 x4 x5 x6 x7 x8 x9 x10 x11 x12 x13 x14 x15 x16 x17 x18 x19 x20 x21 x22 x23 x24 x25 x26 x27 x28 x29 x30 x31 x32 x33 x34 x35 x36 x37 x38 x39 x40 x41 x42 x43 x44 x45 x46 x47 x48 x49 x50 x51 x52 x53 x54 x55 x56 x57 x58 x59 x60 x61 x62 x63 x64 x65 x66 x67 x68 x69 x70 x71 x72 x73 x74 x75 x76 x77 x78 x79 x80 x81 x82 x83 x84 x85 x86 x87 x88 x89 x90 x91 x92 x93 x94 x95 x96 x97 x98 x99 x100 x101 x102 x103 x104 x105 x106 x107 x108 x109 x110 x111 x112 x113 x114 x115 x116 x117 x118 x119 x120 x121 x122 x123 x124 x125 x126 x127 : Value)  : den Tryz.prog (sel (bodyOf Tryz.f4) [1, 1, 1, 1, 1, 1, 1, 1, 1, 1]) (bodyQ Tryz.prog Tryz.f4.results.toList K E) #[x0, x1, x2, x3, x4, x5, x6, x7, x8, x9, x10, x11, x12, x13, x14, x15, x16, x17, x18, x19, x20, x21, x22, x23, x24, x25, x26, x27, x28, x29, x30, x31, x32, x33, x34, x35, x36, x37, x38, x39, x40, x41, x42, x43, x44, x45, x46, x47, x48, x49, x50, x51, x52, x53, x54, x55, x56, x57, x58, x59, x60, x61, x62, x63, x64, x65, x66, x67, x68, x69, x70, x71, x72, x73, x74, x75, x76, x77, x78, x79, x80, x81, x82, x83, x84, x85, x86, x87, x88, x89, x90, x91, x92, x93, x94, x95, x96, x97, x98, x99, x100, x101, x102, x103, x104, x105, x106, x107, x108, x109, x110, x111, x112, x113, x114, x115, x116, x117, x118, x119, x120, x121, x122, x123, x124, x125, x126, x127] =
  callv Tryz.prog (.func (.func 16) #[] #[]) #[x7, x1, x2] (fun t1 =>
  callv Tryz.prog (.func (.func 19) #[] #[]) #[x8, (.int .i64 0), (.int .i64 10000)] (fun t2 =>
  pv (lenV t1) fun t3 =>
  pv (binV .none .eql t3 (.int .i64 0)) fun t4 =>
  cnd t4 (
    pv (binV .none .eql x10 (.int .u16 0)) fun t5 =>
    gdK t5 true (fun k => k t2) fun t6 =>
    gdK t5 true (fun k => pv (lenV t6) k) fun t7 =>
    gdK t5 true (fun k => pv (binV .none .eql t7 (.int .i64 0)) k) fun t8 =>
    pv (pickV t5 t8 (.bool false)) fun t9 =>
    K t9) (
    pv (binV .none .eql x10 (.int .u16 0)) fun t10 =>
    gdK t10 true (fun k => k t2) fun t11 =>
    gdK t10 true (fun k => pv (lenV t11) k) fun t12 =>
    gdK t10 true (fun k => pv (binV .none .eql t12 (.int .i64 1)) k) fun t13 =>
    pv (pickV t10 t13 (.bool false)) fun t14 =>
    gdK t14 true (fun k => k t2) fun t15 =>
    gdK t14 true (fun k => pv (iaV none 2 t15 (.int .i64 0)) k) fun t16 =>
    gdK t14 true (fun k => pv (faV 0 t16) k) fun t17 =>
    gdK t14 true (fun k => ld false 1 t17 k) fun t18 =>
    gdK t14 true (fun k => pv (binV .none .eql t18 (.int .u32 3)) k) fun t19 =>
    pv (pickV t14 t19 (.bool false)) fun t20 =>
    gdK t20 true (fun k => k t2) fun t21 =>
    gdK t20 true (fun k => pv (iaV none 2 t21 (.int .i64 0)) k) fun t22 =>
    gdK t20 true (fun k => pv (faV 1 t22) k) fun t23 =>
    gdK t20 true (fun k => ld false 1 t23 k) fun t24 =>
    gdK t20 true (fun k => k t1) fun t25 =>
    gdK t20 true (fun k => callv Tryz.prog (.func (.func 20) #[] #[]) #[t24, t25] k E) fun t26 =>
    pv (pickV t20 t26 (.bool false)) fun t27 =>
    K t27)) E) E := by kernel_rfl
def m4_1_1_1_1_1_1_1_1_1_0_1_0_0_1_0_0_1_0_0 (x0 x1 x2 x3 x4 x5 x6 x7 x8 x9 x10 x11 x12 x13 x15 x16 x17 x18 x19 x20 x21 x22 x23 x24 x25 x26 x27 x28 x29 x30 x31 x32 x33 x34 x35 x36 x37 x38 x39 x40 x41 x42 x43 x44 x45 x46 x47 x48 x49 x50 x51 x52 x53 x54 x55 x56 x57 x58 x59 x60 x61 x90 x91 x92 x93 x94 x95 x96 x97 x98 x99 x100 x101 x102 x103 x104 x105 x106 x107 x108 x109 x110 x111 x112 x113 x114 x115 x116 x117 x118 x119 x120 x121 x122 x123 x124 x125 x126 x127 : Value) (v14 : Value) (j : Nat → Value) : Env := #[x0, x1, x2, x3, x4, x5, x6, x7, x8, x9, x10, x11, x12, x13, v14, x15, x16, x17, x18, x19, x20, x21, x22, x23, x24, x25, x26, x27, x28, x29, x30, x31, x32, x33, x34, x35, x36, x37, x38, x39, x40, x41, x42, x43, x44, x45, x46, x47, x48, x49, x50, x51, x52, x53, x54, x55, x56, x57, x58, x59, x60, x61, (j 62), (j 63), (j 64), (j 65), (j 66), (j 67), (j 68), (j 69), (j 70), (j 71), (j 72), (j 73), (j 74), (j 75), (j 76), (j 77), (j 78), (j 79), (j 80), (j 81), (j 82), (j 83), (j 84), (j 85), (j 86), (j 87), (j 88), (j 89), x90, x91, x92, x93, x94, x95, x96, x97, x98, x99, x100, x101, x102, x103, x104, x105, x106, x107, x108, x109, x110, x111, x112, x113, x114, x115, x116, x117, x118, x119, x120, x121, x122, x123, x124, x125, x126, x127]
theorem t4_1_1_1_1_1_1_1_1_1_0_1_0_0_1_0_0_1_0_0 (K : Kont) (E : PanK) (k1 k2 : Env → Hp → Prop) (x0 x1 x2 x3 x4 x5 x6 x7 x8 x9 x10 x11 x12 x13 x15 x16 x17 x18 x19 x20 x21 x22 x23 x24 x25 x26 x27 x28 x29 x30 x31 x32 x33 x34 x35 x36 x37 x38 x39 x40 x41 x42 x43 x44 x45 x46 x47 x48 x49 x50 x51 x52 x53 x54 x55 x56 x57 x58 x59 x60 x61 x90 x91 x92 x93 x94 x95 x96 x97 x98 x99 x100 x101 x102 x103 x104 x105 x106 x107 x108 x109 x110 x111 x112 x113 x114 x115 x116 x117 x118 x119 x120 x121 x122 x123 x124 x125 x126 x127 v14 : Value) (j : Nat → Value) : den Tryz.prog (sel (bodyOf Tryz.f4) [1, 1, 1, 1, 1, 1, 1, 1, 1, 0, 1, 0, 0, 1, 0, 0, 1, 0, 0]) (thenD k2 (blk 4 (blk 3 (thenD (den Tryz.prog (sel (bodyOf Tryz.f4) [1, 1, 1, 1, 1, 1, 1, 1, 1, 0, 1, 0, 0, 1, 1]) (thenD k1 (blk 2 (thenD (den Tryz.prog (sel (bodyOf Tryz.f4) [1, 1, 1, 1, 1, 1, 1, 1, 1, 1]) (bodyQ Tryz.prog Tryz.f4.results.toList K E)) (bodyQ Tryz.prog Tryz.f4.results.toList K E))))) (thenD k1 (blk 2 (thenD (den Tryz.prog (sel (bodyOf Tryz.f4) [1, 1, 1, 1, 1, 1, 1, 1, 1, 1]) (bodyQ Tryz.prog Tryz.f4.results.toList K E)) (bodyQ Tryz.prog Tryz.f4.results.toList K E)))))))) (m4_1_1_1_1_1_1_1_1_1_0_1_0_0_1_0_0_1_0_0 x0 x1 x2 x3 x4 x5 x6 x7 x8 x9 x10 x11 x12 x13 x15 x16 x17 x18 x19 x20 x21 x22 x23 x24 x25 x26 x27 x28 x29 x30 x31 x32 x33 x34 x35 x36 x37 x38 x39 x40 x41 x42 x43 x44 x45 x46 x47 x48 x49 x50 x51 x52 x53 x54 x55 x56 x57 x58 x59 x60 x61 x90 x91 x92 x93 x94 x95 x96 x97 x98 x99 x100 x101 x102 x103 x104 x105 x106 x107 x108 x109 x110 x111 x112 x113 x114 x115 x116 x117 x118 x119 x120 x121 x122 x123 x124 x125 x126 x127 v14 j) =
  pv (iaV none 2 x12 x13) fun t1 =>
  pv (faV 1 t1) fun t2 =>
  ld false 1 t2 fun t3 =>
  pv (lenV t3) fun t4 =>
  pv (binV .none .lss v14 t4) fun t5 =>
  cnd t5 (
    pv (iaV none 2 x12 x13) fun t6 =>
    pv (faV 1 t6) fun t7 =>
    ld false 1 t7 fun t8 =>
    pv (iaV none 2 t8 v14) fun t9 =>
    pv (faV 0 t9) fun t10 =>
    ld false 1 t10 fun t11 =>
    pv (iaV none 1 t11 (.int .i64 0)) fun t12 =>
    st 1 t12 (.int .i64 9999) fun _ =>
    pv (iaV none 2 x12 x13) fun t13 =>
    pv (faV 1 t13) fun t14 =>
    ld false 1 t14 fun t15 =>
    pv (iaV none 2 t15 v14) fun t16 =>
    pv (faV 1 t16) fun t17 =>
    st 1 t17 (.int .i64 78) fun _ =>
    pv (binV .none .add v14 (.int .i64 1)) fun t18 =>
    k2 (m4_1_1_1_1_1_1_1_1_1_0_1_0_0_1_0_0_1_0_0 x0 x1 x2 x3 x4 x5 x6 x7 x8 x9 x10 x11 x12 x13 x15 x16 x17 x18 x19 x20 x21 x22 x23 x24 x25 x26 x27 x28 x29 x30 x31 x32 x33 x34 x35 x36 x37 x38 x39 x40 x41 x42 x43 x44 x45 x46 x47 x48 x49 x50 x51 x52 x53 x54 x55 x56 x57 x58 x59 x60 x61 x90 x91 x92 x93 x94 x95 x96 x97 x98 x99 x100 x101 x102 x103 x104 x105 x106 x107 x108 x109 x110 x111 x112 x113 x114 x115 x116 x117 x118 x119 x120 x121 x122 x123 x124 x125 x126 x127 t18 (jf #[x0, x1, x2, x3, x4, x5, x6, x7, x8, x9, x10, x11, x12, x13, t18, x15, x16, x17, x18, x19, x20, x21, x22, x23, x24, x25, x26, x27, x28, x29, x30, x31, x32, x33, x34, x35, x36, x37, x38, x39, x40, x41, x42, x43, x44, x45, x46, x47, x48, x49, x50, x51, x52, x53, x54, x55, x56, x57, x58, x59, x60, x61, v14, x12, x13, t1, t2, t3, t4, t5, v14, t18, x12, x13, t6, t7, t8, v14, t9, t10, t11, t12, x12, x13, t13, t14, t15, v14, t16, t17, x90, x91, x92, x93, x94, x95, x96, x97, x98, x99, x100, x101, x102, x103, x104, x105, x106, x107, x108, x109, x110, x111, x112, x113, x114, x115, x116, x117, x118, x119, x120, x121, x122, x123, x124, x125, x126, x127]))) (
    den Tryz.prog (sel (bodyOf Tryz.f4) [1, 1, 1, 1, 1, 1, 1, 1, 1, 0, 1, 0, 0, 1, 1]) (thenD k1 (blk 2 (thenD (den Tryz.prog (sel (bodyOf Tryz.f4) [1, 1, 1, 1, 1, 1, 1, 1, 1, 1]) (bodyQ Tryz.prog Tryz.f4.results.toList K E)) (bodyQ Tryz.prog Tryz.f4.results.toList K E)))) #[x0, x1, x2, x3, x4, x5, x6, x7, x8, x9, x10, x11, x12, x13, v14, x15, x16, x17, x18, x19, x20, x21, x22, x23, x24, x25, x26, x27, x28, x29, x30, x31, x32, x33, x34, x35, x36, x37, x38, x39, x40, x41, x42, x43, x44, x45, x46, x47, x48, x49, x50, x51, x52, x53, x54, x55, x56, x57, x58, x59, x60, x61, v14, x12, x13, t1, t2, t3, t4, t5, (j 70), (j 71), (j 72), (j 73), (j 74), (j 75), (j 76), (j 77), (j 78), (j 79), (j 80), (j 81), (j 82), (j 83), (j 84), (j 85), (j 86), (j 87), (j 88), (j 89), x90, x91, x92, x93, x94, x95, x96, x97, x98, x99, x100, x101, x102, x103, x104, x105, x106, x107, x108, x109, x110, x111, x112, x113, x114, x115, x116, x117, x118, x119, x120, x121, x122, x123, x124, x125, x126, x127]) := by kernel_rfl
theorem t4_1_1_1_1_1_1_1_1_1_0_1_0_0_1_1 (K : Kont) (E : PanK) (k1 : Env → Hp → Prop) (x0 x1 x2 x3 x4 x5 x6 x7 x8 x9 x10 x11 x12 x13 x14 x15 x16 x17 x18 x19 x20 x21 x22 x23 x24 x25 x26 x27 x28 x29 x30 x31 x32 x33 x34 x35 x36 x37 x38 x39 x40 x41 x42 x43 x44 x45 x46 x47 x48 x49 x50 x51 x52 x53 x54 x55 x56 x57 x58 x59 x60 x61 x62 x63 x64 x65 x66 x67 x68 x69 x70 x71 x72 x73 x74 x75 x76 x77 x78 x79 x80 x81 x82 x83 x84 x85 x86 x87 x88 x89 x90 x91 x92 x93 x94 x95 x96 x97 x98 x99 x100 x101 x102 x103 x104 x105 x106 x107 x108 x109 x110 x111 x112 x113 x114 x115 x116 x117 x118 x119 x120 x121 x122 x123 x124 x125 x126 x127 : Value)  : den Tryz.prog (sel (bodyOf Tryz.f4) [1, 1, 1, 1, 1, 1, 1, 1, 1, 0, 1, 0, 0, 1, 1]) (thenD k1 (blk 2 (thenD (den Tryz.prog (sel (bodyOf Tryz.f4) [1, 1, 1, 1, 1, 1, 1, 1, 1, 1]) (bodyQ Tryz.prog Tryz.f4.results.toList K E)) (bodyQ Tryz.prog Tryz.f4.results.toList K E)))) #[x0, x1, x2, x3, x4, x5, x6, x7, x8, x9, x10, x11, x12, x13, x14, x15, x16, x17, x18, x19, x20, x21, x22, x23, x24, x25, x26, x27, x28, x29, x30, x31, x32, x33, x34, x35, x36, x37, x38, x39, x40, x41, x42, x43, x44, x45, x46, x47, x48, x49, x50, x51, x52, x53, x54, x55, x56, x57, x58, x59, x60, x61, x62, x63, x64, x65, x66, x67, x68, x69, x70, x71, x72, x73, x74, x75, x76, x77, x78, x79, x80, x81, x82, x83, x84, x85, x86, x87, x88, x89, x90, x91, x92, x93, x94, x95, x96, x97, x98, x99, x100, x101, x102, x103, x104, x105, x106, x107, x108, x109, x110, x111, x112, x113, x114, x115, x116, x117, x118, x119, x120, x121, x122, x123, x124, x125, x126, x127] =
  pv (binV .none .add x13 (.int .i64 1)) fun t1 =>
  k1 (m4_1_1_1_1_1_1_1_1_1_0_1_0_0 x0 x1 x2 x3 x4 x5 x6 x7 x8 x9 x10 x11 x12 x15 x16 x17 x18 x19 x20 x21 x22 x23 x24 x25 x26 x27 x28 x29 x30 x31 x32 x33 x34 x35 x36 x37 x38 x39 x40 x41 x42 x43 x44 x45 x46 x47 x48 x49 x50 x51 x52 x53 x54 x55 x90 x91 x92 x93 x94 x95 x96 x97 x98 x99 x100 x101 x102 x103 x104 x105 x106 x107 x108 x109 x110 x111 x112 x113 x114 x115 x116 x117 x118 x119 x120 x121 x122 x123 x124 x125 x126 x127 t1 (jf #[x0, x1, x2, x3, x4, x5, x6, x7, x8, x9, x10, x11, x12, t1, x14, x15, x16, x17, x18, x19, x20, x21, x22, x23, x24, x25, x26, x27, x28, x29, x30, x31, x32, x33, x34, x35, x36, x37, x38, x39, x40, x41, x42, x43, x44, x45, x46, x47, x48, x49, x50, x51, x52, x53, x54, x55, x56, x57, x58, x59, x13, t1, x62, x63, x64, x65, x66, x67, x68, x69, x70, x71, x72, x73, x74, x75, x76, x77, x78, x79, x80, x81, x82, x83, x84, x85, x86, x87, x88, x89, x90, x91, x92, x93, x94, x95, x96, x97, x98, x99, x100, x101, x102, x103, x104, x105, x106, x107, x108, x109, x110, x111, x112, x113, x114, x115, x116, x117, x118, x119, x120, x121, x122, x123, x124, x125, x126, x127])) := by kernel_rfl
theorem l4_1_1_1_1_1_1_1_0_1_0_0 {K : Kont} {E : PanK} {σ : Type} {x0 x1 x2 x3 x4 x5 x6 x7 x8 x9 x10 x12 x13 x14 x15 x16 x17 x18 x19 x20 x21 x22 x23 x24 x25 x26 x27 x28 x29 x30 x31 x32 x33 x34 x35 x36 x37 x54 x55 x56 x57 x58 x59 x60 x61 x62 x63 x64 x65 x66 x67 x68 x69 x70 x71 x72 x73 x74 x75 x76 x77 x78 x79 x80 x81 x82 x83 x84 x85 x86 x87 x88 x89 x90 x91 x92 x93 x94 x95 x96 x97 x98 x99 x100 x101 x102 x103 x104 x105 x106 x107 x108 x109 x110 x111 x112 x113 x114 x115 x116 x117 x118 x119 x120 x121 x122 x123 x124 x125 x126 x127 v11 y38 y39 y40 y41 y42 y43 y44 y45 y46 y47 y48 y49 y50 y51 y52 y53 : Value} {h : Hp} (f11 : σ → Value) (I : σ → Hp → Prop) (μ : σ → Nat) (s0 : σ) (e11 : v11 = f11 s0) (h0 : h.wf → ∃ h', h.wk h' ∧ I s0 h')
  (round : ∀ (k1 : Env → Hp → Prop) (s : σ) (j : Nat → Value) (h : Hp), I s h → h.wf → (∀ s' j' h', μ s' < μ s → (h'.wf → ∃ h'', h'.wk h'' ∧ I s' h'') → k1 (m4_1_1_1_1_1_1_1_0_1_0_0 x0 x1 x2 x3 x4 x5 x6 x7 x8 x9 x10 x12 x13 x14 x15 x16 x17 x18 x19 x20 x21 x22 x23 x24 x25 x26 x27 x28 x29 x30 x31 x32 x33 x34 x35 x36 x37 x54 x55 x56 x57 x58 x59 x60 x61 x62 x63 x64 x65 x66 x67 x68 x69 x70 x71 x72 x73 x74 x75 x76 x77 x78 x79 x80 x81 x82 x83 x84 x85 x86 x87 x88 x89 x90 x91 x92 x93 x94 x95 x96 x97 x98 x99 x100 x101 x102 x103 x104 x105 x106 x107 x108 x109 x110 x111 x112 x113 x114 x115 x116 x117 x118 x119 x120 x121 x122 x123 x124 x125 x126 x127 (f11 s') j') h') → (
  pv (lenV x9) fun t1 =>
  pv (binV .none .lss (f11 s) t1) fun t2 =>
  cnd t2 (
    pv (iaV none 2 x9 (f11 s)) fun t3 =>
    pv (faV 0 t3) fun t4 =>
    ld false 1 t4 fun t5 =>
    pv (iaV none 1 t5 (.int .i64 0)) fun t6 =>
    st 1 t6 (.int .i64 0) fun _ =>
    pv (iaV none 2 x9 (f11 s)) fun t7 =>
    pv (faV 1 t7) fun t8 =>
    st 1 t8 (.int .i64 77) fun _ =>
    pv (binV .none .add (f11 s) (.int .i64 1)) fun t9 =>
    k1 (m4_1_1_1_1_1_1_1_0_1_0_0 x0 x1 x2 x3 x4 x5 x6 x7 x8 x9 x10 x12 x13 x14 x15 x16 x17 x18 x19 x20 x21 x22 x23 x24 x25 x26 x27 x28 x29 x30 x31 x32 x33 x34 x35 x36 x37 x54 x55 x56 x57 x58 x59 x60 x61 x62 x63 x64 x65 x66 x67 x68 x69 x70 x71 x72 x73 x74 x75 x76 x77 x78 x79 x80 x81 x82 x83 x84 x85 x86 x87 x88 x89 x90 x91 x92 x93 x94 x95 x96 x97 x98 x99 x100 x101 x102 x103 x104 x105 x106 x107 x108 x109 x110 x111 x112 x113 x114 x115 x116 x117 x118 x119 x120 x121 x122 x123 x124 x125 x126 x127 t9 (jf #[x0, x1, x2, x3, x4, x5, x6, x7, x8, x9, x10, t9, x12, x13, x14, x15, x16, x17, x18, x19, x20, x21, x22, x23, x24, x25, x26, x27, x28, x29, x30, x31, x32, x33, x34, x35, x36, x37, (f11 s), x9, t1, t2, (f11 s), t9, x9, (f11 s), t3, t4, t5, t6, x9, (f11 s), t7, t8, x54, x55, x56, x57, x58, x59, x60, x61, x62, x63, x64, x65, x66, x67, x68, x69, x70, x71, x72, x73, x74, x75, x76, x77, x78, x79, x80, x81, x82, x83, x84, x85, x86, x87, x88, x89, x90, x91, x92, x93, x94, x95, x96, x97, x98, x99, x100, x101, x102, x103, x104, x105, x106, x107, x108, x109, x110, x111, x112, x113, x114, x115, x116, x117, x118, x119, x120, x121, x122, x123, x124, x125, x126, x127]))) (
    den Tryz.prog (sel (bodyOf Tryz.f4) [1, 1, 1, 1, 1, 1, 1, 1]) (bodyQ Tryz.prog Tryz.f4.results.toList K E) #[x0, x1, x2, x3, x4, x5, x6, x7, x8, x9, x10, (f11 s), x12, x13, x14, x15, x16, x17, x18, x19, x20, x21, x22, x23, x24, x25, x26, x27, x28, x29, x30, x31, x32, x33, x34, x35, x36, x37, (f11 s), x9, t1, t2, (j 42), (j 43), (j 44), (j 45), (j 46), (j 47), (j 48), (j 49), (j 50), (j 51), (j 52), (j 53), x54, x55, x56, x57, x58, x59, x60, x61, x62, x63, x64, x65, x66, x67, x68, x69, x70, x71, x72, x73, x74, x75, x76, x77, x78, x79, x80, x81, x82, x83, x84, x85, x86, x87, x88, x89, x90, x91, x92, x93, x94, x95, x96, x97, x98, x99, x100, x101, x102, x103, x104, x105, x106, x107, x108, x109, x110, x111, x112, x113, x114, x115, x116, x117, x118, x119, x120, x121, x122, x123, x124, x125, x126, x127])) h) :
  lp (fun k1 => den Tryz.prog (sel (bodyOf Tryz.f4) [1, 1, 1, 1, 1, 1, 1, 0, 1, 0, 0]) (thenD k1 (blk 0 (thenD (den Tryz.prog (sel (bodyOf Tryz.f4) [1, 1, 1, 1, 1, 1, 1, 1]) (bodyQ Tryz.prog Tryz.f4.results.toList K E)) (bodyQ Tryz.prog Tryz.f4.results.toList K E))))) #[x0, x1, x2, x3, x4, x5, x6, x7, x8, x9, x10, v11, x12, x13, x14, x15, x16, x17, x18, x19, x20, x21, x22, x23, x24, x25, x26, x27, x28, x29, x30, x31, x32, x33, x34, x35, x36, x37, y38, y39, y40, y41, y42, y43, y44, y45, y46, y47, y48, y49, y50, y51, y52, y53, x54, x55, x56, x57, x58, x59, x60, x61, x62, x63, x64, x65, x66, x67, x68, x69, x70, x71, x72, x73, x74, x75, x76, x77, x78, x79, x80, x81, x82, x83, x84, x85, x86, x87, x88, x89, x90, x91, x92, x93, x94, x95, x96, x97, x98, x99, x100, x101, x102, x103, x104, x105, x106, x107, x108, x109, x110, x111, x112, x113, x114, x115, x116, x117, x118, x119, x120, x121, x122, x123, x124, x125, x126, x127] h := by
  subst e11
  have e : (#[x0, x1, x2, x3, x4, x5, x6, x7, x8, x9, x10, (f11 s0), x12, x13, x14, x15, x16, x17, x18, x19, x20, x21, x22, x23, x24, x25, x26, x27, x28, x29, x30, x31, x32, x33, x34, x35, x36, x37, y38, y39, y40, y41, y42, y43, y44, y45, y46, y47, y48, y49, y50, y51, y52, y53, x54, x55, x56, x57, x58, x59, x60, x61, x62, x63, x64, x65, x66, x67, x68, x69, x70, x71, x72, x73, x74, x75, x76, x77, x78, x79, x80, x81, x82, x83, x84, x85, x86, x87, x88, x89, x90, x91, x92, x93, x94, x95, x96, x97, x98, x99, x100, x101, x102, x103, x104, x105, x106, x107, x108, x109, x110, x111, x112, x113, x114, x115, x116, x117, x118, x119, x120, x121, x122, x123, x124, x125, x126, x127] : Env) = m4_1_1_1_1_1_1_1_0_1_0_0 x0 x1 x2 x3 x4 x5 x6 x7 x8 x9 x10 x12 x13 x14 x15 x16 x17 x18 x19 x20 x21 x22 x23 x24 x25 x26 x27 x28 x29 x30 x31 x32 x33 x34 x35 x36 x37 x54 x55 x56 x57 x58 x59 x60 x61 x62 x63 x64 x65 x66 x67 x68 x69 x70 x71 x72 x73 x74 x75 x76 x77 x78 x79 x80 x81 x82 x83 x84 x85 x86 x87 x88 x89 x90 x91 x92 x93 x94 x95 x96 x97 x98 x99 x100 x101 x102 x103 x104 x105 x106 x107 x108 x109 x110 x111 x112 x113 x114 x115 x116 x117 x118 x119 x120 x121 x122 x123 x124 x125 x126 x127 (f11 s0) (jf #[x0, x1, x2, x3, x4, x5, x6, x7, x8, x9, x10, (f11 s0), x12, x13, x14, x15, x16, x17, x18, x19, x20, x21, x22, x23, x24, x25, x26, x27, x28, x29, x30, x31, x32, x33, x34, x35, x36, x37, y38, y39, y40, y41, y42, y43, y44, y45, y46, y47, y48, y49, y50, y51, y52, y53, x54, x55, x56, x57, x58, x59, x60, x61, x62, x63, x64, x65, x66, x67, x68, x69, x70, x71, x72, x73, x74, x75, x76, x77, x78, x79, x80, x81, x82, x83, x84, x85, x86, x87, x88, x89, x90, x91, x92, x93, x94, x95, x96, x97, x98, x99, x100, x101, x102, x103, x104, x105, x106, x107, x108, x109, x110, x111, x112, x113, x114, x115, x116, x117, x118, x119, x120, x121, x122, x123, x124, x125, x126, x127]) := by kernel_rfl
  rw [e]
  exact loop_r (fun s j => m4_1_1_1_1_1_1_1_0_1_0_0 x0 x1 x2 x3 x4 x5 x6 x7 x8 x9 x10 x12 x13 x14 x15 x16 x17 x18 x19 x20 x21 x22 x23 x24 x25 x26 x27 x28 x29 x30 x31 x32 x33 x34 x35 x36 x37 x54 x55 x56 x57 x58 x59 x60 x61 x62 x63 x64 x65 x66 x67 x68 x69 x70 x71 x72 x73 x74 x75 x76 x77 x78 x79 x80 x81 x82 x83 x84 x85 x86 x87 x88 x89 x90 x91 x92 x93 x94 x95 x96 x97 x98 x99 x100 x101 x102 x103 x104 x105 x106 x107 x108 x109 x110 x111 x112 x113 x114 x115 x116 x117 x118 x119 x120 x121 x122 x123 x124 x125 x126 x127 (f11 s) j) I μ (fun k s j h hI hw next => by rw [t4_1_1_1_1_1_1_1_0_1_0_0]; exact round k s j h hI hw next) s0 (jf #[x0, x1, x2, x3, x4, x5, x6, x7, x8, x9, x10, (f11 s0), x12, x13, x14, x15, x16, x17, x18, x19, x20, x21, x22, x23, x24, x25, x26, x27, x28, x29, x30, x31, x32, x33, x34, x35, x36, x37, y38, y39, y40, y41, y42, y43, y44, y45, y46, y47, y48, y49, y50, y51, y52, y53, x54, x55, x56, x57, x58, x59, x60, x61, x62, x63, x64, x65, x66, x67, x68, x69, x70, x71, x72, x73, x74, x75, x76, x77, x78, x79, x80, x81, x82, x83, x84, x85, x86, x87, x88, x89, x90, x91, x92, x93, x94, x95, x96, x97, x98, x99, x100, x101, x102, x103, x104, x105, x106, x107, x108, x109, x110, x111, x112, x113, x114, x115, x116, x117, x118, x119, x120, x121, x122, x123, x124, x125, x126, x127]) h0
theorem l4_1_1_1_1_1_1_1_1_1_0_1_0_0 {K : Kont} {E : PanK} {σ : Type} {x0 x1 x2 x3 x4 x5 x6 x7 x8 x9 x10 x11 x12 x15 x16 x17 x18 x19 x20 x21 x22 x23 x24 x25 x26 x27 x28 x29 x30 x31 x32 x33 x34 x35 x36 x37 x38 x39 x40 x41 x42 x43 x44 x45 x46 x47 x48 x49 x50 x51 x52 x53 x54 x55 x90 x91 x92 x93 x94 x95 x96 x97 x98 x99 x100 x101 x102 x103 x104 x105 x106 x107 x108 x109 x110 x111 x112 x113 x114 x115 x116 x117 x118 x119 x120 x121 x122 x123 x124 x125 x126 x127 v13 y14 y56 y57 y58 y59 y60 y61 y62 y63 y64 y65 y66 y67 y68 y69 y70 y71 y72 y73 y74 y75 y76 y77 y78 y79 y80 y81 y82 y83 y84 y85 y86 y87 y88 y89 : Value} {h : Hp} (f13 : σ → Value) (I : σ → Hp → Prop) (μ : σ → Nat) (s0 : σ) (e13 : v13 = f13 s0) (h0 : h.wf → ∃ h', h.wk h' ∧ I s0 h')
  (round : ∀ (k1 : Env → Hp → Prop) (s : σ) (j : Nat → Value) (h : Hp), I s h → h.wf → (∀ s' j' h', μ s' < μ s → (h'.wf → ∃ h'', h'.wk h'' ∧ I s' h'') → k1 (m4_1_1_1_1_1_1_1_1_1_0_1_0_0 x0 x1 x2 x3 x4 x5 x6 x7 x8 x9 x10 x11 x12 x15 x16 x17 x18 x19 x20 x21 x22 x23 x24 x25 x26 x27 x28 x29 x30 x31 x32 x33 x34 x35 x36 x37 x38 x39 x40 x41 x42 x43 x44 x45 x46 x47 x48 x49 x50 x51 x52 x53 x54 x55 x90 x91 x92 x93 x94 x95 x96 x97 x98 x99 x100 x101 x102 x103 x104 x105 x106 x107 x108 x109 x110 x111 x112 x113 x114 x115 x116 x117 x118 x119 x120 x121 x122 x123 x124 x125 x126 x127 (f13 s') j') h') → (
  pv (lenV x12) fun t1 =>
  pv (binV .none .lss (f13 s) t1) fun t2 =>
  cnd t2 (
    lp (fun k2 => den Tryz.prog (sel (bodyOf Tryz.f4) [1, 1, 1, 1, 1, 1, 1, 1, 1, 0, 1, 0, 0, 1, 0, 0, 1, 0, 0]) (thenD k2 (blk 4 (blk 3 (thenD (den Tryz.prog (sel (bodyOf Tryz.f4) [1, 1, 1, 1, 1, 1, 1, 1, 1, 0, 1, 0, 0, 1, 1]) (thenD k1 (blk 2 (thenD (den Tryz.prog (sel (bodyOf Tryz.f4) [1, 1, 1, 1, 1, 1, 1, 1, 1, 1]) (bodyQ Tryz.prog Tryz.f4.results.toList K E)) (bodyQ Tryz.prog Tryz.f4.results.toList K E))))) (thenD k1 (blk 2 (thenD (den Tryz.prog (sel (bodyOf Tryz.f4) [1, 1, 1, 1, 1, 1, 1, 1, 1, 1]) (bodyQ Tryz.prog Tryz.f4.results.toList K E)) (bodyQ Tryz.prog Tryz.f4.results.toList K E))))))))) #[x0, x1, x2, x3, x4, x5, x6, x7, x8, x9, x10, x11, x12, (f13 s), (.int .i64 0), x15, x16, x17, x18, x19, x20, x21, x22, x23, x24, x25, x26, x27, x28, x29, x30, x31, x32, x33, x34, x35, x36, x37, x38, x39, x40, x41, x42, x43, x44, x45, x46, x47, x48, x49, x50, x51, x52, x53, x54, x55, (f13 s), x12, t1, t2, (j 60), (j 61), (j 62), (j 63), (j 64), (j 65), (j 66), (j 67), (j 68), (j 69), (j 70), (j 71), (j 72), (j 73), (j 74), (j 75), (j 76), (j 77), (j 78), (j 79), (j 80), (j 81), (j 82), (j 83), (j 84), (j 85), (j 86), (j 87), (j 88), (j 89), x90, x91, x92, x93, x94, x95, x96, x97, x98, x99, x100, x101, x102, x103, x104, x105, x106, x107, x108, x109, x110, x111, x112, x113, x114, x115, x116, x117, x118, x119, x120, x121, x122, x123, x124, x125, x126, x127]) (
    den Tryz.prog (sel (bodyOf Tryz.f4) [1, 1, 1, 1, 1, 1, 1, 1, 1, 1]) (bodyQ Tryz.prog Tryz.f4.results.toList K E) #[x0, x1, x2, x3, x4, x5, x6, x7, x8, x9, x10, x11, x12, (f13 s), (j 14), x15, x16, x17, x18, x19, x20, x21, x22, x23, x24, x25, x26, x27, x28, x29, x30, x31, x32, x33, x34, x35, x36, x37, x38, x39, x40, x41, x42, x43, x44, x45, x46, x47, x48, x49, x50, x51, x52, x53, x54, x55, (f13 s), x12, t1, t2, (j 60), (j 61), (j 62), (j 63), (j 64), (j 65), (j 66), (j 67), (j 68), (j 69), (j 70), (j 71), (j 72), (j 73), (j 74), (j 75), (j 76), (j 77), (j 78), (j 79), (j 80), (j 81), (j 82), (j 83), (j 84), (j 85), (j 86), (j 87), (j 88), (j 89), x90, x91, x92, x93, x94, x95, x96, x97, x98, x99, x100, x101, x102, x103, x104, x105, x106, x107, x108, x109, x110, x111, x112, x113, x114, x115, x116, x117, x118, x119, x120, x121, x122, x123, x124, x125, x126, x127])) h) :
  lp (fun k1 => den Tryz.prog (sel (bodyOf Tryz.f4) [1, 1, 1, 1, 1, 1, 1, 1, 1, 0, 1, 0, 0]) (thenD k1 (blk 2 (thenD (den Tryz.prog (sel (bodyOf Tryz.f4) [1, 1, 1, 1, 1, 1, 1, 1, 1, 1]) (bodyQ Tryz.prog Tryz.f4.results.toList K E)) (bodyQ Tryz.prog Tryz.f4.results.toList K E))))) #[x0, x1, x2, x3, x4, x5, x6, x7, x8, x9, x10, x11, x12, v13, y14, x15, x16, x17, x18, x19, x20, x21, x22, x23, x24, x25, x26, x27, x28, x29, x30, x31, x32, x33, x34, x35, x36, x37, x38, x39, x40, x41, x42, x43, x44, x45, x46, x47, x48, x49, x50, x51, x52, x53, x54, x55, y56, y57, y58, y59, y60, y61, y62, y63, y64, y65, y66, y67, y68, y69, y70, y71, y72, y73, y74, y75, y76, y77, y78, y79, y80, y81, y82, y83, y84, y85, y86, y87, y88, y89, x90, x91, x92, x93, x94, x95, x96, x97, x98, x99, x100, x101, x102, x103, x104, x105, x106, x107, x108, x109, x110, x111, x112, x113, x114, x115, x116, x117, x118, x119, x120, x121, x122, x123, x124, x125, x126, x127] h := by
  subst e13
  have e : (#[x0, x1, x2, x3, x4, x5, x6, x7, x8, x9, x10, x11, x12, (f13 s0), y14, x15, x16, x17, x18, x19, x20, x21, x22, x23, x24, x25, x26, x27, x28, x29, x30, x31, x32, x33, x34, x35, x36, x37, x38, x39, x40, x41, x42, x43, x44, x45, x46, x47, x48, x49, x50, x51, x52, x53, x54, x55, y56, y57, y58, y59, y60, y61, y62, y63, y64, y65, y66, y67, y68, y69, y70, y71, y72, y73, y74, y75, y76, y77, y78, y79, y80, y81, y82, y83, y84, y85, y86, y87, y88, y89, x90, x91, x92, x93, x94, x95, x96, x97, x98, x99, x100, x101, x102, x103, x104, x105, x106, x107, x108, x109, x110, x111, x112, x113, x114, x115, x116, x117, x118, x119, x120, x121, x122, x123, x124, x125, x126, x127] : Env) = m4_1_1_1_1_1_1_1_1_1_0_1_0_0 x0 x1 x2 x3 x4 x5 x6 x7 x8 x9 x10 x11 x12 x15 x16 x17 x18 x19 x20 x21 x22 x23 x24 x25 x26 x27 x28 x29 x30 x31 x32 x33 x34 x35 x36 x37 x38 x39 x40 x41 x42 x43 x44 x45 x46 x47 x48 x49 x50 x51 x52 x53 x54 x55 x90 x91 x92 x93 x94 x95 x96 x97 x98 x99 x100 x101 x102 x103 x104 x105 x106 x107 x108 x109 x110 x111 x112 x113 x114 x115 x116 x117 x118 x119 x120 x121 x122 x123 x124 x125 x126 x127 (f13 s0) (jf #[x0, x1, x2, x3, x4, x5, x6, x7, x8, x9, x10, x11, x12, (f13 s0), y14, x15, x16, x17, x18, x19, x20, x21, x22, x23, x24, x25, x26, x27, x28, x29, x30, x31, x32, x33, x34, x35, x36, x37, x38, x39, x40, x41, x42, x43, x44, x45, x46, x47, x48, x49, x50, x51, x52, x53, x54, x55, y56, y57, y58, y59, y60, y61, y62, y63, y64, y65, y66, y67, y68, y69, y70, y71, y72, y73, y74, y75, y76, y77, y78, y79, y80, y81, y82, y83, y84, y85, y86, y87, y88, y89, x90, x91, x92, x93, x94, x95, x96, x97, x98, x99, x100, x101, x102, x103, x104, x105, x106, x107, x108, x109, x110, x111, x112, x113, x114, x115, x116, x117, x118, x119, x120, x121, x122, x123, x124, x125, x126, x127]) := by kernel_rfl
  rw [e]
  exact loop_r (fun s j => m4_1_1_1_1_1_1_1_1_1_0_1_0_0 x0 x1 x2 x3 x4 x5 x6 x7 x8 x9 x10 x11 x12 x15 x16 x17 x18 x19 x20 x21 x22 x23 x24 x25 x26 x27 x28 x29 x30 x31 x32 x33 x34 x35 x36 x37 x38 x39 x40 x41 x42 x43 x44 x45 x46 x47 x48 x49 x50 x51 x52 x53 x54 x55 x90 x91 x92 x93 x94 x95 x96 x97 x98 x99 x100 x101 x102 x103 x104 x105 x106 x107 x108 x109 x110 x111 x112 x113 x114 x115 x116 x117 x118 x119 x120 x121 x122 x123 x124 x125 x126 x127 (f13 s) j) I μ (fun k s j h hI hw next => by rw [t4_1_1_1_1_1_1_1_1_1_0_1_0_0]; exact round k s j h hI hw next) s0 (jf #[x0, x1, x2, x3, x4, x5, x6, x7, x8, x9, x10, x11, x12, (f13 s0), y14, x15, x16, x17, x18, x19, x20, x21, x22, x23, x24, x25, x26, x27, x28, x29, x30, x31, x32, x33, x34, x35, x36, x37, x38, x39, x40, x41, x42, x43, x44, x45, x46, x47, x48, x49, x50, x51, x52, x53, x54, x55, y56, y57, y58, y59, y60, y61, y62, y63, y64, y65, y66, y67, y68, y69, y70, y71, y72, y73, y74, y75, y76, y77, y78, y79, y80, y81, y82, y83, y84, y85, y86, y87, y88, y89, x90, x91, x92, x93, x94, x95, x96, x97, x98, x99, x100, x101, x102, x103, x104, x105, x106, x107, x108, x109, x110, x111, x112, x113, x114, x115, x116, x117, x118, x119, x120, x121, x122, x123, x124, x125, x126, x127]) h0
theorem l4_1_1_1_1_1_1_1_1_1_0_1_0_0_1_0_0_1_0_0 {K : Kont} {E : PanK} {k1 : Env → Hp → Prop} {σ : Type} {x0 x1 x2 x3 x4 x5 x6 x7 x8 x9 x10 x11 x12 x13 x15 x16 x17 x18 x19 x20 x21 x22 x23 x24 x25 x26 x27 x28 x29 x30 x31 x32 x33 x34 x35 x36 x37 x38 x39 x40 x41 x42 x43 x44 x45 x46 x47 x48 x49 x50 x51 x52 x53 x54 x55 x56 x57 x58 x59 x60 x61 x90 x91 x92 x93 x94 x95 x96 x97 x98 x99 x100 x101 x102 x103 x104 x105 x106 x107 x108 x109 x110 x111 x112 x113 x114 x115 x116 x117 x118 x119 x120 x121 x122 x123 x124 x125 x126 x127 v14 y62 y63 y64 y65 y66 y67 y68 y69 y70 y71 y72 y73 y74 y75 y76 y77 y78 y79 y80 y81 y82 y83 y84 y85 y86 y87 y88 y89 : Value} {h : Hp} (f14 : σ → Value) (I : σ → Hp → Prop) (μ : σ → Nat) (s0 : σ) (e14 : v14 = f14 s0) (h0 : h.wf → ∃ h', h.wk h' ∧ I s0 h')
  (round : ∀ (k2 : Env → Hp → Prop) (s : σ) (j : Nat → Value) (h : Hp), I s h → h.wf → (∀ s' j' h', μ s' < μ s → (h'.wf → ∃ h'', h'.wk h'' ∧ I s' h'') → k2 (m4_1_1_1_1_1_1_1_1_1_0_1_0_0_1_0_0_1_0_0 x0 x1 x2 x3 x4 x5 x6 x7 x8 x9 x10 x11 x12 x13 x15 x16 x17 x18 x19 x20 x21 x22 x23 x24 x25 x26 x27 x28 x29 x30 x31 x32 x33 x34 x35 x36 x37 x38 x39 x40 x41 x42 x43 x44 x45 x46 x47 x48 x49 x50 x51 x52 x53 x54 x55 x56 x57 x58 x59 x60 x61 x90 x91 x92 x93 x94 x95 x96 x97 x98 x99 x100 x101 x102 x103 x104 x105 x106 x107 x108 x109 x110 x111 x112 x113 x114 x115 x116 x117 x118 x119 x120 x121 x122 x123 x124 x125 x126 x127 (f14 s') j') h') → (
  pv (iaV none 2 x12 x13) fun t1 =>
  pv (faV 1 t1) fun t2 =>
  ld false 1 t2 fun t3 =>
  pv (lenV t3) fun t4 =>
  pv (binV .none .lss (f14 s) t4) fun t5 =>
  cnd t5 (
    pv (iaV none 2 x12 x13) fun t6 =>
    pv (faV 1 t6) fun t7 =>
    ld false 1 t7 fun t8 =>
    pv (iaV none 2 t8 (f14 s)) fun t9 =>
    pv (faV 0 t9) fun t10 =>
    ld false 1 t10 fun t11 =>
    pv (iaV none 1 t11 (.int .i64 0)) fun t12 =>
    st 1 t12 (.int .i64 9999) fun _ =>
    pv (iaV none 2 x12 x13) fun t13 =>
    pv (faV 1 t13) fun t14 =>
    ld false 1 t14 fun t15 =>
    pv (iaV none 2 t15 (f14 s)) fun t16 =>
    pv (faV 1 t16) fun t17 =>
    st 1 t17 (.int .i64 78) fun _ =>
    pv (binV .none .add (f14 s) (.int .i64 1)) fun t18 =>
    k2 (m4_1_1_1_1_1_1_1_1_1_0_1_0_0_1_0_0_1_0_0 x0 x1 x2 x3 x4 x5 x6 x7 x8 x9 x10 x11 x12 x13 x15 x16 x17 x18 x19 x20 x21 x22 x23 x24 x25 x26 x27 x28 x29 x30 x31 x32 x33 x34 x35 x36 x37 x38 x39 x40 x41 x42 x43 x44 x45 x46 x47 x48 x49 x50 x51 x52 x53 x54 x55 x56 x57 x58 x59 x60 x61 x90 x91 x92 x93 x94 x95 x96 x97 x98 x99 x100 x101 x102 x103 x104 x105 x106 x107 x108 x109 x110 x111 x112 x113 x114 x115 x116 x117 x118 x119 x120 x121 x122 x123 x124 x125 x126 x127 t18 (jf #[x0, x1, x2, x3, x4, x5, x6, x7, x8, x9, x10, x11, x12, x13, t18, x15, x16, x17, x18, x19, x20, x21, x22, x23, x24, x25, x26, x27, x28, x29, x30, x31, x32, x33, x34, x35, x36, x37, x38, x39, x40, x41, x42, x43, x44, x45, x46, x47, x48, x49, x50, x51, x52, x53, x54, x55, x56, x57, x58, x59, x60, x61, (f14 s), x12, x13, t1, t2, t3, t4, t5, (f14 s), t18, x12, x13, t6, t7, t8, (f14 s), t9, t10, t11, t12, x12, x13, t13, t14, t15, (f14 s), t16, t17, x90, x91, x92, x93, x94, x95, x96, x97, x98, x99, x100, x101, x102, x103, x104, x105, x106, x107, x108, x109, x110, x111, x112, x113, x114, x115, x116, x117, x118, x119, x120, x121, x122, x123, x124, x125, x126, x127]))) (
    den Tryz.prog (sel (bodyOf Tryz.f4) [1, 1, 1, 1, 1, 1, 1, 1, 1, 0, 1, 0, 0, 1, 1]) (thenD k1 (blk 2 (thenD (den Tryz.prog (sel (bodyOf Tryz.f4) [1, 1, 1, 1, 1, 1, 1, 1, 1, 1]) (bodyQ Tryz.prog Tryz.f4.results.toList K E)) (bodyQ Tryz.prog Tryz.f4.results.toList K E)))) #[x0, x1, x2, x3, x4, x5, x6, x7, x8, x9, x10, x11, x12, x13, (f14 s), x15, x16, x17, x18, x19, x20, x21, x22, x23, x24, x25, x26, x27, x28, x29, x30, x31, x32, x33, x34, x35, x36, x37, x38, x39, x40, x41, x42, x43, x44, x45, x46, x47, x48, x49, x50, x51, x52, x53, x54, x55, x56, x57, x58, x59, x60, x61, (f14 s), x12, x13, t1, t2, t3, t4, t5, (j 70), (j 71), (j 72), (j 73), (j 74), (j 75), (j 76), (j 77), (j 78), (j 79), (j 80), (j 81), (j 82), (j 83), (j 84), (j 85), (j 86), (j 87), (j 88), (j 89), x90, x91, x92, x93, x94, x95, x96, x97, x98, x99, x100, x101, x102, x103, x104, x105, x106, x107, x108, x109, x110, x111, x112, x113, x114, x115, x116, x117, x118, x119, x120, x121, x122, x123, x124, x125, x126, x127])) h) :
  lp (fun k2 => den Tryz.prog (sel (bodyOf Tryz.f4) [1, 1, 1, 1, 1, 1, 1, 1, 1, 0, 1, 0, 0, 1, 0, 0, 1, 0, 0]) (thenD k2 (blk 4 (blk 3 (thenD (den Tryz.prog (sel (bodyOf Tryz.f4) [1, 1, 1, 1, 1, 1, 1, 1, 1, 0, 1, 0, 0, 1, 1]) (thenD k1 (blk 2 (thenD (den Tryz.prog (sel (bodyOf Tryz.f4) [1, 1, 1, 1, 1, 1, 1, 1, 1, 1]) (bodyQ Tryz.prog Tryz.f4.results.toList K E)) (bodyQ Tryz.prog Tryz.f4.results.toList K E))))) (thenD k1 (blk 2 (thenD (den Tryz.prog (sel (bodyOf Tryz.f4) [1, 1, 1, 1, 1, 1, 1, 1, 1, 1]) (bodyQ Tryz.prog Tryz.f4.results.toList K E)) (bodyQ Tryz.prog Tryz.f4.results.toList K E))))))))) #[x0, x1, x2, x3, x4, x5, x6, x7, x8, x9, x10, x11, x12, x13, v14, x15, x16, x17, x18, x19, x20, x21, x22, x23, x24, x25, x26, x27, x28, x29, x30, x31, x32, x33, x34, x35, x36, x37, x38, x39, x40, x41, x42, x43, x44, x45, x46, x47, x48, x49, x50, x51, x52, x53, x54, x55, x56, x57, x58, x59, x60, x61, y62, y63, y64, y65, y66, y67, y68, y69, y70, y71, y72, y73, y74, y75, y76, y77, y78, y79, y80, y81, y82, y83, y84, y85, y86, y87, y88, y89, x90, x91, x92, x93, x94, x95, x96, x97, x98, x99, x100, x101, x102, x103, x104, x105, x106, x107, x108, x109, x110, x111, x112, x113, x114, x115, x116, x117, x118, x119, x120, x121, x122, x123, x124, x125, x126, x127] h := by
  subst e14
  have e : (#[x0, x1, x2, x3, x4, x5, x6, x7, x8, x9, x10, x11, x12, x13, (f14 s0), x15, x16, x17, x18, x19, x20, x21, x22, x23, x24, x25, x26, x27, x28, x29, x30, x31, x32, x33, x34, x35, x36, x37, x38, x39, x40, x41, x42, x43, x44, x45, x46, x47, x48, x49, x50, x51, x52, x53, x54, x55, x56, x57, x58, x59, x60, x61, y62, y63, y64, y65, y66, y67, y68, y69, y70, y71, y72, y73, y74, y75, y76, y77, y78, y79, y80, y81, y82, y83, y84, y85, y86, y87, y88, y89, x90, x91, x92, x93, x94, x95, x96, x97, x98, x99, x100, x101, x102, x103, x104, x105, x106, x107, x108, x109, x110, x111, x112, x113, x114, x115, x116, x117, x118, x119, x120, x121, x122, x123, x124, x125, x126, x127] : Env) = m4_1_1_1_1_1_1_1_1_1_0_1_0_0_1_0_0_1_0_0 x0 x1 x2 x3 x4 x5 x6 x7 x8 x9 x10 x11 x12 x13 x15 x16 x17 x18 x19 x20 x21 x22 x23 x24 x25 x26 x27 x28 x29 x30 x31 x32 x33 x34 x35 x36 x37 x38 x39 x40 x41 x42 x43 x44 x45 x46 x47 x48 x49 x50 x51 x52 x53 x54 x55 x56 x57 x58 x59 x60 x61 x90 x91 x92 x93 x94 x95 x96 x97 x98 x99 x100 x101 x102 x103 x104 x105 x106 x107 x108 x109 x110 x111 x112 x113 x114 x115 x116 x117 x118 x119 x120 x121 x122 x123 x124 x125 x126 x127 (f14 s0) (jf #[x0, x1, x2, x3, x4, x5, x6, x7, x8, x9, x10, x11, x12, x13, (f14 s0), x15, x16, x17, x18, x19, x20, x21, x22, x23, x24, x25, x26, x27, x28, x29, x30, x31, x32, x33, x34, x35, x36, x37, x38, x39, x40, x41, x42, x43, x44, x45, x46, x47, x48, x49, x50, x51, x52, x53, x54, x55, x56, x57, x58, x59, x60, x61, y62, y63, y64, y65, y66, y67, y68, y69, y70, y71, y72, y73, y74, y75, y76, y77, y78, y79, y80, y81, y82, y83, y84, y85, y86, y87, y88, y89, x90, x91, x92, x93, x94, x95, x96, x97, x98, x99, x100, x101, x102, x103, x104, x105, x106, x107, x108, x109, x110, x111, x112, x113, x114, x115, x116, x117, x118, x119, x120, x121, x122, x123, x124, x125, x126, x127]) := by kernel_rfl
  rw [e]
  exact loop_r (fun s j => m4_1_1_1_1_1_1_1_1_1_0_1_0_0_1_0_0_1_0_0 x0 x1 x2 x3 x4 x5 x6 x7 x8 x9 x10 x11 x12 x13 x15 x16 x17 x18 x19 x20 x21 x22 x23 x24 x25 x26 x27 x28 x29 x30 x31 x32 x33 x34 x35 x36 x37 x38 x39 x40 x41 x42 x43 x44 x45 x46 x47 x48 x49 x50 x51 x52 x53 x54 x55 x56 x57 x58 x59 x60 x61 x90 x91 x92 x93 x94 x95 x96 x97 x98 x99 x100 x101 x102 x103 x104 x105 x106 x107 x108 x109 x110 x111 x112 x113 x114 x115 x116 x117 x118 x119 x120 x121 x122 x123 x124 x125 x126 x127 (f14 s) j) I μ (fun k s j h hI hw next => by rw [t4_1_1_1_1_1_1_1_1_1_0_1_0_0_1_0_0_1_0_0]; exact round k s j h hI hw next) s0 (jf #[x0, x1, x2, x3, x4, x5, x6, x7, x8, x9, x10, x11, x12, x13, (f14 s0), x15, x16, x17, x18, x19, x20, x21, x22, x23, x24, x25, x26, x27, x28, x29, x30, x31, x32, x33, x34, x35, x36, x37, x38, x39, x40, x41, x42, x43, x44, x45, x46, x47, x48, x49, x50, x51, x52, x53, x54, x55, x56, x57, x58, x59, x60, x61, y62, y63, y64, y65, y66, y67, y68, y69, y70, y71, y72, y73, y74, y75, y76, y77, y78, y79, y80, y81, y82, y83, y84, y85, y86, y87, y88, y89, x90, x91, x92, x93, x94, x95, x96, x97, x98, x99, x100, x101, x102, x103, x104, x105, x106, x107, x108, x109, x110, x111, x112, x113, x114, x115, x116, x117, x118, x119, x120, x121, x122, x123, x124, x125, x126, x127]) h0

end Go.Proofs.YtgjdjdjhoipfmaaGreatDoor.T
open Go Go.RowKit Go.Proofs.YtgjdjdjhoipfmaaGreatDoor.K Go.Proofs.YtgjdjdjhoipfmaaGreatDoor.T
set_option linter.unusedVariables false
set_option linter.unusedSimpArgs false
namespace Go.Proofs.YtgjdjdjhoipfmaaGreatDoor.A
variable {F F' : Nat → Option (List Value)} {M M' : Nat → Option Chunk} {N N' : Nat} {K : Kont} {E : PanK}
/-- A key that one may turn. -/
def wkey (M : Nat → Option Chunk) (v : Value) : Prop := ∃ b n c cs tot, v = .slice (some ⟨b, 0, none⟩) (n + 1) c ∧ M b = some (.cells 3 cs tot) ∧ 1 ≤ cs.length
def wfct (M : Nat → Option Chunk) (cs : List Value) (_ : Fc) : Prop := ∃ v x, cs = [v, .int .i64 x] ∧ wkey M v
/-- Numbers alone are turned. -/
structure tw (M M' : Nat → Option Chunk) : Prop where
  i : ∀ b cs tot, M b = some (.cells 3 cs tot) → ∃ cs', M' b = some (.cells 3 cs' tot) ∧ cs'.length = cs.length
  o : ∀ b, (∀ cs tot, M b ≠ some (.cells 3 cs tot)) → M' b = M b
theorem wkey.tw {v : Value} (h : wkey M v) (t : tw M M') : wkey M' v := by
  obtain ⟨b, n, c, cs, tot, e, h1, h2⟩ := h
  obtain ⟨cs', h3, h4⟩ := t.i b cs tot h1
  exact ⟨b, n, c, cs', tot, e, h3, by omega⟩
theorem wfct.tw {cs : List Value} {f : Fc} (h : wfct M cs f) (t : tw M M') : wfct M' cs f := let ⟨v, x, e, h1⟩ := h; ⟨v, x, e, h1.tw t⟩
theorem wkey.kp {v : Value} (h : wkey M v) (hM : ∀ q cs tot, M q = some (.cells 3 cs tot) → M' q = M q) : wkey M' v :=
  let ⟨b, n, c, cs, tot, e, h1, h2⟩ := h; ⟨b, n, c, cs, tot, e, (hM _ _ _ h1).trans h1, h2⟩
theorem wfct.kp {cs : List Value} {f : Fc} (h : wfct M cs f) (hM : ∀ q cs tot, M q = some (.cells 3 cs tot) → M' q = M q) : wfct M' cs f := let ⟨v, x, e, h1⟩ := h; ⟨v, x, e, h1.kp hM⟩
theorem wfct.one {cs : List Value} {f : Fc} (h : wfct M cs f) : cs.length = 2 ∧ ∀ c ∈ cs, c.oneCell' = true := by
  obtain ⟨v, x, rfl, b, n, c, cs, tot, rfl, _⟩ := h
  exact ⟨rfl, List.all_eq_true.1 rfl⟩
theorem ofct.w {B : Nat} {cs : List Value} {f : Fc} (h : ofct M B cs f) (h1 : 0 < f.1.length) : wfct M cs f := by
  obtain ⟨v, rfl, hv, _⟩ := h
  rcases hv.2 with ⟨_, h0⟩ | ⟨b, c, rest, rfl, g1, g2, g3, g4⟩
  · omega
  · exact ⟨_, _, rfl, b, f.1.length - 1, c, _, _, by rw [Nat.sub_add_cancel h1], g4, by rw [List.length_append]; simp [ic]; omega⟩
/-- key[0] = x -/
theorem wkey_r {v : Value} {x : Int} {K : Value → Kont} (h : wkey M v) (k : ∀ p M', tw M M' → (∀ n, clean M n → clean M' n) → K p undef ⟨F, M', N⟩) : pv (iaV none 1 v (.int .i64 0)) (fun p => st 1 p (.int .i64 x) (K p)) ⟨F, M, N⟩ := by
  obtain ⟨b, n, c, cs, tot, rfl, h1, h2⟩ := h
  refine iaN_r (i := 0) (by omega) ?_
  refine st_r (cs' := cs.set 0 (.int .i64 x)) h1 rfl (List.all_eq_true.1 rfl) (by omega) (splice_one (by omega) _) (k _ _ ⟨fun b' cs2 tot2 hb' => ?_, fun b' hb' => ?_⟩ (fun m hc => hc.set (hc.lt h1) _))
  · by_cases e : b' = b
    · subst e
      rw [h1] at hb'
      cases hb'
      exact ⟨_, upd_same _ _ _, by rw [List.length_set]⟩
    · exact ⟨cs2, (upd_ne _ _ e).trans hb', rfl⟩
  · exact upd_ne _ _ (fun e => by subst e; exact hb' _ _ h1)
/-- l[i].Key[0] = x -/
theorem turnK {B i : Nat} {v : Value} {fs : List Fc} {rows : List (List Value)} {x : Int} {K : Value → Value → Value → Value → Kont} (ho : own M B 48 2 v fs.length rows.flatten) (hr : rowsF (wfct M) 2 rows fs) (hi : i < fs.length)
    (k : ∀ p q w r M', own M' B 48 2 v fs.length rows.flatten → rowsF (wfct M') 2 rows fs → tw M M' → (∀ n, clean M n → clean M' n) → K p q w r undef ⟨F, M', N⟩) :
    pv (iaV none 2 v (.int .i64 (i : Nat))) (fun p => pv (faV 0 p) fun q => ld false 1 q fun w => pv (iaV none 1 w (.int .i64 0)) fun r => st 1 r (.int .i64 x) (K p q w r)) ⟨F, M, N⟩ := by
  refine ofld_r ho hr (off := 0) (by decide) hi (fun b c r y _ _ _ hR _ hy => ?_)
  obtain ⟨w, n, rfl, hw⟩ := hR
  simp only [List.getElem?_cons_zero, Option.some.injEq] at hy
  subst hy
  refine wkey_r hw (fun p M' t hc => ?_)
  exact k _ _ _ _ M' (ho.kp (fun q cs tot h => t.o q (fun cs2 tot2 h2 => by rw [h] at h2; cases h2)) (Nat.le_refl _)) (hr.mono fun _ _ h => h.tw t) t hc
/-- l[i].V = y -/
theorem turnV {B i : Nat} {v : Value} {fs : List Fc} {rows : List (List Value)} {y : Int} {K : Value → Value → Kont} (ho : own M B 48 2 v fs.length rows.flatten) (hr : rowsF (wfct M) 2 rows fs) (hi : i < fs.length)
    (k : ∀ p q M' rows', own M' B 48 2 v fs.length rows'.flatten → rowsF (wfct M') 2 rows' fs → (∀ b, (∀ cs tot, M b ≠ some (.cells 48 cs tot)) → M' b = M b) → (∀ n, clean M n → clean M' n) → K p q undef ⟨F, M', N⟩) :
    pv (iaV none 2 v (.int .i64 (i : Nat))) (fun p => pv (faV 1 p) fun q => st 1 q (.int .i64 y) (K p q)) ⟨F, M, N⟩ := by
  refine oput_r (off := 1) (u := .int .i64 y) (y := fs[i]) ho hr (by decide) hi rfl rfl (fun r hr1 => ?_) (fun p q M' rows' h1 h2 h3 h4 => ?_)
  · obtain ⟨r', e1, hR, _⟩ := hr.get (List.getElem?_eq_getElem hi)
    rw [hr1] at e1
    cases e1
    obtain ⟨w, n, rfl, hw⟩ := hR
    exact ⟨w, y, rfl, hw⟩
  · rw [List.set_getElem_self] at h1 h2
    have hne : ∀ b, (∀ cs tot, M b ≠ some (.cells 48 cs tot)) → M' b = M b := fun b hb => h3 b (fun e => by obtain ⟨cs, tot, h⟩ := ho.cell b e; exact hb cs tot h)
    exact k p q M' rows' h1 (h2.mono fun _ _ h => h.kp (fun q cs tot h5 => hne q (fun cs2 tot2 h6 => by rw [h5] at h6; cases h6))) hne h4
/-- Nothing but numbers and facts is turned. -/
def fo (M M' : Nat → Option Chunk) : Prop := ∀ b, (∀ cs tot, M b ≠ some (.cells 3 cs tot) ∧ M b ≠ some (.cells 48 cs tot)) → M' b = M b
theorem fo.refl : fo M M := fun _ _ => rfl
theorem fo.trans {M'' : Nat → Option Chunk} (h : fo M M') (k : fo M' M'') : fo M M'' := fun b hb => by
  have h1 := h b hb
  exact (k b (fun cs tot => by rw [h1]; exact hb cs tot)).trans h1
theorem tw.fo (t : tw M M') : fo M M' := fun b hb => t.o b (fun cs tot => (hb cs tot).1)
theorem fo_of (h : ∀ b, (∀ cs tot, M b ≠ some (.cells 48 cs tot)) → M' b = M b) : fo M M' := fun b hb => h b (fun cs tot => (hb cs tot).2)
theorem isCube.fo {B g : Nat} {hv dv : Value} {rows : List (List Value)} {l : List Dm} {h : List En} (hC : isCube F M B g hv dv rows l h) (ho : fo M M') : isCube F M' B g hv dv rows l h :=
  hC.keep (subF.refl _) (fun q hq => ho q (fun cs tot => by
    rcases hq with rfl | hq
    · rw [hC.gg]; exact ⟨(by intro e; cases e), (by intro e; cases e)⟩
    · obtain ⟨cs2, tot2, h2⟩ := hC.oo.cell q hq
      rw [h2]; exact ⟨(by intro e; cases e), (by intro e; cases e)⟩))
theorem entOwn {fs : List Fc} (hp : ∀ f ∈ fs, inR 0 10000 f = true) : entF 0 10000 [(3, fs)] = if fs.length = 0 then [] else [(3, fs)] := by
  have hf : fs.filter (inR 0 10000) = fs := List.filter_eq_self.2 hp
  unfold entF
  simp only [List.filterMap_cons, List.filterMap_nil]
  unfold entE
  simp only [hf]
  by_cases h : fs.length = 0
  · rw [if_pos h, if_neg (by omega)]
  · rw [if_neg h, if_pos (by omega)]
set_option maxRecDepth 10000 in
set_option maxHeartbeats 16000000 in
/-- CubeOwn -/
theorem cubeOwn_c {um uk uv : Value} {m : List (Int × List Int)} {ks : List (List Int)} {c : List Int} (hm : cutsD F um m) (hml : m.length ≤ 140737488351232) (hmc : ∀ c ∈ m, (0 ≤ c.1 ∧ c.1 < 65536) ∧ ∀ x ∈ c.2, 0 ≤ x ∧ x < 256)
    (hk : kksD .u16 F uk ks) (hkl : ks.length ≤ 140737488351232) (hkc : ∀ k ∈ ks, ∀ x ∈ k, 0 ≤ x ∧ x < 65536) (hv : sF F 1 uv c.length (ic c)) (hcl : c.length ≤ 140737488351232) (k : ∀ h, K (.bool true) h) :
    call Tryz.prog 4 #[um, uk, uv] K E ⟨F, M, N⟩ := by
  refine call_text mixed Tryz.func4 (by kernel_rfl) (t4 _ E _ _ _) (fun hw => ?_)
  have hm0 : clean M N := hw.m
  have kn : ∀ {M : Nat → Option Chunk} {F : Nat → Option (List Value)} {N : Nat}, callv Tryz.prog (.func (.func 11) #[] #[]) #[] (fun v h => h.wf → ∃ h', h.wk h' ∧ (h'.wf → K v h')) E ⟨F, M, N⟩ := known13_c (fun F' N' _ _ _ hc => ⟨_, wk_refl hc, fun _ => k _⟩)
  have hlk : lenV uk = some (.int .i64 (ks.length : Nat)) := by obtain ⟨rows, h1, _⟩ := hk; obtain ⟨a, c, e, _⟩ := h1.form; rw [e]; rfl
  refine pv_r hlk ?_
  refine gtr_r (fun h1 => ?_) (fun h1 => ?_)
  · try simp only [gdTT, gdFF, gdTF, gdFT, pvS, pickT, pickF, faP, lenS, capS, nilP, exA, exB, exC, notB, cndT, cndF, Bool.not_true, Bool.not_false, Nat.zero_add, Nat.add_zero]; exact kn
  try simp only [gdTT, gdFF, gdTF, gdFT, pvS, pickT, pickF, faP, lenS, capS, nilP, exA, exB, exC, notB, cndT, cndF, Bool.not_true, Bool.not_false, Nat.zero_add, Nat.add_zero]
  refine known13_c (fun F2 N2 hF2 hN2 hw2 => ?_)
  try simp only [gdTT, gdFF, gdTF, gdFT, pvS, pickT, pickF, faP, lenS, capS, nilP, exA, exB, exC, notB, cndT, cndF, Bool.not_true, Bool.not_false, Nat.zero_add, Nat.add_zero]
  have hgd := dimsOf_good m (fun c hc => (hmc c hc).1)
  have hok := dimsOf_ok (m := m) (fun c hc => (hmc c hc).1)
  refine dof_c (hm.mono hF2) hml hmc (fun udv F3 N3 hw3 hF3 hN3 hd => ?_)
  generalize dimsOf m = l at *
  have hl4 := hgd.2.1
  have hl0 := hgd.1
  have hds := goodDims_sz hgd
  refine new_c hd (by omega) (fun h => absurd h (by rw [hok]; decide)) (fun _ g dv F4 M4 N4 hF4 hC hM4 hN4 hm4 hw4 => ?_)
  refine ptr_ne ?_
  try simp only [gdTT, gdFF, gdTF, gdFT, pvS, pickT, pickF, faP, lenS, capS, nilP, exA, exB, exC, notB, cndT, cndF, Bool.not_true, Bool.not_false, Nat.zero_add, Nat.add_zero]
  have F24 := hF3.trans hF4
  have hd4 := hd.mono hF4
  have hk4 := (hk.mono hF2).mono F24
  have hv4 := (hv.mono hF2).mono F24
  refine facts_o hd4 hk4 hv4 (by omega) hds hkc hkl hcl (fun fv M5 N5 hw5 hM5 hN5 hf => ?_)
  have hm5 : clean M5 N5 := hw5.m
  have hfit := facts_fit hgd ks c
  have hfl := factsOf_len l ks c
  obtain ⟨fs, hfs⟩ : ∃ fs, fs = factsOf l ks c := ⟨_, rfl⟩
  rw [← hfs] at hf hfit hfl
  obtain ⟨f1, f2⟩ := fitsF_of hfit
  have hC5 : isCube F4 M5 N3 g (.slice none 0 0) dv [] l [] := hC.keep (subF.refl _) (fun q hq => hM5 q (hC.lt hm4 q hq).2)
  have hE : addE l [] 3 fs = 0 := by unfold addE; rw [hfit]; rfl
  have hH : addH l [] 3 fs = [(3, fs)] := by unfold addH; rw [hE]; rfl
  refine add_to_i (t := 3) hC5 (by omega) (by omega) (by simp) (by omega) hf (by omega) (fun hv6 F6 M6 N6 rows6 hF6 hC6 hM6 hN6 hm6 hw6 => ?_)
  rw [hH] at hC6
  rw [hE]
  have hkp6 : ∀ q cs tot, M5 q = some (.cells 3 cs tot) ∨ M5 q = some (.cells 48 cs tot) → M6 q = M5 q := fun q cs tot h => (hM6 q (by simp [Value.ownBlock]) (fun e => by subst e; rw [hC5.gg] at h; rcases h with h | h <;> cases h) (h.elim hm5.lt hm5.lt)).1
  have hf6 := hf.kp hkp6 (B' := N4)
  obtain ⟨frows, ho6, hr6⟩ := hf6
  have hr6' : rowsF (wfct M6) 2 frows fs := by
    refine ⟨hr6.len, hr6.one, hr6.all.1, fun j a b ha hb => (hr6.all.2 j a b ha hb).w ?_⟩
    have := inF_len (f2 b (List.mem_of_getElem? hb)); omega
  have hlf : lenV fv = some (.int .i64 (fs.length : Nat)) := by obtain ⟨a, c, e, _⟩ := ho6.form; rw [e]; rfl
  have o6 : okH l 5000 200 [(3, fs)] := by have := (okH.nil l 5000 200).add (t := 3) (by omega) fs; rw [hH] at this; exact this
  have hinr : ∀ f ∈ fs, inR 0 10000 f = true := fun f hf => inR_all hgd (f2 f hf)
  have hgN := (hC.lt hm4 g (.inl rfl)).2
  clear hr6 hf hC5 hkp6 hM6 hC hM5
  refine l4_1_1_1_1_1_1_1_0_1_0_0 (σ := Nat) (fun i => .int .i64 (i : Nat))
    (fun i h' => ∃ M' rows, h' = ⟨F6, M', N6⟩ ∧ own M' N4 48 2 fv fs.length rows.flatten ∧ rowsF (wfct M') 2 rows fs ∧ clean M' N6 ∧ fo M6 M') (fun i => fs.length - i) 0 rfl
    (fun hw7 => ⟨_, wk_refl hw7, M6, frows, rfl, ho6, hr6', hm6, fo.refl⟩) (fun kk i j h7 hI hw7 next => ?_)
  obtain ⟨M7, rows7, rfl, ho7, hr7, hm7, hfo7⟩ := hI
  refine pv_r hlf ?_
  refine lss_r (fun hlt => ?_) (fun hge => ?_)
  · have i1 : i < fs.length := by omega
    try simp only [gdTT, gdFF, gdTF, gdFT, pvS, pickT, pickF, faP, lenS, capS, nilP, exA, exB, exC, notB, cndT, cndF, Bool.not_true, Bool.not_false, Nat.zero_add, Nat.add_zero]
    refine turnK ho7 hr7 i1 (fun _ _ _ _ M8 ho8 hr8 t8 hm8 => ?_)
    refine turnV ho8 hr8 i1 (fun _ _ M9 rows9 ho9 hr9 t9 hm9 => ?_)
    refine inc_r (by omega) ?_
    exact next (i + 1) _ _ (by omega) (fun hw8 => ⟨_, wk_refl hw8, M9, rows9, rfl, ho9, hr9, hm9 _ (hm8 _ hm7), hfo7.trans (t8.fo.trans (fo_of t9))⟩)
  try simp only [gdTT, gdFF, gdTF, gdFT, pvS, pickT, pickF, faP, lenS, capS, nilP, exA, exB, exC, notB, cndT, cndF, Bool.not_true, Bool.not_false, Nat.zero_add, Nat.add_zero]
  rw [t4_1_1_1_1_1_1_1_1]
  have hC7 := hC6.fo hfo7
  clear hC6 hfo7 ho7 hr7 ho6 hr6' hm6
  refine entries_o (a := 0) (b := 10000) hC7 o6 (by omega) (fun e he f hf => by rw [List.mem_singleton.1 he] at hf; exact hinr f hf) (fun xv F8 M8 N8 erows hw8 hF8 hN8 hM8 hm8 hox hrx => ?_)
  have hC8 := hC7.keep hF8 (fun q hq => hM8 q (hC7.lt hm7 q hq).2)
  rw [entOwn hinr] at hox hrx
  have F68 := hF6.trans hF8
  obtain ⟨es, hes⟩ : ∃ es, es = (if fs.length = 0 then [] else [((3 : Int), fs)] : List En) := ⟨_, rfl⟩
  rw [← hes] at hox hrx
  have hel : es.length ≤ 1 := by rw [hes]; split <;> simp
  have hlx : lenV xv = some (.int .i64 (es.length : Nat)) := by obtain ⟨a, c, e, _⟩ := hox.form; rw [e]; rfl
  refine l4_1_1_1_1_1_1_1_1_1_0_1_0_0 (σ := Nat) (fun i => .int .i64 (i : Nat))
    (fun i h' => ∃ M', h' = ⟨F8, M', N8⟩ ∧ clean M' N8 ∧ fo M8 M' ∧ (i = 0 → M' = M8)) (fun i => es.length - i) 0 rfl
    (fun hw9 => ⟨_, wk_refl hw9, M8, rfl, hm8, fo.refl, fun _ => rfl⟩) (fun k9 i j h9 hI hw9 next => ?_)
  obtain ⟨M9, rfl, hm9, hfo9, h09⟩ := hI
  refine pv_r hlx ?_
  refine lss_r (fun hlt => ?_) (fun hge => ?_)
  · have i0 : i = 0 := by omega
    subst i0
    have e9 := h09 rfl
    subst e9
    have i1 : 0 < es.length := by omega
    have hne : fs.length ≠ 0 := fun e => by rw [hes, if_pos e] at i1; simp at i1
    rw [if_neg hne] at hes
    subst hes
    obtain ⟨r0, hr0, hR0, _⟩ := hrx.get (i := 0) (x := ((3 : Int), fs)) rfl
    obtain ⟨fv2, e0, hf2⟩ := hR0
    subst e0
    obtain ⟨frows2, ho2, hr2⟩ := hf2
    have hr2' : rowsF (wfct M9) 2 frows2 fs := by
      refine ⟨hr2.len, hr2.one, hr2.all.1, fun j a b ha hb => (hr2.all.2 j a b ha hb).w ?_⟩
      have := inF_len (f2 b (List.mem_of_getElem? hb)); omega
    have hrR : rowsF (fun r (e : En) => r = [.int .u32 3, fv2]) 2 erows [((3 : Int), fs)] := by
      refine ⟨hrx.len, hrx.one, hrx.all.1, fun j a b ha hb => ?_⟩
      have hj : j = 0 := by have := (List.getElem?_eq_some_iff.1 hb).1; simp at this; omega
      subst hj
      rw [hr0] at ha; cases ha; rfl
    have hlf2 : lenV fv2 = some (.int .i64 (fs.length : Nat)) := by obtain ⟨a, c, e, _⟩ := ho2.form; rw [e]; rfl
    try simp only [gdTT, gdFF, gdTF, gdFT, pvS, pickT, pickF, faP, lenS, capS, nilP, exA, exB, exC, notB, cndT, cndF, Bool.not_true, Bool.not_false, Nat.zero_add, Nat.add_zero]
    refine l4_1_1_1_1_1_1_1_1_1_0_1_0_0_1_0_0_1_0_0 (σ := Nat) (fun i => .int .i64 (i : Nat))
      (fun i h' => ∃ M' rows, h' = ⟨F8, M', N8⟩ ∧ own M' N6 52 2 xv 1 erows.flatten ∧ own M' N6 48 2 fv2 fs.length rows.flatten ∧ rowsF (wfct M') 2 rows fs ∧ clean M' N8 ∧ fo M9 M') (fun i => fs.length - i) 0 rfl
      (fun hw10 => ⟨_, wk_refl hw10, M9, frows2, rfl, hox, ho2, hr2', hm9, fo.refl⟩) (fun k10 i j10 h10 hI hw10 next10 => ?_)
    obtain ⟨M10, rows10, rfl, hox10, ho10, hr10, hm10, hfo10⟩ := hI
    refine ofld_r (l := [((3 : Int), fs)]) (i := 0) hox10 hrR (off := 1) (by decide) (by simp) (fun b c r y _ _ _ hR _ hy => ?_)
    subst hR
    simp only [List.getElem?_cons_zero, List.getElem?_cons_succ, Option.some.injEq] at hy
    subst hy
    refine pv_r hlf2 ?_
    refine lss_r (fun hlt => ?_) (fun hge => ?_)
    · have i2 : i < fs.length := by omega
      try simp only [gdTT, gdFF, gdTF, gdFT, pvS, pickT, pickF, faP, lenS, capS, nilP, exA, exB, exC, notB, cndT, cndF, Bool.not_true, Bool.not_false, Nat.zero_add, Nat.add_zero]
      refine ofld_r (l := [((3 : Int), fs)]) (i := 0) hox10 hrR (off := 1) (by decide) (by simp) (fun b c r y _ _ _ hR _ hy => ?_)
      subst hR
      simp only [List.getElem?_cons_zero, List.getElem?_cons_succ, Option.some.injEq] at hy
      subst hy
      refine turnK ho10 hr10 i2 (fun _ _ _ _ M11 ho11 hr11 t11 hm11 => ?_)
      have hox11 : own M11 N6 52 2 xv 1 erows.flatten := hox10.kp (fun q cs tot h => t11.o q (fun cs2 tot2 h2 => by rw [h] at h2; cases h2)) (Nat.le_refl _)
      refine ofld_r (l := [((3 : Int), fs)]) (i := 0) hox11 hrR (off := 1) (by decide) (by simp) (fun b c r y _ _ _ hR _ hy => ?_)
      subst hR
      simp only [List.getElem?_cons_zero, List.getElem?_cons_succ, Option.some.injEq] at hy
      subst hy
      refine turnV ho11 hr11 i2 (fun _ _ M12 rows12 ho12 hr12 t12 hm12 => ?_)
      have hox12 : own M12 N6 52 2 xv 1 erows.flatten := hox11.kp (fun q cs tot h => t12 q (fun cs2 tot2 h2 => by rw [h] at h2; cases h2)) (Nat.le_refl _)
      refine inc_r (by omega) ?_
      exact next10 (i + 1) _ _ (by omega) (fun hw11 => ⟨_, wk_refl hw11, M12, rows12, rfl, hox12, ho12, hr12, hm12 _ (hm11 _ hm10), hfo10.trans (t11.fo.trans (fo_of t12))⟩)
    · try simp only [gdTT, gdFF, gdTF, gdFT, pvS, pickT, pickF, faP, lenS, capS, nilP, exA, exB, exC, notB, cndT, cndF, Bool.not_true, Bool.not_false, Nat.zero_add, Nat.add_zero]
      rw [t4_1_1_1_1_1_1_1_1_1_0_1_0_0_1_1]
      refine inc_r (a := 0) (by omega) ?_
      exact next 1 _ _ (by simp) (fun hw11 => ⟨_, wk_refl hw11, M10, rfl, hm10, hfo10, fun e => by omega⟩)
  try simp only [gdTT, gdFF, gdTF, gdFT, pvS, pickT, pickF, faP, lenS, capS, nilP, exA, exB, exC, notB, cndT, cndF, Bool.not_true, Bool.not_false, Nat.zero_add, Nat.add_zero]
  rw [t4_1_1_1_1_1_1_1_1_1_1]
  have hC9 := hC8.fo hfo9
  refine facts_c (hd4.mono F68) (hk4.mono F68) (hv4.mono F68) (by omega) hds hkc hkl hcl (fun wv F10 N10 hw10 hF10 hN10 hwv => ?_)
  rw [← hfs] at hwv
  have hC10 := hC9.keep hF10 (fun _ _ => rfl)
  refine centries_c (a := 0) (b := 10000) hC10 o6 (by omega) (fun yv F11 N11 hw11 hF11 hN11 hyv => ?_)
  rw [entOwn hinr] at hyv
  have hlw : lenV wv = some (.int .i64 (fs.length : Nat)) := by obtain ⟨a, c, e⟩ := hwv.form; rw [e]; rfl
  refine pv_r hlw ?_
  refine eql_r (fun h0 => ?_) (fun h0 => ?_)
  · have h0' : fs.length = 0 := by omega
    rw [if_pos h0'] at hyv
    obtain ⟨a, c, e⟩ := hyv.form
    subst e
    try simp only [gdTT, gdFF, gdTF, gdFT, pvS, pickT, pickF, faP, lenS, capS, nilP, exA, exB, exC, notB, cndT, cndF, Bool.not_true, Bool.not_false, Nat.zero_add, Nat.add_zero]
    refine eql_t rfl ?_
    try simp only [gdTT, gdFF, gdTF, gdFT, pvS, pickT, pickF, faP, lenS, capS, nilP, exA, exB, exC, notB, cndT, cndF, Bool.not_true, Bool.not_false, Nat.zero_add, Nat.add_zero]
    refine eql_t rfl ?_
    try simp only [gdTT, gdFF, gdTF, gdFT, pvS, pickT, pickF, faP, lenS, capS, nilP, exA, exB, exC, notB, cndT, cndF, Bool.not_true, Bool.not_false, Nat.zero_add, Nat.add_zero]
    exact fun hc => ⟨_, wk_refl hc, fun _ => k _⟩
  · have h0' : fs.length ≠ 0 := by omega
    rw [if_neg h0'] at hyv
    have hly : lenV yv = some (.int .i64 1) := by obtain ⟨a, c, e⟩ := hyv.form; rw [e]; rfl
    obtain ⟨yrows, hy1, hy2⟩ := hyv
    try simp only [gdTT, gdFF, gdTF, gdFT, pvS, pickT, pickF, faP, lenS, capS, nilP, exA, exB, exC, notB, cndT, cndF, Bool.not_true, Bool.not_false, Nat.zero_add, Nat.add_zero]
    refine eql_t rfl ?_
    try simp only [gdTT, gdFF, gdTF, gdFT, pvS, pickT, pickF, faP, lenS, capS, nilP, exA, exB, exC, notB, cndT, cndF, Bool.not_true, Bool.not_false, Nat.zero_add, Nat.add_zero]
    refine pv_r hly ?_
    refine eql_t rfl ?_
    try simp only [gdTT, gdFF, gdTF, gdFT, pvS, pickT, pickF, faP, lenS, capS, nilP, exA, exB, exC, notB, cndT, cndF, Bool.not_true, Bool.not_false, Nat.zero_add, Nat.add_zero]
    refine fld_r (l := [((3 : Int), fs)]) hy1 hy2 (by decide) (i := 0) (by simp) (off := 0) (by decide) fun p q r x hR _ hx => ?_
    obtain ⟨u, rfl, _, _⟩ := hR
    simp only [List.getElem?_cons_zero, Option.some.injEq] at hx
    subst hx
    refine eql_t rfl ?_
    try simp only [gdTT, gdFF, gdTF, gdFT, pvS, pickT, pickF, faP, lenS, capS, nilP, exA, exB, exC, notB, cndT, cndF, Bool.not_true, Bool.not_false, Nat.zero_add, Nat.add_zero]
    refine fld_r (l := [((3 : Int), fs)]) hy1 hy2 (by decide) (i := 0) (by simp) (off := 1) (by decide) fun p q r x hR _ hx => ?_
    obtain ⟨u, rfl, hu, _⟩ := hR
    simp only [List.getElem?_cons_zero, List.getElem?_cons_succ, Option.some.injEq] at hx
    subst hx
    have henc := encFs_le (m := 200) (d := 4) (fs := fs) (by omega) (fun f hf => by have := inF_len (f2 f hf); omega)
    refine samef_c (l := fs) hu (hwv.mono hF11) (by omega) (by omega) (fun N12 hN12 hw12 => ?_)
    try simp only [gdTT, gdFF, gdTF, gdFT, pvS, pickT, pickF, faP, lenS, capS, nilP, exA, exB, exC, notB, cndT, cndF, Bool.not_true, Bool.not_false, Nat.zero_add, Nat.add_zero]
    exact fun hc => ⟨_, wk_refl hc, fun _ => k _⟩
end Go.Proofs.YtgjdjdjhoipfmaaGreatDoor.A
open Go Go.RowKit Go.Proofs.YtgjdjdjhoipfmaaGreatDoor.K Go.Proofs.YtgjdjdjhoipfmaaGreatDoor.T
set_option linter.unusedVariables false
set_option linter.unusedSimpArgs false
namespace Go.Proofs.YtgjdjdjhoipfmaaGreatDoor.A
variable {F F' : Nat → Option (List Value)} {M M' : Nat → Option Chunk} {N N' : Nat} {K : Kont} {E : PanK}
theorem CubeOwn_true (v0 v1 v2 : Value) {y0 : List (Int × List Int)} {y1 : List (List Int)} {y2 : List Int} (W : World) (h0 : rS 2 rCut (F0 W) [v0] y0) (h1 : rS 1 (rS 1 (rI .u16)) (F0 W) [v1] y1) (h2 : rS 1 (rI .i64) (F0 W) [v2] y2) :
    Calls Tryz.prog 4 #[v0, v1, v2] W fun e w' => e = .returned (.bool true) ∧ Below W.heap.size W w' :=
  have b := cuts_of h0
  have d := lists_of h1
  have c := list_of h2
  fin_true (cubeOwn_c b.1 b.2.1 b.2.2 d.1 d.2.1 (fun k hk x hx => wf_u16 (d.2.2 k hk x hx)) c.1 c.2.2 fun _ => rfl)
end Go.Proofs.YtgjdjdjhoipfmaaGreatDoor.A
