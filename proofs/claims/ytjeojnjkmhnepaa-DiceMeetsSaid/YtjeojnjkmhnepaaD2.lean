/- The contracts of dice.Within and of its closure are proved here: they say of every three slices whether the key lies in the box. -/
import Derived.Test.YtjeojnjkmhnepaaProg
import Derived.Below
import Derived.Deep.Draws
import Derived.Deep.AppendLies
import Derived.Maps.AppendAt
import Derived.OwnWalk
import Derived.Laws.BytesArg
import Derived.Laws.MakeOwn
import Derived.Laws.OwnMore
import Derived.Deep.OwnRows
import Derived.Tactics
import Derived.Lib.ConvBytes
import Derived.Laws.Slices
import Derived.WalkKit
import Derived.KernelRfl
import Derived.RowKit3
import Derived.Deep.LoopGhost
import Derived.Deep.QuietTactic
import Derived.BigQuiet
import Derived.WideLaws
import Derived.Deep.DeepCutAuto
import Derived.Deep.CutBlock
import Derived.Deep.RegionHeld3
import Derived.Laws.Rows
import Derived.Lib.AppendStr
import Derived.ArgAppend
import Derived.Laws.IdiomCopy
import Derived.OrdersHeld
import Derived.Laws.BitsLemmas
import Derived.RowKit
import Derived.Test.YtjeojnjkmhnepaaWWords
import Derived.Test.YtjeojnjkmhnepaaWLast
import Derived.Test.YtjeojnjkmhnepaaWTab
import Derived.Test.YtjeojnjkmhnepaaWFour
import Derived.Test.YtjeojnjkmhnepaaWQPut
import Derived.Test.YtjeojnjkmhnepaaWApart
import Derived.Test.YtjeojnjkmhnepaaWArr
import Derived.Test.YtjeojnjkmhnepaaWZeros
import Derived.Test.YtjeojnjkmhnepaaWFoot
import Derived.Test.YtjeojnjkmhnepaaWKept
import Derived.Test.YtjeojnjkmhnepaaWShare
import Derived.Test.YtjeojnjkmhnepaaWN
import Derived.Test.YtjeojnjkmhnepaaWFootNe
import Derived.Test.YtjeojnjkmhnepaaWAt
import Derived.Test.YtjeojnjkmhnepaaWEqStruct
import Derived.Test.YtjeojnjkmhnepaaWRepsOne
import Derived.Test.YtjeojnjkmhnepaaWInv
import Derived.Test.YtjeojnjkmhnepaaWInvWords
import Derived.Test.YtjeojnjkmhnepaaWGuard
import Derived.Test.YtjeojnjkmhnepaaWNEv
import Derived.Test.YtjeojnjkmhnepaaWMore
import Derived.Test.YtjeojnjkmhnepaaD1
open Go Go.RowKit Go.Proofs.YtjeojnjkmhnepaaW.PrintWords Go.Proofs.YtjeojnjkmhnepaaW.PrintLast Go.Proofs.YtjeojnjkmhnepaaW.PrintMore
set_option linter.unusedVariables false
set_option linter.unusedSimpArgs false
namespace Go.Proofs.Ytjeojnjkmhnepaa.Dice
def withinP (l0 l1 l2 : List Int) (i : Nat) : Bool := decide (rd l0 i ≤ rd l2 i) && decide (rd l2 i < rd l1 i)
set_option maxHeartbeats 8000000 in
set_option maxRecDepth 100000 in
theorem within1_calls (A0 : Option Addr) (c0 : Nat) (l0 : List Int) (A1 : Option Addr) (c1 : Nat) (l1 : List Int) (A2 : Option Addr) (c2 : Nat) (l2 : List Int) (w : World) (b0 b1 b2 : Nat) (i : Nat)
    (h0 : Kd.C (Kd.int .i64) w A0 l0.length l0) (h1 : Kd.C (Kd.int .i64) w A1 l1.length l1) (h2 : Kd.C (Kd.int .i64) w A2 l2.length l2)
    (hc0 : w.cell? ⟨b0, 0, none⟩ = some (.slice A0 l0.length c0)) (hc1 : w.cell? ⟨b1, 0, none⟩ = some (.slice A1 l1.length c1)) (hc2 : w.cell? ⟨b2, 0, none⟩ = some (.slice A2 l2.length c2))
    (hi0 : i < l0.length) (hi1 : i < l1.length) (hi2 : i < l2.length) :
    Calls Try.prog 43 #[.int .i64 (i : Int), .pointer (some ⟨b2, 0, none⟩), .pointer (some ⟨b0, 0, none⟩), .pointer (some ⟨b1, 0, none⟩)] w fun e w' => e = .returned (.bool (withinP l0 l1 l2 i)) ∧ Drawn0 w w' := by
  have m0 : l0.length ≤ 9223372036854775807 := h0.2.1
  have m1 : l1.length ≤ 9223372036854775807 := h1.2.1
  have m2 : l2.length ≤ 9223372036854775807 := h2.2.1
  obtain ⟨ad0, e0, x0⟩ := Kd.at_int h0 (i : Int) (by omega) (by omega)
  obtain ⟨ad1, e1, x1⟩ := Kd.at_int h1 (i : Int) (by omega) (by omega)
  obtain ⟨ad2, e2, x2⟩ := Kd.at_int h2 (i : Int) (by omega) (by omega)
  cases e0; cases e1; cases e2
  have p0 : (i : Int) < (l0.length : Int) := by omega
  have p1 : (i : Int) < (l1.length : Int) := by omega
  have p2 : (i : Int) < (l2.length : Int) := by omega
  have pz : (0 : Int) ≤ (i : Int) := by omega
  simp only [Int.toNat_natCast] at x0 x1 x2
  clear h0 h1 h2
  by_cases hg : rd l0 i ≤ rd l2 i
  · have hg1 : decide (rd l0 i ≤ rd l2 i) = true := decide_eq_true hg
    by_cases hg2 : rd l2 i < rd l1 i
    · have hg3 : decide (rd l2 i < rd l1 i) = true := decide_eq_true hg2
      have HR : withinP l0 l1 l2 i = true := by simp [withinP, hg, hg2]
      have HR := Aside0.mk HR
      go_enter Try.func43, Try.ntmps43
      go_wp2
      go_quiet (fail)
      go_wp2
      go_ret
      exact ⟨by first | rfl | (simp [HR.out]; done), by repeat (first | exact Drawn0.refl _ | apply Drawn0.step)⟩
    · have hg3 : decide (rd l2 i < rd l1 i) = false := decide_eq_false hg2
      have HR : withinP l0 l1 l2 i = false := by simp [withinP, hg, hg2]
      have HR := Aside0.mk HR
      go_enter Try.func43, Try.ntmps43
      go_wp2
      go_quiet (fail)
      go_wp2
      go_ret
      exact ⟨by first | rfl | (simp [HR.out]; done), by repeat (first | exact Drawn0.refl _ | apply Drawn0.step)⟩
  · have hg1 : decide (rd l0 i ≤ rd l2 i) = false := decide_eq_false hg
    have HR : withinP l0 l1 l2 i = false := by simp [withinP, hg]
    have HR := Aside0.mk HR
    go_enter Try.func43, Try.ntmps43
    go_wp2
    go_quiet (fail)
    go_wp2
    go_ret
    exact ⟨by first | rfl | (simp [HR.out]; done), by repeat (first | exact Drawn0.refl _ | apply Drawn0.step)⟩
end Go.Proofs.Ytjeojnjkmhnepaa.Dice
namespace Go.Proofs.Ytjeojnjkmhnepaa.Dice
theorem heap_al (w : World) (o : Obj) : (w.alloc o).heap = w.heap.push o := rfl
theorem enters {P : Program} {f : FuncId} {fn : Func} {c : Code} (hf : P.funcs[f]? = some fn) (hname : (fn.name == "runtime.NumGoroutine") = false) (hb : fn.body = some c) : ∀ args w, (callFunc f args).run P w = .ok (.enter f args) w := by
  intro args w
  have h1 : fn.name ≠ "runtime.NumGoroutine" := by simpa using hname
  simp [callFunc, hf, h1, hb, mark]
theorem C_rows {W : World} {b : Nat} {t : TypeId} {fr : Nat × Nat} (rs : List (Option Addr × Nat × List Int)) (hb : W.heap[b]? = some (.cells (rs.map fun r => Value.slice r.1 r.2.2.length r.2.1).toArray t fr))
    (hr : ∀ r ∈ rs, r.2.2.length ≤ r.2.1 ∧ Kd.C (Kd.int .i64) W r.1 r.2.2.length r.2.2) (hl : rs.length ≤ 100) : Kd.C (Kd.slice 3 (Kd.int .i64)) W (some ⟨b, 0, none⟩) rs.length (rs.map fun r => r.2.2) := by
  refine ⟨by simp, by omega, fun _ => ⟨_, rfl, fun j p hj => ?_⟩⟩
  rw [List.getElem?_map, Option.map_eq_some_iff] at hj
  obtain ⟨r, hjr, rfl⟩ := hj
  obtain ⟨h1, h2⟩ := hr r (List.mem_of_getElem? hjr)
  refine ⟨[.slice r.1 r.2.2.length r.2.1], rfl, ⟨r.1, r.2.1, rfl, h1, h2⟩, fun i u hu => ?_⟩
  obtain rfl : i = 0 := by
    rcases i with _ | i
    · rfl
    · simp at hu
  simp only [List.getElem?_cons_zero, Option.some.injEq] at hu
  subst hu
  rw [show (Kd.slice 3 (Kd.int .i64)).sz = 1 from rfl, Nat.mul_one, Nat.add_zero, add_at]
  rw [cell_of_row W b _ _ _ _ hb]
  simp [List.getElem?_map, hjr]
end Go.Proofs.Ytjeojnjkmhnepaa.Dice
namespace Go.Proofs.Ytjeojnjkmhnepaa.Dice
def within (l0 l1 l2 : List Int) : Bool := decide (l1.length = l0.length) && (decide (l2.length = l0.length) && (List.range l0.length).all (withinP l0 l1 l2))
set_option maxHeartbeats 8000000 in
set_option maxRecDepth 100000 in
theorem within_calls (A0 : Option Addr) (c0 : Nat) (l0 : List Int) (A1 : Option Addr) (c1 : Nat) (l1 : List Int) (A2 : Option Addr) (c2 : Nat) (l2 : List Int) (w : World)
    (hr0 : Kd.C (Kd.int .i64) w A0 l0.length l0) (hc0 : l0.length ≤ c0) (hr1 : Kd.C (Kd.int .i64) w A1 l1.length l1) (hc1 : l1.length ≤ c1) (hr2 : Kd.C (Kd.int .i64) w A2 l2.length l2) (hc2 : l2.length ≤ c2) :
    Calls Try.prog 19 #[.slice A0 l0.length c0, .slice A1 l1.length c1, .slice A2 l2.length c2] w fun e w' => e = .returned (.bool (within l0 l1 l2)) ∧ Below w.heap.size w w' := by
  have HR0 := Aside0.mk hr0
  have HR1 := Aside0.mk hr1
  have HR2 := Aside0.mk hr2
  have HC0 := Aside0.mk hc0
  have HC1 := Aside0.mk hc1
  have HC2 := Aside0.mk hc2
  clear hr0 hr1 hr2 hc0 hc1 hc2
  obtain ⟨W0, hW0⟩ : ∃ W0, W0 = ((((w.alloc (Obj.cells #[Value.slice A0 l0.length c0] 26)).alloc
              (Obj.cells #[Value.slice A1 l1.length c1] 26)).alloc
          (Obj.cells #[Value.slice A2 l2.length c2] 26)).alloc
      (Obj.cells #[Value.slice A0 l0.length c0, Value.slice A1 l1.length c1, Value.slice A2 l2.length c2] 26)) := ⟨_, rfl⟩
  have hbel : Below w.heap.size w W0 := by
    rw [hW0]
    exact below_alloc (below_alloc (below_alloc (below_alloc (Below.refl _ _) _) _) _) _
  have g0 : W0.heap[w.heap.size]? = some (.cells #[Value.slice A0 l0.length c0] 26) := by rw [hW0]; rw [Below.heap_alloc _ _ _ (by simp <;> omega)]; rw [Below.heap_alloc _ _ _ (by simp <;> omega)]; rw [Below.heap_alloc _ _ _ (by simp <;> omega)]; exact (by simpa using heap_alloc_new w _)
  have g1 : W0.heap[w.heap.size + 1]? = some (.cells #[Value.slice A1 l1.length c1] 26) := by rw [hW0]; rw [Below.heap_alloc _ _ _ (by simp <;> omega)]; rw [Below.heap_alloc _ _ _ (by simp <;> omega)]; exact (by simpa using heap_alloc_new (w.alloc _) _)
  have g2 : W0.heap[w.heap.size + 1 + 1]? = some (.cells #[Value.slice A2 l2.length c2] 26) := by rw [hW0]; rw [Below.heap_alloc _ _ _ (by simp <;> omega)]; exact (by simpa using heap_alloc_new ((w.alloc _).alloc _) _)
  have g3 : W0.heap[w.heap.size + 1 + 1 + 1]? = some (.cells #[Value.slice A0 l0.length c0, Value.slice A1 l1.length c1, Value.slice A2 l2.length c2] 26) := by rw [hW0]; exact (by simpa using heap_alloc_new (((w.alloc _).alloc _).alloc _) _)
  have r0 := Kd.C_below HR0.out hbel
  have r1 := Kd.C_below HR1.out hbel
  have r2 := Kd.C_below HR2.out hbel
  have hls := C_rows (W := W0) [(A0, c0, l0), (A1, c1, l1), (A2, c2, l2)] g3 (by simp; exact ⟨⟨HC0.out, r0⟩, ⟨HC1.out, r1⟩, HC2.out, r2⟩) (by simp)
  have hE := every_calls 43 #[Value.pointer (some { block := w.heap.size + 1 + 1, off := 0 }), Value.pointer (some { block := w.heap.size, off := 0 }), Value.pointer (some { block := w.heap.size + 1, off := 0 })] (some ⟨w.heap.size + 1 + 1 + 1, 0, none⟩) 3 [l0, l1, l2] W0 l0.length (withinP l0 l1 l2)
    (fun _ W => Drawn0 W0 W) (fun W => Drawn0 W0 W) (enters Try.func43 (by kernel_rfl) rfl) hls (by simp) rfl (Drawn0.refl _) (by
      intro i W hi hI hall
      have hbW := hI.below
      refine (within1_calls A0 c0 l0 A1 c1 l1 A2 c2 l2 W w.heap.size (w.heap.size + 1) (w.heap.size + 1 + 1) i (Kd.C_below r0 hbW) (Kd.C_below r1 hbW) (Kd.C_below r2 hbW) ?_ ?_ ?_ hi ?_ ?_).mono ?_
      · rw [hbW.cell (by have := (Array.getElem?_eq_some_iff.1 g0).1; exact this), cell_of_row _ _ _ _ _ _ g0]; rfl
      · rw [hbW.cell (by have := (Array.getElem?_eq_some_iff.1 g1).1; exact this), cell_of_row _ _ _ _ _ _ g1]; rfl
      · rw [hbW.cell (by have := (Array.getElem?_eq_some_iff.1 g2).1; exact this), cell_of_row _ _ _ _ _ _ g2]; rfl
      · rw [hall l1 (by simp)]; exact hi
      · rw [hall l2 (by simp)]; exact hi
      · rintro e W' ⟨rfl, hd⟩
        refine ⟨rfl, ?_⟩
        have hd' : Drawn0 W0 W' := by
          obtain ⟨m, rfl⟩ := hd
          exact hI.step m
        cases hp : withinP l0 l1 l2 i
        · exact .inr ⟨rfl, hd'⟩
        · exact .inl ⟨rfl, hd'⟩)
  have HE := Aside0.mk hE
  have HB := Aside0.mk hbel
  have HW := Aside0.mk hW0
  clear hE hbel hW0 g0 g1 g2 g3 r0 r1 r2 hls
  go_enter Try.func19, Try.ntmps19
  go_wp2_with fail
  rw [← HW.out]
  refine HE.out.mono ?_
  rintro e w' h
  have hfin : e = .returned (.bool (within l0 l1 l2)) ∧ Below w.heap.size w w' := by
    rcases h with ⟨⟨x, hx, hne⟩, rfl, rfl⟩ | ⟨hall, h⟩
    · refine ⟨?_, HB.out⟩
      have : within l0 l1 l2 = false := by
        simp only [List.mem_cons, List.not_mem_nil, or_false] at hx
        rcases hx with rfl | rfl | rfl
        · exact absurd rfl hne
        · simp [within, hne]
        · simp [within, hne]
      rw [this]
    · have e1 : l1.length = l0.length := hall l1 (by simp)
      have e2 : l2.length = l0.length := hall l2 (by simp)
      rcases h with ⟨hp, rfl, hd⟩ | ⟨⟨i, hi, hp⟩, rfl, hd⟩
      · refine ⟨?_, below_then HB.out HB.out.size hd.below⟩
        have : within l0 l1 l2 = true := by simp [within, e1, e2]; exact hp
        rw [this]
      · refine ⟨?_, below_then HB.out HB.out.size hd.below⟩
        have : within l0 l1 l2 = false := by simp [within, e1, e2]; exact ⟨i, hi, hp⟩
        rw [this]
  clear h HE HW HR0 HR1 HR2 HC0 HC1 HC2
  obtain ⟨rfl, hb⟩ := hfin
  have HB' := Aside0.mk hb
  clear hb HB
  go_wp2
  go_ret
  exact ⟨rfl, HB'.out⟩
end Go.Proofs.Ytjeojnjkmhnepaa.Dice
