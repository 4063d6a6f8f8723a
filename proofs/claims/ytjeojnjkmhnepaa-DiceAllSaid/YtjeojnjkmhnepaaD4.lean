/- The contract of dice.Meet is proved here, for every four slices of fewer than 2^44 elements. -/
import Derived.Test.YtjeojnjkmhnepaaProg
import Derived.Below
import Derived.Deep.Draws
import Derived.Deep.AppendLies
import Derived.Maps.AppendAt
import Derived.OwnWalk
import Derived.Laws.BytesArg
import Derived.Laws.MakeOwn
import Derived.Laws.OwnMore
import Derived.Deep.OwnRows
import Derived.Tactics
import Derived.Lib.ConvBytes
import Derived.Laws.Slices
import Derived.WalkKit
import Derived.KernelRfl
import Derived.RowKit3
import Derived.Deep.LoopGhost
import Derived.Deep.QuietTactic
import Derived.BigQuiet
import Derived.WideLaws
import Derived.Deep.DeepCutAuto
import Derived.Deep.CutBlock
import Derived.Deep.RegionHeld3
import Derived.Laws.Rows
import Derived.Lib.AppendStr
import Derived.ArgAppend
import Derived.Laws.IdiomCopy
import Derived.OrdersHeld
import Derived.Laws.BitsLemmas
import Derived.RowKit
import Derived.Test.YtjeojnjkmhnepaaWWords
import Derived.Test.YtjeojnjkmhnepaaWLast
import Derived.Test.YtjeojnjkmhnepaaWTab
import Derived.Test.YtjeojnjkmhnepaaWFour
import Derived.Test.YtjeojnjkmhnepaaWQPut
import Derived.Test.YtjeojnjkmhnepaaWApart
import Derived.Test.YtjeojnjkmhnepaaWArr
import Derived.Test.YtjeojnjkmhnepaaWZeros
import Derived.Test.YtjeojnjkmhnepaaWFoot
import Derived.Test.YtjeojnjkmhnepaaWKept
import Derived.Test.YtjeojnjkmhnepaaWShare
import Derived.Test.YtjeojnjkmhnepaaWN
import Derived.Test.YtjeojnjkmhnepaaWFootNe
import Derived.Test.YtjeojnjkmhnepaaWAt
import Derived.Test.YtjeojnjkmhnepaaWEqStruct
import Derived.Test.YtjeojnjkmhnepaaWRepsOne
import Derived.Test.YtjeojnjkmhnepaaWInv
import Derived.Test.YtjeojnjkmhnepaaWInvWords
import Derived.Test.YtjeojnjkmhnepaaWGuard
import Derived.Test.YtjeojnjkmhnepaaWNEv
import Derived.Test.YtjeojnjkmhnepaaWMore
import Derived.Test.YtjeojnjkmhnepaaD3
open Go Go.RowKit Go.Proofs.YtjeojnjkmhnepaaW.PrintWords Go.Proofs.YtjeojnjkmhnepaaW.PrintLast Go.Proofs.YtjeojnjkmhnepaaW.PrintMore
set_option linter.unusedVariables false
set_option linter.unusedSimpArgs false
namespace Go.Proofs.Ytjeojnjkmhnepaa.Dice
def meetP (l0 l1 l2 l3 : List Int) (i : Nat) : Bool := decide (mx (rd l0 i) (rd l2 i) < mn (rd l1 i) (rd l3 i))
def meetA (l0 l2 : List Int) (n : Nat) : List Int := (List.range n).map fun (j : Nat) => mx (rd l0 j) (rd l2 j)
def meetB (l1 l3 : List Int) (n : Nat) : List Int := (List.range n).map fun (j : Nat) => mn (rd l1 j) (rd l3 j)
def meetOk (l0 l1 l2 l3 : List Int) : Bool := decide (l1.length = l0.length) && (decide (l2.length = l0.length) && (decide (l3.length = l0.length) && (List.range l0.length).all (meetP l0 l1 l2 l3)))
def meetRes (l0 l1 l2 l3 : List Int) : List Int × List Int × Bool := if meetOk l0 l1 l2 l3 = true then (meetA l0 l2 l0.length, meetB l1 l3 l0.length, true) else ([], [], false)
theorem meetA_succ (l0 l2 : List Int) (n : Nat) : meetA l0 l2 (n + 1) = meetA l0 l2 n ++ [mx (rd l0 n) (rd l2 n)] := by simp [meetA, List.range_succ]
theorem meetB_succ (l0 l2 : List Int) (n : Nat) : meetB l0 l2 (n + 1) = meetB l0 l2 n ++ [mn (rd l0 n) (rd l2 n)] := by simp [meetB, List.range_succ]
set_option maxHeartbeats 8000000 in
set_option maxRecDepth 100000 in
theorem meet_calls (A0 : Option Addr) (c0 : Nat) (l0 : List Int) (A1 : Option Addr) (c1 : Nat) (l1 : List Int) (A2 : Option Addr) (c2 : Nat) (l2 : List Int) (A3 : Option Addr) (c3 : Nat) (l3 : List Int) (w : World)
    (hr0 : Kd.C (Kd.int .i64) w A0 l0.length l0) (hc0 : l0.length ≤ c0) (hr1 : Kd.C (Kd.int .i64) w A1 l1.length l1) (hc1 : l1.length ≤ c1) (hr2 : Kd.C (Kd.int .i64) w A2 l2.length l2) (hc2 : l2.length ≤ c2) (hr3 : Kd.C (Kd.int .i64) w A3 l3.length l3) (hc3 : l3.length ≤ c3) (hb : l0.length < 17592186044416) :
    Calls Try.prog 17 #[.slice A0 l0.length c0, .slice A1 l1.length c1, .slice A2 l2.length c2, .slice A3 l3.length c3] w fun e w' =>
      ∃ v0_ v1_ : Value, e = .returned (.tuple #[v0_, v1_, .bool (meetRes l0 l1 l2 l3).2.2]) ∧ Kd.R (Kd.int .i64) 3 w' w.heap.size (fun k_ => some k_ ≠ (v1_ : Value).ownBlock) v0_ (meetRes l0 l1 l2 l3).1 ∧ Kd.R (Kd.int .i64) 3 w' w.heap.size (fun k_ => some k_ ≠ (v0_ : Value).ownBlock) v1_ (meetRes l0 l1 l2 l3).2.1 ∧ Below w.heap.size w w' := by
  have HR0 := Aside0.mk hr0
  have HR1 := Aside0.mk hr1
  have HR2 := Aside0.mk hr2
  have HR3 := Aside0.mk hr3
  have HC0 := Aside0.mk hc0
  have HC1 := Aside0.mk hc1
  have HC2 := Aside0.mk hc2
  have HC3 := Aside0.mk hc3
  clear hr0 hr1 hr2 hr3 hc0 hc1 hc2 hc3
  obtain ⟨W0, hW0⟩ : ∃ W0, W0 = (((((((w.alloc (Obj.cells #[Value.slice A0 l0.length c0] 26)).alloc (Obj.cells #[Value.slice A1 l1.length c1] 26)).alloc (Obj.cells #[Value.slice A2 l2.length c2] 26)).alloc (Obj.cells #[Value.slice A3 l3.length c3] 26)).alloc (Obj.cells #[Value.slice none 0 0] 26)).alloc (Obj.cells #[Value.slice none 0 0] 26)).alloc (Obj.cells #[Value.slice A0 l0.length c0, Value.slice A1 l1.length c1, Value.slice A2 l2.length c2, Value.slice A3 l3.length c3] 26)) := ⟨_, rfl⟩
  have hbel : Below w.heap.size w W0 := by
    rw [hW0]
    exact below_alloc (below_alloc (below_alloc (below_alloc (below_alloc (below_alloc (below_alloc (Below.refl _ _) _) _) _) _) _) _) _
  have hsz : W0.heap.size = w.heap.size + 7 := by rw [hW0]; simp
  have g0 : W0.heap[w.heap.size + 0]? = some (.cells #[Value.slice A0 l0.length c0] 26) := by rw [hW0]; rw [Below.heap_alloc _ _ _ (by simp <;> omega)]; rw [Below.heap_alloc _ _ _ (by simp <;> omega)]; rw [Below.heap_alloc _ _ _ (by simp <;> omega)]; rw [Below.heap_alloc _ _ _ (by simp <;> omega)]; rw [Below.heap_alloc _ _ _ (by simp <;> omega)]; rw [Below.heap_alloc _ _ _ (by simp <;> omega)]; exact (by simpa using heap_alloc_new w _)
  have g1 : W0.heap[w.heap.size + 1]? = some (.cells #[Value.slice A1 l1.length c1] 26) := by rw [hW0]; rw [Below.heap_alloc _ _ _ (by simp <;> omega)]; rw [Below.heap_alloc _ _ _ (by simp <;> omega)]; rw [Below.heap_alloc _ _ _ (by simp <;> omega)]; rw [Below.heap_alloc _ _ _ (by simp <;> omega)]; rw [Below.heap_alloc _ _ _ (by simp <;> omega)]; exact (by simpa using heap_alloc_new (w.alloc _) _)
  have g2 : W0.heap[w.heap.size + 2]? = some (.cells #[Value.slice A2 l2.length c2] 26) := by rw [hW0]; rw [Below.heap_alloc _ _ _ (by simp <;> omega)]; rw [Below.heap_alloc _ _ _ (by simp <;> omega)]; rw [Below.heap_alloc _ _ _ (by simp <;> omega)]; rw [Below.heap_alloc _ _ _ (by simp <;> omega)]; exact (by simpa using heap_alloc_new ((w.alloc _).alloc _) _)
  have g3 : W0.heap[w.heap.size + 3]? = some (.cells #[Value.slice A3 l3.length c3] 26) := by rw [hW0]; rw [Below.heap_alloc _ _ _ (by simp <;> omega)]; rw [Below.heap_alloc _ _ _ (by simp <;> omega)]; rw [Below.heap_alloc _ _ _ (by simp <;> omega)]; exact (by simpa using heap_alloc_new (((w.alloc _).alloc _).alloc _) _)
  have g4 : W0.heap[w.heap.size + 4]? = some (.cells #[Value.slice none 0 0] 26) := by rw [hW0]; rw [Below.heap_alloc _ _ _ (by simp <;> omega)]; rw [Below.heap_alloc _ _ _ (by simp <;> omega)]; exact (by simpa using heap_alloc_new ((((w.alloc _).alloc _).alloc _).alloc _) _)
  have g5 : W0.heap[w.heap.size + 5]? = some (.cells #[Value.slice none 0 0] 26) := by rw [hW0]; rw [Below.heap_alloc _ _ _ (by simp <;> omega)]; exact (by simpa using heap_alloc_new (((((w.alloc _).alloc _).alloc _).alloc _).alloc _) _)
  have g6 : W0.heap[w.heap.size + 6]? = some (.cells #[Value.slice A0 l0.length c0, Value.slice A1 l1.length c1, Value.slice A2 l2.length c2, Value.slice A3 l3.length c3] 26) := by rw [hW0]; exact (by simpa using heap_alloc_new ((((((w.alloc _).alloc _).alloc _).alloc _).alloc _).alloc _) _)
  have r0 := Kd.C_below HR0.out hbel
  have r1 := Kd.C_below HR1.out hbel
  have r2 := Kd.C_below HR2.out hbel
  have r3 := Kd.C_below HR3.out hbel
  have hls := C_rows (W := W0) [(A0, c0, l0), (A1, c1, l1), (A2, c2, l2), (A3, c3, l3)] g6 (by simp; exact ⟨⟨HC0.out, r0⟩, ⟨HC1.out, r1⟩, ⟨HC2.out, r2⟩, HC3.out, r3⟩) (by simp)
  have hI0 : MeetSt w W0 (.slice A0 l0.length c0) (.slice A1 l1.length c1) (.slice A2 l2.length c2) (.slice A3 l3.length c3) (.slice none 0 0) (.slice none 0 0) [] [] :=
    ⟨g0, g1, g2, g3, g4, g5, Kd.R_nil _ _ _ _ _, Kd.R_nil _ _ _ _ _, hbel, by omega⟩
  have hE := every_calls 42 #[Value.pointer (some ⟨w.heap.size + 4, 0, none⟩), Value.pointer (some ⟨w.heap.size, 0, none⟩), Value.pointer (some ⟨w.heap.size + 2, 0, none⟩), Value.pointer (some ⟨w.heap.size + 5, 0, none⟩), Value.pointer (some ⟨w.heap.size + 1, 0, none⟩), Value.pointer (some ⟨w.heap.size + 3, 0, none⟩)] (some ⟨w.heap.size + 6, 0, none⟩) 4 [l0, l1, l2, l3] W0 l0.length (meetP l0 l1 l2 l3)
    (fun i W => ∃ va vb, MeetSt w W (.slice A0 l0.length c0) (.slice A1 l1.length c1) (.slice A2 l2.length c2) (.slice A3 l3.length c3) va vb (meetA l0 l2 i) (meetB l1 l3 i)) (fun W => Below w.heap.size w W) (enters Try.func42 (by kernel_rfl) rfl) hls (by simp) rfl ⟨_, _, hI0⟩ (by
      rintro i W hi ⟨va, vb, hI⟩ hall
      refine (meet1_a A0 c0 l0 A1 c1 l1 A2 c2 l2 A3 c3 l3 w W va vb _ _ i HR0.out HR1.out HR2.out HR3.out hI hi ?_ ?_ ?_ (by simp [meetA]) (by simp [meetB]) (by omega)).mono ?_
      · rw [hall l1 (by simp)]; exact hi
      · rw [hall l2 (by simp)]; exact hi
      · rw [hall l3 (by simp)]; exact hi
      · rintro e W' ⟨rfl, va', vb', hd⟩
        refine ⟨rfl, ?_⟩
        rw [← meetA_succ, ← meetB_succ] at hd
        cases hp : meetP l0 l1 l2 l3 i
        · exact .inr ⟨rfl, hd.be⟩
        · exact .inl ⟨rfl, _, _, hd⟩)
  have HE := Aside0.mk hE
  have HB := Aside0.mk hbel
  have HW := Aside0.mk hW0
  clear hE hbel hW0 g0 g1 g2 g3 g4 g5 g6 r0 r1 r2 r3 hls hI0 hsz
  obtain ⟨res, hres⟩ : ∃ r, r = meetRes l0 l1 l2 l3 := ⟨_, rfl⟩
  rw [← hres]
  have HRES := Aside0.mk hres
  clear hres
  go_enter Try.func17, Try.ntmps17
  go_wp2_with fail
  rw [← HW.out]
  refine HE.out.mono ?_
  rintro e w' h
  have hfin : (meetOk l0 l1 l2 l3 = false ∧ e = .returned (.bool false) ∧ Below w.heap.size w w') ∨ (meetOk l0 l1 l2 l3 = true ∧ e = .returned (.bool true) ∧ ∃ va vb, MeetSt w w' (.slice A0 l0.length c0) (.slice A1 l1.length c1) (.slice A2 l2.length c2) (.slice A3 l3.length c3) va vb (meetA l0 l2 l0.length) (meetB l1 l3 l0.length)) := by
    rcases h with ⟨⟨x, hx, hne⟩, rfl, rfl⟩ | ⟨hall, h⟩
    · refine .inl ⟨?_, rfl, HB.out⟩
      simp only [List.mem_cons, List.not_mem_nil, or_false] at hx
      rcases hx with rfl | rfl | rfl | rfl
      · exact absurd rfl hne
      · simp [meetOk, hne]
      · simp [meetOk, hne]
      · simp [meetOk, hne]
    · have e1 : l1.length = l0.length := hall l1 (by simp)
      have e2 : l2.length = l0.length := hall l2 (by simp)
      have e3 : l3.length = l0.length := hall l3 (by simp)
      rcases h with ⟨hp, rfl, hd⟩ | ⟨⟨i, hi, hp⟩, rfl, hd⟩
      · exact .inr ⟨by simp [meetOk, e1, e2, e3]; exact hp, rfl, hd⟩
      · exact .inl ⟨by simp [meetOk, e1, e2, e3]; exact ⟨i, hi, hp⟩, rfl, hd⟩
  clear h HE HW HR0 HR1 HR2 HR3 HC0 HC1 HC2 HC3
  rcases hfin with ⟨hk, rfl, hb'⟩ | ⟨hk, rfl, va, vb, hS⟩
  · have hres : meetRes l0 l1 l2 l3 = ([], [], false) := by simp [meetRes, hk]
    obtain rfl := HRES.out.trans hres
    have HB' := Aside0.mk hb'
    clear hb' HB hk hres HRES
    go_wp2
    go_ret3
    exact ⟨_, _, rfl, Kd.R_nil _ _ _ _ _, Kd.R_nil _ _ _ _ _, HB'.out⟩
  · have hres : meetRes l0 l1 l2 l3 = (meetA l0 l2 l0.length, meetB l1 l3 l0.length, true) := by simp [meetRes, hk]
    obtain rfl := HRES.out.trans hres
    have ga := (cell_of_row w' _ 0 _ _ _ hS.ba).trans (rfl : _ = some va)
    have gb := (cell_of_row w' _ 0 _ _ _ hS.bb).trans (rfl : _ = some vb)
    have HS := Aside0.mk hS
    clear hS HB hk hres HRES
    go_wp2
    go_quiet (fail)
    go_wp2
    go_ret3
    exact ⟨va, vb, rfl, Kd.R_lower HS.out.ra (by omega), Kd.R_lower HS.out.rb (by omega), ⟨HS.out.be.os, HS.out.be.tape, HS.out.be.output, HS.out.be.size, HS.out.be.block⟩⟩
end Go.Proofs.Ytjeojnjkmhnepaa.Dice
