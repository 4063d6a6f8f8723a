/- It is proved here that stratumlaw05.known returns true. -/
import Derived.Test.YtjeojnjkmhnepaaProg
import Derived.Below
import Derived.Deep.Draws
import Derived.Deep.AppendLies
import Derived.Maps.AppendAt
import Derived.OwnWalk
import Derived.Laws.BytesArg
import Derived.Laws.MakeOwn
import Derived.Laws.OwnMore
import Derived.Deep.OwnRows
import Derived.Tactics
import Derived.Lib.ConvBytes
import Derived.Laws.Slices
import Derived.WalkKit
import Derived.KernelRfl
import Derived.RowKit3
import Derived.Deep.LoopGhost
import Derived.Deep.QuietTactic
import Derived.BigQuiet
import Derived.WideLaws
import Derived.Deep.DeepCutAuto
import Derived.Deep.CutBlock
import Derived.Deep.RegionHeld3
import Derived.Laws.Rows
import Derived.Lib.AppendStr
import Derived.ArgAppend
import Derived.Laws.IdiomCopy
import Derived.OrdersHeld
import Derived.Laws.BitsLemmas
import Derived.RowKit
import Derived.Test.YtjeojnjkmhnepaaWWords
import Derived.Test.YtjeojnjkmhnepaaWLast
import Derived.Test.YtjeojnjkmhnepaaWTab
import Derived.Test.YtjeojnjkmhnepaaWFour
import Derived.Test.YtjeojnjkmhnepaaWQPut
import Derived.Test.YtjeojnjkmhnepaaWApart
import Derived.Test.YtjeojnjkmhnepaaWArr
import Derived.Test.YtjeojnjkmhnepaaWZeros
import Derived.Test.YtjeojnjkmhnepaaWFoot
import Derived.Test.YtjeojnjkmhnepaaWKept
import Derived.Test.YtjeojnjkmhnepaaWShare
import Derived.Test.YtjeojnjkmhnepaaWN
import Derived.Test.YtjeojnjkmhnepaaWFootNe
import Derived.Test.YtjeojnjkmhnepaaWAt
import Derived.Test.YtjeojnjkmhnepaaWEqStruct
import Derived.Test.YtjeojnjkmhnepaaWRepsOne
import Derived.Test.YtjeojnjkmhnepaaWInv
import Derived.Test.YtjeojnjkmhnepaaWInvWords
import Derived.Test.YtjeojnjkmhnepaaWGuard
import Derived.Test.YtjeojnjkmhnepaaWNEv
import Derived.Test.YtjeojnjkmhnepaaWMore
import Derived.Test.YtjeojnjkmhnepaaD6
open Go Go.RowKit Go.Proofs.YtjeojnjkmhnepaaW.PrintWords Go.Proofs.YtjeojnjkmhnepaaW.PrintLast Go.Proofs.YtjeojnjkmhnepaaW.PrintMore
set_option linter.unusedVariables false
set_option linter.unusedSimpArgs false
namespace Go.Proofs.Ytjeojnjkmhnepaa.Pr
open Dice
theorem C_block {W : World} {b : Nat} {t : TypeId} {k : IntKind} (xs : List Int) (hb : W.heap[b]? = some (.cells (nums k xs).toArray t)) (hl : xs.length ≤ 1000) : Kd.C (Kd.int k) W (some ⟨b, 0, none⟩) xs.length xs := by
  refine ⟨rfl, by omega, fun _ => ⟨_, rfl, fun j p hj => ⟨[.int k p], rfl, rfl, fun i u hu => ?_⟩⟩⟩
  obtain rfl : i = 0 := by
    rcases i with _ | i
    · rfl
    · simp at hu
  simp only [List.getElem?_cons_zero, Option.some.injEq] at hu
  subst hu
  rw [show (Kd.int k).sz = 1 from rfl, Nat.mul_one, Nat.add_zero, add_at, cell_of_row W b _ _ _ _ hb]
  simp [nums, List.getElem?_map, hj]
theorem C_new (W : World) (b : Nat) (t : TypeId) (k : IntKind) (xs : List Int) (hb : b = W.heap.size) (hl : xs.length ≤ 1000) : Kd.C (Kd.int k) (W.alloc (.cells (nums k xs).toArray t)) (some ⟨b, 0, none⟩) xs.length xs := by
  subst hb
  exact C_block xs (heap_alloc_new W _) hl
theorem C29_new (W : World) (n : Int) (b : Nat) (hb : b = W.heap.size) : Kd.C k29 (W.alloc (.cells #[.int .i64 n, .slice none 0 0] 29)) (some ⟨b, 0, none⟩) 1 [⟨n, []⟩] := by
  subst hb
  refine ⟨rfl, by omega, fun _ => ⟨_, rfl, fun j p hj => ?_⟩⟩
  obtain rfl : j = 0 := by
    rcases j with _ | j
    · rfl
    · simp at hj
  simp only [List.getElem?_cons_zero, Option.some.injEq] at hj
  subst hj
  refine ⟨[.int .i64 n, .slice none 0 0], rfl, ⟨[.int .i64 n], [.slice none 0 0], rfl, rfl, ⟨none, 0, rfl, by simp, ⟨rfl, by simp, fun h => absurd h (by simp)⟩⟩⟩, fun i u hu => ?_⟩
  rw [add_at, cell_of_row _ _ _ _ _ _ (heap_alloc_new W _)]
  simpa using hu
def stratumlaw05_known.f : Option Bool := some true
set_option maxHeartbeats 8000000 in
set_option maxRecDepth 100000 in
theorem stratumlaw05_known.calls (r : Bool) (w : World) (h : stratumlaw05_known.f = some r) : Calls Try.prog 18 #[] w fun e w' => e = .returned (.bool r) ∧ Below w.heap.size w w' := by
  cases h
  have f1 : dice_Meet.f [0] [5] [3] [9] = some ([3], [5], true) := by decide +kernel
  have f2 : dice_Within.f [0, 2] [3, 5] [2, 2] = some true := by decide +kernel
  have f3 : dice_Within.f [0, 2] [3, 5] [3, 2] = some false := by decide +kernel
  have f4 : dice_Sound.f [⟨5, []⟩] [0] [5] = some true := by decide +kernel
  have f5 : dice_Sound.f [⟨5, []⟩] [0] [6] = some false := by decide +kernel
  have F1 := Aside0.mk f1
  have F2 := Aside0.mk f2
  have F3 := Aside0.mk f3
  have F4 := Aside0.mk f4
  have F5 := Aside0.mk f5
  clear f1 f2 f3 f4 f5
  go_enter Try.func18, Try.ntmps18
  go_wp2_with fail
  refine (dice_Meet.calls (some ⟨w.heap.size, 0, none⟩) 1 [0] (some ⟨w.heap.size + 1, 0, none⟩) 1 [5] (some ⟨w.heap.size + 1 + 1, 0, none⟩) 1 [3] (some ⟨w.heap.size + 1 + 1 + 1, 0, none⟩) 1 [9] [3] [5] true _ ?_ (by simp) ?_ (by simp) ?_ (by simp) ?_ (by simp) F1.out).mono ?_
  · exact Kd.C_alloc (Kd.C_alloc (Kd.C_alloc (C_new w _ 3 .i64 [0] rfl (by simp)) _) _) _
  · exact Kd.C_alloc (Kd.C_alloc (C_new _ _ 3 .i64 [5] (by simp) (by simp)) _) _
  · exact Kd.C_alloc (C_new _ _ 3 .i64 [3] (by simp) (by simp)) _
  · exact C_new _ _ 3 .i64 [9] (by simp) (by simp)
  rintro e w1 ⟨va, vb, rfl, ra, rb, hb1⟩
  obtain ⟨Aa, ca, rfl, la, Ca⟩ := Kd.R_reads ra
  obtain ⟨Ab, cb, rfl, lb, Cb⟩ := Kd.R_reads rb
  obtain ⟨ada, rfl, xa⟩ := Kd.at_int Ca 0 (by omega) (by simp)
  obtain ⟨adb, rfl, xb⟩ := Kd.at_int Cb 0 (by omega) (by simp)
  have xa' : w1.cell? ada = some (.int .i64 3) := by rw [Int.toNat_zero, Addr.add_zero'] at xa; exact xa
  have xb' : w1.cell? adb = some (.int .i64 5) := by rw [Int.toNat_zero, Addr.add_zero'] at xb; exact xb
  have XA := Aside0.mk xa'
  have XB := Aside0.mk xb'
  have hb2 : Below w.heap.size w w1 := (below_alloc (below_alloc (below_alloc (below_alloc (Below.refl _ _) _) _) _) _).trans (hb1.mono (by simp; omega))
  have HB := Aside0.mk hb2
  clear ra rb la lb Ca Cb hb1 hb2 xa xb xa' xb'
  go_wp2_with fail
  refine (dice_Within.calls (some ⟨w1.heap.size, 0, none⟩) 2 [0, 2] (some ⟨w1.heap.size + 1, 0, none⟩) 2 [3, 5] (some ⟨w1.heap.size + 1 + 1, 0, none⟩) 2 [2, 2] true _ ?_ (by simp) ?_ (by simp) ?_ (by simp) F2.out).mono ?_
  · exact Kd.C_alloc (Kd.C_alloc (C_new w1 _ 3 .i64 [0, 2] rfl (by simp)) _) _
  · exact Kd.C_alloc (C_new _ _ 3 .i64 [3, 5] (by simp) (by simp)) _
  · exact C_new _ _ 3 .i64 [2, 2] (by simp) (by simp)
  rintro e w2 ⟨rfl, hb2⟩
  have hb12 : Below w1.heap.size w1 w2 := (below_alloc (below_alloc (below_alloc (Below.refl _ _) _) _) _).trans (hb2.mono (by simp; omega))
  have HB2 := Aside0.mk hb12
  clear hb2 hb12
  go_wp2_with fail
  refine (dice_Within.calls (some ⟨w2.heap.size, 0, none⟩) 2 [0, 2] (some ⟨w2.heap.size + 1, 0, none⟩) 2 [3, 5] (some ⟨w2.heap.size + 1 + 1, 0, none⟩) 2 [3, 2] false _ ?_ (by simp) ?_ (by simp) ?_ (by simp) F3.out).mono ?_
  · exact Kd.C_alloc (Kd.C_alloc (C_new w2 _ 3 .i64 [0, 2] rfl (by simp)) _) _
  · exact Kd.C_alloc (C_new _ _ 3 .i64 [3, 5] (by simp) (by simp)) _
  · exact C_new _ _ 3 .i64 [3, 2] (by simp) (by simp)
  rintro e w3 ⟨rfl, hb3⟩
  have hb23 : Below w2.heap.size w2 w3 := (below_alloc (below_alloc (below_alloc (Below.refl _ _) _) _) _).trans (hb3.mono (by simp; omega))
  have hb13 : Below w1.heap.size w1 w3 := HB2.out.trans (hb23.mono HB2.out.size)
  have xa3 : w3.cell? ada = some (.int .i64 3) := (hb13.cell (World.block_lt_of_cell? w1 _ XA.out)).trans XA.out
  have xb3 : w3.cell? adb = some (.int .i64 5) := (hb13.cell (World.block_lt_of_cell? w1 _ XB.out)).trans XB.out
  have HB3 := Aside0.mk hb13
  clear hb3 hb23 hb13
  go_wp2_with fail
  refine (dice_Sound.calls (some ⟨w3.heap.size, 0, none⟩) 1 [⟨5, []⟩] (some ⟨w3.heap.size + 1, 0, none⟩) 1 [0] (some ⟨w3.heap.size + 1 + 1, 0, none⟩) 1 [5] true _ ?_ (by simp) ?_ (by simp) ?_ (by simp) F4.out).mono ?_
  · exact Kd.C_alloc (Kd.C_alloc (C29_new w3 5 _ rfl) _) _
  · exact Kd.C_alloc (C_new _ _ 3 .i64 [0] (by simp) (by simp)) _
  · exact C_new _ _ 3 .i64 [5] (by simp) (by simp)
  rintro e w4 ⟨rfl, hb4⟩
  have hb34 : Below w3.heap.size w3 w4 := (below_alloc (below_alloc (below_alloc (Below.refl _ _) _) _) _).trans (hb4.mono (by simp; omega))
  have HB4 := Aside0.mk hb34
  clear hb4 hb34 xa3 xb3
  go_wp2_with fail
  refine (dice_Sound.calls (some ⟨w4.heap.size, 0, none⟩) 1 [⟨5, []⟩] (some ⟨w4.heap.size + 1, 0, none⟩) 1 [0] (some ⟨w4.heap.size + 1 + 1, 0, none⟩) 1 [6] false _ ?_ (by simp) ?_ (by simp) ?_ (by simp) F5.out).mono ?_
  · exact Kd.C_alloc (Kd.C_alloc (C29_new w4 5 _ rfl) _) _
  · exact Kd.C_alloc (C_new _ _ 3 .i64 [0] (by simp) (by simp)) _
  · exact C_new _ _ 3 .i64 [6] (by simp) (by simp)
  rintro e w5 ⟨rfl, hb5⟩
  have hb45 : Below w4.heap.size w4 w5 := (below_alloc (below_alloc (below_alloc (Below.refl _ _) _) _) _).trans (hb5.mono (by simp; omega))
  have h15 : Below w1.heap.size w1 w5 := HB3.out.trans ((HB4.out.trans (hb45.mono HB4.out.size)).mono HB3.out.size)
  have HB5 := Aside0.mk (HB.out.trans (h15.mono HB.out.size))
  clear hb5 hb45 h15
  go_wp2
  go_ret
  exact ⟨rfl, HB5.out⟩
end Go.Proofs.Ytjeojnjkmhnepaa.Pr
