/- The contract of dice.Meet's closure is proved here: it lays the greater low and the lesser high behind the rows, and tells whether the first is below the second. -/
import Derived.Test.YtjeojnjkmhnepaaProg
import Derived.Below
import Derived.Deep.Draws
import Derived.Deep.AppendLies
import Derived.Maps.AppendAt
import Derived.OwnWalk
import Derived.Laws.BytesArg
import Derived.Laws.MakeOwn
import Derived.Laws.OwnMore
import Derived.Deep.OwnRows
import Derived.Tactics
import Derived.Lib.ConvBytes
import Derived.Laws.Slices
import Derived.WalkKit
import Derived.KernelRfl
import Derived.RowKit3
import Derived.Deep.LoopGhost
import Derived.Deep.QuietTactic
import Derived.BigQuiet
import Derived.WideLaws
import Derived.Deep.DeepCutAuto
import Derived.Deep.CutBlock
import Derived.Deep.RegionHeld3
import Derived.Laws.Rows
import Derived.Lib.AppendStr
import Derived.ArgAppend
import Derived.Laws.IdiomCopy
import Derived.OrdersHeld
import Derived.Laws.BitsLemmas
import Derived.RowKit
import Derived.Test.YtjeojnjkmhnepaaWWords
import Derived.Test.YtjeojnjkmhnepaaWLast
import Derived.Test.YtjeojnjkmhnepaaWTab
import Derived.Test.YtjeojnjkmhnepaaWFour
import Derived.Test.YtjeojnjkmhnepaaWQPut
import Derived.Test.YtjeojnjkmhnepaaWApart
import Derived.Test.YtjeojnjkmhnepaaWArr
import Derived.Test.YtjeojnjkmhnepaaWZeros
import Derived.Test.YtjeojnjkmhnepaaWFoot
import Derived.Test.YtjeojnjkmhnepaaWKept
import Derived.Test.YtjeojnjkmhnepaaWShare
import Derived.Test.YtjeojnjkmhnepaaWN
import Derived.Test.YtjeojnjkmhnepaaWFootNe
import Derived.Test.YtjeojnjkmhnepaaWAt
import Derived.Test.YtjeojnjkmhnepaaWEqStruct
import Derived.Test.YtjeojnjkmhnepaaWRepsOne
import Derived.Test.YtjeojnjkmhnepaaWInv
import Derived.Test.YtjeojnjkmhnepaaWInvWords
import Derived.Test.YtjeojnjkmhnepaaWGuard
import Derived.Test.YtjeojnjkmhnepaaWNEv
import Derived.Test.YtjeojnjkmhnepaaWMore
import Derived.Test.YtjeojnjkmhnepaaD2
open Go Go.RowKit Go.Proofs.YtjeojnjkmhnepaaW.PrintWords Go.Proofs.YtjeojnjkmhnepaaW.PrintLast Go.Proofs.YtjeojnjkmhnepaaW.PrintMore
set_option linter.unusedVariables false
set_option linter.unusedSimpArgs false
attribute [local go_sem] max2_int min2_int max_two min_two
namespace Go.Proofs.Ytjeojnjkmhnepaa.Dice
theorem undrew {W w1 : World} {r : Option Nat} (h : W.drew.grownBy w1 r) : W.grownBy w1 r := ⟨h.os, h.tape, h.output, h.size, h.block⟩
theorem cell_al (W : World) (o : Obj) {p : Addr} {u : Value} (h : W.cell? p = some u) : (W.alloc o).cell? p = some u := (World.cell?_of_block (w := W) (Below.heap_alloc W o p.block (World.block_lt_of_cell? W _ h))).trans h
theorem int_info : (Try.prog.info? 3).map (fun i => (i.zero, i.size, i.bytes)) = some (some (.int .i64 0), 1, 8) := by kernel_rfl

/-- The state of Meet's closure: four boxes that are read, two that hold the rows which grow. -/
structure MeetSt (w0 W : World) (s0 s1 s2 s3 : Value) (va vb : Value) (xa xb : List Int) : Prop where
  b0 : W.heap[w0.heap.size]? = some (.cells #[s0] 26)
  b1 : W.heap[w0.heap.size + 1]? = some (.cells #[s1] 26)
  b2 : W.heap[w0.heap.size + 2]? = some (.cells #[s2] 26)
  b3 : W.heap[w0.heap.size + 3]? = some (.cells #[s3] 26)
  ba : W.heap[w0.heap.size + 4]? = some (.cells #[va] 26)
  bb : W.heap[w0.heap.size + 5]? = some (.cells #[vb] 26)
  ra : Kd.R (Kd.int .i64) 3 W (w0.heap.size + 6) (fun k => some k ≠ vb.ownBlock) va xa
  rb : Kd.R (Kd.int .i64) 3 W (w0.heap.size + 6) (fun k => some k ≠ va.ownBlock) vb xb
  be : Below w0.heap.size w0 W
  sz : w0.heap.size + 6 ≤ W.heap.size

theorem MeetSt.append_a {w0 W w1 : World} {s0 s1 s2 s3 va vb v1 : Value} {xa xb : List Int} {m : Int} (h : MeetSt w0 W s0 s1 s2 s3 va vb xa xb) (hg : W.grownBy w1 va.ownBlock)
    (hR : Kd.R (Kd.int .i64) 3 w1 (w0.heap.size + 6) (fun k => some k ≠ vb.ownBlock) v1 (xa ++ [m])) (hat : v1.ownBlock = va.ownBlock ∨ ∃ b, v1.ownBlock = some b ∧ W.heap.size ≤ b) :
    MeetSt w0 (w1.setCell ⟨w0.heap.size + 4, 0, none⟩ v1) s0 s1 s2 s3 v1 vb (xa ++ [m]) xb := by
  have hbo : ∀ k, k < w0.heap.size + 6 → w1.heap[k]? = W.heap[k]? := fun k hk => hg.block k (Nat.lt_of_lt_of_le hk h.sz) (fun he => by have := Kd.R_base h.ra k he.symm; omega)
  have hb2 : ∀ k, k ≠ w0.heap.size + 4 → (w1.setCell ⟨w0.heap.size + 4, 0, none⟩ v1).heap[k]? = w1.heap[k]? := fun k hk => Below.heap_setCell _ _ _ _ hk
  refine ⟨?_, ?_, ?_, ?_, ?_, ?_, ?_, ?_, ?_, ?_⟩
  · rw [hb2 _ (by omega), hbo _ (by omega)]; exact h.b0
  · rw [hb2 _ (by omega), hbo _ (by omega)]; exact h.b1
  · rw [hb2 _ (by omega), hbo _ (by omega)]; exact h.b2
  · rw [hb2 _ (by omega), hbo _ (by omega)]; exact h.b3
  · have hq := blk_set (w := w1) (g := w0.heap.size + 4) (by rw [hbo _ (by omega)]; exact h.ba) 0 v1
    simpa using hq
  · rw [hb2 _ (by omega), hbo _ (by omega)]; exact h.bb
  · exact Kd.R_mono (Kd.R_move (Kd.R_bound hR) (fun k hk => hb2 k (by have := hk.2.1; omega))) (fun k hk => hk.1)
  · have h1 := Kd.R_bound h.rb
    have h2 := Kd.R_move h1 (w1 := w1.setCell ⟨w0.heap.size + 4, 0, none⟩ v1) (fun k hk => (hb2 k (by have := hk.2.1; omega)).trans (hg.block k hk.2.2.1 hk.1))
    refine Kd.R_mono h2 (fun k hk he => ?_)
    rcases hat with h3 | ⟨b, h3, h4⟩
    · exact hk.1 (he.trans h3)
    · rw [h3] at he
      injection he with he
      have := hk.2.2.1
      omega
  · refine Below.trans h.be ⟨hg.os, hg.tape, hg.output, ?_, fun k hk => ?_⟩
    · simpa [World.setCell] using hg.size
    · rw [hb2 _ (by omega), hbo _ (by omega)]
  · have := h.sz
    have := hg.size
    simp only [World.setCell, Array.size_modify]
    omega
theorem MeetSt.append_b {w0 W w1 : World} {s0 s1 s2 s3 va vb v1 : Value} {xa xb : List Int} {m : Int} (h : MeetSt w0 W s0 s1 s2 s3 va vb xa xb) (hg : W.grownBy w1 vb.ownBlock)
    (hR : Kd.R (Kd.int .i64) 3 w1 (w0.heap.size + 6) (fun k => some k ≠ va.ownBlock) v1 (xb ++ [m])) (hat : v1.ownBlock = vb.ownBlock ∨ ∃ b, v1.ownBlock = some b ∧ W.heap.size ≤ b) :
    MeetSt w0 (w1.setCell ⟨w0.heap.size + 5, 0, none⟩ v1) s0 s1 s2 s3 va v1 xa (xb ++ [m]) := by
  have hbo : ∀ k, k < w0.heap.size + 6 → w1.heap[k]? = W.heap[k]? := fun k hk => hg.block k (Nat.lt_of_lt_of_le hk h.sz) (fun he => by have := Kd.R_base h.rb k he.symm; omega)
  have hb2 : ∀ k, k ≠ w0.heap.size + 5 → (w1.setCell ⟨w0.heap.size + 5, 0, none⟩ v1).heap[k]? = w1.heap[k]? := fun k hk => Below.heap_setCell _ _ _ _ hk
  refine ⟨?_, ?_, ?_, ?_, ?_, ?_, ?_, ?_, ?_, ?_⟩
  · rw [hb2 _ (by omega), hbo _ (by omega)]; exact h.b0
  · rw [hb2 _ (by omega), hbo _ (by omega)]; exact h.b1
  · rw [hb2 _ (by omega), hbo _ (by omega)]; exact h.b2
  · rw [hb2 _ (by omega), hbo _ (by omega)]; exact h.b3
  · rw [hb2 _ (by omega), hbo _ (by omega)]; exact h.ba
  · have hq := blk_set (w := w1) (g := w0.heap.size + 5) (by rw [hbo _ (by omega)]; exact h.bb) 0 v1
    simpa using hq
  · have h1 := Kd.R_bound h.ra
    have h2 := Kd.R_move h1 (w1 := w1.setCell ⟨w0.heap.size + 5, 0, none⟩ v1) (fun k hk => (hb2 k (by have := hk.2.1; omega)).trans (hg.block k hk.2.2.1 hk.1))
    refine Kd.R_mono h2 (fun k hk he => ?_)
    rcases hat with h3 | ⟨b, h3, h4⟩
    · exact hk.1 (he.trans h3)
    · rw [h3] at he
      injection he with he
      have := hk.2.2.1
      omega
  · exact Kd.R_mono (Kd.R_move (Kd.R_bound hR) (fun k hk => hb2 k (by have := hk.2.1; omega))) (fun k hk => hk.1)
  · refine Below.trans h.be ⟨hg.os, hg.tape, hg.output, ?_, fun k hk => ?_⟩
    · simpa [World.setCell] using hg.size
    · rw [hb2 _ (by omega), hbo _ (by omega)]
  · have := h.sz
    have := hg.size
    simp only [World.setCell, Array.size_modify]
    omega
set_option maxHeartbeats 8000000 in
set_option maxRecDepth 100000 in
theorem meet1_a (A0 : Option Addr) (c0 : Nat) (l0 : List Int) (A1 : Option Addr) (c1 : Nat) (l1 : List Int) (A2 : Option Addr) (c2 : Nat) (l2 : List Int) (A3 : Option Addr) (c3 : Nat) (l3 : List Int)
    (w0 W : World) (va vb : Value) (xa xb : List Int) (i : Nat)
    (h0 : Kd.C (Kd.int .i64) w0 A0 l0.length l0) (h1 : Kd.C (Kd.int .i64) w0 A1 l1.length l1) (h2 : Kd.C (Kd.int .i64) w0 A2 l2.length l2) (h3 : Kd.C (Kd.int .i64) w0 A3 l3.length l3)
    (hS : MeetSt w0 W (.slice A0 l0.length c0) (.slice A1 l1.length c1) (.slice A2 l2.length c2) (.slice A3 l3.length c3) va vb xa xb)
    (hi0 : i < l0.length) (hi1 : i < l1.length) (hi2 : i < l2.length) (hi3 : i < l3.length) (hxa : xa.length = i) (hxb : xb.length = i) (hi : i < 17592186044416) :
    Calls Try.prog 42 #[.int .i64 (i : Int), .pointer (some ⟨w0.heap.size + 4, 0, none⟩), .pointer (some ⟨w0.heap.size, 0, none⟩), .pointer (some ⟨w0.heap.size + 2, 0, none⟩), .pointer (some ⟨w0.heap.size + 5, 0, none⟩), .pointer (some ⟨w0.heap.size + 1, 0, none⟩), .pointer (some ⟨w0.heap.size + 3, 0, none⟩)] W fun e w' =>
      e = .returned (.bool (decide (mx (rd l0 i) (rd l2 i) < mn (rd l1 i) (rd l3 i)))) ∧ ∃ va' vb', MeetSt w0 w' (.slice A0 l0.length c0) (.slice A1 l1.length c1) (.slice A2 l2.length c2) (.slice A3 l3.length c3) va' vb' (xa ++ [mx (rd l0 i) (rd l2 i)]) (xb ++ [mn (rd l1 i) (rd l3 i)]) := by
  have m0 : l0.length ≤ 9223372036854775807 := h0.2.1
  have m1 : l1.length ≤ 9223372036854775807 := h1.2.1
  have m2 : l2.length ≤ 9223372036854775807 := h2.2.1
  have m3 : l3.length ≤ 9223372036854775807 := h3.2.1
  have HS := Aside0.mk hS
  obtain ⟨ad0, e0, y0⟩ := Kd.at_int h0 (i : Int) (by omega) (by omega)
  have x0 := (hS.be.cell (World.block_lt_of_cell? w0 _ y0)).trans y0
  obtain ⟨ad1, e1, y1⟩ := Kd.at_int h1 (i : Int) (by omega) (by omega)
  have x1 := (hS.be.cell (World.block_lt_of_cell? w0 _ y1)).trans y1
  obtain ⟨ad2, e2, y2⟩ := Kd.at_int h2 (i : Int) (by omega) (by omega)
  have x2 := (hS.be.cell (World.block_lt_of_cell? w0 _ y2)).trans y2
  obtain ⟨ad3, e3, y3⟩ := Kd.at_int h3 (i : Int) (by omega) (by omega)
  have x3 := (hS.be.cell (World.block_lt_of_cell? w0 _ y3)).trans y3
  cases e0; cases e1; cases e2; cases e3
  have p0 : (i : Int) < (l0.length : Int) := by omega
  have p1 : (i : Int) < (l1.length : Int) := by omega
  have p2 : (i : Int) < (l2.length : Int) := by omega
  have p3 : (i : Int) < (l3.length : Int) := by omega
  have pz : (0 : Int) ≤ (i : Int) := by omega
  simp only [Int.toNat_natCast] at x0 x1 x2 x3 y0 y1 y2 y3
  have g0 : W.cell? ⟨w0.heap.size, 0, none⟩ = some (.slice (some ad0) l0.length c0) := (cell_of_row W w0.heap.size 0 _ _ _ hS.b0).trans rfl
  have g2 : W.cell? ⟨w0.heap.size + 2, 0, none⟩ = some (.slice (some ad2) l2.length c2) := (cell_of_row W (w0.heap.size + 2) 0 _ _ _ hS.b2).trans rfl
  have ga : W.cell? ⟨w0.heap.size + 4, 0, none⟩ = some va := (cell_of_row W (w0.heap.size + 4) 0 _ _ _ hS.ba).trans rfl
  have HX0 := Aside0.mk x0
  have HX1 := Aside0.mk x1
  have HX2 := Aside0.mk x2
  have HX3 := Aside0.mk x3
  have Hxa := Aside0.mk hxa
  have Hxb := Aside0.mk hxb
  have hca : ∀ {p : Addr} {u : Value} {w1 : World}, W.grownBy w1 va.ownBlock → W.cell? p = some u → (p.block < w0.heap.size + 6 ∨ some p.block ≠ va.ownBlock) → w1.cell? p = some u := by
    intro p u w1 hg hc hne
    refine (World.cell?_of_block (hg.block p.block (World.block_lt_of_cell? W _ hc) ?_)).trans hc
    rcases hne with h | h
    · intro he
      have := Kd.R_base hS.ra p.block he.symm
      omega
    · exact h
  have HK : Aside0 (∀ (w1 : World), W.drew.grownBy w1 va.ownBlock → w1.cell? ⟨w0.heap.size + 4, 0, none⟩ = some va ∧ w1.cell? ⟨w0.heap.size, 0, none⟩ = some (.slice (some ad0) l0.length c0) ∧ w1.cell? ⟨w0.heap.size + 2, 0, none⟩ = some (.slice (some ad2) l2.length c2) ∧ w1.cell? (ad0.add i) = some (.int .i64 (rd l0 i)) ∧ w1.cell? (ad2.add i) = some (.int .i64 (rd l2 i))) := by
    refine ⟨fun w1 hg' => ?_⟩
    have hg := undrew hg'
    refine ⟨hca hg ga (.inl (by simp)), hca hg g0 (.inl (by simp)), hca hg g2 (.inl (by simp)), hca hg x0 (.inl ?_), hca hg x2 (.inl ?_)⟩
    · have := World.block_lt_of_cell? w0 _ y0; omega
    · have := World.block_lt_of_cell? w0 _ y2; omega
  have HKF : Aside0 (∀ (w1 : World), W.drew.grownBy w1 va.ownBlock → w1.frozen? ⟨w0.heap.size + 4, 0, none⟩ = false) := by
    refine ⟨fun w1 hg => (World.frozen?_of_block (w := W) (hg.block (w0.heap.size + 4) ?_ ?_)).trans (blk_frozen hS.ba 0)⟩
    · exact (Array.getElem?_eq_some_iff.1 hS.ba).1
    · intro he
      have := Kd.R_base hS.ra _ he.symm
      omega
  have HF : Aside0 (∀ k, W.drew.heap.size ≤ k → some k ≠ vb.ownBlock) := ⟨fun k hk he => by
    have := Kd.R_lt hS.rb k he.symm
    have h2 : W.heap.size ≤ k := hk
    omega⟩
  have HRA : Aside0 (Kd.R (Kd.int .i64) 3 W.drew (w0.heap.size + 6) (fun k => some k ≠ vb.ownBlock) va xa) := ⟨hS.ra⟩
  have HSZ : Aside0 (w0.heap.size + 6 ≤ W.drew.heap.size) := ⟨hS.sz⟩
  have HL : Aside0 ((xa.length + 1) * 8 ≤ 140737488355328) := ⟨by omega⟩
  have HY := Aside0.mk (And.intro y1 y3)
  clear hS h0 h1 h2 h3 hxa hxb x1 x3 y0 y1 y2 y3 hca
  obtain ⟨m, hm⟩ : ∃ m, m = mx (rd l0 i) (rd l2 i) := ⟨_, rfl⟩
  obtain ⟨n, hn⟩ : ∃ n, n = mn (rd l1 i) (rd l3 i) := ⟨_, rfl⟩
  rw [← hm, ← hn]
  have hm' : (if rd l0 (i : Int) < rd l2 (i : Int) then rd l2 (i : Int) else rd l0 (i : Int)) = m := hm.symm
  have hn' : (if rd l3 (i : Int) < rd l1 (i : Int) then rd l3 (i : Int) else rd l1 (i : Int)) = n := hn.symm
  clear hm hn
  go_enter Try.func42, Try.ntmps42
  go_wp2
  refine start_ (n := 13) (S := fun w' => w'.cell? ⟨w0.heap.size + 4, 0, none⟩ = some va ∧ w'.cell? ⟨w0.heap.size, 0, none⟩ = some (.slice (some ad0) l0.length c0) ∧ w'.cell? ⟨w0.heap.size + 2, 0, none⟩ = some (.slice (some ad2) l2.length c2) ∧ w'.cell? (ad0.add i) = some (.int .i64 (rd l0 i)) ∧ w'.cell? (ad2.add i) = some (.int .i64 (rd l2 i))) (ds := [12]) #[false, false, false, false, false, false, false, false, false, false, false, false, false] (by kernel_rfl) rfl rfl ⟨ga, g0, g2, x0, x2⟩ (fun hHeld => ?_)
  refine pure_ (i := 2) (N := some 11) (v := ?_) (a' := ?_) #[false, false, true, false, false, false, false, false, false, false, false, false, false] rfl rfl (by kernel_rfl) (fun _ _ _ h => h) (Or.inl ⟨by rfl, ?_⟩) ?_ ?_
  rotate_left
  · intro w'
    go_simp
    with_reducible rfl
  rotate_left
  · simp only [Act.put, List.setIfInBounds_toArray, List.set_cons_zero, List.set_cons_succ, i64_w, i32_w]
    rfl
  refine pure_ (i := 6) (N := some 15) (v := ?_) (a' := ?_) #[false, false, true, false, false, false, true, false, false, false, false, false, false] rfl rfl (by kernel_rfl) (fun _ _ _ h => h) (Or.inl ⟨by rfl, ?_⟩) ?_ ?_
  rotate_left
  · intro w'
    go_simp
    with_reducible rfl
  rotate_left
  · simp only [Act.put, List.setIfInBounds_toArray, List.set_cons_zero, List.set_cons_succ, i64_w, i32_w]
    rfl
  refine take_ (i := 0) (N := some 9) (v := ?_) (a' := ?_) #[true, false, true, false, false, false, true, false, false, false, false, false, false] rfl rfl (by kernel_rfl) (fun _ _ _ h => h) (Or.inl ⟨by rfl, ?_⟩) hHeld ?_ ?_
  rotate_left
  · rintro w' ⟨s0, s1, s2, s3, s4⟩
    go_simp
    with_reducible rfl
  rotate_left
  · simp only [Act.put, List.setIfInBounds_toArray, List.set_cons_zero, List.set_cons_succ, i64_w, i32_w]
    rfl
  refine take_ (i := 1) (N := some 10) (v := ?_) (a' := ?_) #[true, true, true, false, false, false, true, false, false, false, false, false, false] rfl rfl (by kernel_rfl) (fun _ _ _ h => h) (Or.inl ⟨by rfl, ?_⟩) hHeld ?_ ?_
  rotate_left
  · rintro w' ⟨s0, s1, s2, s3, s4⟩
    go_simp
    with_reducible rfl
  rotate_left
  · simp only [Act.put, List.setIfInBounds_toArray, List.set_cons_zero, List.set_cons_succ, i64_w, i32_w]
    rfl
  refine pure_ (i := 3) (N := some 12) (v := ?_) (a' := ?_) #[true, true, true, true, false, false, true, false, false, false, false, false, false] rfl rfl (by kernel_rfl) (fun _ _ _ h => h) (Or.inl ⟨by rfl, ?_⟩) ?_ ?_
  rotate_left
  · intro w'
    go_simp
    with_reducible rfl
  rotate_left
  · simp only [Act.put, List.setIfInBounds_toArray, List.set_cons_zero, List.set_cons_succ, i64_w, i32_w]
    rfl
  refine take_ (i := 4) (N := some 13) (v := ?_) (a' := ?_) #[true, true, true, true, true, false, true, false, false, false, false, false, false] rfl rfl (by kernel_rfl) (fun _ _ _ h => h) (Or.inl ⟨by rfl, ?_⟩) hHeld ?_ ?_
  rotate_left
  · rintro w' ⟨s0, s1, s2, s3, s4⟩
    go_simp
    with_reducible rfl
  rotate_left
  · simp only [Act.put, List.setIfInBounds_toArray, List.set_cons_zero, List.set_cons_succ, i64_w, i32_w]
    rfl
  refine take_ (i := 5) (N := some 14) (v := ?_) (a' := ?_) #[true, true, true, true, true, true, true, false, false, false, false, false, false] rfl rfl (by kernel_rfl) (fun _ _ _ h => h) (Or.inl ⟨by rfl, ?_⟩) hHeld ?_ ?_
  rotate_left
  · rintro w' ⟨s0, s1, s2, s3, s4⟩
    go_simp
    with_reducible rfl
  rotate_left
  · simp only [Act.put, List.setIfInBounds_toArray, List.set_cons_zero, List.set_cons_succ, i64_w, i32_w]
    rfl
  refine pure_ (i := 7) (N := some 16) (v := ?_) (a' := ?_) #[true, true, true, true, true, true, true, true, false, false, false, false, false] rfl rfl (by kernel_rfl) (fun _ _ _ h => h) (Or.inl ⟨by rfl, ?_⟩) ?_ ?_
  rotate_left
  · intro w'
    go_simp
    with_reducible rfl
  rotate_left
  · simp only [Act.put, List.setIfInBounds_toArray, List.set_cons_zero, List.set_cons_succ, i64_w, i32_w]
    rfl
  refine take_ (i := 8) (N := some 17) (v := ?_) (a' := ?_) #[true, true, true, true, true, true, true, true, true, false, false, false, false] rfl rfl (by kernel_rfl) (fun _ _ _ h => h) (Or.inl ⟨by rfl, ?_⟩) hHeld ?_ ?_
  rotate_left
  · rintro w' ⟨s0, s1, s2, s3, s4⟩
    go_simp
    with_reducible rfl
  rotate_left
  · simp only [Act.put, List.setIfInBounds_toArray, List.set_cons_zero, List.set_cons_succ, i64_w, i32_w]
    rfl
  refine pure_ (i := 9) (N := some 18) (v := ?_) (a' := ?_) #[true, true, true, true, true, true, true, true, true, true, false, false, false] rfl rfl (by kernel_rfl) (fun _ _ _ h => h) (Or.inl ⟨by rfl, ?_⟩) ?_ ?_
  rotate_left
  · intro w'
    go_simp
    with_reducible rfl
  rotate_left
  · simp only [Act.put, List.setIfInBounds_toArray, List.set_cons_zero, List.set_cons_succ, i64_w, i32_w]
    rfl
  refine one_ (i := 10) (N := some 19) #[true, true, true, true, true, true, true, true, true, true, true, false, false] rfl rfl (by kernel_rfl) (by decide) (fun K hK => ?_)
  refine value_ (w1 := ?_) (v := ?_) (by rfl) rfl ?_ ?_
  rotate_left 2
  · go_simp
    constructor
    · rfl
    · rfl
  refine hK.out _ _ ⟨(cell_al W _ ga), (cell_al W _ g0), (cell_al W _ g2), (cell_al W _ x0), (cell_al W _ x2)⟩ (fun hHeld => ?_)
  clear hK K
  refine norm_ (a' := ?_) ?_ ?_
  rotate_left
  · show Act.put _ (some 19) _ = _
    simp only [Act.put, List.setIfInBounds_toArray, List.set_cons_zero, List.set_cons_succ, i64_w, i32_w]
    rfl
  refine one_ (i := 11) (N := some 20) #[true, true, true, true, true, true, true, true, true, true, true, true, false] rfl rfl (by kernel_rfl) (by decide) (fun K hK => ?_)
  refine Kd.R_append_step (Kd.int .i64) (w0 := W.drew) (w0.heap.size + 6) (by rfl) (.tmp 9) (.tmp 19) 26 3 (.int .i64 0) 8 (by rfl) Try.underlying26 int_info rfl (by decide) (by omega) va xa m [.int .i64 m] (fun k => some k ≠ vb.ownBlock) (fun _ => False) (by rfl) (by rfl) rfl (fun _ hk => hk.elim) HF.out HRA.out (Below.refl _ _) HSZ.out HL.out ?_
  intro v1 w1 hR1 hB1 hg1 hat1
  have HG1 := Aside0.mk hg1
  have HAT1 := Aside0.mk hat1
  have hfz1 := HKF.out _ hg1
  have hc1 := (HK.out _ hg1).1
  have HR1 := Aside0.mk hR1
  obtain ⟨Av, cv, rfl, hlv, hCv⟩ := Kd.R_reads hR1
  have HCv := Aside0.mk hCv
  clear hCv hR1 hat1
  refine hK.out _ _ ⟨(HK.out _ hg1).1, (HK.out _ hg1).2.1, (HK.out _ hg1).2.2.1, (HK.out _ hg1).2.2.2.1, (HK.out _ hg1).2.2.2.2⟩ (fun hHeld => ?_)
  clear hK K
  refine norm_ (a' := ?_) ?_ ?_
  rotate_left
  · show Act.put _ (some 20) _ = _
    simp only [Act.put, List.setIfInBounds_toArray, List.set_cons_zero, List.set_cons_succ, i64_w, i32_w]
    rfl
  refine last_ (i := 12) (N := none) #[true, true, true, true, true, true, true, true, true, true, true, true, true] rfl rfl (by kernel_rfl) (by decide) (fun K hK => ?_)
  refine skip_ (w1 := ?_) (by rfl) rfl ?_ ?_
  rotate_left
  · go_simp
    rfl
  refine hK.out _ _ ?_
  clear hK K
  refine done_ (by kernel_rfl) ?_

  clear hHeld
  obtain ⟨W2, hW2⟩ : ∃ W2 : World, W2 = w1.setCell ⟨w0.heap.size + 4, 0, none⟩ (.slice Av (xa.length + 1) cv) := ⟨_, rfl⟩
  have hS2 : MeetSt w0 W2 (.slice (some ad0) l0.length c0) (.slice (some ad1) l1.length c1) (.slice (some ad2) l2.length c2) (.slice (some ad3) l3.length c3) (.slice Av (xa.length + 1) cv) vb (xa ++ [m]) xb := by
    rw [hW2]
    exact MeetSt.append_a HS.out (undrew HG1.out) (by simpa [List.length_append] using HR1.out) (by have hq := HAT1.out; simp only [List.length_append, List.length_singleton] at hq; exact hq)
  rw [← hW2]
  have HS2' := Aside0.mk hS2
  clear hS2
  go_wp2
  have hS2 := HS2'.out
  clear HS2' hW2 hc1 hfz1 hlv HCv HK HKF HF HRA HSZ HL x0 x2 g0 g2 ga
  have F2 : Aside0 (W2.cell? ⟨w0.heap.size + 5, 0, none⟩ = some vb ∧ W2.cell? ⟨w0.heap.size + 1, 0, none⟩ = some (.slice (some ad1) l1.length c1) ∧ W2.cell? ⟨w0.heap.size + 3, 0, none⟩ = some (.slice (some ad3) l3.length c3) ∧ W2.cell? (ad1.add i) = some (.int .i64 (rd l1 i)) ∧ W2.cell? (ad3.add i) = some (.int .i64 (rd l3 i))) :=
    ⟨⟨(cell_of_row W2 _ 0 _ _ _ hS2.bb).trans rfl, (cell_of_row W2 _ 0 _ _ _ hS2.b1).trans rfl, (cell_of_row W2 _ 0 _ _ _ hS2.b3).trans rfl, (hS2.be.cell (World.block_lt_of_cell? w0 _ HY.out.1)).trans HY.out.1, (hS2.be.cell (World.block_lt_of_cell? w0 _ HY.out.2)).trans HY.out.2⟩⟩
  have HK2 : Aside0 (∀ (w1 : World), W2.drew.grownBy w1 vb.ownBlock → w1.cell? ⟨w0.heap.size + 5, 0, none⟩ = some vb ∧ w1.cell? ⟨w0.heap.size + 1, 0, none⟩ = some (.slice (some ad1) l1.length c1) ∧ w1.cell? ⟨w0.heap.size + 3, 0, none⟩ = some (.slice (some ad3) l3.length c3) ∧ w1.cell? (ad1.add i) = some (.int .i64 (rd l1 i)) ∧ w1.cell? (ad3.add i) = some (.int .i64 (rd l3 i))) := by
    refine ⟨fun w1 hg' => ?_⟩
    have hg := undrew hg'
    have hca : ∀ {p : Addr} {u : Value}, W2.cell? p = some u → p.block < w0.heap.size + 6 → w1.cell? p = some u := by
      intro p u hc hne
      refine (World.cell?_of_block (hg.block p.block (World.block_lt_of_cell? W2 _ hc) ?_)).trans hc
      intro he
      have := Kd.R_base hS2.rb p.block he.symm
      omega
    have z1 := World.block_lt_of_cell? w0 _ HY.out.1
    have z3 := World.block_lt_of_cell? w0 _ HY.out.2
    exact ⟨hca F2.out.1 (by simp), hca F2.out.2.1 (by simp), hca F2.out.2.2.1 (by simp), hca F2.out.2.2.2.1 (by omega), hca F2.out.2.2.2.2 (by omega)⟩
  have HKF2 : Aside0 (∀ (w1 : World), W2.drew.grownBy w1 vb.ownBlock → w1.frozen? ⟨w0.heap.size + 5, 0, none⟩ = false) := by
    refine ⟨fun w1 hg => (World.frozen?_of_block (w := W2) (hg.block (w0.heap.size + 5) ?_ ?_)).trans (blk_frozen hS2.bb 0)⟩
    · exact (Array.getElem?_eq_some_iff.1 hS2.bb).1
    · intro he
      have := Kd.R_base hS2.rb _ he.symm
      omega
  have HF2 : Aside0 (∀ k, W2.drew.heap.size ≤ k → some k ≠ (Value.slice Av (xa.length + 1) cv).ownBlock) := ⟨fun k hk he => by
    have := Kd.R_lt hS2.ra k he.symm
    have h2 : W2.heap.size ≤ k := hk
    omega⟩
  have HRB2 : Aside0 (Kd.R (Kd.int .i64) 3 W2.drew (w0.heap.size + 6) (fun k => some k ≠ (Value.slice Av (xa.length + 1) cv).ownBlock) vb xb) := ⟨hS2.rb⟩
  have HSZ2 : Aside0 (w0.heap.size + 6 ≤ W2.drew.heap.size) := ⟨hS2.sz⟩
  have HL2 : Aside0 ((xb.length + 1) * 8 ≤ 140737488355328) := ⟨by have := Hxb.out; omega⟩
  have HS2 := Aside0.mk hS2
  clear hS2
  refine start_ (n := 13) (S := fun w' => w'.cell? ⟨w0.heap.size + 5, 0, none⟩ = some vb ∧ w'.cell? ⟨w0.heap.size + 1, 0, none⟩ = some (.slice (some ad1) l1.length c1) ∧ w'.cell? ⟨w0.heap.size + 3, 0, none⟩ = some (.slice (some ad3) l3.length c3) ∧ w'.cell? (ad1.add i) = some (.int .i64 (rd l1 i)) ∧ w'.cell? (ad3.add i) = some (.int .i64 (rd l3 i))) (ds := [12]) #[false, false, false, false, false, false, false, false, false, false, false, false, false] (by kernel_rfl) rfl rfl ⟨F2.out.1, F2.out.2.1, F2.out.2.2.1, F2.out.2.2.2.1, F2.out.2.2.2.2⟩ (fun hHeld => ?_)
  refine pure_ (i := 2) (N := some 23) (v := ?_) (a' := ?_) #[false, false, true, false, false, false, false, false, false, false, false, false, false] rfl rfl (by kernel_rfl) (fun _ _ _ h => h) (Or.inl ⟨by rfl, ?_⟩) ?_ ?_
  rotate_left
  · intro w'
    go_simp
    with_reducible rfl
  rotate_left
  · simp only [Act.put, List.setIfInBounds_toArray, List.set_cons_zero, List.set_cons_succ, i64_w, i32_w]
    rfl
  refine pure_ (i := 6) (N := some 27) (v := ?_) (a' := ?_) #[false, false, true, false, false, false, true, false, false, false, false, false, false] rfl rfl (by kernel_rfl) (fun _ _ _ h => h) (Or.inl ⟨by rfl, ?_⟩) ?_ ?_
  rotate_left
  · intro w'
    go_simp
    with_reducible rfl
  rotate_left
  · simp only [Act.put, List.setIfInBounds_toArray, List.set_cons_zero, List.set_cons_succ, i64_w, i32_w]
    rfl
  refine take_ (i := 0) (N := some 21) (v := ?_) (a' := ?_) #[true, false, true, false, false, false, true, false, false, false, false, false, false] rfl rfl (by kernel_rfl) (fun _ _ _ h => h) (Or.inl ⟨by rfl, ?_⟩) hHeld ?_ ?_
  rotate_left
  · rintro w' ⟨s0, s1, s2, s3, s4⟩
    go_simp
    with_reducible rfl
  rotate_left
  · simp only [Act.put, List.setIfInBounds_toArray, List.set_cons_zero, List.set_cons_succ, i64_w, i32_w]
    rfl
  refine take_ (i := 1) (N := some 22) (v := ?_) (a' := ?_) #[true, true, true, false, false, false, true, false, false, false, false, false, false] rfl rfl (by kernel_rfl) (fun _ _ _ h => h) (Or.inl ⟨by rfl, ?_⟩) hHeld ?_ ?_
  rotate_left
  · rintro w' ⟨s0, s1, s2, s3, s4⟩
    go_simp
    with_reducible rfl
  rotate_left
  · simp only [Act.put, List.setIfInBounds_toArray, List.set_cons_zero, List.set_cons_succ, i64_w, i32_w]
    rfl
  refine pure_ (i := 3) (N := some 24) (v := ?_) (a' := ?_) #[true, true, true, true, false, false, true, false, false, false, false, false, false] rfl rfl (by kernel_rfl) (fun _ _ _ h => h) (Or.inl ⟨by rfl, ?_⟩) ?_ ?_
  rotate_left
  · intro w'
    go_simp
    with_reducible rfl
  rotate_left
  · simp only [Act.put, List.setIfInBounds_toArray, List.set_cons_zero, List.set_cons_succ, i64_w, i32_w]
    rfl
  refine take_ (i := 4) (N := some 25) (v := ?_) (a' := ?_) #[true, true, true, true, true, false, true, false, false, false, false, false, false] rfl rfl (by kernel_rfl) (fun _ _ _ h => h) (Or.inl ⟨by rfl, ?_⟩) hHeld ?_ ?_
  rotate_left
  · rintro w' ⟨s0, s1, s2, s3, s4⟩
    go_simp
    with_reducible rfl
  rotate_left
  · simp only [Act.put, List.setIfInBounds_toArray, List.set_cons_zero, List.set_cons_succ, i64_w, i32_w]
    rfl
  refine take_ (i := 5) (N := some 26) (v := ?_) (a' := ?_) #[true, true, true, true, true, true, true, false, false, false, false, false, false] rfl rfl (by kernel_rfl) (fun _ _ _ h => h) (Or.inl ⟨by rfl, ?_⟩) hHeld ?_ ?_
  rotate_left
  · rintro w' ⟨s0, s1, s2, s3, s4⟩
    go_simp
    with_reducible rfl
  rotate_left
  · simp only [Act.put, List.setIfInBounds_toArray, List.set_cons_zero, List.set_cons_succ, i64_w, i32_w]
    rfl
  refine pure_ (i := 7) (N := some 28) (v := ?_) (a' := ?_) #[true, true, true, true, true, true, true, true, false, false, false, false, false] rfl rfl (by kernel_rfl) (fun _ _ _ h => h) (Or.inl ⟨by rfl, ?_⟩) ?_ ?_
  rotate_left
  · intro w'
    go_simp
    with_reducible rfl
  rotate_left
  · simp only [Act.put, List.setIfInBounds_toArray, List.set_cons_zero, List.set_cons_succ, i64_w, i32_w]
    rfl
  refine take_ (i := 8) (N := some 29) (v := ?_) (a' := ?_) #[true, true, true, true, true, true, true, true, true, false, false, false, false] rfl rfl (by kernel_rfl) (fun _ _ _ h => h) (Or.inl ⟨by rfl, ?_⟩) hHeld ?_ ?_
  rotate_left
  · rintro w' ⟨s0, s1, s2, s3, s4⟩
    go_simp
    with_reducible rfl
  rotate_left
  · simp only [Act.put, List.setIfInBounds_toArray, List.set_cons_zero, List.set_cons_succ, i64_w, i32_w]
    rfl
  refine pure_ (i := 9) (N := some 30) (v := ?_) (a' := ?_) #[true, true, true, true, true, true, true, true, true, true, false, false, false] rfl rfl (by kernel_rfl) (fun _ _ _ h => h) (Or.inl ⟨by rfl, ?_⟩) ?_ ?_
  rotate_left
  · intro w'
    go_simp
    with_reducible rfl
  rotate_left
  · simp only [Act.put, List.setIfInBounds_toArray, List.set_cons_zero, List.set_cons_succ, i64_w, i32_w]
    rfl
  refine one_ (i := 10) (N := some 31) #[true, true, true, true, true, true, true, true, true, true, true, false, false] rfl rfl (by kernel_rfl) (by decide) (fun K hK => ?_)
  refine value_ (w1 := ?_) (v := ?_) (by rfl) rfl ?_ ?_
  rotate_left 2
  · go_simp
    constructor
    · rfl
    · rfl
  refine hK.out _ _ ⟨(cell_al W2 _ F2.out.1), (cell_al W2 _ F2.out.2.1), (cell_al W2 _ F2.out.2.2.1), (cell_al W2 _ F2.out.2.2.2.1), (cell_al W2 _ F2.out.2.2.2.2)⟩ (fun hHeld => ?_)
  clear hK K
  refine norm_ (a' := ?_) ?_ ?_
  rotate_left
  · show Act.put _ (some 31) _ = _
    simp only [Act.put, List.setIfInBounds_toArray, List.set_cons_zero, List.set_cons_succ, i64_w, i32_w]
    rfl
  refine one_ (i := 11) (N := some 32) #[true, true, true, true, true, true, true, true, true, true, true, true, false] rfl rfl (by kernel_rfl) (by decide) (fun K hK => ?_)
  refine Kd.R_append_step (Kd.int .i64) (w0 := W2.drew) (w0.heap.size + 6) (by rfl) (.tmp 21) (.tmp 31) 26 3 (.int .i64 0) 8 (by rfl) Try.underlying26 int_info rfl (by decide) (by omega) vb xb n [.int .i64 n] (fun k => some k ≠ (Value.slice Av (xa.length + 1) cv).ownBlock) (fun _ => False) (by rfl) (by rfl) rfl (fun _ hk => hk.elim) HF2.out HRB2.out (Below.refl _ _) HSZ2.out HL2.out ?_
  intro v2 w2 hR2 hB2 hg2 hat2
  have hfz2 := HKF2.out _ hg2
  have hc2 := (HK2.out _ hg2).1
  have HR2 := Aside0.mk hR2
  have HG2 := Aside0.mk hg2
  have HAT2 := Aside0.mk hat2
  obtain ⟨Bv, dv, rfl, hlv2, hCv2⟩ := Kd.R_reads hR2
  have HCv2 := Aside0.mk hCv2
  clear hCv2 hR2 hat2
  refine hK.out _ _ ⟨(HK2.out _ hg2).1, (HK2.out _ hg2).2.1, (HK2.out _ hg2).2.2.1, (HK2.out _ hg2).2.2.2.1, (HK2.out _ hg2).2.2.2.2⟩ (fun hHeld => ?_)
  clear hK K
  refine norm_ (a' := ?_) ?_ ?_
  rotate_left
  · show Act.put _ (some 32) _ = _
    simp only [Act.put, List.setIfInBounds_toArray, List.set_cons_zero, List.set_cons_succ, i64_w, i32_w]
    rfl
  refine last_ (i := 12) (N := none) #[true, true, true, true, true, true, true, true, true, true, true, true, true] rfl rfl (by kernel_rfl) (by decide) (fun K hK => ?_)
  refine skip_ (w1 := ?_) (by rfl) rfl ?_ ?_
  rotate_left
  · go_simp
    rfl
  refine hK.out _ _ ?_
  clear hK K
  refine done_ (by kernel_rfl) ?_

  clear hHeld
  obtain ⟨W3, hW3⟩ : ∃ W3 : World, W3 = w2.setCell ⟨w0.heap.size + 5, 0, none⟩ (.slice Bv (xb.length + 1) dv) := ⟨_, rfl⟩
  have hS3 : MeetSt w0 W3 (.slice (some ad0) l0.length c0) (.slice (some ad1) l1.length c1) (.slice (some ad2) l2.length c2) (.slice (some ad3) l3.length c3) (.slice Av (xa.length + 1) cv) (.slice Bv (xb.length + 1) dv) (xa ++ [m]) (xb ++ [n]) := by
    rw [hW3]
    exact MeetSt.append_b HS2.out (undrew HG2.out) (by simpa [List.length_append] using HR2.out) (by have hq := HAT2.out; simp only [List.length_append, List.length_singleton] at hq; exact hq)
  rw [← hW3]
  clear hW3 hc2 hfz2 hlv2 HCv2 HK2 HKF2 HF2 HRB2 HSZ2 HL2 F2 HS2 HR2 HG2 HAT2 HR1 HG1 HAT1
  have ga3 : W3.cell? ⟨w0.heap.size + 4, 0, none⟩ = some (.slice Av (xa.length + 1) cv) := (cell_of_row W3 _ 0 _ _ _ hS3.ba).trans rfl
  have gb3 : W3.cell? ⟨w0.heap.size + 5, 0, none⟩ = some (.slice Bv (xb.length + 1) dv) := (cell_of_row W3 _ 0 _ _ _ hS3.bb).trans rfl
  obtain ⟨_, _, ea, _, hCa⟩ := Kd.R_reads hS3.ra
  obtain ⟨_, _, eb, _, hCb⟩ := Kd.R_reads hS3.rb
  injection ea with ea1 ea2 ea3
  subst ea1
  injection eb with eb1 eb2 eb3
  subst eb1
  clear ea2 ea3 eb2 eb3
  obtain ⟨aa, ea, xaa⟩ := Kd.at_int hCa (i : Int) (by omega) (by have := Hxa.out; simp; omega)
  obtain ⟨ab, eb, xbb⟩ := Kd.at_int hCb (i : Int) (by omega) (by have := Hxb.out; simp; omega)
  cases ea; cases eb
  have va_ : rd (xa ++ [m]) i = m := by have := Hxa.out; simp [rd, ← this]
  have vb_ : rd (xb ++ [n]) i = n := by have := Hxb.out; simp [rd, ← this]
  rw [va_] at xaa
  rw [vb_] at xbb
  simp only [Int.toNat_natCast] at xaa xbb
  have q1 : (i : Int) < ((xa.length : Int) + 1) := by have := Hxa.out; omega
  have q2 : (i : Int) < ((xb.length : Int) + 1) := by have := Hxb.out; omega
  have HS3 := Aside0.mk hS3
  clear hS3 hCa hCb va_ vb_ hm' hn'
  go_wp2
  go_quiet (fail)
  go_wp2
  go_ret
  exact ⟨rfl, _, _, by
    obtain ⟨nq, hq⟩ : ∃ nq, W3.drewN nq = W3.drewN nq := ⟨0, rfl⟩
    exact ⟨HS3.out.b0, HS3.out.b1, HS3.out.b2, HS3.out.b3, HS3.out.ba, HS3.out.bb, HS3.out.ra, HS3.out.rb, ⟨HS3.out.be.os, HS3.out.be.tape, HS3.out.be.output, HS3.out.be.size, HS3.out.be.block⟩, HS3.out.sz⟩⟩
end Go.Proofs.Ytjeojnjkmhnepaa.Dice
