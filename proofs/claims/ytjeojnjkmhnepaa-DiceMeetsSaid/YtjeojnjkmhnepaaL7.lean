/- It is proved here that DiceMeets returns true, for every input that reads as data. -/
import Derived.Test.YtjeojnjkmhnepaaProg
import Derived.Below
import Derived.Deep.Draws
import Derived.Deep.AppendLies
import Derived.Maps.AppendAt
import Derived.OwnWalk
import Derived.Laws.BytesArg
import Derived.Laws.MakeOwn
import Derived.Laws.OwnMore
import Derived.Deep.OwnRows
import Derived.Tactics
import Derived.Lib.ConvBytes
import Derived.Laws.Slices
import Derived.WalkKit
import Derived.KernelRfl
import Derived.RowKit3
import Derived.Deep.LoopGhost
import Derived.Deep.QuietTactic
import Derived.BigQuiet
import Derived.WideLaws
import Derived.Deep.DeepCutAuto
import Derived.Deep.CutBlock
import Derived.Deep.RegionHeld3
import Derived.Laws.Rows
import Derived.Lib.AppendStr
import Derived.ArgAppend
import Derived.Laws.IdiomCopy
import Derived.OrdersHeld
import Derived.Laws.BitsLemmas
import Derived.RowKit
import Derived.Test.YtjeojnjkmhnepaaWWords
import Derived.Test.YtjeojnjkmhnepaaWLast
import Derived.Test.YtjeojnjkmhnepaaWTab
import Derived.Test.YtjeojnjkmhnepaaWFour
import Derived.Test.YtjeojnjkmhnepaaWQPut
import Derived.Test.YtjeojnjkmhnepaaWApart
import Derived.Test.YtjeojnjkmhnepaaWArr
import Derived.Test.YtjeojnjkmhnepaaWZeros
import Derived.Test.YtjeojnjkmhnepaaWFoot
import Derived.Test.YtjeojnjkmhnepaaWKept
import Derived.Test.YtjeojnjkmhnepaaWShare
import Derived.Test.YtjeojnjkmhnepaaWN
import Derived.Test.YtjeojnjkmhnepaaWFootNe
import Derived.Test.YtjeojnjkmhnepaaWAt
import Derived.Test.YtjeojnjkmhnepaaWEqStruct
import Derived.Test.YtjeojnjkmhnepaaWRepsOne
import Derived.Test.YtjeojnjkmhnepaaWInv
import Derived.Test.YtjeojnjkmhnepaaWInvWords
import Derived.Test.YtjeojnjkmhnepaaWGuard
import Derived.Test.YtjeojnjkmhnepaaWNEv
import Derived.Test.YtjeojnjkmhnepaaWMore
import Derived.Test.YtjeojnjkmhnepaaL4
import Derived.Test.YtjeojnjkmhnepaaPr5
open Go Go.RowKit Go.Proofs.YtjeojnjkmhnepaaW.PrintWords Go.Proofs.YtjeojnjkmhnepaaW.PrintLast Go.Proofs.YtjeojnjkmhnepaaW.PrintMore
set_option linter.unusedVariables false
set_option linter.unusedSimpArgs false
namespace Go.Proofs.Ytjeojnjkmhnepaa.Pr
open Dice
theorem ints_loop (l : List Int) (hl : l.length ≤ 1000000) (hb : ∀ y ∈ l, 0 ≤ y ∧ y ≤ 255) : ∀ (n i : Nat) (xs : List Int), n + i = l.length → xs.length ≤ i → Ev (fun k => stratumlaw05_ints.l0 k l xs i) (xs ++ l.drop i)
  | 0, i, xs, hn, hx => by
    rw [List.drop_of_length_le (by omega), List.append_nil]
    refine Ev.from 0 (fun k _ => ?_)
    simp only [stratumlaw05_ints.l0]
    rw [if_neg (by omega)]
  | n + 1, i, xs, hn, hx => by
    have hi : i < l.length := by omega
    have hg : rd l i = l[i] := by simp [rd, List.getD_eq_getElem?_getD, List.getElem?_eq_getElem hi]
    have hy := hb _ (List.getElem_mem hi)
    obtain ⟨K, c⟩ := ints_loop l hl hb n (i + 1) (xs ++ [l[i]]) (by omega) (by simp; omega)
    dsimp only at c
    rw [List.drop_eq_getElem_cons hi]
    refine Ev.from K (fun k hk => ?_)
    simp only [stratumlaw05_ints.l0]
    rw [if_pos (by omega), if_pos (by omega), if_pos (by omega), hg, wr (i := l[i]) (by omega) (by omega), wr (by omega) (by omega)]
    have := c k (by omega)
    simpa using this
theorem ints_ev (l : List Int) (hl : l.length ≤ 1000000) (hb : ∀ y ∈ l, 0 ≤ y ∧ y ≤ 255) : Ev (fun k => stratumlaw05_ints.f k l) l := by
  have h := ints_loop l hl hb l.length 0 [] (by omega) (by simp)
  simpa [stratumlaw05_ints.f] using h
abbrev gu8 (l : List Int) : Prop := ∀ y ∈ l, (Lit.int .u8 y).wf = true
theorem gu8.ok {l : List Int} (h : gu8 l) : ∀ y ∈ l, 0 ≤ y ∧ y ≤ 255 := fun y hy => wf_u8 (h y hy)
theorem refmeet_loop (a b c d : List Int) (h : a.length ≤ 1000000) (lb : b.length = a.length) (lc : c.length = a.length) (ld : d.length = a.length) : ∀ (n i : Nat), n + i = a.length →
    Ev (fun k => stratumref05_Meet.l0 k a b c d (meetA a c i) (meetB b d i) i) (if (List.range' i n).all (meetP a b c d) = true then (meetA a c a.length, meetB b d a.length, true) else ([], [], false))
  | 0, i, hn => by
    refine Ev.from 0 (fun k _ => ?_)
    obtain rfl : i = a.length := by omega
    simp only [stratumref05_Meet.l0]
    rw [if_neg (by omega)]
    simp
  | n + 1, i, hn => by
    obtain ⟨K, cc⟩ := refmeet_loop a b c d h lb lc ld n (i + 1) (by omega)
    dsimp only at cc
    rw [List.range'_succ, List.all_cons]
    have lA : (meetA a c i).length = i := by simp [meetA]
    have lB : (meetB b d i).length = i := by simp [meetB]
    cases hp : meetP a b c d i
    · rw [Bool.false_and]
      refine Ev.from 0 (fun k _ => ?_)
      simp only [stratumref05_Meet.l0]
      simp [meetP] at hp
      rw [if_pos (by omega), if_pos (by omega), if_pos (by omega), if_pos (by omega), if_pos (by omega), if_pos (by omega)]
      simp
    · rw [Bool.true_and]
      refine Ev.from K (fun k hk => ?_)
      simp only [stratumref05_Meet.l0]
      simp [meetP] at hp
      rw [if_pos (by omega), if_pos (by omega), if_pos (by omega), if_pos (by omega), if_pos (by omega), if_neg (by omega), if_pos (by omega), if_pos (by omega), wr (by omega) (by omega), ← meetA_succ, ← meetB_succ]
      exact cc k hk
theorem refmeet_ev (a b c d : List Int) (h : a.length ≤ 1000000) : Ev (fun k => stratumref05_Meet.f k a b c d) (meetRes a b c d) := by
  by_cases lb : b.length = a.length
  · by_cases lc : c.length = a.length
    · by_cases ld : d.length = a.length
      · obtain ⟨K, cc⟩ := refmeet_loop a b c d h lb lc ld a.length 0 (by omega)
        dsimp only at cc
        refine Ev.from K (fun k hk => ?_)
        have hb : ((a.length : Int) != (d.length : Int)) = false := by simp [ld]
        simp only [stratumref05_Meet.f, stratumref05_Meet.j0, hb]
        rw [if_pos (by omega), if_pos (by omega), if_neg (by simp)]
        have e := cc k hk
        have : meetOk a b c d = (List.range' 0 a.length).all (meetP a b c d) := by simp [meetOk, lb, lc, ld, List.range_eq_range']
        rw [meetRes, this]
        exact e
      · refine Ev.from 0 (fun k hk => ?_)
        have hb : ((a.length : Int) != (d.length : Int)) = true := by simp; omega
        simp only [stratumref05_Meet.f, stratumref05_Meet.j0, hb]
        rw [if_pos (by omega), if_pos (by omega), if_pos trivial]
        simp [meetRes, meetOk, ld]
    · refine Ev.from 0 (fun k hk => ?_)
      simp only [stratumref05_Meet.f, stratumref05_Meet.j0]
      rw [if_pos (by omega), if_neg (by omega), if_pos trivial]
      simp [meetRes, meetOk, lc]
  · refine Ev.from 0 (fun k hk => ?_)
    simp only [stratumref05_Meet.f, stratumref05_Meet.j0]
    rw [if_neg (by omega), if_pos trivial]
    simp [meetRes, meetOk, lb]
theorem meetRes_len (a b c d : List Int) : (meetRes a b c d).1.length ≤ a.length ∧ (meetRes a b c d).2.1.length ≤ a.length := by
  unfold meetRes
  split <;> simp [meetA, meetB]
abbrev gi64 (l : List Int) : Prop := ∀ y ∈ l, (Lit.int .i64 y).wf = true
set_option maxHeartbeats 16000000 in
set_option maxRecDepth 100000 in
theorem DiceMeets_true_calls (A0 : Option Addr) (c0 : Nat) (l0 : List Int) (A1 : Option Addr) (c1 : Nat) (l1 : List Int) (A2 : Option Addr) (c2 : Nat) (l2 : List Int) (A3 : Option Addr) (c3 : Nat) (l3 : List Int) (A4 : Option Addr) (c4 : Nat) (l4 : List Int) (A5 : Option Addr) (c5 : Nat) (l5 : List Int) (A6 : Option Addr) (c6 : Nat) (l6 : List Int) (A7 : Option Addr) (c7 : Nat) (l7 : List Int) (w : World)
    (hr0 : Kd.C (Kd.int .i64) w A0 l0.length l0) (hc0 : l0.length ≤ c0) (g0 : gi64 l0)
    (hr1 : Kd.C (Kd.int .i64) w A1 l1.length l1) (hc1 : l1.length ≤ c1) (g1 : gi64 l1)
    (hr2 : Kd.C (Kd.int .i64) w A2 l2.length l2) (hc2 : l2.length ≤ c2) (g2 : gi64 l2)
    (hr3 : Kd.C (Kd.int .i64) w A3 l3.length l3) (hc3 : l3.length ≤ c3) (g3 : gi64 l3)
    (hr4 : Kd.C (Kd.int .u8) w A4 l4.length l4) (hc4 : l4.length ≤ c4) (g4 : gu8 l4)
    (hr5 : Kd.C (Kd.int .u8) w A5 l5.length l5) (hc5 : l5.length ≤ c5) (g5 : gu8 l5)
    (hr6 : Kd.C (Kd.int .u8) w A6 l6.length l6) (hc6 : l6.length ≤ c6) (g6 : gu8 l6)
    (hr7 : Kd.C (Kd.int .u8) w A7 l7.length l7) (hc7 : l7.length ≤ c7) (g7 : gu8 l7) :
    Calls Try.prog 5 #[.slice A0 l0.length c0, .slice A1 l1.length c1, .slice A2 l2.length c2, .slice A3 l3.length c3, .slice A4 l4.length c4, .slice A5 l5.length c5, .slice A6 l6.length c6, .slice A7 l7.length c7] w fun e w' => e = .returned (.bool true) ∧ Below w.heap.size w w' := by
  have gg4 := g4.ok
  have gg5 := g5.ok
  have gg6 := g6.ok
  have gg7 := g7.ok
  have HR0 := Aside0.mk hr0
  have HC0 := Aside0.mk hc0
  have HR1 := Aside0.mk hr1
  have HC1 := Aside0.mk hc1
  have HR2 := Aside0.mk hr2
  have HC2 := Aside0.mk hc2
  have HR3 := Aside0.mk hr3
  have HC3 := Aside0.mk hc3
  have HR4 := Aside0.mk hr4
  have HC4 := Aside0.mk hc4
  have HR5 := Aside0.mk hr5
  have HC5 := Aside0.mk hc5
  have HR6 := Aside0.mk hr6
  have HC6 := Aside0.mk hc6
  have HR7 := Aside0.mk hr7
  have HC7 := Aside0.mk hc7
  have m0 : l0.length ≤ 9223372036854775807 := hr0.2.1
  have m1 : l1.length ≤ 9223372036854775807 := hr1.2.1
  have m2 : l2.length ≤ 9223372036854775807 := hr2.2.1
  have m3 : l3.length ≤ 9223372036854775807 := hr3.2.1
  have m4 : l4.length ≤ 9223372036854775807 := hr4.2.1
  have m5 : l5.length ≤ 9223372036854775807 := hr5.2.1
  have m6 : l6.length ≤ 9223372036854775807 := hr6.2.1
  have m7 : l7.length ≤ 9223372036854775807 := hr7.2.1
  obtain ⟨K0, c0'⟩ := heavy_ev [l0, l1, l2, l3] (by simp)
  have hv := c0' K0 (Nat.le_refl _)
  dsimp only at hv
  clear c0'
  obtain ⟨W0, hW0⟩ : ∃ W0, W0 = (w.alloc (.cells #[Value.slice A0 l0.length c0, Value.slice A1 l1.length c1, Value.slice A2 l2.length c2, Value.slice A3 l3.length c3] 26)) := ⟨_, rfl⟩
  have hbel : Below w.heap.size w W0 := by rw [hW0]; exact below_alloc (Below.refl _ _) _
  have hls := C_rows (W := W0) (b := w.heap.size) [(A0, c0, l0), (A1, c1, l1), (A2, c2, l2), (A3, c3, l3)] (by rw [hW0]; exact heap_alloc_new w _) (by simp; exact ⟨⟨HC0.out, Kd.C_below HR0.out hbel⟩, ⟨HC1.out, Kd.C_below HR1.out hbel⟩, ⟨HC2.out, Kd.C_below HR2.out hbel⟩, HC3.out, Kd.C_below HR3.out hbel⟩) (by simp)
  have hH : ∀ r, ([l0, l1, l2, l3].any fun x => decide (100 < x.length)) = r → Calls Try.prog 21 #[.slice (some ⟨w.heap.size, 0, none⟩) 4 4] W0 fun e w' => e = .returned (.bool r) ∧ Drawn0 W0 w' := by
    intro r hr
    rw [hr] at hv
    exact stratumlaw05_heavy.calls K0 _ 4 [l0, l1, l2, l3] r W0 hls (by simp) hv
  have HH := Aside0.mk hH
  have HB := Aside0.mk hbel
  have HW := Aside0.mk hW0
  clear hH hbel hW0 hls hv hr0 hc0 g0 hr1 hc1 g1 hr2 hc2 g2 hr3 hc3 g3 hr4 hc4 g4 hr5 hc5 g5 hr6 hc6 g6 hr7 hc7 g7
  cases hh : ([l0, l1, l2, l3].any fun x => decide (100 < x.length))
  case true =>
    have HV := Aside0.mk hh
    clear hh
    go_enter Try.func5, Try.ntmps5
    go_wp2_with fail
    rw [← HW.out]
    refine (HH.out true HV.out).mono ?_
    rintro e w1 ⟨rfl, hd⟩
    have hb1 : Below w.heap.size w w1 := HB.out.trans (hd.below.mono HB.out.size)
    have HB1 := Aside0.mk hb1
    clear hd hb1
    go_wp2_with fail
    refine (stratumlaw05_known.calls true _ rfl).mono ?_
    rintro e w2 ⟨rfl, hb⟩
    have HB2 := Aside0.mk (HB1.out.trans (hb.mono HB1.out.size))
    clear hb
    go_wp2
    go_ret
    exact ⟨rfl, HB2.out⟩
  case false =>
    have HV := Aside0.mk hh
    have hlen : l0.length ≤ 100 := by simp at hh; omega
    clear hh
    by_cases k4 : 100 < l4.length
    · skip
      have q4 : decide (100 < l4.length) = true := by simp; omega
      have z4 : decide ((100 : Int) < (l4.length : Int)) = true := by simp; omega
      clear k4
      go_enter Try.func5, Try.ntmps5
      go_wp2_with fail
      rw [← HW.out]
      refine (HH.out false HV.out).mono ?_
      rintro e w1 ⟨rfl, hd⟩
      have hb1 : Below w.heap.size w w1 := HB.out.trans (hd.below.mono HB.out.size)
      have HB1 := Aside0.mk hb1
      clear hd hb1
      go_wp2_with fail
      refine (stratumlaw05_known.calls true _ rfl).mono ?_
      rintro e w2 ⟨rfl, hb⟩
      have HB2 := Aside0.mk (HB1.out.trans (hb.mono HB1.out.size))
      clear hb
      go_wp2
      go_ret
      exact ⟨rfl, HB2.out⟩
    · skip
      have q4 : decide (100 < l4.length) = false := by simp; omega
      have z4 : decide ((100 : Int) < (l4.length : Int)) = false := by simp; omega
      by_cases k5 : 100 < l5.length
      · skip
        have q5 : decide (100 < l5.length) = true := by simp; omega
        have z5 : decide ((100 : Int) < (l5.length : Int)) = true := by simp; omega
        clear k5
        go_enter Try.func5, Try.ntmps5
        go_wp2_with fail
        rw [← HW.out]
        refine (HH.out false HV.out).mono ?_
        rintro e w1 ⟨rfl, hd⟩
        have hb1 : Below w.heap.size w w1 := HB.out.trans (hd.below.mono HB.out.size)
        have HB1 := Aside0.mk hb1
        clear hd hb1
        go_wp2_with fail
        refine (stratumlaw05_known.calls true _ rfl).mono ?_
        rintro e w2 ⟨rfl, hb⟩
        have HB2 := Aside0.mk (HB1.out.trans (hb.mono HB1.out.size))
        clear hb
        go_wp2
        go_ret
        exact ⟨rfl, HB2.out⟩
      · skip
        have q5 : decide (100 < l5.length) = false := by simp; omega
        have z5 : decide ((100 : Int) < (l5.length : Int)) = false := by simp; omega
        by_cases k6 : 100 < l6.length
        · skip
          have q6 : decide (100 < l6.length) = true := by simp; omega
          have z6 : decide ((100 : Int) < (l6.length : Int)) = true := by simp; omega
          clear k6
          go_enter Try.func5, Try.ntmps5
          go_wp2_with fail
          rw [← HW.out]
          refine (HH.out false HV.out).mono ?_
          rintro e w1 ⟨rfl, hd⟩
          have hb1 : Below w.heap.size w w1 := HB.out.trans (hd.below.mono HB.out.size)
          have HB1 := Aside0.mk hb1
          clear hd hb1
          go_wp2_with fail
          refine (stratumlaw05_known.calls true _ rfl).mono ?_
          rintro e w2 ⟨rfl, hb⟩
          have HB2 := Aside0.mk (HB1.out.trans (hb.mono HB1.out.size))
          clear hb
          go_wp2
          go_ret
          exact ⟨rfl, HB2.out⟩
        · skip
          have q6 : decide (100 < l6.length) = false := by simp; omega
          have z6 : decide ((100 : Int) < (l6.length : Int)) = false := by simp; omega
          by_cases k7 : 100 < l7.length
          · skip
            have q7 : decide (100 < l7.length) = true := by simp; omega
            have z7 : decide ((100 : Int) < (l7.length : Int)) = true := by simp; omega
            clear k7
            go_enter Try.func5, Try.ntmps5
            go_wp2_with fail
            rw [← HW.out]
            refine (HH.out false HV.out).mono ?_
            rintro e w1 ⟨rfl, hd⟩
            have hb1 : Below w.heap.size w w1 := HB.out.trans (hd.below.mono HB.out.size)
            have HB1 := Aside0.mk hb1
            clear hd hb1
            go_wp2_with fail
            refine (stratumlaw05_known.calls true _ rfl).mono ?_
            rintro e w2 ⟨rfl, hb⟩
            have HB2 := Aside0.mk (HB1.out.trans (hb.mono HB1.out.size))
            clear hb
            go_wp2
            go_ret
            exact ⟨rfl, HB2.out⟩
          · skip
            have q7 : decide (100 < l7.length) = false := by simp; omega
            have z7 : decide ((100 : Int) < (l7.length : Int)) = false := by simp; omega
            have HF1 := Aside0.mk (show dice_Meet.f l0 l1 l2 l3 = some (meetRes l0 l1 l2 l3) by rw [dice_Meet.f, if_pos (by omega)])
            obtain ⟨K1, d1⟩ := refmeet_ev l0 l1 l2 l3 (by omega)
            have HF2 := Aside0.mk (d1 K1 (Nat.le_refl _))
            obtain ⟨K4, d4⟩ := ints_ev l4 (by omega) gg4
            have HI4 := Aside0.mk (d4 K4 (Nat.le_refl _))
            obtain ⟨K5, d5⟩ := ints_ev l5 (by omega) gg5
            have HI5 := Aside0.mk (d5 K5 (Nat.le_refl _))
            obtain ⟨K6, d6⟩ := ints_ev l6 (by omega) gg6
            have HI6 := Aside0.mk (d6 K6 (Nat.le_refl _))
            obtain ⟨K7, d7⟩ := ints_ev l7 (by omega) gg7
            have HI7 := Aside0.mk (d7 K7 (Nat.le_refl _))
            have HF3 := Aside0.mk (show dice_Meet.f l4 l5 l6 l7 = some (meetRes l4 l5 l6 l7) by rw [dice_Meet.f, if_pos (by omega)])
            obtain ⟨K8, d8⟩ := refmeet_ev l4 l5 l6 l7 (by omega)
            have HF4 := Aside0.mk (d8 K8 (Nat.le_refl _))
            obtain ⟨⟨x1, x2, x3⟩, hx⟩ : ∃ r, r = meetRes l0 l1 l2 l3 := ⟨_, rfl⟩
            obtain ⟨⟨y1, y2, y3⟩, hy⟩ : ∃ r, r = meetRes l4 l5 l6 l7 := ⟨_, rfl⟩
            have lx1 := meetRes_len l0 l1 l2 l3
            have ly1 := meetRes_len l4 l5 l6 l7
            rw [← hx] at HF1 HF2 lx1
            rw [← hy] at HF3 HF4 ly1
            dsimp only at HF2 HF4 HI4 HI5 HI6 HI7 lx1 ly1
            obtain ⟨KS1, dS1⟩ := same_ev x1 (by omega)
            have HS1 := Aside0.mk (dS1 KS1 (Nat.le_refl _))
            dsimp only at HS1
            obtain ⟨KS2, dS2⟩ := same_ev x2 (by omega)
            have HS2 := Aside0.mk (dS2 KS2 (Nat.le_refl _))
            dsimp only at HS2
            obtain ⟨KS3, dS3⟩ := same_ev y1 (by omega)
            have HS3 := Aside0.mk (dS3 KS3 (Nat.le_refl _))
            dsimp only at HS3
            obtain ⟨KS4, dS4⟩ := same_ev y2 (by omega)
            have HS4 := Aside0.mk (dS4 KS4 (Nat.le_refl _))
            dsimp only at HS4
            clear hx hy d1 d4 d5 d6 d7 d8 dS1 dS2 dS3 dS4 gg4 gg5 gg6 gg7 k4 k5 k6 k7 lx1 ly1 hlen
            go_enter Try.func5, Try.ntmps5
            go_wp2_with fail
            rw [← HW.out]
            refine (HH.out false HV.out).mono ?_
            rintro e w1 ⟨rfl, hd⟩
            have hb1 : Below w.heap.size w w1 := HB.out.trans (hd.below.mono HB.out.size)
            have HB1 := Aside0.mk hb1
            clear hd hb1
            go_wp2_with fail
            refine (stratumlaw05_known.calls true _ rfl).mono ?_
            rintro e w2 ⟨rfl, hb⟩
            have HB2 := Aside0.mk (HB1.out.trans (hb.mono HB1.out.size))
            clear hb
            go_wp2_with fail
            refine (dice_Meet.calls  _ _ l0 _ _ l1 _ _ l2 _ _ l3 x1 x2 x3 _ ?_ ?_ ?_ ?_ ?_ ?_ ?_ ?_ HF1.out).mono ?_
            · exact (Kd.C_below HR0.out HB2.out)
            · exact HC0.out
            · exact (Kd.C_below HR1.out HB2.out)
            · exact HC1.out
            · exact (Kd.C_below HR2.out HB2.out)
            · exact HC2.out
            · exact (Kd.C_below HR3.out HB2.out)
            · exact HC3.out
            rintro e w3 ⟨vap, vbp, rfl, ra, rb, hb⟩
            obtain ⟨Aap, cap, rfl, lca, Ca⟩ := Kd.R_reads ra
            have HCap := Aside0.mk Ca
            have HLap := Aside0.mk lca
            obtain ⟨Abp, cbp, rfl, lcb, Cb⟩ := Kd.R_reads rb
            have HCbp := Aside0.mk Cb
            have HLbp := Aside0.mk lcb
            have HD3 := Aside0.mk hb
            have HB3 := Aside0.mk (HB2.out.trans (hb.mono HB2.out.size))
            clear ra rb lca lcb Ca Cb hb
            go_wp2_with fail
            refine (stratumref05_Meet.calls K1 _ _ l0 _ _ l1 _ _ l2 _ _ l3 x1 x2 x3 _ ?_ ?_ ?_ ?_ ?_ ?_ ?_ ?_ HF2.out).mono ?_
            · exact (Kd.C_below HR0.out HB3.out)
            · exact HC0.out
            · exact (Kd.C_below HR1.out HB3.out)
            · exact HC1.out
            · exact (Kd.C_below HR2.out HB3.out)
            · exact HC2.out
            · exact (Kd.C_below HR3.out HB3.out)
            · exact HC3.out
            rintro e w4 ⟨vaq, vbq, rfl, ra, rb, hb⟩
            obtain ⟨Aaq, caq, rfl, lca, Ca⟩ := Kd.R_reads ra
            have HCaq := Aside0.mk Ca
            have HLaq := Aside0.mk lca
            obtain ⟨Abq, cbq, rfl, lcb, Cb⟩ := Kd.R_reads rb
            have HCbq := Aside0.mk Cb
            have HLbq := Aside0.mk lcb
            have HD4 := Aside0.mk hb
            have HB4 := Aside0.mk (HB3.out.trans (hb.mono HB3.out.size))
            clear ra rb lca lcb Ca Cb hb
            go_wp2_with fail
            refine (stratumlaw05_ints.calls K4 _ _ l4 l4 _ ?_ ?_ HI4.out).mono ?_
            · exact (Kd.C_below HR4.out HB4.out)
            · exact HC4.out
            rintro e w5 ⟨vm4, rfl, ra, hb⟩
            obtain ⟨Am4, cm4, rfl, lc, Cc⟩ := Kd.R_reads ra
            have HCm4 := Aside0.mk Cc
            have HLm4 := Aside0.mk lc
            have HD5 := Aside0.mk hb
            have HB5 := Aside0.mk (HB4.out.trans (hb.mono HB4.out.size))
            clear ra lc Cc hb
            go_wp2_with fail
            refine (stratumlaw05_ints.calls K5 _ _ l5 l5 _ ?_ ?_ HI5.out).mono ?_
            · exact (Kd.C_below HR5.out HB5.out)
            · exact HC5.out
            rintro e w6 ⟨vm5, rfl, ra, hb⟩
            obtain ⟨Am5, cm5, rfl, lc, Cc⟩ := Kd.R_reads ra
            have HCm5 := Aside0.mk Cc
            have HLm5 := Aside0.mk lc
            have HD6 := Aside0.mk hb
            have HB6 := Aside0.mk (HB5.out.trans (hb.mono HB5.out.size))
            clear ra lc Cc hb
            go_wp2_with fail
            refine (stratumlaw05_ints.calls K6 _ _ l6 l6 _ ?_ ?_ HI6.out).mono ?_
            · exact (Kd.C_below HR6.out HB6.out)
            · exact HC6.out
            rintro e w7 ⟨vm6, rfl, ra, hb⟩
            obtain ⟨Am6, cm6, rfl, lc, Cc⟩ := Kd.R_reads ra
            have HCm6 := Aside0.mk Cc
            have HLm6 := Aside0.mk lc
            have HD7 := Aside0.mk hb
            have HB7 := Aside0.mk (HB6.out.trans (hb.mono HB6.out.size))
            clear ra lc Cc hb
            go_wp2_with fail
            refine (stratumlaw05_ints.calls K7 _ _ l7 l7 _ ?_ ?_ HI7.out).mono ?_
            · exact (Kd.C_below HR7.out HB7.out)
            · exact HC7.out
            rintro e w8 ⟨vm7, rfl, ra, hb⟩
            obtain ⟨Am7, cm7, rfl, lc, Cc⟩ := Kd.R_reads ra
            have HCm7 := Aside0.mk Cc
            have HLm7 := Aside0.mk lc
            have HD8 := Aside0.mk hb
            have HB8 := Aside0.mk (HB7.out.trans (hb.mono HB7.out.size))
            clear ra lc Cc hb
            go_wp2_with fail
            refine (dice_Meet.calls  _ _ l4 _ _ l5 _ _ l6 _ _ l7 y1 y2 y3 _ ?_ ?_ ?_ ?_ ?_ ?_ ?_ ?_ HF3.out).mono ?_
            · exact (Kd.C_below (Kd.C_below (Kd.C_below HCm4.out HD6.out) HD7.out) HD8.out)
            · exact HLm4.out
            · exact (Kd.C_below (Kd.C_below HCm5.out HD7.out) HD8.out)
            · exact HLm5.out
            · exact (Kd.C_below HCm6.out HD8.out)
            · exact HLm6.out
            · exact HCm7.out
            · exact HLm7.out
            rintro e w9 ⟨var, vbr, rfl, ra, rb, hb⟩
            obtain ⟨Aar, car, rfl, lca, Ca⟩ := Kd.R_reads ra
            have HCar := Aside0.mk Ca
            have HLar := Aside0.mk lca
            obtain ⟨Abr, cbr, rfl, lcb, Cb⟩ := Kd.R_reads rb
            have HCbr := Aside0.mk Cb
            have HLbr := Aside0.mk lcb
            have HD9 := Aside0.mk hb
            have HB9 := Aside0.mk (HB8.out.trans (hb.mono HB8.out.size))
            clear ra rb lca lcb Ca Cb hb
            go_wp2_with fail
            refine (stratumlaw05_ints.calls K4 _ _ l4 l4 _ ?_ ?_ HI4.out).mono ?_
            · exact (Kd.C_below HR4.out HB9.out)
            · exact HC4.out
            rintro e w10 ⟨vn4, rfl, ra, hb⟩
            obtain ⟨An4, cn4, rfl, lc, Cc⟩ := Kd.R_reads ra
            have HCn4 := Aside0.mk Cc
            have HLn4 := Aside0.mk lc
            have HD10 := Aside0.mk hb
            have HB10 := Aside0.mk (HB9.out.trans (hb.mono HB9.out.size))
            clear ra lc Cc hb
            go_wp2_with fail
            refine (stratumlaw05_ints.calls K5 _ _ l5 l5 _ ?_ ?_ HI5.out).mono ?_
            · exact (Kd.C_below HR5.out HB10.out)
            · exact HC5.out
            rintro e w11 ⟨vn5, rfl, ra, hb⟩
            obtain ⟨An5, cn5, rfl, lc, Cc⟩ := Kd.R_reads ra
            have HCn5 := Aside0.mk Cc
            have HLn5 := Aside0.mk lc
            have HD11 := Aside0.mk hb
            have HB11 := Aside0.mk (HB10.out.trans (hb.mono HB10.out.size))
            clear ra lc Cc hb
            go_wp2_with fail
            refine (stratumlaw05_ints.calls K6 _ _ l6 l6 _ ?_ ?_ HI6.out).mono ?_
            · exact (Kd.C_below HR6.out HB11.out)
            · exact HC6.out
            rintro e w12 ⟨vn6, rfl, ra, hb⟩
            obtain ⟨An6, cn6, rfl, lc, Cc⟩ := Kd.R_reads ra
            have HCn6 := Aside0.mk Cc
            have HLn6 := Aside0.mk lc
            have HD12 := Aside0.mk hb
            have HB12 := Aside0.mk (HB11.out.trans (hb.mono HB11.out.size))
            clear ra lc Cc hb
            go_wp2_with fail
            refine (stratumlaw05_ints.calls K7 _ _ l7 l7 _ ?_ ?_ HI7.out).mono ?_
            · exact (Kd.C_below HR7.out HB12.out)
            · exact HC7.out
            rintro e w13 ⟨vn7, rfl, ra, hb⟩
            obtain ⟨An7, cn7, rfl, lc, Cc⟩ := Kd.R_reads ra
            have HCn7 := Aside0.mk Cc
            have HLn7 := Aside0.mk lc
            have HD13 := Aside0.mk hb
            have HB13 := Aside0.mk (HB12.out.trans (hb.mono HB12.out.size))
            clear ra lc Cc hb
            go_wp2_with fail
            refine (stratumref05_Meet.calls K8 _ _ l4 _ _ l5 _ _ l6 _ _ l7 y1 y2 y3 _ ?_ ?_ ?_ ?_ ?_ ?_ ?_ ?_ HF4.out).mono ?_
            · exact (Kd.C_below (Kd.C_below (Kd.C_below HCn4.out HD11.out) HD12.out) HD13.out)
            · exact HLn4.out
            · exact (Kd.C_below (Kd.C_below HCn5.out HD12.out) HD13.out)
            · exact HLn5.out
            · exact (Kd.C_below HCn6.out HD13.out)
            · exact HLn6.out
            · exact HCn7.out
            · exact HLn7.out
            rintro e w14 ⟨vas, vbs, rfl, ra, rb, hb⟩
            obtain ⟨Aas, cas, rfl, lca, Ca⟩ := Kd.R_reads ra
            have HCas := Aside0.mk Ca
            have HLas := Aside0.mk lca
            obtain ⟨Abs, cbs, rfl, lcb, Cb⟩ := Kd.R_reads rb
            have HCbs := Aside0.mk Cb
            have HLbs := Aside0.mk lcb
            have HD14 := Aside0.mk hb
            have HB14 := Aside0.mk (HB13.out.trans (hb.mono HB13.out.size))
            clear ra rb lca lcb Ca Cb hb
            go_wp2_with fail
            cases x3 <;> cases y3
            all_goals
              refine (stratumlaw05_same.calls KS1 _ _ x1 _ _ x1 true _ ?_ ?_ ?_ ?_ HS1.out).mono ?_
              · exact (Kd.C_below (Kd.C_below (Kd.C_below (Kd.C_below (Kd.C_below (Kd.C_below (Kd.C_below (Kd.C_below (Kd.C_below (Kd.C_below (Kd.C_below HCap.out HD4.out) HD5.out) HD6.out) HD7.out) HD8.out) HD9.out) HD10.out) HD11.out) HD12.out) HD13.out) HD14.out)
              · exact HLap.out
              · exact (Kd.C_below (Kd.C_below (Kd.C_below (Kd.C_below (Kd.C_below (Kd.C_below (Kd.C_below (Kd.C_below (Kd.C_below (Kd.C_below HCaq.out HD5.out) HD6.out) HD7.out) HD8.out) HD9.out) HD10.out) HD11.out) HD12.out) HD13.out) HD14.out)
              · exact HLaq.out
              rintro e w15 ⟨rfl, hd⟩
              have HD15 := Aside0.mk hd.below
              have HB15 := Aside0.mk (HB14.out.trans (hd.below.mono HB14.out.size))
              clear hd
              go_wp2_with fail
              refine (stratumlaw05_same.calls KS2 _ _ x2 _ _ x2 true _ ?_ ?_ ?_ ?_ HS2.out).mono ?_
              · exact (Kd.C_below (Kd.C_below (Kd.C_below (Kd.C_below (Kd.C_below (Kd.C_below (Kd.C_below (Kd.C_below (Kd.C_below (Kd.C_below (Kd.C_below (Kd.C_below HCbp.out HD4.out) HD5.out) HD6.out) HD7.out) HD8.out) HD9.out) HD10.out) HD11.out) HD12.out) HD13.out) HD14.out) HD15.out)
              · exact HLbp.out
              · exact (Kd.C_below (Kd.C_below (Kd.C_below (Kd.C_below (Kd.C_below (Kd.C_below (Kd.C_below (Kd.C_below (Kd.C_below (Kd.C_below (Kd.C_below HCbq.out HD5.out) HD6.out) HD7.out) HD8.out) HD9.out) HD10.out) HD11.out) HD12.out) HD13.out) HD14.out) HD15.out)
              · exact HLbq.out
              rintro e w16 ⟨rfl, hd⟩
              have HD16 := Aside0.mk hd.below
              have HB16 := Aside0.mk (HB15.out.trans (hd.below.mono HB15.out.size))
              clear hd
              go_wp2_with fail
              refine (stratumlaw05_same.calls KS3 _ _ y1 _ _ y1 true _ ?_ ?_ ?_ ?_ HS3.out).mono ?_
              · exact (Kd.C_below (Kd.C_below (Kd.C_below (Kd.C_below (Kd.C_below (Kd.C_below (Kd.C_below HCar.out HD10.out) HD11.out) HD12.out) HD13.out) HD14.out) HD15.out) HD16.out)
              · exact HLar.out
              · exact (Kd.C_below (Kd.C_below HCas.out HD15.out) HD16.out)
              · exact HLas.out
              rintro e w17 ⟨rfl, hd⟩
              have HD17 := Aside0.mk hd.below
              have HB17 := Aside0.mk (HB16.out.trans (hd.below.mono HB16.out.size))
              clear hd
              go_wp2_with fail
              refine (stratumlaw05_same.calls KS4 _ _ y2 _ _ y2 true _ ?_ ?_ ?_ ?_ HS4.out).mono ?_
              · exact (Kd.C_below (Kd.C_below (Kd.C_below (Kd.C_below (Kd.C_below (Kd.C_below (Kd.C_below (Kd.C_below HCbr.out HD10.out) HD11.out) HD12.out) HD13.out) HD14.out) HD15.out) HD16.out) HD17.out)
              · exact HLbr.out
              · exact (Kd.C_below (Kd.C_below (Kd.C_below HCbs.out HD15.out) HD16.out) HD17.out)
              · exact HLbs.out
              rintro e w18 ⟨rfl, hd⟩
              have HD18 := Aside0.mk hd.below
              have HB18 := Aside0.mk (HB17.out.trans (hd.below.mono HB17.out.size))
              clear hd
              go_wp2
              go_ret
              exact ⟨rfl, HB18.out⟩
end Go.Proofs.Ytjeojnjkmhnepaa.Pr
