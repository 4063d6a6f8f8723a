/- It is proved here that DiceSounds returns true, for every input that reads as data. -/
import Derived.Test.YtjeojnjkmhnepaaProg
import Derived.Below
import Derived.Deep.Draws
import Derived.Deep.AppendLies
import Derived.Maps.AppendAt
import Derived.OwnWalk
import Derived.Laws.BytesArg
import Derived.Laws.MakeOwn
import Derived.Laws.OwnMore
import Derived.Deep.OwnRows
import Derived.Tactics
import Derived.Lib.ConvBytes
import Derived.Laws.Slices
import Derived.WalkKit
import Derived.KernelRfl
import Derived.RowKit3
import Derived.Deep.LoopGhost
import Derived.Deep.QuietTactic
import Derived.BigQuiet
import Derived.WideLaws
import Derived.Deep.DeepCutAuto
import Derived.Deep.CutBlock
import Derived.Deep.RegionHeld3
import Derived.Laws.Rows
import Derived.Lib.AppendStr
import Derived.ArgAppend
import Derived.Laws.IdiomCopy
import Derived.OrdersHeld
import Derived.Laws.BitsLemmas
import Derived.RowKit
import Derived.Test.YtjeojnjkmhnepaaWWords
import Derived.Test.YtjeojnjkmhnepaaWLast
import Derived.Test.YtjeojnjkmhnepaaWTab
import Derived.Test.YtjeojnjkmhnepaaWFour
import Derived.Test.YtjeojnjkmhnepaaWQPut
import Derived.Test.YtjeojnjkmhnepaaWApart
import Derived.Test.YtjeojnjkmhnepaaWArr
import Derived.Test.YtjeojnjkmhnepaaWZeros
import Derived.Test.YtjeojnjkmhnepaaWFoot
import Derived.Test.YtjeojnjkmhnepaaWKept
import Derived.Test.YtjeojnjkmhnepaaWShare
import Derived.Test.YtjeojnjkmhnepaaWN
import Derived.Test.YtjeojnjkmhnepaaWFootNe
import Derived.Test.YtjeojnjkmhnepaaWAt
import Derived.Test.YtjeojnjkmhnepaaWEqStruct
import Derived.Test.YtjeojnjkmhnepaaWRepsOne
import Derived.Test.YtjeojnjkmhnepaaWInv
import Derived.Test.YtjeojnjkmhnepaaWInvWords
import Derived.Test.YtjeojnjkmhnepaaWGuard
import Derived.Test.YtjeojnjkmhnepaaWNEv
import Derived.Test.YtjeojnjkmhnepaaWMore
import Derived.Test.YtjeojnjkmhnepaaL4
import Derived.Test.YtjeojnjkmhnepaaPrSounds1
open Go Go.RowKit Go.Proofs.YtjeojnjkmhnepaaW.PrintWords Go.Proofs.YtjeojnjkmhnepaaW.PrintLast Go.Proofs.YtjeojnjkmhnepaaW.PrintMore
set_option linter.unusedVariables false
set_option linter.unusedSimpArgs false
namespace Go.Proofs.Ytjeojnjkmhnepaa.Pr
open Dice
theorem sound_box (l : List S29) (p q : List Int) (h : BoxIn l p q) : soundRes l p q = true := by
  simp [soundRes, h.1, h.2.1, soundP]
  intro i hi
  have := h.2.2 i hi
  omega
theorem within_low (l : List S29) (p q : List Int) (h : BoxIn l p q) : within p q p = true := by
  rw [within_iff _ _ _ (by rw [h.2.1, h.1]) rfl]
  intro i hi
  have := h.2.2 i (by rw [← h.1]; exact hi)
  omega
theorem within_high (l : List S29) (p q : List Int) (h : BoxIn l p q) (h1 : 1 ≤ l.length) : within p q q = false := by
  cases hw : within p q q
  · rfl
  · rw [within_iff _ _ _ (by rw [h.2.1, h.1]) (by rw [h.2.1, h.1])] at hw
    have := hw 0 (by have := h.1; omega)
    omega
theorem DiceSounds_true (l0 : List S29) (l1 l2 l3 : List Int) (l4 : List S81) (l5 l6 : List Int) (g4 : gcut l4) (g5 : gu16 l5) (g6 : gu16 l6) : ∃ k, stratumlaw05_DiceSounds.f k l0 l1 l2 l3 l4 l5 l6 = some true := by
  have hv := heavy_ev [l1, l2, l3] (by simp)
  obtain ⟨K0, c0⟩ := hv
  dsimp only at c0
  cases hh : ([l1, l2, l3].any fun x => decide (100 < x.length))
  · by_cases hl : (l0.length : Int) > 100
    · refine Ev.rounds (Ev.from (g := fun k => stratumlaw05_DiceSounds.f k l0 l1 l2 l3 l4 l5 l6) K0 (fun k hk => ?_))
      simp only [stratumlaw05_DiceSounds.f, c0 (k + 1) (by omega), Option.bind_some, hh]
      rw [if_neg (by simp), if_pos hl]
      simp [stratumlaw05_DiceSounds.j0, stratumlaw05_known.f]
    · obtain ⟨l, hof, hd⟩ := of_ev l4 g4.ok
      obtain ⟨⟨p, q⟩, hbox, kb⟩ := box_ev l l5 l6 hd g5.ok g6.ok
      have hs := refsound_ev l0 l1 l2 (by omega)
      have h12 : l1.length ≤ 100 := by simp at hh; omega
      have hw := refwithin_ev l1 l2 l3 (by omega)
      have s1 := sound_box l p q kb
      have s2 := within_low l p q kb
      have s3 := within_high l p q kb hd.l0
      obtain ⟨K1, c1⟩ := hof
      obtain ⟨K2, c2⟩ := hbox
      obtain ⟨K3, c3⟩ := hs
      obtain ⟨K4, c4⟩ := hw
      dsimp only at c1 c2 c3 c4
      refine Ev.rounds (Ev.from (g := fun k => stratumlaw05_DiceSounds.f k l0 l1 l2 l3 l4 l5 l6) (K0 + K1 + K2 + K3 + K4) (fun k hk => ?_))
      simp only [stratumlaw05_DiceSounds.f, c0 (k + 1) (by omega), Option.bind_some, hh]
      rw [if_neg (by simp), if_neg hl]
      simp only [stratumlaw05_known.f, Option.bind_some, Bool.not_true, stratumlaw05_DiceSounds.j0]
      rw [if_neg (by simp), c1 k (by omega)]
      simp only [Option.bind_some]
      rw [c2 k (by omega)]
      simp only [Option.bind_some, dice_Sound.f, dice_Within.f]
      rw [c3 k (by omega)]
      simp only [Option.bind_some, beq_self_eq_true, if_true]
      rw [c4 k (by omega)]
      simp only [Option.bind_some, beq_self_eq_true, if_true, s1, s2, s3, Bool.not_false]
  · refine Ev.rounds (Ev.from (g := fun k => stratumlaw05_DiceSounds.f k l0 l1 l2 l3 l4 l5 l6) K0 (fun k hk => ?_))
    simp only [stratumlaw05_DiceSounds.f, c0 (k + 1) (by omega), Option.bind_some, hh]
    rw [if_pos trivial]
    simp [stratumlaw05_DiceSounds.j0, stratumlaw05_known.f]
theorem DiceSounds_true_calls (A0 : Option Addr) (c0 : Nat) (l0 : List S29) (A1 : Option Addr) (c1 : Nat) (l1 : List Int) (A2 : Option Addr) (c2 : Nat) (l2 : List Int) (A3 : Option Addr) (c3 : Nat) (l3 : List Int) (A4 : Option Addr) (c4 : Nat) (l4 : List S81) (A5 : Option Addr) (c5 : Nat) (l5 : List Int) (A6 : Option Addr) (c6 : Nat) (l6 : List Int) (w : World)
    (hr0 : Kd.C k29 w A0 l0.length l0) (hc0 : l0.length ≤ c0) (g0 : ∀ y ∈ l0, (Lit.int .i64 y.f0).wf = true ∧ ∀ z ∈ y.f1, (Lit.int .i64 z).wf = true) (hr1 : Kd.C (Kd.int .i64) w A1 l1.length l1) (hc1 : l1.length ≤ c1) (g1 : ∀ y ∈ l1, (Lit.int .i64 y).wf = true) (hr2 : Kd.C (Kd.int .i64) w A2 l2.length l2) (hc2 : l2.length ≤ c2) (g2 : ∀ y ∈ l2, (Lit.int .i64 y).wf = true)
    (hr3 : Kd.C (Kd.int .i64) w A3 l3.length l3) (hc3 : l3.length ≤ c3) (g3 : ∀ y ∈ l3, (Lit.int .i64 y).wf = true) (hr4 : Kd.C k81 w A4 l4.length l4) (hc4 : l4.length ≤ c4) (g4 : gcut l4) (hr5 : Kd.C (Kd.int .u16) w A5 l5.length l5) (hc5 : l5.length ≤ c5) (g5 : gu16 l5) (hr6 : Kd.C (Kd.int .u16) w A6 l6.length l6) (hc6 : l6.length ≤ c6) (g6 : gu16 l6) :
    Calls Try.prog 4 #[.slice A0 l0.length c0, .slice A1 l1.length c1, .slice A2 l2.length c2, .slice A3 l3.length c3, .slice A4 l4.length c4, .slice A5 l5.length c5, .slice A6 l6.length c6] w fun e w' => e = .returned (.bool true) ∧ Below w.heap.size w w' := by
  obtain ⟨k, h⟩ := DiceSounds_true l0 l1 l2 l3 l4 l5 l6 g4 g5 g6
  exact stratumlaw05_DiceSounds.calls k A0 c0 l0 _ A1 c1 l1 _ A2 c2 l2 _ A3 c3 l3 A4 c4 l4 A5 c5 l5 A6 c6 l6 true w hr0 hc0 (V_ofC hr1 hc1) (V_ofC hr2 hc2) (V_ofC hr3 hc3) hr4 hc4 hr5 hc5 hr6 hc6 h
end Go.Proofs.Ytjeojnjkmhnepaa.Pr
