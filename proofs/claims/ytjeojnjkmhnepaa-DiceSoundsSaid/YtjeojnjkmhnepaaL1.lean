/- It is proved here that DiceBoth returns true, for every input that reads as data. -/
import Derived.Test.YtjeojnjkmhnepaaProg
import Derived.Below
import Derived.Deep.Draws
import Derived.Deep.AppendLies
import Derived.Maps.AppendAt
import Derived.OwnWalk
import Derived.Laws.BytesArg
import Derived.Laws.MakeOwn
import Derived.Laws.OwnMore
import Derived.Deep.OwnRows
import Derived.Tactics
import Derived.Lib.ConvBytes
import Derived.Laws.Slices
import Derived.WalkKit
import Derived.KernelRfl
import Derived.RowKit3
import Derived.Deep.LoopGhost
import Derived.Deep.QuietTactic
import Derived.BigQuiet
import Derived.WideLaws
import Derived.Deep.DeepCutAuto
import Derived.Deep.CutBlock
import Derived.Deep.RegionHeld3
import Derived.Laws.Rows
import Derived.Lib.AppendStr
import Derived.ArgAppend
import Derived.Laws.IdiomCopy
import Derived.OrdersHeld
import Derived.Laws.BitsLemmas
import Derived.RowKit
import Derived.Test.YtjeojnjkmhnepaaWWords
import Derived.Test.YtjeojnjkmhnepaaWLast
import Derived.Test.YtjeojnjkmhnepaaWTab
import Derived.Test.YtjeojnjkmhnepaaWFour
import Derived.Test.YtjeojnjkmhnepaaWQPut
import Derived.Test.YtjeojnjkmhnepaaWApart
import Derived.Test.YtjeojnjkmhnepaaWArr
import Derived.Test.YtjeojnjkmhnepaaWZeros
import Derived.Test.YtjeojnjkmhnepaaWFoot
import Derived.Test.YtjeojnjkmhnepaaWKept
import Derived.Test.YtjeojnjkmhnepaaWShare
import Derived.Test.YtjeojnjkmhnepaaWN
import Derived.Test.YtjeojnjkmhnepaaWFootNe
import Derived.Test.YtjeojnjkmhnepaaWAt
import Derived.Test.YtjeojnjkmhnepaaWEqStruct
import Derived.Test.YtjeojnjkmhnepaaWRepsOne
import Derived.Test.YtjeojnjkmhnepaaWInv
import Derived.Test.YtjeojnjkmhnepaaWInvWords
import Derived.Test.YtjeojnjkmhnepaaWGuard
import Derived.Test.YtjeojnjkmhnepaaWNEv
import Derived.Test.YtjeojnjkmhnepaaWMore
import Derived.Test.YtjeojnjkmhnepaaD7
import Derived.Test.YtjeojnjkmhnepaaD8
import Derived.Test.YtjeojnjkmhnepaaPr5
open Go Go.RowKit Go.Proofs.YtjeojnjkmhnepaaW.PrintWords Go.Proofs.YtjeojnjkmhnepaaW.PrintLast Go.Proofs.YtjeojnjkmhnepaaW.PrintMore
set_option linter.unusedVariables false
set_option linter.unusedSimpArgs false
namespace Go.Proofs.Ytjeojnjkmhnepaa.Pr
open Dice
abbrev gu16 (l : List Int) : Prop := ∀ y ∈ l, (Lit.int .u16 y).wf = true
abbrev gcut (l : List S81) : Prop := ∀ y ∈ l, (Lit.int .u16 y.f0).wf = true ∧ ∀ z ∈ y.f1, (Lit.int .u8 z).wf = true
theorem wf_u16 {n : Int} (h : (Lit.int .u16 n).wf = true) : 0 ≤ n ∧ n ≤ 65535 := by
  have a : IntKind.u16.min = 0 := rfl
  have b : IntKind.u16.max = 65535 := rfl
  simp [Lit.wf, IntKind.wrap, a, b] at h
  omega
theorem wf_u8 {n : Int} (h : (Lit.int .u8 n).wf = true) : 0 ≤ n ∧ n ≤ 255 := by
  have a : IntKind.u8.min = 0 := rfl
  have b : IntKind.u8.max = 255 := rfl
  simp [Lit.wf, IntKind.wrap, a, b] at h
  omega
theorem gu16.ok {l : List Int} (h : gu16 l) : ∀ y ∈ l, 0 ≤ y ∧ y ≤ 65535 := fun y hy => wf_u16 (h y hy)
theorem gcut.ok {l : List S81} (h : gcut l) : ∀ c ∈ l, CutOk c := fun c hc => ⟨wf_u16 (h c hc).1, fun y hy => wf_u8 ((h c hc).2 y hy)⟩
theorem within_iff (a b k : List Int) (h1 : b.length = a.length) (h2 : k.length = a.length) : within a b k = true ↔ ∀ i : Nat, i < a.length → rd a i ≤ rd k i ∧ rd k i < rd b i := by
  simp [within, h1, h2, withinP]
theorem both_law (l : List S29) (a b c d k : List Int) (h1 : BoxIn l a b) (h2 : BoxIn l c d) (hk : KeyIn l k) :
    (within a b k && within c d k) = ((meetRes a b c d).2.2 && within (meetRes a b c d).1 (meetRes a b c d).2.1 k) := by
  have la := h1.1; have lb := h1.2.1; have lc := h2.1; have ld := h2.2.1; have lk := hk.1
  by_cases hok : meetOk a b c d = true
  · have hm : meetRes a b c d = (meetA a c a.length, meetB b d a.length, true) := by simp [meetRes, hok]
    rw [hm]
    simp only [Bool.true_and]
    rw [Bool.eq_iff_iff, Bool.and_eq_true, within_iff _ _ _ (by omega) (by omega), within_iff _ _ _ (by omega) (by omega), within_iff _ _ _ (by simp [meetA, meetB]) (by simp [meetA]; omega)]
    have hA : ∀ i : Nat, i < a.length → rd (meetA a c a.length) i = mx (rd a i) (rd c i) := fun i hi => by simp [meetA, rd, hi]
    have hB : ∀ i : Nat, i < a.length → rd (meetB b d a.length) i = mn (rd b i) (rd d i) := fun i hi => by simp [meetB, rd, hi]
    have hl : (meetA a c a.length).length = a.length := by simp [meetA]
    rw [hl, show c.length = a.length by omega]
    constructor
    · rintro ⟨p, q⟩ i hi
      rw [hA i hi, hB i hi]
      have := p i hi; have := q i hi
      have x := mx_ge (rd a i) (rd c i); have y := mn_le (rd b i) (rd d i)
      omega
    · intro p
      refine ⟨fun i hi => ?_, fun i hi => ?_⟩ <;>
      · have := p i hi
        rw [hA i hi, hB i hi] at this
        have x := mx_ge (rd a i) (rd c i); have y := mn_le (rd b i) (rd d i)
        omega
  · have hok' : meetOk a b c d = false := by simpa using hok
    have hm : meetRes a b c d = ([], [], false) := by simp [meetRes, hok']
    rw [hm]
    simp only [Bool.false_and]
    cases hw : within a b k && within c d k
    · rfl
    · exfalso
      rw [Bool.and_eq_true, within_iff _ _ _ (by omega) (by omega), within_iff _ _ _ (by omega) (by omega)] at hw
      apply hok
      simp [meetOk, meetP, show b.length = a.length by omega, show c.length = a.length by omega, show d.length = a.length by omega]
      intro i hi
      have := hw.1 i hi; have := hw.2 i (by omega)
      have x := mx_ge (rd a i) (rd c i); have y := mn_le (rd b i) (rd d i)
      omega
theorem DiceBoth_true (l0 : List S81) (l1 l2 l3 l4 l5 : List Int) (g0 : gcut l0) (g1 : gu16 l1) (g2 : gu16 l2) (g3 : gu16 l3) (g4 : gu16 l4) (g5 : gu16 l5) : ∃ k, stratumlaw05_DiceBoth.f k l0 l1 l2 l3 l4 l5 = some true := by
  obtain ⟨l, hl, hd⟩ := of_ev l0 g0.ok
  obtain ⟨⟨a, b⟩, hab, kab⟩ := box_ev l l1 l2 hd g1.ok g2.ok
  obtain ⟨⟨c, d⟩, hcd, kcd⟩ := box_ev l l3 l4 hd g3.ok g4.ok
  obtain ⟨k, hk, kk⟩ := key_ev l l5 hd g5.ok
  refine Ev.rounds (Ev.bind hl (Ev.bind hab (Ev.bind hcd (Ev.bind hk ⟨0, fun n _ => ?_⟩))))
  have hlen : a.length < 17592186044416 := by have := kab.1; have := hd.l1; simp only at *; omega
  have hlaw := both_law l a b c d k kab kcd kk
  simp only [dice_Meet.f, dice_Within.f, stratumlaw05_known.f, if_pos hlen, Option.bind_some, if_true]
  cases h1 : within a b k <;> cases h2 : within c d k <;> cases h3 : (meetRes a b c d).2.2 <;> cases h4 : within (meetRes a b c d).1 (meetRes a b c d).2.1 k <;> simp_all
theorem DiceBoth_true_calls (A0 : Option Addr) (c0 : Nat) (l0 : List S81) (A1 : Option Addr) (c1 : Nat) (l1 : List Int) (A2 : Option Addr) (c2 : Nat) (l2 : List Int) (A3 : Option Addr) (c3 : Nat) (l3 : List Int) (A4 : Option Addr) (c4 : Nat) (l4 : List Int) (A5 : Option Addr) (c5 : Nat) (l5 : List Int) (w : World)
    (hr0 : Kd.C k81 w A0 l0.length l0) (hc0 : l0.length ≤ c0) (g0 : gcut l0) (hr1 : Kd.C (Kd.int .u16) w A1 l1.length l1) (hc1 : l1.length ≤ c1) (g1 : gu16 l1) (hr2 : Kd.C (Kd.int .u16) w A2 l2.length l2) (hc2 : l2.length ≤ c2) (g2 : gu16 l2)
    (hr3 : Kd.C (Kd.int .u16) w A3 l3.length l3) (hc3 : l3.length ≤ c3) (g3 : gu16 l3) (hr4 : Kd.C (Kd.int .u16) w A4 l4.length l4) (hc4 : l4.length ≤ c4) (g4 : gu16 l4) (hr5 : Kd.C (Kd.int .u16) w A5 l5.length l5) (hc5 : l5.length ≤ c5) (g5 : gu16 l5) :
    Calls Try.prog 6 #[.slice A0 l0.length c0, .slice A1 l1.length c1, .slice A2 l2.length c2, .slice A3 l3.length c3, .slice A4 l4.length c4, .slice A5 l5.length c5] w fun e w' => e = .returned (.bool true) ∧ Below w.heap.size w w' := by
  obtain ⟨k, h⟩ := DiceBoth_true l0 l1 l2 l3 l4 l5 g0 g1 g2 g3 g4 g5
  exact stratumlaw05_DiceBoth.calls k A0 c0 l0 A1 c1 l1 A2 c2 l2 A3 c3 l3 A4 c4 l4 A5 c5 l5 true w hr0 hc0 hr1 hc1 hr2 hc2 hr3 hc3 hr4 hc4 hr5 hc5 h
end Go.Proofs.Ytjeojnjkmhnepaa.Pr
