/- It is proved here that DiceAll returns true, for every input that reads as data. -/
import Derived.Test.YtjeojnjkmhnepaaProg
import Derived.Below
import Derived.Deep.Draws
import Derived.Deep.AppendLies
import Derived.Maps.AppendAt
import Derived.OwnWalk
import Derived.Laws.BytesArg
import Derived.Laws.MakeOwn
import Derived.Laws.OwnMore
import Derived.Deep.OwnRows
import Derived.Tactics
import Derived.Lib.ConvBytes
import Derived.Laws.Slices
import Derived.WalkKit
import Derived.KernelRfl
import Derived.RowKit3
import Derived.Deep.LoopGhost
import Derived.Deep.QuietTactic
import Derived.BigQuiet
import Derived.WideLaws
import Derived.Deep.DeepCutAuto
import Derived.Deep.CutBlock
import Derived.Deep.RegionHeld3
import Derived.Laws.Rows
import Derived.Lib.AppendStr
import Derived.ArgAppend
import Derived.Laws.IdiomCopy
import Derived.OrdersHeld
import Derived.Laws.BitsLemmas
import Derived.RowKit
import Derived.Test.YtjeojnjkmhnepaaWWords
import Derived.Test.YtjeojnjkmhnepaaWLast
import Derived.Test.YtjeojnjkmhnepaaWTab
import Derived.Test.YtjeojnjkmhnepaaWFour
import Derived.Test.YtjeojnjkmhnepaaWQPut
import Derived.Test.YtjeojnjkmhnepaaWApart
import Derived.Test.YtjeojnjkmhnepaaWArr
import Derived.Test.YtjeojnjkmhnepaaWZeros
import Derived.Test.YtjeojnjkmhnepaaWFoot
import Derived.Test.YtjeojnjkmhnepaaWKept
import Derived.Test.YtjeojnjkmhnepaaWShare
import Derived.Test.YtjeojnjkmhnepaaWN
import Derived.Test.YtjeojnjkmhnepaaWFootNe
import Derived.Test.YtjeojnjkmhnepaaWAt
import Derived.Test.YtjeojnjkmhnepaaWEqStruct
import Derived.Test.YtjeojnjkmhnepaaWRepsOne
import Derived.Test.YtjeojnjkmhnepaaWInv
import Derived.Test.YtjeojnjkmhnepaaWInvWords
import Derived.Test.YtjeojnjkmhnepaaWGuard
import Derived.Test.YtjeojnjkmhnepaaWNEv
import Derived.Test.YtjeojnjkmhnepaaWMore
import Derived.Test.YtjeojnjkmhnepaaL1
import Derived.Test.YtjeojnjkmhnepaaPrA1
open Go Go.RowKit Go.Proofs.YtjeojnjkmhnepaaW.PrintWords Go.Proofs.YtjeojnjkmhnepaaW.PrintLast Go.Proofs.YtjeojnjkmhnepaaW.PrintMore
set_option linter.unusedVariables false
set_option linter.unusedSimpArgs false
namespace Go.Proofs.Ytjeojnjkmhnepaa.Pr
open Dice
theorem meet_self (a b : List Int) (c d : List Int) (n : Nat) (la : a.length = n) (lb : b.length = n) (lc : c.length = n) (ld : d.length = n) (h : ∀ i : Nat, i < n → rd a i < rd b i ∧ rd c i ≤ rd a i ∧ rd b i ≤ rd d i) :
    meetRes a b c d = (a, b, true) := by
  have e1 : ∀ i : Nat, i < n → mx (rd a i) (rd c i) = rd a i := fun i hi => by
    have := h i hi; have := mx_ge (rd a i) (rd c i); omega
  have e2 : ∀ i : Nat, i < n → mn (rd b i) (rd d i) = rd b i := fun i hi => by
    have := h i hi; have := mn_le (rd b i) (rd d i); omega
  have hok : meetOk a b c d = true := by
    simp [meetOk, meetP, la, lb, lc, ld]
    intro i hi
    rw [e1 i hi, e2 i hi]
    exact (h i hi).1
  have hA : meetA a c a.length = a := by
    apply rd_ext (by simp [meetA])
    intro i hi
    have hi' : i < a.length := by simpa [meetA] using hi
    have h2 : rd (meetA a c a.length) i = mx (rd a i) (rd c i) := by simp [meetA, rd, hi']
    rw [h2, e1 i (by omega)]
  have hB : meetB b d a.length = b := by
    apply rd_ext (by simp [meetB]; omega)
    intro i hi
    have hi' : i < a.length := by simpa [meetB] using hi
    have h2 : rd (meetB b d a.length) i = mn (rd b i) (rd d i) := by simp [meetB, rd, hi']
    rw [h2, e2 i (by omega)]
  rw [meetRes, if_pos hok, hA, hB]
theorem all_loop (l : List S29) (hl : DimsOk l) (l2 l3 k0 : List Int) (g2 : gu16 l2) (g3 : gu16 l3) (hk : KeyIn l k0) : ∀ (n i : Nat) (xs : List Int), n + i = l.length → xs.length = i → (∀ j : Nat, j < i → rd xs j = (rd_T29 l j).f0) →
    Ev (fun k => stratumlaw05_DiceAll.l0 k l2 l3 l k0 (List.replicate l.length 0) xs i) true
  | 0, i, xs, hn, hx, hs => by
    obtain ⟨⟨p, q⟩, hb, kb⟩ := box_ev l l2 l3 hl g2.ok g3.ok
    have h4 := hl.l1; have h0 := hl.l0
    have lp : p.length = l.length := kb.1
    have lq : q.length = l.length := kb.2.1
    have hkl := hk.1
    have hz : ∀ j : Nat, rd (List.replicate l.length 0) j = 0 := fun j => by simp [rd, List.getElem?_replicate]; split <;> rfl
    have m1 := meet_self p q p q l.length lp lq lp lq (fun i hi => ⟨(kb.2.2 i hi).2.1, Int.le_refl _, Int.le_refl _⟩)
    have m2 := meet_self p q (List.replicate l.length 0) xs l.length lp lq (by simp) (by omega) (fun i hi => ⟨(kb.2.2 i hi).2.1, by rw [hz]; exact (kb.2.2 i hi).1, by rw [hs i (by omega)]; exact (kb.2.2 i hi).2.2⟩)
    have w1 : within (List.replicate l.length 0) xs k0 = true := by
      rw [within_iff _ _ _ (by simp; omega) (by simp; omega)]
      intro i hi
      simp at hi
      rw [hz, hs i (by omega)]
      exact hk.2 i hi
    have w2 : within (List.replicate l.length 0) (List.replicate l.length 0) k0 = false := by
      cases hw : within (List.replicate l.length 0) (List.replicate l.length 0) k0
      · rfl
      · rw [within_iff _ _ _ (by simp) (by simp; omega)] at hw
        have := hw 0 (by simp; omega)
        rw [hz] at this
        omega
    have s1 := same_ev p (by omega)
    have s2 := same_ev q (by omega)
    obtain ⟨K1, c1⟩ := hb
    obtain ⟨K2, c2⟩ := s1
    obtain ⟨K3, c3⟩ := s2
    dsimp only at c1 c2 c3
    refine Ev.from (K1 + K2 + K3) (fun k hk => ?_)
    simp only [stratumlaw05_DiceAll.l0]
    rw [if_neg (by omega), c1 k (by omega)]
    simp only [Option.bind_some, dice_Meet.f, dice_Within.f, stratumlaw05_known.f, m1, m2, w1, w2]
    rw [if_pos (by omega)]
    simp only [Option.bind_some, if_true, Bool.false_eq_true, if_false, c2 k (by omega), c3 k (by omega)]
  | n + 1, i, xs, hn, hx, hs => by
    have h4 := hl.l1
    have ih := all_loop l hl l2 l3 k0 g2 g3 hk n (i + 1) (xs ++ [(rd_T29 l i).f0]) (by omega) (by simp [hx]) (fun j hj => by
      rcases Nat.lt_or_ge j i with h | h
      · rw [rd_append_left _ _ _ (by omega)]; exact hs j h
      · obtain rfl : j = i := by omega
        subst hx
        rw [rd_append_at])
    refine Ev.step (fun k => ?_) ih
    simp only [stratumlaw05_DiceAll.l0]
    rw [if_pos (by omega), if_pos (by omega), if_pos (by omega), wr (by omega) (by omega)]
    simp
theorem DiceAll_true (l0 : List S81) (l1 l2 l3 : List Int) (g0 : gcut l0) (g1 : gu16 l1) (g2 : gu16 l2) (g3 : gu16 l3) : ∃ k, stratumlaw05_DiceAll.f k l0 l1 l2 l3 = some true := by
  obtain ⟨l, hl, hd⟩ := of_ev l0 g0.ok
  obtain ⟨k0, hk, kk⟩ := key_ev l l1 hd g1.ok
  have h4 := hd.l1
  have hlp := all_loop l hd l2 l3 k0 g2 g3 kk l.length 0 [] (by omega) rfl (fun j hj => absurd hj (by omega))
  obtain ⟨K1, c1⟩ := hl
  obtain ⟨K2, c2⟩ := hk
  obtain ⟨K3, c3⟩ := hlp
  dsimp only at c1 c2 c3
  refine ⟨K1 + K2 + K3, ?_⟩
  simp only [stratumlaw05_DiceAll.f]
  rw [c1 _ (by omega)]
  simp only [Option.bind_some]
  rw [c2 _ (by omega)]
  simp only [Option.bind_some]
  rw [if_pos (by omega), if_pos (by omega)]
  exact c3 _ (by omega)
theorem DiceAll_true_calls (A0 : Option Addr) (c0 : Nat) (l0 : List S81) (A1 : Option Addr) (c1 : Nat) (l1 : List Int) (A2 : Option Addr) (c2 : Nat) (l2 : List Int) (A3 : Option Addr) (c3 : Nat) (l3 : List Int) (w : World)
    (hr0 : Kd.C k81 w A0 l0.length l0) (hc0 : l0.length ≤ c0) (g0 : gcut l0) (hr1 : Kd.C (Kd.int .u16) w A1 l1.length l1) (hc1 : l1.length ≤ c1) (g1 : gu16 l1) (hr2 : Kd.C (Kd.int .u16) w A2 l2.length l2) (hc2 : l2.length ≤ c2) (g2 : gu16 l2)
    (hr3 : Kd.C (Kd.int .u16) w A3 l3.length l3) (hc3 : l3.length ≤ c3) (g3 : gu16 l3) :
    Calls Try.prog 3 #[.slice A0 l0.length c0, .slice A1 l1.length c1, .slice A2 l2.length c2, .slice A3 l3.length c3] w fun e w' => e = .returned (.bool true) ∧ Below w.heap.size w w' := by
  obtain ⟨k, h⟩ := DiceAll_true l0 l1 l2 l3 g0 g1 g2 g3
  exact stratumlaw05_DiceAll.calls k A0 c0 l0 A1 c1 l1 A2 c2 l2 A3 c3 l3 true w hr0 hc0 hr1 hc1 hr2 hc2 hr3 hc3 h
end Go.Proofs.Ytjeojnjkmhnepaa.Pr
