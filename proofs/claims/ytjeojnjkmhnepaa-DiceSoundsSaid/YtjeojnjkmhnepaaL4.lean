/- It is proved here what heavy, and the document's Sound and Within, come to. -/
import Derived.Test.YtjeojnjkmhnepaaProg
import Derived.Below
import Derived.Deep.Draws
import Derived.Deep.AppendLies
import Derived.Maps.AppendAt
import Derived.OwnWalk
import Derived.Laws.BytesArg
import Derived.Laws.MakeOwn
import Derived.Laws.OwnMore
import Derived.Deep.OwnRows
import Derived.Tactics
import Derived.Lib.ConvBytes
import Derived.Laws.Slices
import Derived.WalkKit
import Derived.KernelRfl
import Derived.RowKit3
import Derived.Deep.LoopGhost
import Derived.Deep.QuietTactic
import Derived.BigQuiet
import Derived.WideLaws
import Derived.Deep.DeepCutAuto
import Derived.Deep.CutBlock
import Derived.Deep.RegionHeld3
import Derived.Laws.Rows
import Derived.Lib.AppendStr
import Derived.ArgAppend
import Derived.Laws.IdiomCopy
import Derived.OrdersHeld
import Derived.Laws.BitsLemmas
import Derived.RowKit
import Derived.Test.YtjeojnjkmhnepaaWWords
import Derived.Test.YtjeojnjkmhnepaaWLast
import Derived.Test.YtjeojnjkmhnepaaWTab
import Derived.Test.YtjeojnjkmhnepaaWFour
import Derived.Test.YtjeojnjkmhnepaaWQPut
import Derived.Test.YtjeojnjkmhnepaaWApart
import Derived.Test.YtjeojnjkmhnepaaWArr
import Derived.Test.YtjeojnjkmhnepaaWZeros
import Derived.Test.YtjeojnjkmhnepaaWFoot
import Derived.Test.YtjeojnjkmhnepaaWKept
import Derived.Test.YtjeojnjkmhnepaaWShare
import Derived.Test.YtjeojnjkmhnepaaWN
import Derived.Test.YtjeojnjkmhnepaaWFootNe
import Derived.Test.YtjeojnjkmhnepaaWAt
import Derived.Test.YtjeojnjkmhnepaaWEqStruct
import Derived.Test.YtjeojnjkmhnepaaWRepsOne
import Derived.Test.YtjeojnjkmhnepaaWInv
import Derived.Test.YtjeojnjkmhnepaaWInvWords
import Derived.Test.YtjeojnjkmhnepaaWGuard
import Derived.Test.YtjeojnjkmhnepaaWNEv
import Derived.Test.YtjeojnjkmhnepaaWMore
import Derived.Test.YtjeojnjkmhnepaaL1
import Derived.Test.YtjeojnjkmhnepaaPr4
open Go Go.RowKit Go.Proofs.YtjeojnjkmhnepaaW.PrintWords Go.Proofs.YtjeojnjkmhnepaaW.PrintLast Go.Proofs.YtjeojnjkmhnepaaW.PrintMore
set_option linter.unusedVariables false
set_option linter.unusedSimpArgs false
namespace Go.Proofs.Ytjeojnjkmhnepaa.Pr
open Dice
theorem heavy_loop (ls : List (List Int)) (h : ls.length ≤ 100) : ∀ (n i : Nat), n + i = ls.length → Ev (fun k => stratumlaw05_heavy.l0 k ls i) ((ls.drop i).any fun x => decide (100 < x.length))
  | 0, i, hn => by
    rw [List.drop_of_length_le (by omega), List.any_nil]
    refine Ev.step (f := fun _ => some false) (fun k => ?_) (Ev.now _)
    simp only [stratumlaw05_heavy.l0]
    rw [if_neg (by omega)]
  | n + 1, i, hn => by
    have hi : i < ls.length := by omega
    have hg : rd_L5 ls i = ls[i] := by simp [rd_L5, List.getD_eq_getElem?_getD, List.getElem?_eq_getElem hi]
    have ih := heavy_loop ls h n (i + 1) (by omega)
    rw [List.drop_eq_getElem_cons hi, List.any_cons]
    by_cases hc : 100 < ls[i].length
    · rw [decide_eq_true hc, Bool.true_or]
      refine Ev.step (f := fun _ => some true) (fun k => ?_) (Ev.now _)
      simp only [stratumlaw05_heavy.l0]
      rw [if_pos (by omega), if_pos (by omega), hg, if_pos (by omega)]
    · rw [decide_eq_false hc, Bool.false_or]
      refine Ev.step (fun k => ?_) ih
      simp only [stratumlaw05_heavy.l0]
      rw [if_pos (by omega), if_pos (by omega), hg, if_neg (by omega), wr (by omega) (by omega)]
      simp
theorem heavy_ev (ls : List (List Int)) (h : ls.length ≤ 100) : Ev (fun k => stratumlaw05_heavy.f k ls) (ls.any fun x => decide (100 < x.length)) := by
  have := heavy_loop ls h ls.length 0 (by omega)
  simpa [stratumlaw05_heavy.f] using this
theorem refsound_loop (l : List S29) (a b : List Int) (h : l.length ≤ 1000) (la : a.length = l.length) (lb : b.length = l.length) : ∀ (n i : Nat), n + i = l.length →
    Ev (fun k => stratumref05_Sound.l0 k l a b i) ((List.range' i n).all (soundP l a b))
  | 0, i, hn => by
    refine Ev.step (f := fun _ => some true) (fun k => ?_) (Ev.now _)
    simp only [stratumref05_Sound.l0]
    rw [if_neg (by omega)]
  | n + 1, i, hn => by
    have ih := refsound_loop l a b h la lb n (i + 1) (by omega)
    rw [List.range'_succ, List.all_cons]
    cases hp : soundP l a b i
    · rw [Bool.false_and]
      refine Ev.step (f := fun _ => some false) (fun k => ?_) (Ev.now _)
      simp only [stratumref05_Sound.l0]
      rw [if_pos (by omega), if_pos (by omega), if_pos (by omega)]
      split
      · rfl
      · rw [if_pos (by omega)]
        split
        · rfl
        · rw [if_pos]
          simp [soundP] at hp
          by_cases h1 : 0 ≤ rd a i
          · by_cases h2 : rd a i ≤ rd b i
            · have := hp h1 h2; omega
            · omega
          · omega
    · rw [Bool.true_and]
      simp [soundP] at hp
      refine Ev.step (fun k => ?_) ih
      simp only [stratumref05_Sound.l0]
      rw [if_pos (by omega), if_pos (by omega), if_pos (by omega), if_neg (by omega), if_pos (by omega), if_neg (by omega), if_neg (by omega), wr (by omega) (by omega)]
      simp
theorem refsound_ev (l : List S29) (a b : List Int) (h : l.length ≤ 1000) : Ev (fun k => stratumref05_Sound.f k l a b) (soundRes l a b) := by
  by_cases la : a.length = l.length
  · by_cases lb : b.length = l.length
    · have := refsound_loop l a b h la lb l.length 0 (by omega)
      obtain ⟨K, c⟩ := this
      dsimp only at c
      refine Ev.from K (fun k hk => ?_)
      have hb : ((b.length : Int) != (l.length : Int)) = false := by simp [lb]
      simp only [stratumref05_Sound.f, stratumref05_Sound.j0, hb]
      rw [if_pos (by omega), if_neg (by simp)]
      rw [show soundRes l a b = (List.range' 0 l.length).all (soundP l a b) by simp [soundRes, la, lb, List.range_eq_range']]
      exact c k hk
    · refine Ev.from 0 (fun k hk => ?_)
      have hb : ((b.length : Int) != (l.length : Int)) = true := by simp; omega
      simp only [stratumref05_Sound.f, stratumref05_Sound.j0, hb]
      rw [if_pos (by omega), if_pos trivial]
      simp [soundRes, lb]
  · refine Ev.from 0 (fun k hk => ?_)
    simp only [stratumref05_Sound.f, stratumref05_Sound.j0]
    rw [if_neg (by omega), if_pos trivial]
    simp [soundRes, la]
theorem refwithin_loop (a b c : List Int) (h : a.length ≤ 1000000) (lb : b.length = a.length) (lc : c.length = a.length) : ∀ (n i : Nat), n + i = a.length →
    Ev (fun k => stratumref05_Within.l0 k a b c i) ((List.range' i n).all (withinP a b c))
  | 0, i, hn => by
    refine Ev.step (f := fun _ => some true) (fun k => ?_) (Ev.now _)
    simp only [stratumref05_Within.l0]
    rw [if_neg (by omega)]
  | n + 1, i, hn => by
    have ih := refwithin_loop a b c h lb lc n (i + 1) (by omega)
    rw [List.range'_succ, List.all_cons]
    cases hp : withinP a b c i
    · rw [Bool.false_and]
      refine Ev.step (f := fun _ => some false) (fun k => ?_) (Ev.now _)
      simp only [stratumref05_Within.l0]
      rw [if_pos (by omega), if_pos (by omega), if_pos (by omega)]
      split
      · rfl
      · rw [if_pos (by omega), if_pos]
        simp [withinP] at hp
        have := hp (by omega)
        omega
    · rw [Bool.true_and]
      simp [withinP] at hp
      refine Ev.step (fun k => ?_) ih
      simp only [stratumref05_Within.l0]
      rw [if_pos (by omega), if_pos (by omega), if_pos (by omega), if_neg (by omega), if_pos (by omega), if_neg (by omega), wr (by omega) (by omega)]
      simp
theorem refwithin_ev (a b c : List Int) (h : a.length ≤ 1000000) : Ev (fun k => stratumref05_Within.f k a b c) (within a b c) := by
  by_cases lb : b.length = a.length
  · by_cases lc : c.length = a.length
    · have := refwithin_loop a b c h lb lc a.length 0 (by omega)
      obtain ⟨K, cc⟩ := this
      dsimp only at cc
      refine Ev.from K (fun k hk => ?_)
      have hb : ((a.length : Int) != (c.length : Int)) = false := by simp [lc]
      simp only [stratumref05_Within.f, stratumref05_Within.j0, hb]
      rw [if_pos (by omega), if_neg (by simp)]
      rw [show within a b c = (List.range' 0 a.length).all (withinP a b c) by simp [within, lb, lc, List.range_eq_range']]
      exact cc k hk
    · refine Ev.from 0 (fun k hk => ?_)
      have hb : ((a.length : Int) != (c.length : Int)) = true := by simp; omega
      simp only [stratumref05_Within.f, stratumref05_Within.j0, hb]
      rw [if_pos (by omega), if_pos trivial]
      simp [within, lc]
  · refine Ev.from 0 (fun k hk => ?_)
    simp only [stratumref05_Within.f, stratumref05_Within.j0]
    rw [if_neg (by omega), if_pos trivial]
    simp [within, lb]
theorem V_ofC {w : World} {A : Option Addr} {c : Nat} {l : List Int} (hr : Kd.C (Kd.int .i64) w A l.length l) (hc : l.length ≤ c) : Kd.V (Kd.int .i64) 3 w w.heap.size (fun k_ => k_ < w.heap.size) (.slice A l.length c) l :=
  ⟨A, c, rfl, hc, Kd.C_F (Kd.heap_int _) hr⟩
end Go.Proofs.Ytjeojnjkmhnepaa.Pr
