/- The contract of dice.every is proved here: called with a closure that keeps an invariant, it tells whether all lists have one length and the closure says yes at each place. -/
import Derived.Test.YtjeojnjkmhnepaaProg
import Derived.Below
import Derived.Deep.Draws
import Derived.Deep.AppendLies
import Derived.Maps.AppendAt
import Derived.OwnWalk
import Derived.Laws.BytesArg
import Derived.Laws.MakeOwn
import Derived.Laws.OwnMore
import Derived.Deep.OwnRows
import Derived.Tactics
import Derived.Lib.ConvBytes
import Derived.Laws.Slices
import Derived.WalkKit
import Derived.KernelRfl
import Derived.RowKit3
import Derived.Deep.LoopGhost
import Derived.Deep.QuietTactic
import Derived.BigQuiet
import Derived.WideLaws
import Derived.Deep.DeepCutAuto
import Derived.Deep.CutBlock
import Derived.Deep.RegionHeld3
import Derived.Laws.Rows
import Derived.Lib.AppendStr
import Derived.ArgAppend
import Derived.Laws.IdiomCopy
import Derived.OrdersHeld
import Derived.Laws.BitsLemmas
import Derived.RowKit
import Derived.Test.YtjeojnjkmhnepaaWWords
import Derived.Test.YtjeojnjkmhnepaaWLast
import Derived.Test.YtjeojnjkmhnepaaWTab
import Derived.Test.YtjeojnjkmhnepaaWFour
import Derived.Test.YtjeojnjkmhnepaaWQPut
import Derived.Test.YtjeojnjkmhnepaaWApart
import Derived.Test.YtjeojnjkmhnepaaWArr
import Derived.Test.YtjeojnjkmhnepaaWZeros
import Derived.Test.YtjeojnjkmhnepaaWFoot
import Derived.Test.YtjeojnjkmhnepaaWKept
import Derived.Test.YtjeojnjkmhnepaaWShare
import Derived.Test.YtjeojnjkmhnepaaWN
import Derived.Test.YtjeojnjkmhnepaaWFootNe
import Derived.Test.YtjeojnjkmhnepaaWAt
import Derived.Test.YtjeojnjkmhnepaaWEqStruct
import Derived.Test.YtjeojnjkmhnepaaWRepsOne
import Derived.Test.YtjeojnjkmhnepaaWInv
import Derived.Test.YtjeojnjkmhnepaaWInvWords
import Derived.Test.YtjeojnjkmhnepaaWGuard
import Derived.Test.YtjeojnjkmhnepaaWNEv
import Derived.Test.YtjeojnjkmhnepaaWMore
open Go Go.RowKit Go.Proofs.YtjeojnjkmhnepaaW.PrintWords Go.Proofs.YtjeojnjkmhnepaaW.PrintLast Go.Proofs.YtjeojnjkmhnepaaW.PrintMore
set_option linter.unusedVariables false
set_option linter.unusedSimpArgs false
namespace Go.Proofs.Ytjeojnjkmhnepaa.Dice
def gl (xs : List (List Int)) (i : Nat) : List Int := xs.getD i []
theorem at_row {w : World} {A : Option Addr} {n : Nat} {xs : List (List Int)} (h : Kd.C (Kd.slice 3 (Kd.int .i64)) w A n xs) (i : Nat) (h1 : i < n) : ∃ ad A0 c0, A = some ad ∧ w.cell? (ad.add i) = some (.slice A0 (gl xs i).length c0) ∧ (gl xs i).length ≤ c0 ∧ (Kd.int .i64).C w A0 (gl xs i).length (gl xs i) := by
  obtain ⟨ad, c, e, _, hK, hc0⟩ := Kd.C_get h ([] : List Int) (i : Int) (by omega) (by omega)
  obtain ⟨A0, c0, rfl, l0, g0⟩ := hK
  simp only [Int.toNat_natCast] at *
  exact ⟨ad, A0, c0, e, by have hq := hc0 0 _ rfl; rwa [show (Kd.slice 3 (Kd.int .i64)).sz = 1 from rfl, Nat.mul_one, Nat.add_zero] at hq, l0, g0⟩

set_option maxHeartbeats 8000000 in
set_option maxRecDepth 100000 in
theorem every_calls (F : FuncId) (cap : Array Value) (A : Option Addr) (c : Nat) (ls : List (List Int)) (w : World) (n : Nat) (p : Nat → Bool) (I : Nat → World → Prop) (J : World → Prop)
    (hF : ∀ args w, (callFunc F args).run Try.prog w = .ok (.enter F args) w) (hls : Kd.C (Kd.slice 3 (Kd.int .i64)) w A ls.length ls) (hpos : 0 < ls.length) (hn : n = (gl ls 0).length) (hI : I 0 w)
    (hstep : ∀ i W, i < n → I i W → (∀ x ∈ ls, x.length = n) → Calls Try.prog F (#[.int .i64 (i : Int)] ++ cap) W fun e W' => e = .returned (.bool (p i)) ∧ ((p i = true ∧ I (i + 1) W') ∨ (p i = false ∧ J W'))) :
    Calls Try.prog 41 #[.func (.func F) #[] cap, .slice A ls.length c] w fun e w' =>
      ((∃ x ∈ ls, x.length ≠ n) ∧ e = .returned (.bool false) ∧ w = w') ∨
      ((∀ x ∈ ls, x.length = n) ∧ (((∀ i, i < n → p i = true) ∧ e = .returned (.bool true) ∧ I n w') ∨ ((∃ i, i < n ∧ p i = false) ∧ e = .returned (.bool false) ∧ J w'))) := by
  go_enter Try.func41, Try.ntmps41
  have hlen : ls.length ≤ 9223372036854775807 := hls.2.1
  obtain ⟨ad, A0, c0, rfl, hx0, hl0, hr0⟩ := at_row hls 0 hpos
  replace hx0 : w.cell? ad = some (.slice A0 (gl ls 0).length c0) := by rwa [Addr.add_zero'] at hx0
  have hlen0 : (gl ls 0).length ≤ 9223372036854775807 := hr0.2.1
  have Hn := Aside0.mk hn
  have Hls := Aside0.mk hls
  have Hstep := Aside0.mk hstep
  have HI := Aside0.mk hI
  have Hr0 := Aside0.mk hr0
  clear hn hls hstep hI hr0
  go_wp2
  go_loop [10] (fun t => ∃ k : Nat, k ≤ ls.length ∧ t = .int .i64 (k : Int) ∧ Aside0 (∀ j, j < k → (gl ls j).length = n)) (fun t => ls.length - (intOf t).toNat)
  case atStart => exact ⟨0, Nat.zero_le _, rfl, ⟨fun j hj => absurd hj (by omega)⟩⟩
  case round =>
    obtain ⟨k, hk, rfl, HK⟩ := hrel
    by_cases hlt : k < ls.length
    · obtain ⟨ad', A1, c1, e1, hx1, hl1, hr1⟩ := at_row Hls.out k hlt
      cases e1
      have hlen1 : (gl ls k).length ≤ 9223372036854775807 := hr1.2.1
      have Hr1 := Aside0.mk hr1
      clear hr1
      by_cases heq : (gl ls k).length = (gl ls 0).length
      · have Heq := Aside0.mk heq
        have hb : ((gl ls k).length != (gl ls 0).length) = false := bne_eq_false_iff_eq.mpr (by omega)
        have hb2 : (((gl ls k).length : Int) != ((gl ls 0).length : Int)) = false := bne_eq_false_iff_eq.mpr (by omega)
        clear heq
        go_wp2
        go_round
        case rel => exact ⟨k + 1, by omega, by go_num, ⟨fun j hj => by
          rcases Nat.lt_or_ge j k with h | h
          · exact HK.out j h
          · obtain rfl : j = k := by omega
            rw [Heq.out, Hn.out]⟩⟩
        case measure => simp [intOf]; omega
      · have Heq := Aside0.mk heq
        have hb : ((gl ls k).length != (gl ls 0).length) = true := bne_iff_ne.mpr heq
        have hb2 : (((gl ls k).length : Int) != ((gl ls 0).length : Int)) = true := bne_iff_ne.mpr (by omega)
        clear heq
        go_wp2
        go_ret
        refine .inl ⟨⟨gl ls k, ?_, ?_⟩, rfl, rfl⟩
        · rw [gl, List.getD_eq_getElem?_getD, List.getElem?_eq_getElem hlt]; exact List.getElem_mem _
        · rw [Hn.out]; exact Heq.out
    · have hall : ∀ x ∈ ls, x.length = n := by
        intro x hx
        obtain ⟨j, hj, rfl⟩ := List.mem_iff_getElem.1 hx
        have := HK.out j (by omega)
        rw [gl, List.getD_eq_getElem?_getD, List.getElem?_eq_getElem hj] at this
        exact this
      have Hall := Aside0.mk hall
      clear hall
      go_wp2
      have hw : w = w := rfl
      clear hw hx0 hl0 hlt
      obtain ⟨wo, hwo⟩ : ∃ wo : World, wo = w := ⟨_, rfl⟩
      go_loopw [26] (fun t wr => ∃ k : Nat, k ≤ n ∧ t = .int .i64 (k : Int) ∧ Aside0 (I k wr ∧ ∀ j, j < k → p j = true)) (fun t _ => n - (intOf t).toNat)
      case atStart => exact ⟨0, Nat.zero_le _, rfl, ⟨HI.out, fun j hj => absurd hj (by omega)⟩⟩
      case round =>
        obtain ⟨q, hq, rfl, HQ⟩ := hrel
        by_cases hlt : q < n
        · have hlt' : q < (gl ls 0).length := by rw [← Hn.out]; exact hlt
          cases hp : p q with
          | true =>
            have HP := Aside0.mk hp
            clear hp
            go_wp2_with fail
            refine (Hstep.out q _ hlt HQ.out.1 Hall.out).mono ?_
            rintro e w' ⟨rfl, hq'⟩
            have HP2 := Aside0.mk hq'
            clear hq'
            rw [HP.out]
            go_wp2
            go_roundw
            case rel =>
              refine ⟨q + 1, by omega, by go_num, ⟨?_, fun j hj => ?_⟩⟩
              · rcases HP2.out with h | h
                · exact h.2
                · exact absurd (HP.out.symm.trans h.1) (by simp)
              · rcases Nat.lt_or_ge j q with h | h
                · exact HQ.out.2 j h
                · obtain rfl : j = q := by omega
                  exact HP.out
            case measure => simp [intOf]; omega
          | false =>
            have HP := Aside0.mk hp
            clear hp
            go_wp2_with fail
            refine (Hstep.out q _ hlt HQ.out.1 Hall.out).mono ?_
            rintro e w' ⟨rfl, hq'⟩
            have HP2 := Aside0.mk hq'
            clear hq'
            rw [HP.out]
            go_wp2
            go_ret
            refine .inr ⟨Hall.out, .inr ⟨⟨q, hlt, HP.out⟩, rfl, ?_⟩⟩
            rcases HP2.out with h | h
            · exact absurd (HP.out.symm.trans h.1) (by simp)
            · exact h.2
        · have hge : ¬ q < (gl ls 0).length := by rw [← Hn.out]; exact hlt
          go_wp2
          go_ret
          obtain rfl : q = n := by omega
          exact .inr ⟨Hall.out, .inl ⟨HQ.out.2, rfl, HQ.out.1⟩⟩
end Go.Proofs.Ytjeojnjkmhnepaa.Dice
