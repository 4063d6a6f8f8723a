/- The law DiceAll holds: for every input that its row speaks of the call returns true and leaves the arguments as they were. No condition is added to the given row. -/
import Derived.Test.YtjeojnjkmhnepaaRows
import Derived.Test.YtjeojnjkmhnepaaLift
import Derived.Test.YtjeojnjkmhnepaaL3
import Derived.WalkKit
import Derived.ProofKit
import Derived.OpenShut
import Derived.ShutString
import Derived.ChangeOld
import Derived.Below
import Derived.SizedLaws
import Derived.Carry
namespace Go.Proofs.Ytjeojnjkmhnepaa.RowDiceAll
open Go.ChangeShapes Go.WideShapes Go.ChangeAt Go.RowKit Go.Proofs.Ytjeojnjkmhnepaa.Pr
open Go.ChangeMaps (open_string shut_string)
set_option linter.unusedVariables false
theorem own : ownKnob Try.prog.godebug = none := by kernel_rfl
theorem laidOut : laidOutB Try.prog = true := by kernel_rfl
set_option maxRecDepth 100000 in
set_option maxHeartbeats 4000000 in
theorem lifted (os : Os) (started : os.Started) (H : Type) (enc : TypeId × Value → H) :
    ReturnsInHanded {} Try.checked os 3 .any (Rows.diceAllSpec.pre6 enc Try.prog Try.f3 Rows.diceAllRow.domain false) (Rows.diceAllSpec.post enc Try.prog Try.f3 false true false false) := by
  refine returnsInHanded_of_change_sized (C := Try.checked) own started (by kernel_rfl) Try.func3
    (ChangeSpec.witness6 (enc := enc) (C := Try.checked) false ⟨#[], #[.slice none 0 0, .slice none 0 0, .slice none 0 0, .slice none 0 0], []⟩ 8 (by kernel_rfl) (by kernel_rfl) (by kernel_rfl) (by kernel_rfl)) ?_
  intro W base args ds gs before hval0 hW hcnd hsz0 _
  have hsz : (DataW.weightsEach Try.prog (Try.f3.params.toList ++ Rows.diceAllSpec.plain.varTypes Try.prog) (ds ++ gs)).all (· ≤ reachBytes) = true := hsz0
  have hval : ∀ (j : Nat) t v, Try.f3.params[j]? = some t → args[j]? = some v → Value.okWide Try.prog W .any base t v := hval0
  have hW' := hW
  obtain ⟨p, q, hA0, hV, rfl, hfz, hnd⟩ := hW
  have hA : DataW.TrodAll enc Try.prog W 0 (fun _ => true) true Try.f3.params.toList args.toList ds p := hA0
  rw [Try.params3] at hA hval hsz
  obtain ⟨v0, vs0, d0, ds0, p0, q0, hargs, rfl, rfl, h0, r0⟩ := trodAll_cons hA
  obtain ⟨v1, vs1, d1, ds1, p1, q1, rfl, rfl, rfl, h1, r1⟩ := trodAll_cons r0
  obtain ⟨v2, vs2, d2, ds2, p2, q2, rfl, rfl, rfl, h2, r2⟩ := trodAll_cons r1
  obtain ⟨v3, vs3, d3, ds3, p3, q3, rfl, rfl, rfl, h3, r3⟩ := trodAll_cons r2
  obtain ⟨rfl, rfl, rfl⟩ := trodAll_nil r3
  obtain rfl : args = #[v0, v1, v2, v3] := by cases args; simp_all
  obtain ⟨rfl, rfl⟩ := trodVars_none hV
  obtain ⟨y0, K0, g0⟩ := Lift.Opens.arg (Lift.opens_slice Try.underlying22 (by kernel_rfl) (Lift.opens_iso (Lift.opens_struct Try.underlying81 (by kernel_rfl) (Lift.opensF_cons rfl (Lift.opens_int Try.underlying55 (by kernel_rfl)) (Lift.opensF_one rfl (Lift.opens_slice Try.underlying41 (by kernel_rfl) (Lift.opens_int Try.underlying5 (by kernel_rfl)))))) (fun x : S81 => (x.f0, x.f1)) (fun p => ⟨p.1, p.2⟩) (fun _ => rfl))) h0
  obtain ⟨a0, len0, cap0, rfl⟩ := okWide_slice Try.underlying22 (hval 0 22 v0 rfl rfl)
  have k0 := h0
  have lt0 : ∀ x ∈ p0, x.block < W.heap.size := by obtain ⟨m, hm⟩ := k0; exact DataW.trod_lt m _ _ _ hm
  obtain ⟨b0, c0, e0, hc0, hr0⟩ := K0
  simp only [Value.cells, List.cons.injEq, and_true] at e0
  injection e0 with e0a e0b e0c
  subst e0a e0b e0c
  obtain ⟨y1, K1, g1⟩ := Lift.Opens.arg (Lift.opens_slice Try.underlying23 (by kernel_rfl) (Lift.opens_int Try.underlying55 (by kernel_rfl))) h1
  obtain ⟨a1, len1, cap1, rfl⟩ := okWide_slice Try.underlying23 (hval 1 23 v1 rfl rfl)
  have k1 := h1
  have lt1 : ∀ x ∈ p1, x.block < W.heap.size := by obtain ⟨m, hm⟩ := k1; exact DataW.trod_lt m _ _ _ hm
  obtain ⟨b1, c1, e1, hc1, hr1⟩ := K1
  simp only [Value.cells, List.cons.injEq, and_true] at e1
  injection e1 with e1a e1b e1c
  subst e1a e1b e1c
  obtain ⟨y2, K2, g2⟩ := Lift.Opens.arg (Lift.opens_slice Try.underlying23 (by kernel_rfl) (Lift.opens_int Try.underlying55 (by kernel_rfl))) h2
  obtain ⟨a2, len2, cap2, rfl⟩ := okWide_slice Try.underlying23 (hval 2 23 v2 rfl rfl)
  have k2 := h2
  have lt2 : ∀ x ∈ p2, x.block < W.heap.size := by obtain ⟨m, hm⟩ := k2; exact DataW.trod_lt m _ _ _ hm
  obtain ⟨b2, c2, e2, hc2, hr2⟩ := K2
  simp only [Value.cells, List.cons.injEq, and_true] at e2
  injection e2 with e2a e2b e2c
  subst e2a e2b e2c
  obtain ⟨y3, K3, g3⟩ := Lift.Opens.arg (Lift.opens_slice Try.underlying23 (by kernel_rfl) (Lift.opens_int Try.underlying55 (by kernel_rfl))) h3
  obtain ⟨a3, len3, cap3, rfl⟩ := okWide_slice Try.underlying23 (hval 3 23 v3 rfl rfl)
  have k3 := h3
  have lt3 : ∀ x ∈ p3, x.block < W.heap.size := by obtain ⟨m, hm⟩ := k3; exact DataW.trod_lt m _ _ _ hm
  obtain ⟨b3, c3, e3, hc3, hr3⟩ := K3
  simp only [Value.cells, List.cons.injEq, and_true] at e3
  injection e3 with e3a e3b e3c
  subst e3a e3b e3c
  refine (DiceAll_true_calls _ _ y0 _ _ y1 _ _ y2 _ _ y3 W hr0 hc0 g0 hr1 hc1 g1 hr2 hc2 g2 hr3 hc3 g3).mono fun e W' ⟨he, bel⟩ => ?_
  subst he
  exact ⟨_, rfl, _, _, _, [], _, [], hW', trodAll_mk1 (shut_bool Try.underlying4 _), (trodAll_cons_mk (Below.trod laidOut (by kernel_rfl) (of_decide_eq_true (by kernel_rfl)) k0 bel lt0) (trodAll_cons_mk (Below.trod laidOut (by kernel_rfl) (of_decide_eq_true (by kernel_rfl)) k1 bel lt1) (trodAll_cons_mk (Below.trod laidOut (by kernel_rfl) (of_decide_eq_true (by kernel_rfl)) k2 bel lt2) (trodAll_cons_mk (Below.trod laidOut (by kernel_rfl) (of_decide_eq_true (by kernel_rfl)) k3 bel lt3) trodAll_mk0)))), rfl, bel.frame _, fun h => by cases h⟩
theorem over : Rows.diceAllRow.holds Try.pinned (OpenSpec.ofChange Rows.diceAllSpec) :=
  OpenClaim.holds_of_wide 3 Try.f3 rfl rfl rfl rfl rfl rfl rfl ⟨rfl, rfl, rfl, rfl, rfl⟩ rfl rfl rfl rfl rfl (by kernel_rfl) Try.func3 (by kernel_rfl)
    (of_decide_eq_true (by kernel_rfl)) (by unfold Func.isWrapper; first | (rw [if_pos (by decide +kernel)]; kernel_rfl) | (rw [if_neg (by decide +kernel)]; exact ⟨rfl, rfl⟩))
    (fun os started H enc _ => lifted os started H enc)
theorem proved : Rows.DiceAllSaid := over
end Go.Proofs.Ytjeojnjkmhnepaa.RowDiceAll
