/- The law DiceSounds holds: for every input that its row speaks of the call returns true and leaves the arguments as they were. No condition is added to the given row. -/
import Derived.Test.YtjeojnjkmhnepaaRows
import Derived.Test.YtjeojnjkmhnepaaLift
import Derived.Test.YtjeojnjkmhnepaaL5
import Derived.WalkKit
import Derived.ProofKit
import Derived.OpenShut
import Derived.ShutString
import Derived.ChangeOld
import Derived.Below
import Derived.SizedLaws
import Derived.Carry
namespace Go.Proofs.Ytjeojnjkmhnepaa.RowDiceSounds
open Go.ChangeShapes Go.WideShapes Go.ChangeAt Go.RowKit Go.Proofs.Ytjeojnjkmhnepaa.Pr
open Go.ChangeMaps (open_string shut_string)
set_option linter.unusedVariables false
theorem own : ownKnob Try.prog.godebug = none := by kernel_rfl
theorem laidOut : laidOutB Try.prog = true := by kernel_rfl
set_option maxRecDepth 100000 in
set_option maxHeartbeats 4000000 in
theorem lifted (os : Os) (started : os.Started) (H : Type) (enc : TypeId × Value → H) :
    ReturnsInHanded {} Try.checked os 4 .any (Rows.diceSoundsSpec.pre6 enc Try.prog Try.f4 Rows.diceSoundsRow.domain false) (Rows.diceSoundsSpec.post enc Try.prog Try.f4 false true false false) := by
  refine returnsInHanded_of_change_sized (C := Try.checked) own started (by kernel_rfl) Try.func4
    (ChangeSpec.witness6 (enc := enc) (C := Try.checked) false ⟨#[], #[.slice none 0 0, .slice none 0 0, .slice none 0 0, .slice none 0 0, .slice none 0 0, .slice none 0 0, .slice none 0 0], []⟩ 8 (by kernel_rfl) (by kernel_rfl) (by kernel_rfl) (by kernel_rfl)) ?_
  intro W base args ds gs before hval0 hW hcnd hsz0 _
  have hsz : (DataW.weightsEach Try.prog (Try.f4.params.toList ++ Rows.diceSoundsSpec.plain.varTypes Try.prog) (ds ++ gs)).all (· ≤ reachBytes) = true := hsz0
  have hval : ∀ (j : Nat) t v, Try.f4.params[j]? = some t → args[j]? = some v → Value.okWide Try.prog W .any base t v := hval0
  have hW' := hW
  obtain ⟨p, q, hA0, hV, rfl, hfz, hnd⟩ := hW
  have hA : DataW.TrodAll enc Try.prog W 0 (fun _ => true) true Try.f4.params.toList args.toList ds p := hA0
  rw [Try.params4] at hA hval hsz
  obtain ⟨v0, vs0, d0, ds0, p0, q0, hargs, rfl, rfl, h0, r0⟩ := trodAll_cons hA
  obtain ⟨v1, vs1, d1, ds1, p1, q1, rfl, rfl, rfl, h1, r1⟩ := trodAll_cons r0
  obtain ⟨v2, vs2, d2, ds2, p2, q2, rfl, rfl, rfl, h2, r2⟩ := trodAll_cons r1
  obtain ⟨v3, vs3, d3, ds3, p3, q3, rfl, rfl, rfl, h3, r3⟩ := trodAll_cons r2
  obtain ⟨v4, vs4, d4, ds4, p4, q4, rfl, rfl, rfl, h4, r4⟩ := trodAll_cons r3
  obtain ⟨v5, vs5, d5, ds5, p5, q5, rfl, rfl, rfl, h5, r5⟩ := trodAll_cons r4
  obtain ⟨v6, vs6, d6, ds6, p6, q6, rfl, rfl, rfl, h6, r6⟩ := trodAll_cons r5
  obtain ⟨rfl, rfl, rfl⟩ := trodAll_nil r6
  obtain rfl : args = #[v0, v1, v2, v3, v4, v5, v6] := by cases args; simp_all
  obtain ⟨rfl, rfl⟩ := trodVars_none hV
  obtain ⟨y0, K0, g0⟩ := Lift.Opens.arg (Lift.opens_slice Try.underlying24 (by kernel_rfl) (Lift.opens_iso (Lift.opens_struct Try.underlying29 (by kernel_rfl) (Lift.opensF_cons rfl (Lift.opens_int Try.underlying3 (by kernel_rfl)) (Lift.opensF_one rfl (Lift.opens_slice Try.underlying26 (by kernel_rfl) (Lift.opens_int Try.underlying3 (by kernel_rfl)))))) (fun x : S29 => (x.f0, x.f1)) (fun p => ⟨p.1, p.2⟩) (fun _ => rfl))) h0
  obtain ⟨a0, len0, cap0, rfl⟩ := okWide_slice Try.underlying24 (hval 0 24 v0 rfl rfl)
  have k0 := h0
  have lt0 : ∀ x ∈ p0, x.block < W.heap.size := by obtain ⟨m, hm⟩ := k0; exact DataW.trod_lt m _ _ _ hm
  obtain ⟨b0, c0, e0, hc0, hr0⟩ := K0
  simp only [Value.cells, List.cons.injEq, and_true] at e0
  injection e0 with e0a e0b e0c
  subst e0a e0b e0c
  obtain ⟨y1, K1, g1⟩ := Lift.Opens.arg (Lift.opens_slice Try.underlying26 (by kernel_rfl) (Lift.opens_int Try.underlying3 (by kernel_rfl))) h1
  obtain ⟨a1, len1, cap1, rfl⟩ := okWide_slice Try.underlying26 (hval 1 26 v1 rfl rfl)
  have k1 := h1
  have lt1 : ∀ x ∈ p1, x.block < W.heap.size := by obtain ⟨m, hm⟩ := k1; exact DataW.trod_lt m _ _ _ hm
  obtain ⟨b1, c1, e1, hc1, hr1⟩ := K1
  simp only [Value.cells, List.cons.injEq, and_true] at e1
  injection e1 with e1a e1b e1c
  subst e1a e1b e1c
  obtain ⟨y2, K2, g2⟩ := Lift.Opens.arg (Lift.opens_slice Try.underlying26 (by kernel_rfl) (Lift.opens_int Try.underlying3 (by kernel_rfl))) h2
  obtain ⟨a2, len2, cap2, rfl⟩ := okWide_slice Try.underlying26 (hval 2 26 v2 rfl rfl)
  have k2 := h2
  have lt2 : ∀ x ∈ p2, x.block < W.heap.size := by obtain ⟨m, hm⟩ := k2; exact DataW.trod_lt m _ _ _ hm
  obtain ⟨b2, c2, e2, hc2, hr2⟩ := K2
  simp only [Value.cells, List.cons.injEq, and_true] at e2
  injection e2 with e2a e2b e2c
  subst e2a e2b e2c
  obtain ⟨y3, K3, g3⟩ := Lift.Opens.arg (Lift.opens_slice Try.underlying26 (by kernel_rfl) (Lift.opens_int Try.underlying3 (by kernel_rfl))) h3
  obtain ⟨a3, len3, cap3, rfl⟩ := okWide_slice Try.underlying26 (hval 3 26 v3 rfl rfl)
  have k3 := h3
  have lt3 : ∀ x ∈ p3, x.block < W.heap.size := by obtain ⟨m, hm⟩ := k3; exact DataW.trod_lt m _ _ _ hm
  obtain ⟨b3, c3, e3, hc3, hr3⟩ := K3
  simp only [Value.cells, List.cons.injEq, and_true] at e3
  injection e3 with e3a e3b e3c
  subst e3a e3b e3c
  obtain ⟨y4, K4, g4⟩ := Lift.Opens.arg (Lift.opens_slice Try.underlying22 (by kernel_rfl) (Lift.opens_iso (Lift.opens_struct Try.underlying81 (by kernel_rfl) (Lift.opensF_cons rfl (Lift.opens_int Try.underlying55 (by kernel_rfl)) (Lift.opensF_one rfl (Lift.opens_slice Try.underlying41 (by kernel_rfl) (Lift.opens_int Try.underlying5 (by kernel_rfl)))))) (fun x : S81 => (x.f0, x.f1)) (fun p => ⟨p.1, p.2⟩) (fun _ => rfl))) h4
  obtain ⟨a4, len4, cap4, rfl⟩ := okWide_slice Try.underlying22 (hval 4 22 v4 rfl rfl)
  have k4 := h4
  have lt4 : ∀ x ∈ p4, x.block < W.heap.size := by obtain ⟨m, hm⟩ := k4; exact DataW.trod_lt m _ _ _ hm
  obtain ⟨b4, c4, e4, hc4, hr4⟩ := K4
  simp only [Value.cells, List.cons.injEq, and_true] at e4
  injection e4 with e4a e4b e4c
  subst e4a e4b e4c
  obtain ⟨y5, K5, g5⟩ := Lift.Opens.arg (Lift.opens_slice Try.underlying23 (by kernel_rfl) (Lift.opens_int Try.underlying55 (by kernel_rfl))) h5
  obtain ⟨a5, len5, cap5, rfl⟩ := okWide_slice Try.underlying23 (hval 5 23 v5 rfl rfl)
  have k5 := h5
  have lt5 : ∀ x ∈ p5, x.block < W.heap.size := by obtain ⟨m, hm⟩ := k5; exact DataW.trod_lt m _ _ _ hm
  obtain ⟨b5, c5, e5, hc5, hr5⟩ := K5
  simp only [Value.cells, List.cons.injEq, and_true] at e5
  injection e5 with e5a e5b e5c
  subst e5a e5b e5c
  obtain ⟨y6, K6, g6⟩ := Lift.Opens.arg (Lift.opens_slice Try.underlying23 (by kernel_rfl) (Lift.opens_int Try.underlying55 (by kernel_rfl))) h6
  obtain ⟨a6, len6, cap6, rfl⟩ := okWide_slice Try.underlying23 (hval 6 23 v6 rfl rfl)
  have k6 := h6
  have lt6 : ∀ x ∈ p6, x.block < W.heap.size := by obtain ⟨m, hm⟩ := k6; exact DataW.trod_lt m _ _ _ hm
  obtain ⟨b6, c6, e6, hc6, hr6⟩ := K6
  simp only [Value.cells, List.cons.injEq, and_true] at e6
  injection e6 with e6a e6b e6c
  subst e6a e6b e6c
  refine (DiceSounds_true_calls _ _ y0 _ _ y1 _ _ y2 _ _ y3 _ _ y4 _ _ y5 _ _ y6 W hr0 hc0 g0 hr1 hc1 g1 hr2 hc2 g2 hr3 hc3 g3 hr4 hc4 g4 hr5 hc5 g5 hr6 hc6 g6).mono fun e W' ⟨he, bel⟩ => ?_
  subst he
  exact ⟨_, rfl, _, _, _, [], _, [], hW', trodAll_mk1 (shut_bool Try.underlying4 _), (trodAll_cons_mk (Below.trod laidOut (by kernel_rfl) (of_decide_eq_true (by kernel_rfl)) k0 bel lt0) (trodAll_cons_mk (Below.trod laidOut (by kernel_rfl) (of_decide_eq_true (by kernel_rfl)) k1 bel lt1) (trodAll_cons_mk (Below.trod laidOut (by kernel_rfl) (of_decide_eq_true (by kernel_rfl)) k2 bel lt2) (trodAll_cons_mk (Below.trod laidOut (by kernel_rfl) (of_decide_eq_true (by kernel_rfl)) k3 bel lt3) (trodAll_cons_mk (Below.trod laidOut (by kernel_rfl) (of_decide_eq_true (by kernel_rfl)) k4 bel lt4) (trodAll_cons_mk (Below.trod laidOut (by kernel_rfl) (of_decide_eq_true (by kernel_rfl)) k5 bel lt5) (trodAll_cons_mk (Below.trod laidOut (by kernel_rfl) (of_decide_eq_true (by kernel_rfl)) k6 bel lt6) trodAll_mk0))))))), rfl, bel.frame _, fun h => by cases h⟩
theorem over : Rows.diceSoundsRow.holds Try.pinned (OpenSpec.ofChange Rows.diceSoundsSpec) :=
  OpenClaim.holds_of_wide 4 Try.f4 rfl rfl rfl rfl rfl rfl rfl ⟨rfl, rfl, rfl, rfl, rfl⟩ rfl rfl rfl rfl rfl (by kernel_rfl) Try.func4 (by kernel_rfl)
    (of_decide_eq_true (by kernel_rfl)) (by unfold Func.isWrapper; first | (rw [if_pos (by decide +kernel)]; kernel_rfl) | (rw [if_neg (by decide +kernel)]; exact ⟨rfl, rfl⟩))
    (fun os started H enc _ => lifted os started H enc)
theorem proved : Rows.DiceSoundsSaid := over
end Go.Proofs.Ytjeojnjkmhnepaa.RowDiceSounds
