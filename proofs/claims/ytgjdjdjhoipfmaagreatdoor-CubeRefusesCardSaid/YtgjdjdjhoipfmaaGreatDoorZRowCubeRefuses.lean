/- The law CubeRefuses holds: for every input that its row speaks of the call returns true and leaves the arguments as they were. No condition is added to the given row. -/
import Derived.Test.YtgjdjdjhoipfmaaGreatDoorRows
import Derived.Test.YtgjdjdjhoipfmaaGreatDoorZ6
import Derived.WalkKit
import Derived.ProofKit
import Derived.OpenShut
import Derived.ShutString
import Derived.ChangeOld
import Derived.Below
import Derived.SizedLaws
import Derived.Carry
import Derived.Test.YtgjdjdjhoipfmaaGreatDoorTie
import Derived.Test.YtgjdjdjhoipfmaaGreatDoorCards
import Derived.Handy
import Derived.Lay
import Derived.SevenTiedAt
namespace Go.Proofs.YtgjdjdjhoipfmaaGreatDoor.RowCubeRefuses
open Go.ChangeShapes Go.WideShapes Go.ChangeAt Go.RowKit Go.Proofs.YtgjdjdjhoipfmaaGreatDoor.A
open Go.ChangeMaps (open_string shut_string)
set_option linter.unusedVariables false
theorem own : ownKnob Tryz.prog.godebug = none := by kernel_rfl
theorem laidOut : laidOutB Tryz.prog = true := by kernel_rfl
set_option maxRecDepth 100000 in
set_option maxHeartbeats 4000000 in
theorem lifted (os : Os) (started : os.Started) (H : Type) (enc : TypeId × Value → H) :
    ReturnsInHanded {} Tryz.checked os 10 .any (fun w args => (Rows.cubeRefusesSpec.pre enc Tryz.prog Tryz.f10 Rows.cubeRefusesRow.domain false w args ∧ laidMetH Tryz.prog Rows.cubeRefusesRow.laid w) ∧ sizedMet enc Tryz.prog Tryz.f10 (OpenSpec.ofChange Rows.cubeRefusesSpec) false w args) (Rows.cubeRefusesSpec.post enc Tryz.prog Tryz.f10 false true false false) := by
  refine returnsInHanded_of_change_and (C := Tryz.checked) (X := fun w _ => laidMetH Tryz.prog Rows.cubeRefusesRow.laid w) (fun _ _ _ hh h => h.of_heap hh) own started (by kernel_rfl) Tryz.func10
    (ChangeSpec.witness_shaped (enc := enc) (C := Tryz.checked) (os := os) (X := fun w _ => laidMetH Tryz.prog Rows.cubeRefusesRow.laid w) false (World.laidAll Tryz.prog os Rows.cubeRefusesRow.laid) #[.slice none 0 0, .slice none 0 0, .agg #[.int .u8 0, .int .u32 0, .slice none 0 0, .slice none 0 0, .slice none 0 0, .int .u16 0, .int .u16 0, .slice none 0 0]] 8 (World.laidAll_os _ _ _)
      (World.shaped_of_ZipB (by kernel_rfl) (by kernel_rfl)) (by kernel_rfl) (by kernel_rfl) (by kernel_rfl)
      (by rw [MakeChecks.laidMetH_plain _ _ _ (by kernel_rfl)]; exact laidMet_laidAll _ (by kernel_rfl) (by kernel_rfl))) ?_
  intro W base args ds gs before hval0 hW hcnd hsz0 _ _
  have hsz : (DataW.weightsEach Tryz.prog (Tryz.f10.params.toList ++ Rows.cubeRefusesSpec.plain.varTypes Tryz.prog) (ds ++ gs)).all (· ≤ reachBytes) = true := hsz0
  have hval : ∀ (j : Nat) t v, Tryz.f10.params[j]? = some t → args[j]? = some v → Value.okWide Tryz.prog W .any base t v := hval0
  have hW' := hW
  obtain ⟨p, q, hA0, hV, rfl, hfz, hnd⟩ := hW
  have hA : DataW.TrodAll enc Tryz.prog W 0 (fun _ => true) true Tryz.f10.params.toList args.toList ds p := hA0
  rw [Tryz.params10] at hA hval hsz
  obtain ⟨v0, vs0, d0, ds0, p0, q0, hargs, rfl, rfl, h0, r0⟩ := trodAll_cons hA
  obtain ⟨v1, vs1, d1, ds1, p1, q1, rfl, rfl, rfl, h1, r1⟩ := trodAll_cons r0
  obtain ⟨v2, vs2, d2, ds2, p2, q2, rfl, rfl, rfl, h2, r2⟩ := trodAll_cons r1
  obtain ⟨rfl, rfl, rfl⟩ := trodAll_nil r2
  obtain rfl : args = #[v0, v1, v2] := by cases args; simp_all
  obtain ⟨rfl, rfl⟩ := trodVars_none hV
  obtain ⟨y0, K0⟩ := K.OpensK.arg (K.opensK_slice Tryz.underlying22 (by kernel_rfl) (by kernel_rfl) (by decide) (K.opensK_struct Tryz.underlying80 (by kernel_rfl) (K.opensFK_cons rfl (K.opensK_int Tryz.underlying27 (by kernel_rfl)) (K.opensFK_one rfl (K.opensK_slice Tryz.underlying25 (by kernel_rfl) (by kernel_rfl) (by decide) (K.opensK_int Tryz.underlying5 (by kernel_rfl))))))) h0 hsz 0 rfl rfl
  obtain ⟨a0, len0, cap0, rfl⟩ := okWide_slice Tryz.underlying22 (hval 0 22 v0 rfl rfl)
  have k0 := h0
  have lt0 : ∀ x ∈ p0, x.block < W.heap.size := by obtain ⟨m, hm⟩ := k0; exact DataW.trod_lt m _ _ _ hm
  obtain ⟨y1, K1⟩ := K.OpensK.arg (K.opensK_slice Tryz.underlying56 (by kernel_rfl) (by kernel_rfl) (by decide) (K.opensK_struct Tryz.underlying62 (by kernel_rfl) (K.opensFK_cons rfl (K.opensK_int Tryz.underlying5 (by kernel_rfl)) (K.opensFK_cons rfl (K.opensK_int Tryz.underlying33 (by kernel_rfl)) (K.opensFK_cons rfl (K.opensK_slice Tryz.underlying23 (by kernel_rfl) (by kernel_rfl) (by decide) (K.opensK_slice Tryz.underlying26 (by kernel_rfl) (by kernel_rfl) (by decide) (K.opensK_int Tryz.underlying27 (by kernel_rfl)))) (K.opensFK_cons rfl (K.opensK_slice Tryz.underlying24 (by kernel_rfl) (by kernel_rfl) (by decide) (K.opensK_int Tryz.underlying2 (by kernel_rfl))) (K.opensFK_cons rfl (K.opensK_slice Tryz.underlying40 (by kernel_rfl) (by kernel_rfl) (by decide) (K.opensK_struct Tryz.underlying48 (by kernel_rfl) (K.opensFK_cons rfl (K.opensK_slice Tryz.underlying34 (by kernel_rfl) (by kernel_rfl) (by decide) (K.opensK_int Tryz.underlying3 (by kernel_rfl))) (K.opensFK_one rfl (K.opensK_int Tryz.underlying2 (by kernel_rfl)))))) (K.opensFK_cons rfl (K.opensK_int Tryz.underlying27 (by kernel_rfl)) (K.opensFK_cons rfl (K.opensK_int Tryz.underlying27 (by kernel_rfl)) (K.opensFK_one rfl (K.opensK_slice Tryz.underlying49 (by kernel_rfl) (by kernel_rfl) (by decide) (K.opensK_struct Tryz.underlying52 (by kernel_rfl) (K.opensFK_cons rfl (K.opensK_int Tryz.underlying33 (by kernel_rfl)) (K.opensFK_one rfl (K.opensK_slice Tryz.underlying40 (by kernel_rfl) (by kernel_rfl) (by decide) (K.opensK_struct Tryz.underlying48 (by kernel_rfl) (K.opensFK_cons rfl (K.opensK_slice Tryz.underlying34 (by kernel_rfl) (by kernel_rfl) (by decide) (K.opensK_int Tryz.underlying3 (by kernel_rfl))) (K.opensFK_one rfl (K.opensK_int Tryz.underlying2 (by kernel_rfl)))))))))))))))))))) h1 hsz 1 rfl rfl
  obtain ⟨a1, len1, cap1, rfl⟩ := okWide_slice Tryz.underlying56 (hval 1 56 v1 rfl rfl)
  have k1 := h1
  have lt1 : ∀ x ∈ p1, x.block < W.heap.size := by obtain ⟨m, hm⟩ := k1; exact DataW.trod_lt m _ _ _ hm
  obtain ⟨y2, K2⟩ := K.OpensK.arg (K.opensK_struct Tryz.underlying62 (by kernel_rfl) (K.opensFK_cons rfl (K.opensK_int Tryz.underlying5 (by kernel_rfl)) (K.opensFK_cons rfl (K.opensK_int Tryz.underlying33 (by kernel_rfl)) (K.opensFK_cons rfl (K.opensK_slice Tryz.underlying23 (by kernel_rfl) (by kernel_rfl) (by decide) (K.opensK_slice Tryz.underlying26 (by kernel_rfl) (by kernel_rfl) (by decide) (K.opensK_int Tryz.underlying27 (by kernel_rfl)))) (K.opensFK_cons rfl (K.opensK_slice Tryz.underlying24 (by kernel_rfl) (by kernel_rfl) (by decide) (K.opensK_int Tryz.underlying2 (by kernel_rfl))) (K.opensFK_cons rfl (K.opensK_slice Tryz.underlying40 (by kernel_rfl) (by kernel_rfl) (by decide) (K.opensK_struct Tryz.underlying48 (by kernel_rfl) (K.opensFK_cons rfl (K.opensK_slice Tryz.underlying34 (by kernel_rfl) (by kernel_rfl) (by decide) (K.opensK_int Tryz.underlying3 (by kernel_rfl))) (K.opensFK_one rfl (K.opensK_int Tryz.underlying2 (by kernel_rfl)))))) (K.opensFK_cons rfl (K.opensK_int Tryz.underlying27 (by kernel_rfl)) (K.opensFK_cons rfl (K.opensK_int Tryz.underlying27 (by kernel_rfl)) (K.opensFK_one rfl (K.opensK_slice Tryz.underlying49 (by kernel_rfl) (by kernel_rfl) (by decide) (K.opensK_struct Tryz.underlying52 (by kernel_rfl) (K.opensFK_cons rfl (K.opensK_int Tryz.underlying33 (by kernel_rfl)) (K.opensFK_one rfl (K.opensK_slice Tryz.underlying40 (by kernel_rfl) (by kernel_rfl) (by decide) (K.opensK_struct Tryz.underlying48 (by kernel_rfl) (K.opensFK_cons rfl (K.opensK_slice Tryz.underlying34 (by kernel_rfl) (by kernel_rfl) (by decide) (K.opensK_int Tryz.underlying3 (by kernel_rfl))) (K.opensFK_one rfl (K.opensK_int Tryz.underlying2 (by kernel_rfl))))))))))))))))))) h2 hsz 2 rfl rfl
  obtain ⟨a2, rfl, z2⟩ := okWide_struct Tryz.underlying62 (hval 2 62 v2 rfl rfl)
  have k2 := h2
  have lt2 : ∀ x ∈ p2, x.block < W.heap.size := by obtain ⟨m, hm⟩ := k2; exact DataW.trod_lt m _ _ _ hm
  refine (CubeRefuses_true _ _ a2 W K0 K1 K2).mono fun e W' ⟨he, bel⟩ => ?_
  subst he
  exact ⟨_, rfl, _, _, _, [], _, [], hW', trodAll_mk1 (shut_bool Tryz.underlying4 _), (trodAll_cons_mk (Below.trod laidOut (by kernel_rfl) (of_decide_eq_true (by kernel_rfl)) k0 bel lt0) (trodAll_cons_mk (Below.trod laidOut (by kernel_rfl) (of_decide_eq_true (by kernel_rfl)) k1 bel lt1) (trodAll_cons_mk (Below.trod laidOut (by kernel_rfl) (of_decide_eq_true (by kernel_rfl)) k2 bel lt2) trodAll_mk0))), rfl, bel.frame _, fun h => by cases h⟩
theorem over : Rows.cubeRefusesRow.holds Tryz.pinned (OpenSpec.ofChange Rows.cubeRefusesSpec) :=
  OpenClaim.holds_of_wide 10 Tryz.f10 rfl rfl rfl rfl rfl rfl rfl ⟨rfl, rfl, rfl, rfl, rfl⟩ rfl rfl rfl rfl rfl (by kernel_rfl) Tryz.func10 (by kernel_rfl)
    (of_decide_eq_true (by kernel_rfl)) (by unfold Func.isWrapper; first | (rw [if_pos (by decide +kernel)]; kernel_rfl) | (rw [if_neg (by decide +kernel)]; exact ⟨rfl, rfl⟩))
    (fun os started H enc _ => lifted os started H enc)
theorem proved : Rows.CubeRefusesCardSaid :=
  Claim7.holds_tied_plain_at .later [] [.data, .data, .data] true (true, "4c9fa3701e44517e3d32554ad4943363e0fc84486d8a8ae138a4ba440676f1ef") false over (fun _ h => by cases h) (by kernel_rfl) (fun _ h => by cases h) cubeRefuses_row_tie rfl ⟨rfl, rfl⟩ (by kernel_rfl) rfl
    (fun f fn hf hfn => by
      obtain rfl : f = 10 := Option.some.inj ((show Tryz.prog.funcNamed "stratum/stratumlaw13.CubeRefuses" = some 10 by kernel_rfl).symm.trans hf) |>.symm
      obtain rfl : fn = Tryz.f10 := (Option.some.inj (Tryz.func10.symm.trans hfn)).symm
      exact ⟨by kernel_rfl, fun j t ht => by
        rw [Tryz.params10] at ht
        have hm : t ∈ [22, 56, 62] := by simpa using Array.mem_of_getElem? ht
        have hall : ([22, 56, 62].all fun u => !Tryz.prog.wantsStandIn u) = true := by kernel_rfl
        exact (show Tryz.prog.wantsStandIn t = false by simpa using List.all_eq_true.1 hall t hm)⟩)
    (by kernel_rfl)
end Go.Proofs.YtgjdjdjhoipfmaaGreatDoor.RowCubeRefuses
