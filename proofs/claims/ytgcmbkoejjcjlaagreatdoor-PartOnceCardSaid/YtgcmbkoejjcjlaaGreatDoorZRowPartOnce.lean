/- The law PartOnce holds: for every input that its row speaks of the call returns true and leaves the arguments as they were. No condition is added to the given row. -/
import Derived.Test.YtgcmbkoejjcjlaaGreatDoorRows
import Derived.Test.YtgcmbkoejjcjlaaGreatDoorZ5
import Derived.WalkKit
import Derived.ProofKit
import Derived.OpenShut
import Derived.ShutString
import Derived.ChangeOld
import Derived.Below
import Derived.SizedLaws
import Derived.Carry
import Derived.Test.YtgcmbkoejjcjlaaGreatDoorTie
import Derived.Test.YtgcmbkoejjcjlaaGreatDoorCards
import Derived.Handy
import Derived.Lay
import Derived.SevenTiedAt
namespace Go.Proofs.YtgcmbkoejjcjlaaGreatDoor.RowPartOnce
open Go.ChangeShapes Go.WideShapes Go.ChangeAt Go.RowKit Go.Proofs.YtgcmbkoejjcjlaaGreatDoor.A
open Go.ChangeMaps (open_string shut_string)
set_option linter.unusedVariables false
theorem own : ownKnob Tryz.prog.godebug = none := by kernel_rfl
theorem laidOut : laidOutB Tryz.prog = true := by kernel_rfl
set_option maxRecDepth 100000 in
set_option maxHeartbeats 4000000 in
theorem lifted (os : Os) (started : os.Started) (H : Type) (enc : TypeId × Value → H) :
    ReturnsInHanded {} Tryz.checked os 3 .any (fun w args => (Rows.partOnceSpec.pre enc Tryz.prog Tryz.f3 Rows.partOnceRow.domain false w args ∧ laidMetH Tryz.prog Rows.partOnceRow.laid w) ∧ sizedMet enc Tryz.prog Tryz.f3 (OpenSpec.ofChange Rows.partOnceSpec) false w args) (Rows.partOnceSpec.post enc Tryz.prog Tryz.f3 false true false false) := by
  refine returnsInHanded_of_change_and (C := Tryz.checked) (X := fun w _ => laidMetH Tryz.prog Rows.partOnceRow.laid w) (fun _ _ _ hh h => h.of_heap hh) own started (by kernel_rfl) Tryz.func3
    (ChangeSpec.witness_shaped (enc := enc) (C := Tryz.checked) (os := os) (X := fun w _ => laidMetH Tryz.prog Rows.partOnceRow.laid w) false (World.laidAll Tryz.prog os Rows.partOnceRow.laid) #[.slice none 0 0, .slice none 0 0] 8 (World.laidAll_os _ _ _)
      (World.shaped_of_ZipB (by kernel_rfl) (by kernel_rfl)) (by kernel_rfl) (by kernel_rfl) (by kernel_rfl)
      (by rw [MakeChecks.laidMetH_plain _ _ _ (by kernel_rfl)]; exact laidMet_laidAll _ (by kernel_rfl) (by kernel_rfl))) ?_
  intro W base args ds gs before hval0 hW hcnd hsz0 _ _
  have hsz : (DataW.weightsEach Tryz.prog (Tryz.f3.params.toList ++ Rows.partOnceSpec.plain.varTypes Tryz.prog) (ds ++ gs)).all (· ≤ reachBytes) = true := hsz0
  have hval : ∀ (j : Nat) t v, Tryz.f3.params[j]? = some t → args[j]? = some v → Value.okWide Tryz.prog W .any base t v := hval0
  have hW' := hW
  obtain ⟨p, q, hA0, hV, rfl, hfz, hnd⟩ := hW
  have hA : DataW.TrodAll enc Tryz.prog W 0 (fun _ => true) true Tryz.f3.params.toList args.toList ds p := hA0
  rw [Tryz.params3] at hA hval hsz
  obtain ⟨v0, vs0, d0, ds0, p0, q0, hargs, rfl, rfl, h0, r0⟩ := trodAll_cons hA
  obtain ⟨v1, vs1, d1, ds1, p1, q1, rfl, rfl, rfl, h1, r1⟩ := trodAll_cons r0
  obtain ⟨rfl, rfl, rfl⟩ := trodAll_nil r1
  obtain rfl : args = #[v0, v1] := by cases args; simp_all
  obtain ⟨rfl, rfl⟩ := trodVars_none hV
  obtain ⟨y0, K0⟩ := K.OpensK.arg (K.opensK_slice Tryz.underlying22 (by kernel_rfl) (by kernel_rfl) (by decide) (K.opensK_struct Tryz.underlying92 (by kernel_rfl) (K.opensFK_cons rfl (K.opensK_int Tryz.underlying34 (by kernel_rfl)) (K.opensFK_one rfl (K.opensK_slice Tryz.underlying52 (by kernel_rfl) (by kernel_rfl) (by decide) (K.opensK_int Tryz.underlying5 (by kernel_rfl))))))) h0 hsz 0 rfl rfl
  obtain ⟨a0, len0, cap0, rfl⟩ := okWide_slice Tryz.underlying22 (hval 0 22 v0 rfl rfl)
  have k0 := h0
  have lt0 : ∀ x ∈ p0, x.block < W.heap.size := by obtain ⟨m, hm⟩ := k0; exact DataW.trod_lt m _ _ _ hm
  obtain ⟨y1, K1⟩ := K.OpensK.arg (K.opensK_slice Tryz.underlying23 (by kernel_rfl) (by kernel_rfl) (by decide) (K.opensK_struct Tryz.underlying49 (by kernel_rfl) (K.opensFK_cons rfl (K.opensK_int Tryz.underlying5 (by kernel_rfl)) (K.opensFK_cons rfl (K.opensK_int Tryz.underlying30 (by kernel_rfl)) (K.opensFK_cons rfl (K.opensK_int Tryz.underlying30 (by kernel_rfl)) (K.opensFK_cons rfl (K.opensK_sliceB (B := 8) Tryz.underlying37 (by kernel_rfl) (by kernel_rfl) (by decide) (by decide) (K.opensK_int Tryz.underlying3 (by kernel_rfl))) (K.opensFK_cons rfl (K.opensK_slice Tryz.underlying46 (by kernel_rfl) (by kernel_rfl) (by decide) (K.opensK_slice Tryz.underlying53 (by kernel_rfl) (by kernel_rfl) (by decide) (K.opensK_int Tryz.underlying34 (by kernel_rfl)))) (K.opensFK_cons rfl (K.opensK_slice Tryz.underlying47 (by kernel_rfl) (by kernel_rfl) (by decide) (K.opensK_int Tryz.underlying2 (by kernel_rfl))) (K.opensFK_cons rfl (K.opensK_slice Tryz.underlying38 (by kernel_rfl) (by kernel_rfl) (by decide) (K.opensK_struct Tryz.underlying90 (by kernel_rfl) (K.opensFK_cons rfl (K.opensK_slice Tryz.underlying37 (by kernel_rfl) (by kernel_rfl) (by decide) (K.opensK_int Tryz.underlying3 (by kernel_rfl))) (K.opensFK_one rfl (K.opensK_int Tryz.underlying2 (by kernel_rfl)))))) (K.opensFK_one rfl (K.opensK_slice Tryz.underlying42 (by kernel_rfl) (by kernel_rfl) (by decide) (K.opensK_struct Tryz.underlying74 (by kernel_rfl) (K.opensFK_cons rfl (K.opensK_int Tryz.underlying30 (by kernel_rfl)) (K.opensFK_one rfl (K.opensK_slice Tryz.underlying38 (by kernel_rfl) (by kernel_rfl) (by decide) (K.opensK_struct Tryz.underlying90 (by kernel_rfl) (K.opensFK_cons rfl (K.opensK_slice Tryz.underlying37 (by kernel_rfl) (by kernel_rfl) (by decide) (K.opensK_int Tryz.underlying3 (by kernel_rfl))) (K.opensFK_one rfl (K.opensK_int Tryz.underlying2 (by kernel_rfl)))))))))))))))))))) h1 hsz 1 rfl rfl
  obtain ⟨a1, len1, cap1, rfl⟩ := okWide_slice Tryz.underlying23 (hval 1 23 v1 rfl rfl)
  have k1 := h1
  have lt1 : ∀ x ∈ p1, x.block < W.heap.size := by obtain ⟨m, hm⟩ := k1; exact DataW.trod_lt m _ _ _ hm
  refine (PartOnce_true _ _ W K0 K1).mono fun e W' ⟨he, bel⟩ => ?_
  subst he
  exact ⟨_, rfl, _, _, _, [], _, [], hW', trodAll_mk1 (shut_bool Tryz.underlying4 _), (trodAll_cons_mk (Below.trod laidOut (by kernel_rfl) (of_decide_eq_true (by kernel_rfl)) k0 bel lt0) (trodAll_cons_mk (Below.trod laidOut (by kernel_rfl) (of_decide_eq_true (by kernel_rfl)) k1 bel lt1) trodAll_mk0)), rfl, bel.frame _, fun h => by cases h⟩
theorem over : Rows.partOnceRow.holds Tryz.pinned (OpenSpec.ofChange Rows.partOnceSpec) :=
  OpenClaim.holds_of_wide 3 Tryz.f3 rfl rfl rfl rfl rfl rfl rfl ⟨rfl, rfl, rfl, rfl, rfl⟩ rfl rfl rfl rfl rfl (by kernel_rfl) Tryz.func3 (by kernel_rfl)
    (of_decide_eq_true (by kernel_rfl)) (by unfold Func.isWrapper; first | (rw [if_pos (by decide +kernel)]; kernel_rfl) | (rw [if_neg (by decide +kernel)]; exact ⟨rfl, rfl⟩))
    (fun os started H enc _ => lifted os started H enc)
theorem proved : Rows.PartOnceCardSaid :=
  Claim7.holds_tied_plain_at .later [] [.data, .data, .data] true (true, "ca07fa21a091892b6d14ac077ec1e46025e17edb970a367ba477b60c3c264940") false over (fun _ h => by cases h) (by kernel_rfl) (fun _ h => by cases h) partOnce_row_tie rfl ⟨rfl, rfl⟩ (by kernel_rfl) rfl
    (fun f fn hf hfn => by
      obtain rfl : f = 3 := Option.some.inj ((show Tryz.prog.funcNamed "stratum/stratumlaw14.PartOnce" = some 3 by kernel_rfl).symm.trans hf) |>.symm
      obtain rfl : fn = Tryz.f3 := (Option.some.inj (Tryz.func3.symm.trans hfn)).symm
      exact ⟨by kernel_rfl, fun j t ht => by
        rw [Tryz.params3] at ht
        have hm : t ∈ [22, 23] := by simpa using Array.mem_of_getElem? ht
        have hall : ([22, 23].all fun u => !Tryz.prog.wantsStandIn u) = true := by kernel_rfl
        exact (show Tryz.prog.wantsStandIn t = false by simpa using List.all_eq_true.1 hall t hm)⟩)
    (by kernel_rfl)
end Go.Proofs.YtgcmbkoejjcjlaaGreatDoor.RowPartOnce
