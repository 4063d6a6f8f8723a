/- The law NodeMoves holds: for every input that its row speaks of the call returns true and leaves the arguments as they were. No condition is added to the given row. -/
import Derived.Test.YtlhlhpgjnjjhnaaGreatDoorRows
import Derived.Test.YtlhlhpgjnjjhnaaGreatDoorZ7
import Derived.WalkKit
import Derived.ProofKit
import Derived.OpenShut
import Derived.ShutString
import Derived.ChangeOld
import Derived.Below
import Derived.SizedLaws
import Derived.Carry
import Derived.Test.YtlhlhpgjnjjhnaaGreatDoorTie
import Derived.Test.YtlhlhpgjnjjhnaaGreatDoorCards
import Derived.Handy
import Derived.Lay
import Derived.SevenTiedAt
import Derived.Test.YtlhlhpgjnjjhnaaGreatDoorFaNodeMoves
import Derived.Test.YtlhlhpgjnjjhnaaGreatDoorFbNodeMoves
namespace Go.Proofs.YtlhlhpgjnjjhnaaGreatDoor.RowNodeMoves
open Go.ChangeShapes Go.WideShapes Go.ChangeAt Go.RowKit Go.Proofs.YtlhlhpgjnjjhnaaGreatDoor.A
open Go.ChangeMaps (open_string shut_string)
set_option linter.unusedVariables false
theorem own : ownKnob Tryz.prog.godebug = none := by kernel_rfl
theorem laidOut : laidOutB Tryz.prog = true := by kernel_rfl
set_option maxRecDepth 100000 in
set_option maxHeartbeats 4000000 in
theorem lifted (os : Os) (started : os.Started) (H : Type) (enc : TypeId × Value → H) :
    ReturnsInHanded {} Tryz.checked os 3 .any (fun w args => (Rows.nodeMovesSpec.pre enc Tryz.prog Tryz.f3 Rows.nodeMovesRow.domain false w args ∧ laidMetH Tryz.prog Rows.nodeMovesRow.laid w) ∧ sizedMet enc Tryz.prog Tryz.f3 (OpenSpec.ofChange Rows.nodeMovesSpec) false w args) (Rows.nodeMovesSpec.post enc Tryz.prog Tryz.f3 false true false false) := by
  refine returnsInHanded_of_change_and (C := Tryz.checked) (X := fun w _ => laidMetH Tryz.prog Rows.nodeMovesRow.laid w) (fun _ _ _ hh h => h.of_heap hh) own started (by kernel_rfl) Tryz.func3
    (ChangeSpec.witness_shaped (enc := enc) (C := Tryz.checked) (os := os) (X := fun w _ => laidMetH Tryz.prog Rows.nodeMovesRow.laid w) false (World.laidAll Tryz.prog os Rows.nodeMovesRow.laid) #[.slice none 0 0, .slice none 0 0, .slice none 0 0, .slice none 0 0, .int .u16 0, .int .u16 0] 8 (World.laidAll_os _ _ _)
      (World.shaped_of_ZipB (by kernel_rfl) (by kernel_rfl)) (by kernel_rfl) (by kernel_rfl) (by kernel_rfl)
      (by rw [MakeChecks.laidMetH_plain _ _ _ (by kernel_rfl)]; exact laidMet_laidAll _ (by kernel_rfl) (by kernel_rfl))) ?_
  intro W base args ds gs before hval0 hW hcnd hsz0 _ _
  have hsz : (DataW.weightsEach Tryz.prog (Tryz.f3.params.toList ++ Rows.nodeMovesSpec.plain.varTypes Tryz.prog) (ds ++ gs)).all (· ≤ reachBytes) = true := hsz0
  have hval : ∀ (j : Nat) t v, Tryz.f3.params[j]? = some t → args[j]? = some v → Value.okWide Tryz.prog W .any base t v := hval0
  have hW' := hW
  obtain ⟨p, q, hA0, hV, rfl, hfz, hnd⟩ := hW
  have hA : DataW.TrodAll enc Tryz.prog W 0 (fun _ => true) true Tryz.f3.params.toList args.toList ds p := hA0
  rw [Tryz.params3] at hA hval hsz
  obtain ⟨v0, vs0, d0, ds0, p0, q0, hargs, rfl, rfl, h0, r0⟩ := trodAll_cons hA
  obtain ⟨v1, vs1, d1, ds1, p1, q1, rfl, rfl, rfl, h1, r1⟩ := trodAll_cons r0
  obtain ⟨v2, vs2, d2, ds2, p2, q2, rfl, rfl, rfl, h2, r2⟩ := trodAll_cons r1
  obtain ⟨v3, vs3, d3, ds3, p3, q3, rfl, rfl, rfl, h3, r3⟩ := trodAll_cons r2
  obtain ⟨v4, vs4, d4, ds4, p4, q4, rfl, rfl, rfl, h4, r4⟩ := trodAll_cons r3
  obtain ⟨v5, vs5, d5, ds5, p5, q5, rfl, rfl, rfl, h5, r5⟩ := trodAll_cons r4
  obtain ⟨rfl, rfl, rfl⟩ := trodAll_nil r5
  obtain rfl : args = #[v0, v1, v2, v3, v4, v5] := by cases args; simp_all
  obtain ⟨rfl, rfl⟩ := trodVars_none hV
  obtain ⟨y0, K0⟩ := K.OpensK.arg (K.opensK_slice Tryz.underlying22 (by kernel_rfl) (by kernel_rfl) (by decide) (K.opensK_struct Tryz.underlying112 (by kernel_rfl) (K.opensFK_cons rfl (K.opensK_int Tryz.underlying25 (by kernel_rfl)) (K.opensFK_one rfl (K.opensK_slice Tryz.underlying44 (by kernel_rfl) (by kernel_rfl) (by decide) (K.opensK_int Tryz.underlying5 (by kernel_rfl))))))) h0 hsz 0 rfl rfl
  obtain ⟨a0, len0, cap0, rfl⟩ := okWide_slice Tryz.underlying22 (hval 0 22 v0 rfl rfl)
  have k0 := h0
  have lt0 : ∀ x ∈ p0, x.block < W.heap.size := by obtain ⟨m, hm⟩ := k0; exact DataW.trod_lt m _ _ _ hm
  obtain ⟨y1, K1⟩ := K.OpensK.arg (K.opensK_slice Tryz.underlying23 (by kernel_rfl) (by kernel_rfl) (by decide) (K.opensK_slice Tryz.underlying91 (by kernel_rfl) (by kernel_rfl) (by decide) (K.opensK_int Tryz.underlying25 (by kernel_rfl)))) h1 hsz 1 rfl rfl
  obtain ⟨a1, len1, cap1, rfl⟩ := okWide_slice Tryz.underlying23 (hval 1 23 v1 rfl rfl)
  have k1 := h1
  have lt1 : ∀ x ∈ p1, x.block < W.heap.size := by obtain ⟨m, hm⟩ := k1; exact DataW.trod_lt m _ _ _ hm
  obtain ⟨y2, K2⟩ := K.OpensK.arg (K.opensK_slice Tryz.underlying23 (by kernel_rfl) (by kernel_rfl) (by decide) (K.opensK_slice Tryz.underlying91 (by kernel_rfl) (by kernel_rfl) (by decide) (K.opensK_int Tryz.underlying25 (by kernel_rfl)))) h2 hsz 2 rfl rfl
  obtain ⟨a2, len2, cap2, rfl⟩ := okWide_slice Tryz.underlying23 (hval 2 23 v2 rfl rfl)
  have k2 := h2
  have lt2 : ∀ x ∈ p2, x.block < W.heap.size := by obtain ⟨m, hm⟩ := k2; exact DataW.trod_lt m _ _ _ hm
  obtain ⟨y3, K3⟩ := K.OpensK.arg (K.opensK_slice Tryz.underlying24 (by kernel_rfl) (by kernel_rfl) (by decide) (K.opensK_int Tryz.underlying2 (by kernel_rfl))) h3 hsz 3 rfl rfl
  obtain ⟨a3, len3, cap3, rfl⟩ := okWide_slice Tryz.underlying24 (hval 3 24 v3 rfl rfl)
  have k3 := h3
  have lt3 : ∀ x ∈ p3, x.block < W.heap.size := by obtain ⟨m, hm⟩ := k3; exact DataW.trod_lt m _ _ _ hm
  obtain ⟨a4, rfl, rfl, rfl, w4⟩ := open_int Tryz.underlying25 (hval 4 25 v4 rfl rfl) h4
  obtain ⟨a5, rfl, rfl, rfl, w5⟩ := open_int Tryz.underlying25 (hval 5 25 v5 rfl rfl) h5
  refine (NodeMoves_true _ _ _ _ a4 a5 W K0 K1 K2 K3 w4 w5).mono fun e W' ⟨he, bel⟩ => ?_
  subst he
  exact ⟨_, rfl, _, _, _, [], _, [], hW', trodAll_mk1 (shut_bool Tryz.underlying4 _), (trodAll_cons_mk (Below.trod laidOut (by kernel_rfl) (of_decide_eq_true (by kernel_rfl)) k0 bel lt0) (trodAll_cons_mk (Below.trod laidOut (by kernel_rfl) (of_decide_eq_true (by kernel_rfl)) k1 bel lt1) (trodAll_cons_mk (Below.trod laidOut (by kernel_rfl) (of_decide_eq_true (by kernel_rfl)) k2 bel lt2) (trodAll_cons_mk (Below.trod laidOut (by kernel_rfl) (of_decide_eq_true (by kernel_rfl)) k3 bel lt3) (trodAll_cons_mk (shut_int Tryz.underlying25 w4) (trodAll_cons_mk (shut_int Tryz.underlying25 w5) trodAll_mk0)))))), rfl, bel.frame _, fun h => by cases h⟩
theorem over : Rows.nodeMovesRow.holds Tryz.pinned (OpenSpec.ofChange Rows.nodeMovesSpec) :=
  OpenClaim.holds_of_wide 3 Tryz.f3 rfl rfl rfl rfl rfl rfl rfl ⟨rfl, rfl, rfl, rfl, rfl⟩ rfl rfl rfl rfl rfl (by kernel_rfl) Tryz.func3 closed
    (of_decide_eq_true (by kernel_rfl)) (by unfold Func.isWrapper; first | (rw [if_pos (by decide +kernel)]; kernel_rfl) | (rw [if_neg (by decide +kernel)]; exact ⟨rfl, rfl⟩))
    (fun os started H enc _ => lifted os started H enc)
theorem mainIs : Tryz.pinned.checked.prog.mainIs = some ((true, "951766ffa404b1a1cfbb5dc2ea568d7df08809e00687c3ccbd8a5e82e6593808").fst, (true, "951766ffa404b1a1cfbb5dc2ea568d7df08809e00687c3ccbd8a5e82e6593808").snd.toList) := by kernel_rfl
theorem looks : true = Tryz.pinned.checked.prog.looks [] := by kernel_rfl
theorem wfText : Rows.nodeMovesRow.wfByText (OpenSpec.ofChange Rows.nodeMovesSpec) = true := by kernel_rfl
theorem proved : Rows.NodeMovesCardSaid :=
  Claim7.holds_tied_plain_at .later [] [.sentinel] true (true, "951766ffa404b1a1cfbb5dc2ea568d7df08809e00687c3ccbd8a5e82e6593808") true over (fun _ h => by cases h) wfText (fun _ h => by cases h) nodeMoves_row_tie rfl ⟨rfl, rfl⟩ mainIs rfl
    (fun f fn hf hfn => by
      obtain rfl : f = 3 := Option.some.inj ((show Tryz.prog.funcNamed "stratum/stratumlaw18.NodeMoves" = some 3 by kernel_rfl).symm.trans hf) |>.symm
      obtain rfl : fn = Tryz.f3 := (Option.some.inj (Tryz.func3.symm.trans hfn)).symm
      exact ⟨looks, fun j t ht => by
        rw [Tryz.params3] at ht
        have hm : t ∈ [22, 23, 23, 24, 25, 25] := by simpa using Array.mem_of_getElem? ht
        have hall : ([22, 23, 23, 24, 25, 25].all fun u => !Tryz.prog.wantsStandIn u) = true := by kernel_rfl
        exact (show Tryz.prog.wantsStandIn t = false by simpa using List.all_eq_true.1 hall t hm)⟩)
    goesNot
end Go.Proofs.YtlhlhpgjnjjhnaaGreatDoor.RowNodeMoves
