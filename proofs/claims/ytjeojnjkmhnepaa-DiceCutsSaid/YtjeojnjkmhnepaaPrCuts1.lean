-- Printed by wip/tools/pr.py, our driver of the kit's print with plugged contracts: Lean checks it.
import Derived.Test.YtjeojnjkmhnepaaPrCuts0
import Derived.Test.YtjeojnjkmhnepaaD7
import Derived.Test.YtjeojnjkmhnepaaPr3
import Derived.Test.YtjeojnjkmhnepaaPr5
import Derived.Test.YtjeojnjkmhnepaaPr6
import Derived.Test.YtjeojnjkmhnepaaPr7
namespace Go.Proofs.Ytjeojnjkmhnepaa.Pr
open Go.RowKit Go.Proofs.YtjeojnjkmhnepaaW.PrintWords Go.Proofs.YtjeojnjkmhnepaaW.PrintLast Go.Proofs.YtjeojnjkmhnepaaW.PrintMore
attribute [local go_sem] max2_int min2_int max_two min_two max_three min_three max_four min_four   -- for this text's walks alone
set_option linter.unusedVariables false
set_option linter.unusedSimpArgs false

/-! ### stratumlaw05_DiceCuts: function 7 -/
mutual
def stratumlaw05_DiceCuts.j0 : Nat → List (S50) → List Int → List Int → List (List Int) → List Int → List Int → Bool → Option (Bool)
  | 0, _, _, _, _, _, _, _ => none
  | k + 1, x0, x1, x2, x3, x4, x5, x44 => if x44 = true then ((stratumlaw05_known.f).bind fun t106 => (some t106)) else (stratumlaw05_DiceCuts.l0 k x0 x1 x2 x3 x4 x5 0)
def stratumlaw05_DiceCuts.l0 : Nat → List (S50) → List Int → List Int → List (List Int) → List Int → List Int → Int → Option (Bool)
  | 0, _, _, _, _, _, _, _ => none
  | k + 1, x0, x1, x2, x3, x4, x5, x13 => if x13 < (x0.length : Int) then (if 0 ≤ x13 then (if (((rd_T50 x0 x13).f0).length : Int) > 50 then (some true) else (stratumlaw05_DiceCuts.l0 k x0 x1 x2 x3 x4 x5 (wrap64 (x13 + 1)))) else (none)) else (stratumlaw05_DiceCuts.l1 k x0 x1 x2 x3 x4 x5 ([] : List (S50)) 0)
def stratumlaw05_DiceCuts.l1 : Nat → List (S50) → List Int → List Int → List (List Int) → List Int → List Int → List (S50) → Int → Option (Bool)
  | 0, _, _, _, _, _, _, _, _ => none
  | k + 1, x0, x1, x2, x3, x4, x5, x14, x15 => if x15 < (x3.length : Int) then (if 0 ≤ x15 then (if ((rd_Lsl5_u8 x3 x15).length : Int) > 50 then (some true) else ((stratumlaw05_ints.f k (rd_Lsl5_u8 x3 x15)).bind fun t110 => (if x14.length < 2513169434916 then (stratumlaw05_DiceCuts.l1 k x0 x1 x2 x3 x4 x5 (x14 ++ [(⟨t110, (⟨x15, 0, 0, 0⟩ : S48)⟩ : S50)]) (wrap64 (x15 + 1))) else (none)))) else (none)) else ((dice_Cut.f k x0 x1 x2).bind fun t116 => ((stratumref05_Cut.f k x0 x1 x2).bind fun t119 => ((stratumref04_Same.f k t116 t119).bind fun t122 => (if t122 = true then ((stratumlaw05_ints.f k x4).bind fun t123 => ((stratumlaw05_ints.f k x5).bind fun t126 => ((dice_Cut.f k x14 t123 t126).bind fun t129 => ((stratumlaw05_ints.f k x4).bind fun t132 => ((stratumlaw05_ints.f k x5).bind fun t135 => ((stratumref05_Cut.f k x14 t132 t135).bind fun t138 => ((stratumref04_Same.f k t129 t138).bind fun t141 => (some t141)))))))) else (some false)))))
end
def stratumlaw05_DiceCuts.f (k : Nat) (l0 : List (S50)) (l1 : List Int) (l2 : List Int) (l3 : List (List Int)) (l4 : List Int) (l5 : List Int) : Option (Bool) := (stratumlaw05_heavy.f k (([l1, l2] : List (List Int)))).bind fun t104 => (if t104 = true then (stratumlaw05_DiceCuts.j0 k l0 l1 l2 l3 l4 l5 true) else (if (l0.length : Int) > 200 then (stratumlaw05_DiceCuts.j0 k l0 l1 l2 l3 l4 l5 true) else (if (l3.length : Int) > 200 then (stratumlaw05_DiceCuts.j0 k l0 l1 l2 l3 l4 l5 true) else (if (l4.length : Int) > 4 then (stratumlaw05_DiceCuts.j0 k l0 l1 l2 l3 l4 l5 true) else (if (l5.length : Int) > 4 then (stratumlaw05_DiceCuts.j0 k l0 l1 l2 l3 l4 l5 true) else ((stratumlaw05_known.f).bind fun t105 => (stratumlaw05_DiceCuts.j0 k l0 l1 l2 l3 l4 l5 (!t105))))))))
theorem stratumlaw05_DiceCuts.mono_l : ∀ k, (∀ y0 y1 y2 y3 y4 y5 y6, LeO (stratumlaw05_DiceCuts.j0 k y0 y1 y2 y3 y4 y5 y6) (stratumlaw05_DiceCuts.j0 (k + 1) y0 y1 y2 y3 y4 y5 y6)) ∧ (∀ y0 y1 y2 y3 y4 y5 y6, LeO (stratumlaw05_DiceCuts.l0 k y0 y1 y2 y3 y4 y5 y6) (stratumlaw05_DiceCuts.l0 (k + 1) y0 y1 y2 y3 y4 y5 y6)) ∧ (∀ y0 y1 y2 y3 y4 y5 y6 y7, LeO (stratumlaw05_DiceCuts.l1 k y0 y1 y2 y3 y4 y5 y6 y7) (stratumlaw05_DiceCuts.l1 (k + 1) y0 y1 y2 y3 y4 y5 y6 y7))
  | 0 => ⟨fun _ _ _ _ _ _ _ r h => by simp [stratumlaw05_DiceCuts.j0] at h, fun _ _ _ _ _ _ _ r h => by simp [stratumlaw05_DiceCuts.l0] at h, fun _ _ _ _ _ _ _ _ r h => by simp [stratumlaw05_DiceCuts.l1] at h⟩
  | k + 1 => by
    obtain ⟨ih0, ih1, ih2⟩ := stratumlaw05_DiceCuts.mono_l k
    refine ⟨?_, ?_, ?_⟩
    · intro y0 y1 y2 y3 y4 y5 y6
      unfold stratumlaw05_DiceCuts.j0
      repeat' first
      | (with_reducible exact ih0 _ _ _ _ _ _ _)
      | (with_reducible exact ih1 _ _ _ _ _ _ _)
      | (with_reducible exact ih2 _ _ _ _ _ _ _ _)
      | (with_reducible exact dice_Cut.mono _ _ _ _)
      | (with_reducible exact stratumlaw05_heavy.mono _ _)
      | (with_reducible exact stratumlaw05_ints.mono _ _)
      | (with_reducible exact stratumref04_Same.mono _ _ _)
      | (with_reducible exact stratumref05_Cut.mono _ _ _ _)
      | (with_reducible exact LeO.refl _)
      | (with_reducible exact LeO.none _)
      | (with_reducible refine LeO.ite ?_ ?_)
      | (with_reducible refine LeO.bind ?_ (fun _ => ?_))
      | exact ih0 _ _ _ _ _ _ _
      | exact ih1 _ _ _ _ _ _ _
      | exact ih2 _ _ _ _ _ _ _ _
      | exact dice_Cut.mono _ _ _ _
      | exact stratumlaw05_heavy.mono _ _
      | exact stratumlaw05_ints.mono _ _
      | exact stratumref04_Same.mono _ _ _
      | exact stratumref05_Cut.mono _ _ _ _
      | exact LeO.none _
      | refine LeO.ite ?_ ?_
      | refine LeO.bind ?_ (fun _ => ?_)
    · intro y0 y1 y2 y3 y4 y5 y6
      unfold stratumlaw05_DiceCuts.l0
      repeat' first
      | (with_reducible exact ih0 _ _ _ _ _ _ _)
      | (with_reducible exact ih1 _ _ _ _ _ _ _)
      | (with_reducible exact ih2 _ _ _ _ _ _ _ _)
      | (with_reducible exact dice_Cut.mono _ _ _ _)
      | (with_reducible exact stratumlaw05_heavy.mono _ _)
      | (with_reducible exact stratumlaw05_ints.mono _ _)
      | (with_reducible exact stratumref04_Same.mono _ _ _)
      | (with_reducible exact stratumref05_Cut.mono _ _ _ _)
      | (with_reducible exact LeO.refl _)
      | (with_reducible exact LeO.none _)
      | (with_reducible refine LeO.ite ?_ ?_)
      | (with_reducible refine LeO.bind ?_ (fun _ => ?_))
      | exact ih0 _ _ _ _ _ _ _
      | exact ih1 _ _ _ _ _ _ _
      | exact ih2 _ _ _ _ _ _ _ _
      | exact dice_Cut.mono _ _ _ _
      | exact stratumlaw05_heavy.mono _ _
      | exact stratumlaw05_ints.mono _ _
      | exact stratumref04_Same.mono _ _ _
      | exact stratumref05_Cut.mono _ _ _ _
      | exact LeO.none _
      | refine LeO.ite ?_ ?_
      | refine LeO.bind ?_ (fun _ => ?_)
    · intro y0 y1 y2 y3 y4 y5 y6 y7
      unfold stratumlaw05_DiceCuts.l1
      repeat' first
      | (with_reducible exact ih0 _ _ _ _ _ _ _)
      | (with_reducible exact ih1 _ _ _ _ _ _ _)
      | (with_reducible exact ih2 _ _ _ _ _ _ _ _)
      | (with_reducible exact dice_Cut.mono _ _ _ _)
      | (with_reducible exact stratumlaw05_heavy.mono _ _)
      | (with_reducible exact stratumlaw05_ints.mono _ _)
      | (with_reducible exact stratumref04_Same.mono _ _ _)
      | (with_reducible exact stratumref05_Cut.mono _ _ _ _)
      | (with_reducible exact LeO.refl _)
      | (with_reducible exact LeO.none _)
      | (with_reducible refine LeO.ite ?_ ?_)
      | (with_reducible refine LeO.bind ?_ (fun _ => ?_))
      | exact ih0 _ _ _ _ _ _ _
      | exact ih1 _ _ _ _ _ _ _
      | exact ih2 _ _ _ _ _ _ _ _
      | exact dice_Cut.mono _ _ _ _
      | exact stratumlaw05_heavy.mono _ _
      | exact stratumlaw05_ints.mono _ _
      | exact stratumref04_Same.mono _ _ _
      | exact stratumref05_Cut.mono _ _ _ _
      | exact LeO.none _
      | refine LeO.ite ?_ ?_
      | refine LeO.bind ?_ (fun _ => ?_)
theorem stratumlaw05_DiceCuts.mono : ∀ a0 a1 a2 a3 a4 a5 k, LeO (stratumlaw05_DiceCuts.f k a0 a1 a2 a3 a4 a5) (stratumlaw05_DiceCuts.f (k + 1) a0 a1 a2 a3 a4 a5) := by
  intro a0 a1 a2 a3 a4 a5 k
  obtain ⟨ih0, ih1, ih2⟩ := stratumlaw05_DiceCuts.mono_l k
  unfold stratumlaw05_DiceCuts.f
  repeat' first
      | (with_reducible exact ih0 _ _ _ _ _ _ _)
      | (with_reducible exact ih1 _ _ _ _ _ _ _)
      | (with_reducible exact ih2 _ _ _ _ _ _ _ _)
      | (with_reducible exact dice_Cut.mono _ _ _ _)
      | (with_reducible exact stratumlaw05_heavy.mono _ _)
      | (with_reducible exact stratumlaw05_ints.mono _ _)
      | (with_reducible exact stratumref04_Same.mono _ _ _)
      | (with_reducible exact stratumref05_Cut.mono _ _ _ _)
      | (with_reducible exact LeO.refl _)
      | (with_reducible exact LeO.none _)
      | (with_reducible refine LeO.ite ?_ ?_)
      | (with_reducible refine LeO.bind ?_ (fun _ => ?_))
      | exact ih0 _ _ _ _ _ _ _
      | exact ih1 _ _ _ _ _ _ _
      | exact ih2 _ _ _ _ _ _ _ _
      | exact dice_Cut.mono _ _ _ _
      | exact stratumlaw05_heavy.mono _ _
      | exact stratumlaw05_ints.mono _ _
      | exact stratumref04_Same.mono _ _ _
      | exact stratumref05_Cut.mono _ _ _ _
      | exact LeO.none _
      | refine LeO.ite ?_ ?_
      | refine LeO.bind ?_ (fun _ => ?_)
set_option maxHeartbeats 8000000 in
set_option maxRecDepth 100000 in
theorem stratumlaw05_DiceCuts.calls (k : Nat) (A0 : Option Addr) (c0 : Nat) (l0 : List (S50)) (P1_ : Nat → Prop) (A1 : Option Addr) (c1 : Nat) (l1 : List Int) (P2_ : Nat → Prop) (A2 : Option Addr) (c2 : Nat) (l2 : List Int) (A3 : Option Addr) (c3 : Nat) (l3 : List (List Int)) (A4 : Option Addr) (c4 : Nat) (l4 : List Int) (A5 : Option Addr) (c5 : Nat) (l5 : List Int) (r : Bool) (w : World) (hr0 : Kd.C k50 w A0 l0.length l0) (hc0 : l0.length ≤ c0) (hs1 : Kd.V (Kd.int .i64) 3 w w.heap.size (fun k_ => P1_ k_) (.slice A1 l1.length c1) l1) (hs2 : Kd.V (Kd.int .i64) 3 w w.heap.size (fun k_ => P2_ k_) (.slice A2 l2.length c2) l2) (hr3 : Kd.C (Kd.slice 5 (Kd.int .u8)) w A3 l3.length l3) (hc3 : l3.length ≤ c3) (hr4 : Kd.C (Kd.int .u8) w A4 l4.length l4) (hc4 : l4.length ≤ c4) (hr5 : Kd.C (Kd.int .u8) w A5 l5.length l5) (hc5 : l5.length ≤ c5) (h : stratumlaw05_DiceCuts.f k l0 l1 l2 l3 l4 l5 = some r) :
    Calls Try.prog 7 #[.slice A0 l0.length c0, .slice A1 l1.length c1, .slice A2 l2.length c2, .slice A3 l3.length c3, .slice A4 l4.length c4, .slice A5 l5.length c5] w fun e w' => e = .returned (.bool r) ∧ Below w.heap.size w w' := by
  have hu48 := Try.underlying48
  have hu50 := Try.underlying50
  have HR0 := Aside0.mk hr0
  have HC0 := Aside0.mk hc0
  clear hr0 hc0
  have HO1 := Aside0.mk (show Kd.V (Kd.int .i64) 3 w w.heap.size (fun k_ => ((P1_ k_ ∨ P2_ k_) ∨ w.heap.size ≤ k_)) (.slice A1 l1.length c1) l1 from Kd.V_mono hs1 (fun k_ hk => .inl (.inl hk)))
  have HO2 := Aside0.mk (show Kd.V (Kd.int .i64) 3 w w.heap.size (fun k_ => ((P1_ k_ ∨ P2_ k_) ∨ w.heap.size ≤ k_)) (.slice A2 l2.length c2) l2 from Kd.V_mono hs2 (fun k_ hk => .inl (.inr hk)))
  have HR3 := Aside0.mk hr3
  have HC3 := Aside0.mk hc3
  clear hr3 hc3
  have HR4 := Aside0.mk hr4
  have HC4 := Aside0.mk hc4
  clear hr4 hc4
  have HR5 := Aside0.mk hr5
  have HC5 := Aside0.mk hc5
  clear hr5 hc5
  have HB := Aside0.mk (Below.refl w.heap.size w)
  have H : ((stratumlaw05_heavy.f k (([l1, l2] : List (List Int)))).bind fun t104 => (if t104 = true then (stratumlaw05_DiceCuts.j0 k l0 l1 l2 l3 l4 l5 true) else (if (l0.length : Int) > 200 then (stratumlaw05_DiceCuts.j0 k l0 l1 l2 l3 l4 l5 true) else (if (l3.length : Int) > 200 then (stratumlaw05_DiceCuts.j0 k l0 l1 l2 l3 l4 l5 true) else (if (l4.length : Int) > 4 then (stratumlaw05_DiceCuts.j0 k l0 l1 l2 l3 l4 l5 true) else (if (l5.length : Int) > 4 then (stratumlaw05_DiceCuts.j0 k l0 l1 l2 l3 l4 l5 true) else ((stratumlaw05_known.f).bind fun t105 => (stratumlaw05_DiceCuts.j0 k l0 l1 l2 l3 l4 l5 (!t105))))))))) = some r := h
  clear h
  have HC7 := Aside0.mk H
  clear H
  go_enter Try.func7, Try.ntmps7
  go_upto_region 1 with (fail)
  go_cut [44] (fun v44 wc => ∃ (kq : Nat) (x44_6 : Bool), v44 = .bool x44_6 ∧ Aside0 (stratumlaw05_DiceCuts.j0 kq l0 l1 l2 l3 l4 l5 x44_6 = some r) ∧ Aside0 (kq ≤ k) ∧ Aside0 (Kd.V (Kd.int .i64) 3 wc w.heap.size (fun k_ => ((P1_ k_ ∨ P2_ k_) ∨ w.heap.size ≤ k_)) (.slice A1 l1.length c1) l1) ∧ Aside0 (Kd.V (Kd.int .i64) 3 wc w.heap.size (fun k_ => ((P1_ k_ ∨ P2_ k_) ∨ w.heap.size ≤ k_)) (.slice A2 l2.length c2) l2) ∧ Aside0 (Below w.heap.size w wc))
  case first =>
    have H := HC7.out
    clear HC7
    obtain ⟨y101, hy101⟩ : ∃ y_ : List (List Int), y_ = (([l1, l2] : List (List Int))) := ⟨_, rfl⟩
    replace H : ((stratumlaw05_heavy.f k y101).bind fun t104 => (if t104 = true then (stratumlaw05_DiceCuts.j0 k l0 l1 l2 l3 l4 l5 true) else (if (l0.length : Int) > 200 then (stratumlaw05_DiceCuts.j0 k l0 l1 l2 l3 l4 l5 true) else (if (l3.length : Int) > 200 then (stratumlaw05_DiceCuts.j0 k l0 l1 l2 l3 l4 l5 true) else (if (l4.length : Int) > 4 then (stratumlaw05_DiceCuts.j0 k l0 l1 l2 l3 l4 l5 true) else (if (l5.length : Int) > 4 then (stratumlaw05_DiceCuts.j0 k l0 l1 l2 l3 l4 l5 true) else ((stratumlaw05_known.f).bind fun t105 => (stratumlaw05_DiceCuts.j0 k l0 l1 l2 l3 l4 l5 (!t105))))))))) = some r := by first | (rw [hy101]; with_reducible exact H) | (have H2_ := (Option.bind_some _ _).symm.trans H; rw [hy101]; with_reducible exact H2_) | (have H2_ := (Option.bind_some _ _).symm.trans H; with_reducible exact H2_) | with_reducible exact H | (rw [hy101]; exact H) | exact H
    have Ny101 := Aside0.mk hy101
    clear hy101
    replace H := Option.bind_eq_some_iff.mp H
    obtain ⟨t104, A80, H⟩ := H
    replace H : (if t104 = true then (stratumlaw05_DiceCuts.j0 k l0 l1 l2 l3 l4 l5 true) else (if (l0.length : Int) > 200 then (stratumlaw05_DiceCuts.j0 k l0 l1 l2 l3 l4 l5 true) else (if (l3.length : Int) > 200 then (stratumlaw05_DiceCuts.j0 k l0 l1 l2 l3 l4 l5 true) else (if (l4.length : Int) > 4 then (stratumlaw05_DiceCuts.j0 k l0 l1 l2 l3 l4 l5 true) else (if (l5.length : Int) > 4 then (stratumlaw05_DiceCuts.j0 k l0 l1 l2 l3 l4 l5 true) else ((stratumlaw05_known.f).bind fun t105 => (stratumlaw05_DiceCuts.j0 k l0 l1 l2 l3 l4 l5 (!t105)))))))) = some r := H
    have A8 := Aside0.mk A80
    clear A80
    by_cases c9 : t104 = true
    · subst c9
      have H1 : (stratumlaw05_DiceCuts.j0 k l0 l1 l2 l3 l4 l5 true) = some r := by rw [if_pos rfl] at H; exact H
      clear H
      have H := H1
      clear H1
      have H' := Aside0.mk H
      clear H
      go_wp2_with (first | ((with_reducible refine gate_dst (N := 19) rfl ?_); (try (refine gate_guard (by rfl) ?_; dsimp only)); refine Kd.N_lit (Kd.slice 3 (Kd.int .i64)) _ 26 ?hg (N' := 19) ?hd (xs := ([l1, l2] : List (List Int))) (inner := [.slice A1 l1.length c1, .slice A2 l2.length c2]) (ok := (fun k_ => ((P1_ k_ ∨ P2_ k_) ∨ w.heap.size ≤ k_))) (okp := (fun k_ => ((P1_ k_ ∨ P2_ k_) ∨ w.heap.size ≤ k_))) ?hr ?hp (fun _ hk => hk) ((show ∀ k_, w.heap.size ≤ k_ → (fun k_ => ((P1_ k_ ∨ P2_ k_) ∨ w.heap.size ≤ k_)) k_ from fun k_ hk => (.inr (Nat.le_trans (below_size (by repeat (first | (with_reducible first | exact HB.out | apply below_alloc | apply pw_below_drewN | apply below_drew1) | exact HB.out))) hk))) _ (Nat.le_refl _)) (Below.refl _ _) (Nat.le_refl _) (by simp) ?_; (case hd => rfl); (case hg => rfl); (case hr => first | (go_simp; done) | (go_simp; rfl)); (case hp => exact (Reps.one (show Kd.FK (Kd.slice 3 (Kd.int .i64)) _ _ l1 [.slice A1 l1.length c1] from (Kd.FK_slice_mk (Kd.V_reads' (Kd.V_mono (ok' := (fun k_ => ((P1_ k_ ∨ P2_ k_) ∨ w.heap.size ≤ k_))) (HO1.out) (fun k_ hk => hk))).2.1 (Kd.V_F (Kd.V_mono (ok' := (fun k_ => ((P1_ k_ ∨ P2_ k_) ∨ w.heap.size ≤ k_))) (HO1.out) (fun k_ hk => hk))))) (Reps.one (show Kd.FK (Kd.slice 3 (Kd.int .i64)) _ _ l2 [.slice A2 l2.length c2] from (Kd.FK_slice_mk (Kd.V_reads' (Kd.V_mono (ok' := (fun k_ => ((P1_ k_ ∨ P2_ k_) ∨ w.heap.size ≤ k_))) (HO2.out) (fun k_ hk => hk))).2.1 (Kd.V_F (Kd.V_mono (ok' := (fun k_ => ((P1_ k_ ∨ P2_ k_) ∨ w.heap.size ≤ k_))) (HO2.out) (fun k_ hk => hk))))) (Reps.none _ _)))); intro v102 w10 ho11 hb hg_ hnew_; clear hg_ hnew_; (first | rw [← Ny101.out] at ho11 | (simp only [Int.reduceToNat] at ho11; rw [← Ny101.out] at ho11)); have n0_ := Aside0.mk (Kd.V_elder' (by (with_reducible repeat (first | apply Kd.V_alloc | apply Kd.V_drewN | apply Kd.V_drew)); exact HO1.out) (by first | exact Kd.N_base ho11 | exact Kd.N_base (Kd.S_N ho11) | exact Kd.R_base ho11) hb); have n1_ := Aside0.mk (Kd.V_elder' (by (with_reducible repeat (first | apply Kd.V_alloc | apply Kd.V_drewN | apply Kd.V_drew)); exact HO2.out) (by first | exact Kd.N_base ho11 | exact Kd.N_base (Kd.S_N ho11) | exact Kd.R_base ho11) hb); have n2_ := Aside0.mk (Kd.N_lower ho11 (below_size (by repeat (first | (with_reducible first | exact HB.out | apply below_alloc | apply pw_below_drewN | apply below_drew1) | exact HB.out)))); have n3_ := Aside0.mk (below_step (by repeat (first | (with_reducible first | exact HB.out | apply below_alloc | apply pw_below_drewN | apply below_drew1) | exact HB.out)) hb); clear HO1; clear HO2; clear HB; have HO1 := n0_; have HO2 := n1_; have HO103 := n2_; have HB := n3_; clear n0_ n1_ n2_ n3_; clear hb ho11; obtain ⟨Ao12, co12, eo12⟩ := Kd.N_slice HO103.out; subst eo12) | ((with_reducible refine gate_callee (f := 21) rfl ?_); refine goesL_ (some 20) rfl rfl Try.func21 (by kernel_rfl) rfl #[.slice Ao12 y101.length co12] rfl (by (try simp only [List.map_toArray, List.map_cons, List.map_nil]); first | done | rfl | (simp only [List.length_drop, List.length_take]; rfl)) ?_; (with_reducible refine (stratumlaw05_heavy.calls k _ _ y101 true _ ?side1 ?side2 A8.out).mono ?_); (case side1 => repeat (first | exact (Kd.N_reads' HO103.out).2.2 | (with_reducible refine Kd.C_alloc ?_ _) | (with_reducible refine Kd.C_drewN ?_ _) | (with_reducible refine Kd.C_drew ?_))); (case side2 => exact (Kd.N_reads' HO103.out).2.1); rintro e w' ⟨rfl, ⟨nd, rfl⟩⟩; refine ⟨_, rfl, ?_⟩))
      go_meet
      case rel => exact ⟨_, (true), (by first | rfl | (simp; done) | (simp [*]; done)), H', ⟨by first | omega | exact Nat.le_refl _⟩, ⟨by (with_reducible repeat (first | apply Kd.V_alloc | apply Kd.V_drewN | apply Kd.V_drew)); exact Kd.V_mono HO1.out (fun _ hk => hk.1)⟩, ⟨by (with_reducible repeat (first | apply Kd.V_alloc | apply Kd.V_drewN | apply Kd.V_drew)); exact Kd.V_mono HO2.out (fun _ hk => hk.1)⟩, ⟨by repeat (first | (with_reducible first | exact HB.out | apply below_alloc | apply pw_below_drewN | apply below_drew1) | exact HB.out)⟩⟩
    · replace c9 := Bool.eq_false_iff.mpr c9
      subst c9
      have H1 : (if (l0.length : Int) > 200 then (stratumlaw05_DiceCuts.j0 k l0 l1 l2 l3 l4 l5 true) else (if (l3.length : Int) > 200 then (stratumlaw05_DiceCuts.j0 k l0 l1 l2 l3 l4 l5 true) else (if (l4.length : Int) > 4 then (stratumlaw05_DiceCuts.j0 k l0 l1 l2 l3 l4 l5 true) else (if (l5.length : Int) > 4 then (stratumlaw05_DiceCuts.j0 k l0 l1 l2 l3 l4 l5 true) else ((stratumlaw05_known.f).bind fun t105 => (stratumlaw05_DiceCuts.j0 k l0 l1 l2 l3 l4 l5 (!t105))))))) = some r := by rw [if_neg (show ¬ (false = true) by decide)] at H; exact H
      clear H
      have H := H1
      clear H1
      by_cases c13 : (l0.length : Int) > 200
      · rw [if_pos c13] at H
        have c13b0 : decide (200 < (l0.length : Int)) = true := decide_eq_true c13
        have c13b1 : decide (200 < l0.length) = true := decide_eq_true (by omega)
        clear c13
        (first | rw [c13b0] | (simp only [i64_w, i32_w]; rw [c13b0]) | skip)
        have H' := Aside0.mk H
        clear H
        go_wp2_with (first | ((with_reducible refine gate_dst (N := 19) rfl ?_); (try (refine gate_guard (by rfl) ?_; dsimp only)); refine Kd.N_lit (Kd.slice 3 (Kd.int .i64)) _ 26 ?hg (N' := 19) ?hd (xs := ([l1, l2] : List (List Int))) (inner := [.slice A1 l1.length c1, .slice A2 l2.length c2]) (ok := (fun k_ => ((P1_ k_ ∨ P2_ k_) ∨ w.heap.size ≤ k_))) (okp := (fun k_ => ((P1_ k_ ∨ P2_ k_) ∨ w.heap.size ≤ k_))) ?hr ?hp (fun _ hk => hk) ((show ∀ k_, w.heap.size ≤ k_ → (fun k_ => ((P1_ k_ ∨ P2_ k_) ∨ w.heap.size ≤ k_)) k_ from fun k_ hk => (.inr (Nat.le_trans (below_size (by repeat (first | (with_reducible first | exact HB.out | apply below_alloc | apply pw_below_drewN | apply below_drew1) | exact HB.out))) hk))) _ (Nat.le_refl _)) (Below.refl _ _) (Nat.le_refl _) (by simp) ?_; (case hd => rfl); (case hg => rfl); (case hr => first | (go_simp; done) | (go_simp; rfl)); (case hp => exact (Reps.one (show Kd.FK (Kd.slice 3 (Kd.int .i64)) _ _ l1 [.slice A1 l1.length c1] from (Kd.FK_slice_mk (Kd.V_reads' (Kd.V_mono (ok' := (fun k_ => ((P1_ k_ ∨ P2_ k_) ∨ w.heap.size ≤ k_))) (HO1.out) (fun k_ hk => hk))).2.1 (Kd.V_F (Kd.V_mono (ok' := (fun k_ => ((P1_ k_ ∨ P2_ k_) ∨ w.heap.size ≤ k_))) (HO1.out) (fun k_ hk => hk))))) (Reps.one (show Kd.FK (Kd.slice 3 (Kd.int .i64)) _ _ l2 [.slice A2 l2.length c2] from (Kd.FK_slice_mk (Kd.V_reads' (Kd.V_mono (ok' := (fun k_ => ((P1_ k_ ∨ P2_ k_) ∨ w.heap.size ≤ k_))) (HO2.out) (fun k_ hk => hk))).2.1 (Kd.V_F (Kd.V_mono (ok' := (fun k_ => ((P1_ k_ ∨ P2_ k_) ∨ w.heap.size ≤ k_))) (HO2.out) (fun k_ hk => hk))))) (Reps.none _ _)))); intro v102 w14 ho15 hb hg_ hnew_; clear hg_ hnew_; (first | rw [← Ny101.out] at ho15 | (simp only [Int.reduceToNat] at ho15; rw [← Ny101.out] at ho15)); have n0_ := Aside0.mk (Kd.V_elder' (by (with_reducible repeat (first | apply Kd.V_alloc | apply Kd.V_drewN | apply Kd.V_drew)); exact HO1.out) (by first | exact Kd.N_base ho15 | exact Kd.N_base (Kd.S_N ho15) | exact Kd.R_base ho15) hb); have n1_ := Aside0.mk (Kd.V_elder' (by (with_reducible repeat (first | apply Kd.V_alloc | apply Kd.V_drewN | apply Kd.V_drew)); exact HO2.out) (by first | exact Kd.N_base ho15 | exact Kd.N_base (Kd.S_N ho15) | exact Kd.R_base ho15) hb); have n2_ := Aside0.mk (Kd.N_lower ho15 (below_size (by repeat (first | (with_reducible first | exact HB.out | apply below_alloc | apply pw_below_drewN | apply below_drew1) | exact HB.out)))); have n3_ := Aside0.mk (below_step (by repeat (first | (with_reducible first | exact HB.out | apply below_alloc | apply pw_below_drewN | apply below_drew1) | exact HB.out)) hb); clear HO1; clear HO2; clear HB; have HO1 := n0_; have HO2 := n1_; have HO103 := n2_; have HB := n3_; clear n0_ n1_ n2_ n3_; clear hb ho15; obtain ⟨Ao16, co16, eo16⟩ := Kd.N_slice HO103.out; subst eo16) | ((with_reducible refine gate_callee (f := 21) rfl ?_); refine goesL_ (some 20) rfl rfl Try.func21 (by kernel_rfl) rfl #[.slice Ao16 y101.length co16] rfl (by (try simp only [List.map_toArray, List.map_cons, List.map_nil]); first | done | rfl | (simp only [List.length_drop, List.length_take]; rfl)) ?_; (with_reducible refine (stratumlaw05_heavy.calls k _ _ y101 false _ ?side1 ?side2 A8.out).mono ?_); (case side1 => repeat (first | exact (Kd.N_reads' HO103.out).2.2 | (with_reducible refine Kd.C_alloc ?_ _) | (with_reducible refine Kd.C_drewN ?_ _) | (with_reducible refine Kd.C_drew ?_))); (case side2 => exact (Kd.N_reads' HO103.out).2.1); rintro e w' ⟨rfl, ⟨nd, rfl⟩⟩; refine ⟨_, rfl, ?_⟩))
        go_meet
        case rel => exact ⟨_, (true), (by first | rfl | (simp; done) | (simp [*]; done)), H', ⟨by first | omega | exact Nat.le_refl _⟩, ⟨by (with_reducible repeat (first | apply Kd.V_alloc | apply Kd.V_drewN | apply Kd.V_drew)); exact Kd.V_mono HO1.out (fun _ hk => hk.1)⟩, ⟨by (with_reducible repeat (first | apply Kd.V_alloc | apply Kd.V_drewN | apply Kd.V_drew)); exact Kd.V_mono HO2.out (fun _ hk => hk.1)⟩, ⟨by repeat (first | (with_reducible first | exact HB.out | apply below_alloc | apply pw_below_drewN | apply below_drew1) | exact HB.out)⟩⟩
      · rw [if_neg c13] at H
        have c13b0 : decide (200 < (l0.length : Int)) = false := decide_eq_false c13
        have c13b1 : decide (200 < l0.length) = false := decide_eq_false (by omega)
        clear c13
        (first | rw [c13b0] | (simp only [i64_w, i32_w]; rw [c13b0]) | skip)
        by_cases c17 : (l3.length : Int) > 200
        · rw [if_pos c17] at H
          have c17b0 : decide (200 < (l3.length : Int)) = true := decide_eq_true c17
          have c17b1 : decide (200 < l3.length) = true := decide_eq_true (by omega)
          clear c17
          have H' := Aside0.mk H
          clear H
          go_wp2_with (first | ((with_reducible refine gate_dst (N := 19) rfl ?_); (try (refine gate_guard (by rfl) ?_; dsimp only)); refine Kd.N_lit (Kd.slice 3 (Kd.int .i64)) _ 26 ?hg (N' := 19) ?hd (xs := ([l1, l2] : List (List Int))) (inner := [.slice A1 l1.length c1, .slice A2 l2.length c2]) (ok := (fun k_ => ((P1_ k_ ∨ P2_ k_) ∨ w.heap.size ≤ k_))) (okp := (fun k_ => ((P1_ k_ ∨ P2_ k_) ∨ w.heap.size ≤ k_))) ?hr ?hp (fun _ hk => hk) ((show ∀ k_, w.heap.size ≤ k_ → (fun k_ => ((P1_ k_ ∨ P2_ k_) ∨ w.heap.size ≤ k_)) k_ from fun k_ hk => (.inr (Nat.le_trans (below_size (by repeat (first | (with_reducible first | exact HB.out | apply below_alloc | apply pw_below_drewN | apply below_drew1) | exact HB.out))) hk))) _ (Nat.le_refl _)) (Below.refl _ _) (Nat.le_refl _) (by simp) ?_; (case hd => rfl); (case hg => rfl); (case hr => first | (go_simp; done) | (go_simp; rfl)); (case hp => exact (Reps.one (show Kd.FK (Kd.slice 3 (Kd.int .i64)) _ _ l1 [.slice A1 l1.length c1] from (Kd.FK_slice_mk (Kd.V_reads' (Kd.V_mono (ok' := (fun k_ => ((P1_ k_ ∨ P2_ k_) ∨ w.heap.size ≤ k_))) (HO1.out) (fun k_ hk => hk))).2.1 (Kd.V_F (Kd.V_mono (ok' := (fun k_ => ((P1_ k_ ∨ P2_ k_) ∨ w.heap.size ≤ k_))) (HO1.out) (fun k_ hk => hk))))) (Reps.one (show Kd.FK (Kd.slice 3 (Kd.int .i64)) _ _ l2 [.slice A2 l2.length c2] from (Kd.FK_slice_mk (Kd.V_reads' (Kd.V_mono (ok' := (fun k_ => ((P1_ k_ ∨ P2_ k_) ∨ w.heap.size ≤ k_))) (HO2.out) (fun k_ hk => hk))).2.1 (Kd.V_F (Kd.V_mono (ok' := (fun k_ => ((P1_ k_ ∨ P2_ k_) ∨ w.heap.size ≤ k_))) (HO2.out) (fun k_ hk => hk))))) (Reps.none _ _)))); intro v102 w18 ho19 hb hg_ hnew_; clear hg_ hnew_; (first | rw [← Ny101.out] at ho19 | (simp only [Int.reduceToNat] at ho19; rw [← Ny101.out] at ho19)); have n0_ := Aside0.mk (Kd.V_elder' (by (with_reducible repeat (first | apply Kd.V_alloc | apply Kd.V_drewN | apply Kd.V_drew)); exact HO1.out) (by first | exact Kd.N_base ho19 | exact Kd.N_base (Kd.S_N ho19) | exact Kd.R_base ho19) hb); have n1_ := Aside0.mk (Kd.V_elder' (by (with_reducible repeat (first | apply Kd.V_alloc | apply Kd.V_drewN | apply Kd.V_drew)); exact HO2.out) (by first | exact Kd.N_base ho19 | exact Kd.N_base (Kd.S_N ho19) | exact Kd.R_base ho19) hb); have n2_ := Aside0.mk (Kd.N_lower ho19 (below_size (by repeat (first | (with_reducible first | exact HB.out | apply below_alloc | apply pw_below_drewN | apply below_drew1) | exact HB.out)))); have n3_ := Aside0.mk (below_step (by repeat (first | (with_reducible first | exact HB.out | apply below_alloc | apply pw_below_drewN | apply below_drew1) | exact HB.out)) hb); clear HO1; clear HO2; clear HB; have HO1 := n0_; have HO2 := n1_; have HO103 := n2_; have HB := n3_; clear n0_ n1_ n2_ n3_; clear hb ho19; obtain ⟨Ao20, co20, eo20⟩ := Kd.N_slice HO103.out; subst eo20) | ((with_reducible refine gate_callee (f := 21) rfl ?_); refine goesL_ (some 20) rfl rfl Try.func21 (by kernel_rfl) rfl #[.slice Ao20 y101.length co20] rfl (by (try simp only [List.map_toArray, List.map_cons, List.map_nil]); first | done | rfl | (simp only [List.length_drop, List.length_take]; rfl)) ?_; (with_reducible refine (stratumlaw05_heavy.calls k _ _ y101 false _ ?side1 ?side2 A8.out).mono ?_); (case side1 => repeat (first | exact (Kd.N_reads' HO103.out).2.2 | (with_reducible refine Kd.C_alloc ?_ _) | (with_reducible refine Kd.C_drewN ?_ _) | (with_reducible refine Kd.C_drew ?_))); (case side2 => exact (Kd.N_reads' HO103.out).2.1); rintro e w' ⟨rfl, ⟨nd, rfl⟩⟩; refine ⟨_, rfl, ?_⟩))
          go_meet
          case rel => exact ⟨_, (true), (by first | rfl | (simp; done) | (simp [*]; done)), H', ⟨by first | omega | exact Nat.le_refl _⟩, ⟨by (with_reducible repeat (first | apply Kd.V_alloc | apply Kd.V_drewN | apply Kd.V_drew)); exact Kd.V_mono HO1.out (fun _ hk => hk.1)⟩, ⟨by (with_reducible repeat (first | apply Kd.V_alloc | apply Kd.V_drewN | apply Kd.V_drew)); exact Kd.V_mono HO2.out (fun _ hk => hk.1)⟩, ⟨by repeat (first | (with_reducible first | exact HB.out | apply below_alloc | apply pw_below_drewN | apply below_drew1) | exact HB.out)⟩⟩
        · rw [if_neg c17] at H
          have c17b0 : decide (200 < (l3.length : Int)) = false := decide_eq_false c17
          have c17b1 : decide (200 < l3.length) = false := decide_eq_false (by omega)
          clear c17
          by_cases c21 : (l4.length : Int) > 4
          · rw [if_pos c21] at H
            have c21b0 : decide (4 < (l4.length : Int)) = true := decide_eq_true c21
            have c21b1 : decide (4 < l4.length) = true := decide_eq_true (by omega)
            clear c21
            have H' := Aside0.mk H
            clear H
            go_wp2_with (first | ((with_reducible refine gate_dst (N := 19) rfl ?_); (try (refine gate_guard (by rfl) ?_; dsimp only)); refine Kd.N_lit (Kd.slice 3 (Kd.int .i64)) _ 26 ?hg (N' := 19) ?hd (xs := ([l1, l2] : List (List Int))) (inner := [.slice A1 l1.length c1, .slice A2 l2.length c2]) (ok := (fun k_ => ((P1_ k_ ∨ P2_ k_) ∨ w.heap.size ≤ k_))) (okp := (fun k_ => ((P1_ k_ ∨ P2_ k_) ∨ w.heap.size ≤ k_))) ?hr ?hp (fun _ hk => hk) ((show ∀ k_, w.heap.size ≤ k_ → (fun k_ => ((P1_ k_ ∨ P2_ k_) ∨ w.heap.size ≤ k_)) k_ from fun k_ hk => (.inr (Nat.le_trans (below_size (by repeat (first | (with_reducible first | exact HB.out | apply below_alloc | apply pw_below_drewN | apply below_drew1) | exact HB.out))) hk))) _ (Nat.le_refl _)) (Below.refl _ _) (Nat.le_refl _) (by simp) ?_; (case hd => rfl); (case hg => rfl); (case hr => first | (go_simp; done) | (go_simp; rfl)); (case hp => exact (Reps.one (show Kd.FK (Kd.slice 3 (Kd.int .i64)) _ _ l1 [.slice A1 l1.length c1] from (Kd.FK_slice_mk (Kd.V_reads' (Kd.V_mono (ok' := (fun k_ => ((P1_ k_ ∨ P2_ k_) ∨ w.heap.size ≤ k_))) (HO1.out) (fun k_ hk => hk))).2.1 (Kd.V_F (Kd.V_mono (ok' := (fun k_ => ((P1_ k_ ∨ P2_ k_) ∨ w.heap.size ≤ k_))) (HO1.out) (fun k_ hk => hk))))) (Reps.one (show Kd.FK (Kd.slice 3 (Kd.int .i64)) _ _ l2 [.slice A2 l2.length c2] from (Kd.FK_slice_mk (Kd.V_reads' (Kd.V_mono (ok' := (fun k_ => ((P1_ k_ ∨ P2_ k_) ∨ w.heap.size ≤ k_))) (HO2.out) (fun k_ hk => hk))).2.1 (Kd.V_F (Kd.V_mono (ok' := (fun k_ => ((P1_ k_ ∨ P2_ k_) ∨ w.heap.size ≤ k_))) (HO2.out) (fun k_ hk => hk))))) (Reps.none _ _)))); intro v102 w22 ho23 hb hg_ hnew_; clear hg_ hnew_; (first | rw [← Ny101.out] at ho23 | (simp only [Int.reduceToNat] at ho23; rw [← Ny101.out] at ho23)); have n0_ := Aside0.mk (Kd.V_elder' (by (with_reducible repeat (first | apply Kd.V_alloc | apply Kd.V_drewN | apply Kd.V_drew)); exact HO1.out) (by first | exact Kd.N_base ho23 | exact Kd.N_base (Kd.S_N ho23) | exact Kd.R_base ho23) hb); have n1_ := Aside0.mk (Kd.V_elder' (by (with_reducible repeat (first | apply Kd.V_alloc | apply Kd.V_drewN | apply Kd.V_drew)); exact HO2.out) (by first | exact Kd.N_base ho23 | exact Kd.N_base (Kd.S_N ho23) | exact Kd.R_base ho23) hb); have n2_ := Aside0.mk (Kd.N_lower ho23 (below_size (by repeat (first | (with_reducible first | exact HB.out | apply below_alloc | apply pw_below_drewN | apply below_drew1) | exact HB.out)))); have n3_ := Aside0.mk (below_step (by repeat (first | (with_reducible first | exact HB.out | apply below_alloc | apply pw_below_drewN | apply below_drew1) | exact HB.out)) hb); clear HO1; clear HO2; clear HB; have HO1 := n0_; have HO2 := n1_; have HO103 := n2_; have HB := n3_; clear n0_ n1_ n2_ n3_; clear hb ho23; obtain ⟨Ao24, co24, eo24⟩ := Kd.N_slice HO103.out; subst eo24) | ((with_reducible refine gate_callee (f := 21) rfl ?_); refine goesL_ (some 20) rfl rfl Try.func21 (by kernel_rfl) rfl #[.slice Ao24 y101.length co24] rfl (by (try simp only [List.map_toArray, List.map_cons, List.map_nil]); first | done | rfl | (simp only [List.length_drop, List.length_take]; rfl)) ?_; (with_reducible refine (stratumlaw05_heavy.calls k _ _ y101 false _ ?side1 ?side2 A8.out).mono ?_); (case side1 => repeat (first | exact (Kd.N_reads' HO103.out).2.2 | (with_reducible refine Kd.C_alloc ?_ _) | (with_reducible refine Kd.C_drewN ?_ _) | (with_reducible refine Kd.C_drew ?_))); (case side2 => exact (Kd.N_reads' HO103.out).2.1); rintro e w' ⟨rfl, ⟨nd, rfl⟩⟩; refine ⟨_, rfl, ?_⟩))
            go_meet
            case rel => exact ⟨_, (true), (by first | rfl | (simp; done) | (simp [*]; done)), H', ⟨by first | omega | exact Nat.le_refl _⟩, ⟨by (with_reducible repeat (first | apply Kd.V_alloc | apply Kd.V_drewN | apply Kd.V_drew)); exact Kd.V_mono HO1.out (fun _ hk => hk.1)⟩, ⟨by (with_reducible repeat (first | apply Kd.V_alloc | apply Kd.V_drewN | apply Kd.V_drew)); exact Kd.V_mono HO2.out (fun _ hk => hk.1)⟩, ⟨by repeat (first | (with_reducible first | exact HB.out | apply below_alloc | apply pw_below_drewN | apply below_drew1) | exact HB.out)⟩⟩
          · rw [if_neg c21] at H
            have c21b0 : decide (4 < (l4.length : Int)) = false := decide_eq_false c21
            have c21b1 : decide (4 < l4.length) = false := decide_eq_false (by omega)
            clear c21
            by_cases c25 : (l5.length : Int) > 4
            · rw [if_pos c25] at H
              have c25b0 : decide (4 < (l5.length : Int)) = true := decide_eq_true c25
              have c25b1 : decide (4 < l5.length) = true := decide_eq_true (by omega)
              clear c25
              have H' := Aside0.mk H
              clear H
              go_wp2_with (first | ((with_reducible refine gate_dst (N := 19) rfl ?_); (try (refine gate_guard (by rfl) ?_; dsimp only)); refine Kd.N_lit (Kd.slice 3 (Kd.int .i64)) _ 26 ?hg (N' := 19) ?hd (xs := ([l1, l2] : List (List Int))) (inner := [.slice A1 l1.length c1, .slice A2 l2.length c2]) (ok := (fun k_ => ((P1_ k_ ∨ P2_ k_) ∨ w.heap.size ≤ k_))) (okp := (fun k_ => ((P1_ k_ ∨ P2_ k_) ∨ w.heap.size ≤ k_))) ?hr ?hp (fun _ hk => hk) ((show ∀ k_, w.heap.size ≤ k_ → (fun k_ => ((P1_ k_ ∨ P2_ k_) ∨ w.heap.size ≤ k_)) k_ from fun k_ hk => (.inr (Nat.le_trans (below_size (by repeat (first | (with_reducible first | exact HB.out | apply below_alloc | apply pw_below_drewN | apply below_drew1) | exact HB.out))) hk))) _ (Nat.le_refl _)) (Below.refl _ _) (Nat.le_refl _) (by simp) ?_; (case hd => rfl); (case hg => rfl); (case hr => first | (go_simp; done) | (go_simp; rfl)); (case hp => exact (Reps.one (show Kd.FK (Kd.slice 3 (Kd.int .i64)) _ _ l1 [.slice A1 l1.length c1] from (Kd.FK_slice_mk (Kd.V_reads' (Kd.V_mono (ok' := (fun k_ => ((P1_ k_ ∨ P2_ k_) ∨ w.heap.size ≤ k_))) (HO1.out) (fun k_ hk => hk))).2.1 (Kd.V_F (Kd.V_mono (ok' := (fun k_ => ((P1_ k_ ∨ P2_ k_) ∨ w.heap.size ≤ k_))) (HO1.out) (fun k_ hk => hk))))) (Reps.one (show Kd.FK (Kd.slice 3 (Kd.int .i64)) _ _ l2 [.slice A2 l2.length c2] from (Kd.FK_slice_mk (Kd.V_reads' (Kd.V_mono (ok' := (fun k_ => ((P1_ k_ ∨ P2_ k_) ∨ w.heap.size ≤ k_))) (HO2.out) (fun k_ hk => hk))).2.1 (Kd.V_F (Kd.V_mono (ok' := (fun k_ => ((P1_ k_ ∨ P2_ k_) ∨ w.heap.size ≤ k_))) (HO2.out) (fun k_ hk => hk))))) (Reps.none _ _)))); intro v102 w26 ho27 hb hg_ hnew_; clear hg_ hnew_; (first | rw [← Ny101.out] at ho27 | (simp only [Int.reduceToNat] at ho27; rw [← Ny101.out] at ho27)); have n0_ := Aside0.mk (Kd.V_elder' (by (with_reducible repeat (first | apply Kd.V_alloc | apply Kd.V_drewN | apply Kd.V_drew)); exact HO1.out) (by first | exact Kd.N_base ho27 | exact Kd.N_base (Kd.S_N ho27) | exact Kd.R_base ho27) hb); have n1_ := Aside0.mk (Kd.V_elder' (by (with_reducible repeat (first | apply Kd.V_alloc | apply Kd.V_drewN | apply Kd.V_drew)); exact HO2.out) (by first | exact Kd.N_base ho27 | exact Kd.N_base (Kd.S_N ho27) | exact Kd.R_base ho27) hb); have n2_ := Aside0.mk (Kd.N_lower ho27 (below_size (by repeat (first | (with_reducible first | exact HB.out | apply below_alloc | apply pw_below_drewN | apply below_drew1) | exact HB.out)))); have n3_ := Aside0.mk (below_step (by repeat (first | (with_reducible first | exact HB.out | apply below_alloc | apply pw_below_drewN | apply below_drew1) | exact HB.out)) hb); clear HO1; clear HO2; clear HB; have HO1 := n0_; have HO2 := n1_; have HO103 := n2_; have HB := n3_; clear n0_ n1_ n2_ n3_; clear hb ho27; obtain ⟨Ao28, co28, eo28⟩ := Kd.N_slice HO103.out; subst eo28) | ((with_reducible refine gate_callee (f := 21) rfl ?_); refine goesL_ (some 20) rfl rfl Try.func21 (by kernel_rfl) rfl #[.slice Ao28 y101.length co28] rfl (by (try simp only [List.map_toArray, List.map_cons, List.map_nil]); first | done | rfl | (simp only [List.length_drop, List.length_take]; rfl)) ?_; (with_reducible refine (stratumlaw05_heavy.calls k _ _ y101 false _ ?side1 ?side2 A8.out).mono ?_); (case side1 => repeat (first | exact (Kd.N_reads' HO103.out).2.2 | (with_reducible refine Kd.C_alloc ?_ _) | (with_reducible refine Kd.C_drewN ?_ _) | (with_reducible refine Kd.C_drew ?_))); (case side2 => exact (Kd.N_reads' HO103.out).2.1); rintro e w' ⟨rfl, ⟨nd, rfl⟩⟩; refine ⟨_, rfl, ?_⟩))
              go_meet
              case rel => exact ⟨_, (true), (by first | rfl | (simp; done) | (simp [*]; done)), H', ⟨by first | omega | exact Nat.le_refl _⟩, ⟨by (with_reducible repeat (first | apply Kd.V_alloc | apply Kd.V_drewN | apply Kd.V_drew)); exact Kd.V_mono HO1.out (fun _ hk => hk.1)⟩, ⟨by (with_reducible repeat (first | apply Kd.V_alloc | apply Kd.V_drewN | apply Kd.V_drew)); exact Kd.V_mono HO2.out (fun _ hk => hk.1)⟩, ⟨by repeat (first | (with_reducible first | exact HB.out | apply below_alloc | apply pw_below_drewN | apply below_drew1) | exact HB.out)⟩⟩
            · rw [if_neg c25] at H
              have c25b0 : decide (4 < (l5.length : Int)) = false := decide_eq_false c25
              have c25b1 : decide (4 < l5.length) = false := decide_eq_false (by omega)
              clear c25
              replace H := Option.bind_eq_some_iff.mp H
              obtain ⟨t105, A290, H⟩ := H
              replace H : (stratumlaw05_DiceCuts.j0 k l0 l1 l2 l3 l4 l5 (!t105)) = some r := H
              have A29 := Aside0.mk A290
              clear A290
              have H' := Aside0.mk H
              clear H
              go_wp2_with (first | ((with_reducible refine gate_dst (N := 19) rfl ?_); (try (refine gate_guard (by rfl) ?_; dsimp only)); refine Kd.N_lit (Kd.slice 3 (Kd.int .i64)) _ 26 ?hg (N' := 19) ?hd (xs := ([l1, l2] : List (List Int))) (inner := [.slice A1 l1.length c1, .slice A2 l2.length c2]) (ok := (fun k_ => ((P1_ k_ ∨ P2_ k_) ∨ w.heap.size ≤ k_))) (okp := (fun k_ => ((P1_ k_ ∨ P2_ k_) ∨ w.heap.size ≤ k_))) ?hr ?hp (fun _ hk => hk) ((show ∀ k_, w.heap.size ≤ k_ → (fun k_ => ((P1_ k_ ∨ P2_ k_) ∨ w.heap.size ≤ k_)) k_ from fun k_ hk => (.inr (Nat.le_trans (below_size (by repeat (first | (with_reducible first | exact HB.out | apply below_alloc | apply pw_below_drewN | apply below_drew1) | exact HB.out))) hk))) _ (Nat.le_refl _)) (Below.refl _ _) (Nat.le_refl _) (by simp) ?_; (case hd => rfl); (case hg => rfl); (case hr => first | (go_simp; done) | (go_simp; rfl)); (case hp => exact (Reps.one (show Kd.FK (Kd.slice 3 (Kd.int .i64)) _ _ l1 [.slice A1 l1.length c1] from (Kd.FK_slice_mk (Kd.V_reads' (Kd.V_mono (ok' := (fun k_ => ((P1_ k_ ∨ P2_ k_) ∨ w.heap.size ≤ k_))) (HO1.out) (fun k_ hk => hk))).2.1 (Kd.V_F (Kd.V_mono (ok' := (fun k_ => ((P1_ k_ ∨ P2_ k_) ∨ w.heap.size ≤ k_))) (HO1.out) (fun k_ hk => hk))))) (Reps.one (show Kd.FK (Kd.slice 3 (Kd.int .i64)) _ _ l2 [.slice A2 l2.length c2] from (Kd.FK_slice_mk (Kd.V_reads' (Kd.V_mono (ok' := (fun k_ => ((P1_ k_ ∨ P2_ k_) ∨ w.heap.size ≤ k_))) (HO2.out) (fun k_ hk => hk))).2.1 (Kd.V_F (Kd.V_mono (ok' := (fun k_ => ((P1_ k_ ∨ P2_ k_) ∨ w.heap.size ≤ k_))) (HO2.out) (fun k_ hk => hk))))) (Reps.none _ _)))); intro v102 w30 ho31 hb hg_ hnew_; clear hg_ hnew_; (first | rw [← Ny101.out] at ho31 | (simp only [Int.reduceToNat] at ho31; rw [← Ny101.out] at ho31)); have n0_ := Aside0.mk (Kd.V_elder' (by (with_reducible repeat (first | apply Kd.V_alloc | apply Kd.V_drewN | apply Kd.V_drew)); exact HO1.out) (by first | exact Kd.N_base ho31 | exact Kd.N_base (Kd.S_N ho31) | exact Kd.R_base ho31) hb); have n1_ := Aside0.mk (Kd.V_elder' (by (with_reducible repeat (first | apply Kd.V_alloc | apply Kd.V_drewN | apply Kd.V_drew)); exact HO2.out) (by first | exact Kd.N_base ho31 | exact Kd.N_base (Kd.S_N ho31) | exact Kd.R_base ho31) hb); have n2_ := Aside0.mk (Kd.N_lower ho31 (below_size (by repeat (first | (with_reducible first | exact HB.out | apply below_alloc | apply pw_below_drewN | apply below_drew1) | exact HB.out)))); have n3_ := Aside0.mk (below_step (by repeat (first | (with_reducible first | exact HB.out | apply below_alloc | apply pw_below_drewN | apply below_drew1) | exact HB.out)) hb); clear HO1; clear HO2; clear HB; have HO1 := n0_; have HO2 := n1_; have HO103 := n2_; have HB := n3_; clear n0_ n1_ n2_ n3_; clear hb ho31; obtain ⟨Ao32, co32, eo32⟩ := Kd.N_slice HO103.out; subst eo32) | ((with_reducible refine gate_callee (f := 21) rfl ?_); refine goesL_ (some 20) rfl rfl Try.func21 (by kernel_rfl) rfl #[.slice Ao32 y101.length co32] rfl (by (try simp only [List.map_toArray, List.map_cons, List.map_nil]); first | done | rfl | (simp only [List.length_drop, List.length_take]; rfl)) ?_; (with_reducible refine (stratumlaw05_heavy.calls k _ _ y101 false _ ?side1 ?side2 A8.out).mono ?_); (case side1 => repeat (first | exact (Kd.N_reads' HO103.out).2.2 | (with_reducible refine Kd.C_alloc ?_ _) | (with_reducible refine Kd.C_drewN ?_ _) | (with_reducible refine Kd.C_drew ?_))); (case side2 => exact (Kd.N_reads' HO103.out).2.1); rintro e w' ⟨rfl, ⟨nd, rfl⟩⟩; refine ⟨_, rfl, ?_⟩) | (go_at_call 18; (with_reducible refine (stratumlaw05_known.calls  t105 _ A29.out).mono ?_); rintro e w33 ⟨rfl, hb⟩; have n0_ := Aside0.mk (Kd.V_below (by (with_reducible repeat (first | apply Kd.V_alloc | apply Kd.V_drewN | apply Kd.V_drew)); exact HO1.out) hb); have n1_ := Aside0.mk (Kd.V_below (by (with_reducible repeat (first | apply Kd.V_alloc | apply Kd.V_drewN | apply Kd.V_drew)); exact HO2.out) hb); have n2_ := Aside0.mk (Kd.N_below (by (with_reducible repeat (first | apply Kd.N_alloc | apply Kd.N_drewN | apply Kd.N_drew)); exact HO103.out) hb); have n3_ := Aside0.mk (below_step (by repeat (first | (with_reducible first | exact HB.out | apply below_alloc | apply pw_below_drewN | apply below_drew1) | exact HB.out)) hb); clear HO1; clear HO2; clear HO103; clear HB; have HO1 := n0_; have HO2 := n1_; have HO103 := n2_; have HB := n3_; clear n0_ n1_ n2_ n3_; (try clear hb); (try clear hb2); (try clear hk); (try clear hi)))
              go_meet
              case rel => exact ⟨_, (!t105), (by first | rfl | (simp; done) | (simp [*]; done)), H', ⟨by first | omega | exact Nat.le_refl _⟩, ⟨by (with_reducible repeat (first | apply Kd.V_alloc | apply Kd.V_drewN | apply Kd.V_drew)); exact Kd.V_mono HO1.out (fun _ hk => hk.1)⟩, ⟨by (with_reducible repeat (first | apply Kd.V_alloc | apply Kd.V_drewN | apply Kd.V_drew)); exact Kd.V_mono HO2.out (fun _ hk => hk.1)⟩, ⟨by repeat (first | (with_reducible first | exact HB.out | apply below_alloc | apply pw_below_drewN | apply below_drew1) | exact HB.out)⟩⟩
  case rest =>
    clear HC7
    try clear c1
    try clear c2
    try clear p2
    try clear c3
    try clear c4
    try clear c5
    try clear c7
    try clear c9
    try clear c13
    try clear c13b0
    try clear c13b1
    try clear c17
    try clear c17b0
    try clear c17b1
    try clear c21
    try clear c21b0
    try clear c21b1
    try clear c25
    try clear c25b0
    try clear c25b1
    obtain ⟨kq, x44_6, rfl, HA, HJ6, HO_1, HO_2, HB⟩ := hcut
    cases kq with
    | zero => exact absurd HA.out (by simp [stratumlaw05_DiceCuts.j0])
    | succ kj6 =>
      have H := HA.out
      clear HA
      simp only [stratumlaw05_DiceCuts.j0] at H
      by_cases c34 : x44_6 = true
      · subst c34
        have H1 : ((stratumlaw05_known.f).bind fun t106 => (some t106)) = some r := by rw [if_pos rfl] at H; exact H
        clear H
        have H := H1
        clear H1
        replace H := Option.bind_eq_some_iff.mp H
        obtain ⟨t106, A350, H⟩ := H
        replace H : (some t106) = some r := H
        have A35 := Aside0.mk A350
        clear A350
        obtain rfl := Option.some.inj H
        go_wp2_with (first | ((with_reducible refine gate_callee (f := 18) rfl ?_); refine goesL_ (some 45) rfl rfl Try.func18 (by kernel_rfl) rfl #[] rfl (by (try simp only [List.map_toArray, List.map_cons, List.map_nil]); first | done | rfl | (simp only [List.length_drop, List.length_take]; rfl)) ?_; (with_reducible refine (stratumlaw05_known.calls  t106 _ A35.out).mono ?_); rintro e w36 ⟨rfl, hb⟩; refine ⟨_, rfl, ?_⟩; have n0_ := Aside0.mk (Kd.V_below (by (with_reducible repeat (first | apply Kd.V_alloc | apply Kd.V_drewN | apply Kd.V_drew)); exact HO_1.out) hb); have n1_ := Aside0.mk (Kd.V_below (by (with_reducible repeat (first | apply Kd.V_alloc | apply Kd.V_drewN | apply Kd.V_drew)); exact HO_2.out) hb); have n2_ := Aside0.mk (below_step (by repeat (first | (with_reducible first | exact HB.out | apply below_alloc | apply pw_below_drewN | apply below_drew1) | exact HB.out)) hb); clear HO_1; clear HO_2; clear HB; have HO_1 := n0_; have HO_2 := n1_; have HB := n2_; clear n0_ n1_ n2_; (try clear hb); (try clear hb2); (try clear hk); (try clear hi)))
        go_ret
        exact ⟨by first | rfl | (simp [errW_none, errW_some] <;> rfl) | (simp [*, errW_none, errW_some] <;> rfl), by repeat (first | (with_reducible first | exact HB.out | apply below_alloc | apply pw_below_drewN | apply below_drew1) | exact HB.out)⟩
      · replace c34 := Bool.eq_false_iff.mpr c34
        subst c34
        have H1 : (stratumlaw05_DiceCuts.l0 kj6 l0 l1 l2 l3 l4 l5 0) = some r := by rw [if_neg (show ¬ (false = true) by decide)] at H; exact H
        clear H
        have H := H1
        clear H1
        have H' := Aside0.mk H
        clear H
        go_wp2
        go_loopg [13] kj6 (fun kq v13 w' => ∃ (x13_2 : Int), v13 = .int .i64 x13_2 ∧ Aside0 (stratumlaw05_DiceCuts.l0 kq l0 l1 l2 l3 l4 l5 x13_2 = some r) ∧ Aside0 (kq ≤ kj6) ∧ Aside0 (Kd.V (Kd.int .i64) 3 w' w.heap.size (fun k_ => ((P1_ k_ ∨ P2_ k_) ∨ w.heap.size ≤ k_)) (.slice A1 l1.length c1) l1) ∧ Aside0 (Kd.V (Kd.int .i64) 3 w' w.heap.size (fun k_ => ((P1_ k_ ∨ P2_ k_) ∨ w.heap.size ≤ k_)) (.slice A2 l2.length c2) l2) ∧ Aside0 (Below w.heap.size w w'))
        case atStart => exact ⟨(0), (by first | rfl | (simp; done) | (simp [*]; done)), H', ⟨Nat.le_refl _⟩, ⟨by (with_reducible repeat (first | apply Kd.V_alloc | apply Kd.V_drewN | apply Kd.V_drew)); exact HO_1.out⟩, ⟨by (with_reducible repeat (first | apply Kd.V_alloc | apply Kd.V_drewN | apply Kd.V_drew)); exact HO_2.out⟩, ⟨by repeat (first | (with_reducible first | exact HB.out | apply below_alloc | apply pw_below_drewN | apply below_drew1) | exact HB.out)⟩⟩
        case round =>
          clear H'
          try clear c1
          try clear c2
          try clear p2
          try clear c3
          try clear c4
          try clear c5
          try clear c7
          try clear c9
          try clear c13
          try clear c13b0
          try clear c13b1
          try clear c17
          try clear c17b0
          try clear c17b1
          try clear c18
          try clear c21
          try clear c21b0
          try clear c21b1
          try clear c25
          try clear c25b0
          try clear c25b1
          try clear c34
          try clear p2
          obtain ⟨x13_2, rfl, HA, HK2, HO_1, HO_2, HB⟩ := hrel
          cases gk with
          | zero => exact absurd HA.out (by simp [stratumlaw05_DiceCuts.l0])
          | succ k2 =>
            have H := HA.out
            clear HA
            simp only [stratumlaw05_DiceCuts.l0] at H
            by_cases c37 : x13_2 < (l0.length : Int)
            · rw [if_pos c37] at H
              have c37b0 : decide (x13_2 < (l0.length : Int)) = true := decide_eq_true c37
              clear c37
              by_cases c38 : 0 ≤ x13_2
              · rw [if_pos c38] at H
                have c38b0 : decide (0 ≤ x13_2) = true := decide_eq_true c38
                clear c38
                by_cases c39 : (((rd_T50 l0 x13_2).f0).length : Int) > 50
                · rw [if_pos c39] at H
                  have c39b0 : decide (50 < (((rd_T50 l0 x13_2).f0).length : Int)) = true := decide_eq_true c39
                  have c39b1 : decide (50 < ((rd_T50 l0 x13_2).f0).length) = true := decide_eq_true (by omega)
                  clear c39
                  obtain rfl := Option.some.inj H
                  have p107 : 0 ≤ (x13_2 : Int) := of_decide_eq_true (by first | (with_reducible assumption) | assumption)
                  have q107 : x13_2 < (l0.length : Int) := of_decide_eq_true (by first | (with_reducible assumption) | assumption)
                  obtain ⟨ad107, A107_0, c107_0, e107, hx107_0, hx107_1, hx107_2, hx107_3, hx107_4, hl107_0, hi107_0⟩ := at_T50 HR0.out x13_2 p107 q107
                  cases e107
                  replace hx107_0 := (HB.out.cell (World.block_lt_of_cell? w _ hx107_0)).trans hx107_0
                  replace hx107_1 := (HB.out.cell (World.block_lt_of_cell? w _ hx107_1)).trans hx107_1
                  replace hx107_2 := (HB.out.cell (World.block_lt_of_cell? w _ hx107_2)).trans hx107_2
                  replace hx107_3 := (HB.out.cell (World.block_lt_of_cell? w _ hx107_3)).trans hx107_3
                  replace hx107_4 := (HB.out.cell (World.block_lt_of_cell? w _ hx107_4)).trans hx107_4
                  have HR107_0 := Aside0.mk hi107_0
                  have HC107_0 := Aside0.mk hl107_0
                  clear hi107_0 hl107_0
                  replace p107 := eq_true p107
                  replace q107 := eq_true q107
                  go_wp2
                  go_ret
                  exact ⟨by first | rfl | (simp [errW_none, errW_some] <;> rfl) | (simp [*, errW_none, errW_some] <;> rfl), by repeat (first | (with_reducible first | exact HB.out | apply below_alloc | apply pw_below_drewN | apply below_drew1) | exact HB.out)⟩
                · rw [if_neg c39] at H
                  have c39b0 : decide (50 < (((rd_T50 l0 x13_2).f0).length : Int)) = false := decide_eq_false c39
                  have c39b1 : decide (50 < ((rd_T50 l0 x13_2).f0).length) = false := decide_eq_false (by omega)
                  clear c39
                  have H' := Aside0.mk H
                  clear H
                  have p107 : 0 ≤ (x13_2 : Int) := of_decide_eq_true (by first | (with_reducible assumption) | assumption)
                  have q107 : x13_2 < (l0.length : Int) := of_decide_eq_true (by first | (with_reducible assumption) | assumption)
                  obtain ⟨ad107, A107_0, c107_0, e107, hx107_0, hx107_1, hx107_2, hx107_3, hx107_4, hl107_0, hi107_0⟩ := at_T50 HR0.out x13_2 p107 q107
                  cases e107
                  replace hx107_0 := (HB.out.cell (World.block_lt_of_cell? w _ hx107_0)).trans hx107_0
                  replace hx107_1 := (HB.out.cell (World.block_lt_of_cell? w _ hx107_1)).trans hx107_1
                  replace hx107_2 := (HB.out.cell (World.block_lt_of_cell? w _ hx107_2)).trans hx107_2
                  replace hx107_3 := (HB.out.cell (World.block_lt_of_cell? w _ hx107_3)).trans hx107_3
                  replace hx107_4 := (HB.out.cell (World.block_lt_of_cell? w _ hx107_4)).trans hx107_4
                  have HR107_0 := Aside0.mk hi107_0
                  have HC107_0 := Aside0.mk hl107_0
                  clear hi107_0 hl107_0
                  replace p107 := eq_true p107
                  replace q107 := eq_true q107
                  go_wp2
                  go_roundg k2
                  case measure => have := HJ6.out; have := HK2.out; omega
                  case rel => exact ⟨(wrap64 (x13_2 + 1)), (by first | rfl | (simp; done) | (simp [*]; done)), H', ⟨by have := HJ6.out; have := HK2.out; omega⟩, ⟨by (with_reducible repeat (first | apply Kd.V_alloc | apply Kd.V_drewN | apply Kd.V_drew)); exact HO_1.out⟩, ⟨by (with_reducible repeat (first | apply Kd.V_alloc | apply Kd.V_drewN | apply Kd.V_drew)); exact HO_2.out⟩, ⟨by repeat (first | (with_reducible first | exact HB.out | apply below_alloc | apply pw_below_drewN | apply below_drew1) | exact HB.out)⟩⟩
              · rw [if_neg c38] at H
                exact absurd H (by simp)
            · rw [if_neg c37] at H
              have c37b0 : decide (x13_2 < (l0.length : Int)) = false := decide_eq_false c37
              clear c37
              have H' := Aside0.mk H
              clear H
              go_wp2
              go_loopg [14, 15] k2 (fun kq v14 v15 w' => ∃ (x14_3 : List (S50)) (x15_3 : Int), v15 = .int .i64 x15_3 ∧ Aside0 (stratumlaw05_DiceCuts.l1 kq l0 l1 l2 l3 l4 l5 x14_3 x15_3 = some r) ∧ Aside0 (kq ≤ k2) ∧ Aside0 (Kd.V (Kd.int .i64) 3 w' w.heap.size (fun k_ => ((P1_ k_ ∨ P2_ k_) ∨ w.heap.size ≤ k_) ∧ some k_ ≠ (v14 : Value).ownBlock) (.slice A1 l1.length c1) l1) ∧ Aside0 (Kd.V (Kd.int .i64) 3 w' w.heap.size (fun k_ => ((P1_ k_ ∨ P2_ k_) ∨ w.heap.size ≤ k_) ∧ some k_ ≠ (v14 : Value).ownBlock) (.slice A2 l2.length c2) l2) ∧ Aside0 (Kd.N k50 50 w' w.heap.size (fun k_ => ((P1_ k_ ∨ P2_ k_) ∨ w.heap.size ≤ k_)) v14 x14_3) ∧ Aside0 (Below w.heap.size w w'))
              case atStart => exact ⟨(([] : List (S50))), (0), (by first | rfl | (simp; done) | (simp [*]; done)), H', ⟨Nat.le_refl _⟩, ⟨by (with_reducible repeat (first | apply Kd.V_alloc | apply Kd.V_drewN | apply Kd.V_drew)); exact Kd.V_mono HO_1.out (fun _ hk => ⟨hk, (by simp [Value.ownBlock])⟩)⟩, ⟨by (with_reducible repeat (first | apply Kd.V_alloc | apply Kd.V_drewN | apply Kd.V_drew)); exact Kd.V_mono HO_2.out (fun _ hk => ⟨hk, (by simp [Value.ownBlock])⟩)⟩, ⟨by first | exact Kd.S_nil _ _ _ _ _ | exact Kd.N_nil _ _ _ _ _ | exact Kd.V_nil _ _ _ _ _ | exact Kd.Q_nil _ _ _ _ _ | exact Kd.R_nil _ _ _ _ _⟩, ⟨by repeat (first | (with_reducible first | exact HB.out | apply below_alloc | apply pw_below_drewN | apply below_drew1) | exact HB.out)⟩⟩
              case round =>
                clear H'
                try clear c1
                try clear p1
                try clear q1
                try clear hx1
                try clear c2
                try clear p2
                try clear c3
                try clear c4
                try clear c5
                try clear p6
                try clear c7
                try clear c9
                try clear c10
                try clear p10
                try clear q10
                try clear hx10
                try clear c13
                try clear c13b0
                try clear c13b1
                try clear c17
                try clear c17b0
                try clear c17b1
                try clear c18
                try clear c21
                try clear c21b0
                try clear c21b1
                try clear c25
                try clear c25b0
                try clear c25b1
                try clear c34
                try clear c37
                try clear c37b0
                try clear c38
                try clear c38b0
                try clear c39
                try clear c39b0
                try clear c39b1
                try clear hx107_0
                try clear hx107_1
                try clear hx107_2
                try clear hx107_3
                try clear hx107_4
                try clear p107
                try clear p2
                try clear q107
                obtain ⟨x14_3, x15_3, rfl, HA, HK3, HO_1, HO_2, HO_14, HB⟩ := hrel
                cases gk with
                | zero => exact absurd HA.out (by simp [stratumlaw05_DiceCuts.l1])
                | succ k3 =>
                  have H := HA.out
                  clear HA
                  simp only [stratumlaw05_DiceCuts.l1] at H
                  by_cases c40 : x15_3 < (l3.length : Int)
                  · rw [if_pos c40] at H
                    have c40b0 : decide (x15_3 < (l3.length : Int)) = true := decide_eq_true c40
                    clear c40
                    by_cases c41 : 0 ≤ x15_3
                    · rw [if_pos c41] at H
                      have c41b0 : decide (0 ≤ x15_3) = true := decide_eq_true c41
                      clear c41
                      by_cases c42 : ((rd_Lsl5_u8 l3 x15_3).length : Int) > 50
                      · rw [if_pos c42] at H
                        have c42b0 : decide (50 < ((rd_Lsl5_u8 l3 x15_3).length : Int)) = true := decide_eq_true c42
                        have c42b1 : decide (50 < (rd_Lsl5_u8 l3 x15_3).length) = true := decide_eq_true (by omega)
                        clear c42
                        obtain rfl := Option.some.inj H
                        have p108 : 0 ≤ (x15_3 : Int) := of_decide_eq_true (by first | (with_reducible assumption) | assumption)
                        have q108 : x15_3 < (l3.length : Int) := of_decide_eq_true (by first | (with_reducible assumption) | assumption)
                        obtain ⟨ad108, A108_0, c108_0, e108, hx108_0, hl108_0, hi108_0⟩ := at_Lsl5_u8 HR3.out x15_3 p108 q108
                        cases e108
                        replace hx108_0 := (HB.out.cell (World.block_lt_of_cell? w _ hx108_0)).trans hx108_0
                        have HR108_0 := Aside0.mk hi108_0
                        have HC108_0 := Aside0.mk hl108_0
                        clear hi108_0 hl108_0
                        replace p108 := eq_true p108
                        replace q108 := eq_true q108
                        go_wp2
                        go_ret
                        exact ⟨by first | rfl | (simp [errW_none, errW_some] <;> rfl) | (simp [*, errW_none, errW_some] <;> rfl), by repeat (first | (with_reducible first | exact HB.out | apply below_alloc | apply pw_below_drewN | apply below_drew1) | exact HB.out)⟩
                      · rw [if_neg c42] at H
                        have c42b0 : decide (50 < ((rd_Lsl5_u8 l3 x15_3).length : Int)) = false := decide_eq_false c42
                        have c42b1 : decide (50 < (rd_Lsl5_u8 l3 x15_3).length) = false := decide_eq_false (by omega)
                        clear c42
                        replace H := Option.bind_eq_some_iff.mp H
                        obtain ⟨t110, A430, H⟩ := H
                        replace H : (if x14_3.length < 2513169434916 then (stratumlaw05_DiceCuts.l1 k3 l0 l1 l2 l3 l4 l5 (x14_3 ++ [(⟨t110, (⟨x15_3, 0, 0, 0⟩ : S48)⟩ : S50)]) (wrap64 (x15_3 + 1))) else (none)) = some r := H
                        have A43 := Aside0.mk A430
                        clear A430
                        by_cases c44 : x14_3.length < 2513169434916
                        · rw [if_pos c44] at H
                          have LMc44 := Aside0.mk c44
                          clear c44
                          obtain ⟨y113, hy113⟩ : ∃ y_ : List (S50), y_ = (x14_3 ++ [(⟨t110, (⟨x15_3, 0, 0, 0⟩ : S48)⟩ : S50)]) := ⟨_, rfl⟩
                          replace H : (stratumlaw05_DiceCuts.l1 k3 l0 l1 l2 l3 l4 l5 y113 (wrap64 (x15_3 + 1))) = some r := by first | (rw [hy113]; with_reducible exact H) | (have H2_ := (Option.bind_some _ _).symm.trans H; rw [hy113]; with_reducible exact H2_) | (have H2_ := (Option.bind_some _ _).symm.trans H; with_reducible exact H2_) | with_reducible exact H | (rw [hy113]; exact H) | exact H
                          have Ny113 := Aside0.mk hy113
                          clear hy113
                          have H' := Aside0.mk H
                          clear H
                          have p108 : 0 ≤ (x15_3 : Int) := of_decide_eq_true (by first | (with_reducible assumption) | assumption)
                          have q108 : x15_3 < (l3.length : Int) := of_decide_eq_true (by first | (with_reducible assumption) | assumption)
                          obtain ⟨ad108, A108_0, c108_0, e108, hx108_0, hl108_0, hi108_0⟩ := at_Lsl5_u8 HR3.out x15_3 p108 q108
                          cases e108
                          replace hx108_0 := (HB.out.cell (World.block_lt_of_cell? w _ hx108_0)).trans hx108_0
                          have HR108_0 := Aside0.mk hi108_0
                          have HC108_0 := Aside0.mk hl108_0
                          clear hi108_0 hl108_0
                          replace p108 := eq_true p108
                          replace q108 := eq_true q108
                          have p109 : 0 ≤ (x15_3 : Int) := of_decide_eq_true (by first | (with_reducible assumption) | assumption)
                          have q109 : x15_3 < (l3.length : Int) := of_decide_eq_true (by first | (with_reducible assumption) | assumption)
                          obtain ⟨ad109, A109_0, c109_0, e109, hx109_0, hl109_0, hi109_0⟩ := at_Lsl5_u8 HR3.out x15_3 p109 q109
                          obtain rfl : ad108 = ad109 := (by injection e109)
                          replace hx109_0 := (HB.out.cell (World.block_lt_of_cell? w _ hx109_0)).trans hx109_0
                          have HR109_0 := Aside0.mk hi109_0
                          have HC109_0 := Aside0.mk hl109_0
                          clear hi109_0 hl109_0
                          replace p109 := eq_true p109
                          replace q109 := eq_true q109
                          have ea_ := Option.some.inj (hx108_0.symm.trans hx109_0)
                          injection ea_ with ea_ en_ ec_
                          subst ea_
                          subst ec_
                          clear en_
                          go_wp2_with (first | ((with_reducible refine gate_callee (f := 26) rfl ?_); refine goesL_ (some 76) rfl rfl Try.func26 (by kernel_rfl) rfl #[.slice A108_0 (rd_Lsl5_u8 l3 x15_3).length c108_0] rfl (by (try simp only [List.map_toArray, List.map_cons, List.map_nil]); first | done | rfl | (simp only [List.length_drop, List.length_take]; rfl)) ?_; (with_reducible refine (stratumlaw05_ints.calls k3 _ _ (rd_Lsl5_u8 l3 x15_3) t110 _ ?side1 ?side2 A43.out).mono ?_); (case side1 => repeat (first | exact (Kd.C_below HR109_0.out HB.out) | (with_reducible refine Kd.C_alloc ?_ _) | (with_reducible refine Kd.C_drewN ?_ _) | (with_reducible refine Kd.C_drew ?_))); (case side2 => exact HC109_0.out); rintro e w45 ⟨v111, rfl, ho0, hb⟩; refine ⟨_, rfl, ?_⟩; have n0_ := Aside0.mk (Kd.V_elder' (by (with_reducible repeat (first | apply Kd.V_alloc | apply Kd.V_drewN | apply Kd.V_drew)); exact HO_1.out) (Kd.R_base ho0) hb); have n1_ := Aside0.mk (Kd.V_elder' (by (with_reducible repeat (first | apply Kd.V_alloc | apply Kd.V_drewN | apply Kd.V_drew)); exact HO_2.out) (Kd.R_base ho0) hb); have n2_ := Aside0.mk (Kd.N_elder' (by (with_reducible repeat (first | apply Kd.N_alloc | apply Kd.N_drewN | apply Kd.N_drew)); exact HO_14.out) (Kd.R_base ho0) hb); have n3_ := Aside0.mk (Kd.R_lower (Kd.R_newM (M := fun k_ => (w.heap.size ≤ k_)) ho0 (below_size (by repeat (first | (with_reducible first | exact HB.out | apply below_alloc | apply pw_below_drewN | apply below_drew1) | exact HB.out))) (fun k_ h_ => h_)) (below_size (by repeat (first | (with_reducible first | exact HB.out | apply below_alloc | apply pw_below_drewN | apply below_drew1) | exact HB.out)))); have n4_ := Aside0.mk (below_step (by repeat (first | (with_reducible first | exact HB.out | apply below_alloc | apply pw_below_drewN | apply below_drew1) | exact HB.out)) hb); clear HO_1; clear HO_2; clear HO_14; clear HB; have HO_1 := n0_; have HO_2 := n1_; have HO_14 := n2_; have HO112 := n3_; have HB := n4_; clear n0_ n1_ n2_ n3_ n4_; (try clear hb); (try clear hb2); (try clear hk); (try clear hi); (try clear ho0); obtain ⟨Ao46, co46, eo46⟩ := Kd.R_slice HO112.out; subst eo46) | ((with_reducible refine gate_builtin (b := .append) (xs := #[.tmp 71, .tmp 80]) rfl ?_); (try (refine gate_guard (by rfl) ?_; dsimp only)); at_builtin; refine Kd.N_append k50 (w0 := w) w.heap.size rfl (.tmp 71) (.tmp 80) 45 50 (.agg #[(.slice none 0 0), (.int .i64 0), (.int .i64 0), (.int .i64 0), (.int .i64 0)]) 56 rfl Try.underlying45 info50 rfl (by decide) (by omega) u14 x14_3 (⟨t110, (⟨x15_3, 0, 0, 0⟩ : S48)⟩ : S50) [.slice Ao46 t110.length co46, .int .i64 x15_3, .int .i64 0, .int .i64 0, .int .i64 0] (fun k_ => ((P1_ k_ ∨ P2_ k_) ∨ w.heap.size ≤ k_)) (fun k_ => ((fun k_ => ((P1_ k_ ∨ P2_ k_) ∨ w.heap.size ≤ k_))) k_ ∧ some k_ ≠ (u14 : Value).ownBlock) rfl rfl ?aP (fun _ hk => hk) ?aF ?aO ?aB ?aS ?aL ?_; (case aP => exact (k50_mkF _ _ (⟨t110, (⟨x15_3, 0, 0, 0⟩ : S48)⟩ : S50) (Kd.R_reads' (Kd.R_mono (ok' := (fun k_ => ((fun k_ => ((P1_ k_ ∨ P2_ k_) ∨ w.heap.size ≤ k_))) k_ ∧ some k_ ≠ (u14 : Value).ownBlock)) (Kd.R_apart' (HO112.out) (Kd.N_typed HO_14.out) (by decide)) (fun k_ hk => ⟨(.inr (hk.1.1)), hk.2⟩))).2.1 (Kd.R_F (Kd.R_mono (ok' := (fun k_ => ((fun k_ => ((P1_ k_ ∨ P2_ k_) ∨ w.heap.size ≤ k_))) k_ ∧ some k_ ≠ (u14 : Value).ownBlock)) (Kd.R_apart' (HO112.out) (Kd.N_typed HO_14.out) (by decide)) (fun k_ hk => ⟨(.inr (hk.1.1)), hk.2⟩))))); (case aB => exact (by repeat (first | (with_reducible first | exact HB.out | apply below_alloc | apply pw_below_drewN | apply below_drew1) | exact HB.out))); (case aF => exact (fun k_ hk => (.inr (Nat.le_trans (below_size (by repeat (first | (with_reducible first | exact HB.out | apply below_alloc | apply pw_below_drewN | apply below_drew1) | exact HB.out))) hk)))); (case aO => exact (by (with_reducible repeat (first | apply Kd.N_alloc | apply Kd.N_drewN | apply Kd.N_drew)); exact Kd.N_mono HO_14.out (fun _ hk => hk.1))); (case aS => exact (below_size (by repeat (first | (with_reducible first | exact HB.out | apply below_alloc | apply pw_below_drewN | apply below_drew1) | exact HB.out)))); (case aL => have := LMc44.out; omega); intro v114 w47 ho hb hg hat; rw [← Ny113.out] at ho; have n0_ := Aside0.mk (Kd.V_afterv (ok := (fun k_ => ((P1_ k_ ∨ P2_ k_) ∨ w.heap.size ≤ k_) ∧ some k_ ≠ (.slice Ao46 t110.length co46 : Value).ownBlock)) (by (with_reducible repeat (first | apply Kd.V_alloc | apply Kd.V_drewN | apply Kd.V_drew)); exact Kd.V_mono HO_1.out (fun _ hk => ⟨⟨hk.1.1, hk.2⟩, hk.1.2⟩)) hg hat); have n1_ := Aside0.mk (Kd.V_afterv (ok := (fun k_ => ((P1_ k_ ∨ P2_ k_) ∨ w.heap.size ≤ k_) ∧ some k_ ≠ (.slice Ao46 t110.length co46 : Value).ownBlock)) (by (with_reducible repeat (first | apply Kd.V_alloc | apply Kd.V_drewN | apply Kd.V_drew)); exact Kd.V_mono HO_2.out (fun _ hk => ⟨⟨hk.1.1, hk.2⟩, hk.1.2⟩)) hg hat); have n2_ := Aside0.mk (hb); have n3_ := Aside0.mk (ho); clear HO_1; clear HO_2; clear HB; clear HO_14; clear HO112; have HO_1 := n0_; have HO_2 := n1_; have HB := n2_; have HO115 := n3_; clear n0_ n1_ n2_ n3_; clear ho hb hg hat))
                          go_roundg k3
                          case measure => have := HJ6.out; have := HK2.out; have := HK3.out; omega
                          case rel => exact ⟨(y113), (wrap64 (x15_3 + 1)), (by first | rfl | (simp; done) | (simp [*]; done)), H', ⟨by have := HJ6.out; have := HK2.out; have := HK3.out; omega⟩, ⟨by (with_reducible repeat (first | apply Kd.V_alloc | apply Kd.V_drewN | apply Kd.V_drew)); exact Kd.V_mono HO_1.out (fun _ hk => ⟨hk.1.1, hk.2⟩)⟩, ⟨by (with_reducible repeat (first | apply Kd.V_alloc | apply Kd.V_drewN | apply Kd.V_drew)); exact Kd.V_mono HO_2.out (fun _ hk => ⟨hk.1.1, hk.2⟩)⟩, ⟨by (with_reducible repeat (first | apply Kd.N_alloc | apply Kd.N_drewN | apply Kd.N_drew)); exact HO115.out⟩, ⟨by repeat (first | (with_reducible first | exact HB.out | apply below_alloc | apply pw_below_drewN | apply below_drew1) | exact HB.out)⟩⟩
                        · rw [if_neg c44] at H
                          exact absurd H (by simp)
                    · rw [if_neg c41] at H
                      exact absurd H (by simp)
                  · rw [if_neg c40] at H
                    have c40b0 : decide (x15_3 < (l3.length : Int)) = false := decide_eq_false c40
                    clear c40
                    replace H := Option.bind_eq_some_iff.mp H
                    obtain ⟨t116, A480, H⟩ := H
                    replace H : ((stratumref05_Cut.f k3 l0 l1 l2).bind fun t119 => ((stratumref04_Same.f k3 t116 t119).bind fun t122 => (if t122 = true then ((stratumlaw05_ints.f k3 l4).bind fun t123 => ((stratumlaw05_ints.f k3 l5).bind fun t126 => ((dice_Cut.f k3 x14_3 t123 t126).bind fun t129 => ((stratumlaw05_ints.f k3 l4).bind fun t132 => ((stratumlaw05_ints.f k3 l5).bind fun t135 => ((stratumref05_Cut.f k3 x14_3 t132 t135).bind fun t138 => ((stratumref04_Same.f k3 t129 t138).bind fun t141 => (some t141)))))))) else (some false)))) = some r := H
                    have A48 := Aside0.mk A480
                    clear A480
                    replace H := Option.bind_eq_some_iff.mp H
                    obtain ⟨t119, A490, H⟩ := H
                    replace H : ((stratumref04_Same.f k3 t116 t119).bind fun t122 => (if t122 = true then ((stratumlaw05_ints.f k3 l4).bind fun t123 => ((stratumlaw05_ints.f k3 l5).bind fun t126 => ((dice_Cut.f k3 x14_3 t123 t126).bind fun t129 => ((stratumlaw05_ints.f k3 l4).bind fun t132 => ((stratumlaw05_ints.f k3 l5).bind fun t135 => ((stratumref05_Cut.f k3 x14_3 t132 t135).bind fun t138 => ((stratumref04_Same.f k3 t129 t138).bind fun t141 => (some t141)))))))) else (some false))) = some r := H
                    have A49 := Aside0.mk A490
                    clear A490
                    replace H := Option.bind_eq_some_iff.mp H
                    obtain ⟨t122, A500, H⟩ := H
                    replace H : (if t122 = true then ((stratumlaw05_ints.f k3 l4).bind fun t123 => ((stratumlaw05_ints.f k3 l5).bind fun t126 => ((dice_Cut.f k3 x14_3 t123 t126).bind fun t129 => ((stratumlaw05_ints.f k3 l4).bind fun t132 => ((stratumlaw05_ints.f k3 l5).bind fun t135 => ((stratumref05_Cut.f k3 x14_3 t132 t135).bind fun t138 => ((stratumref04_Same.f k3 t129 t138).bind fun t141 => (some t141)))))))) else (some false)) = some r := H
                    have A50 := Aside0.mk A500
                    clear A500
                    by_cases c51 : t122 = true
                    · subst c51
                      have H1 : ((stratumlaw05_ints.f k3 l4).bind fun t123 => ((stratumlaw05_ints.f k3 l5).bind fun t126 => ((dice_Cut.f k3 x14_3 t123 t126).bind fun t129 => ((stratumlaw05_ints.f k3 l4).bind fun t132 => ((stratumlaw05_ints.f k3 l5).bind fun t135 => ((stratumref05_Cut.f k3 x14_3 t132 t135).bind fun t138 => ((stratumref04_Same.f k3 t129 t138).bind fun t141 => (some t141)))))))) = some r := by rw [if_pos rfl] at H; exact H
                      clear H
                      have H := H1
                      clear H1
                      replace H := Option.bind_eq_some_iff.mp H
                      obtain ⟨t123, A520, H⟩ := H
                      replace H : ((stratumlaw05_ints.f k3 l5).bind fun t126 => ((dice_Cut.f k3 x14_3 t123 t126).bind fun t129 => ((stratumlaw05_ints.f k3 l4).bind fun t132 => ((stratumlaw05_ints.f k3 l5).bind fun t135 => ((stratumref05_Cut.f k3 x14_3 t132 t135).bind fun t138 => ((stratumref04_Same.f k3 t129 t138).bind fun t141 => (some t141))))))) = some r := H
                      have A52 := Aside0.mk A520
                      clear A520
                      replace H := Option.bind_eq_some_iff.mp H
                      obtain ⟨t126, A530, H⟩ := H
                      replace H : ((dice_Cut.f k3 x14_3 t123 t126).bind fun t129 => ((stratumlaw05_ints.f k3 l4).bind fun t132 => ((stratumlaw05_ints.f k3 l5).bind fun t135 => ((stratumref05_Cut.f k3 x14_3 t132 t135).bind fun t138 => ((stratumref04_Same.f k3 t129 t138).bind fun t141 => (some t141)))))) = some r := H
                      have A53 := Aside0.mk A530
                      clear A530
                      replace H := Option.bind_eq_some_iff.mp H
                      obtain ⟨t129, A540, H⟩ := H
                      replace H : ((stratumlaw05_ints.f k3 l4).bind fun t132 => ((stratumlaw05_ints.f k3 l5).bind fun t135 => ((stratumref05_Cut.f k3 x14_3 t132 t135).bind fun t138 => ((stratumref04_Same.f k3 t129 t138).bind fun t141 => (some t141))))) = some r := H
                      have A54 := Aside0.mk A540
                      clear A540
                      replace H := Option.bind_eq_some_iff.mp H
                      obtain ⟨t132, A550, H⟩ := H
                      replace H : ((stratumlaw05_ints.f k3 l5).bind fun t135 => ((stratumref05_Cut.f k3 x14_3 t132 t135).bind fun t138 => ((stratumref04_Same.f k3 t129 t138).bind fun t141 => (some t141)))) = some r := H
                      have A55 := Aside0.mk A550
                      clear A550
                      replace H := Option.bind_eq_some_iff.mp H
                      obtain ⟨t135, A560, H⟩ := H
                      replace H : ((stratumref05_Cut.f k3 x14_3 t132 t135).bind fun t138 => ((stratumref04_Same.f k3 t129 t138).bind fun t141 => (some t141))) = some r := H
                      have A56 := Aside0.mk A560
                      clear A560
                      replace H := Option.bind_eq_some_iff.mp H
                      obtain ⟨t138, A570, H⟩ := H
                      replace H : ((stratumref04_Same.f k3 t129 t138).bind fun t141 => (some t141)) = some r := H
                      have A57 := Aside0.mk A570
                      clear A570
                      replace H := Option.bind_eq_some_iff.mp H
                      obtain ⟨t141, A580, H⟩ := H
                      replace H : (some t141) = some r := H
                      have A58 := Aside0.mk A580
                      clear A580
                      obtain rfl := Option.some.inj H
                      have tok1_0 : True := trivial
                      have tok1_1 : True := trivial
                      have tok1_2 : True := trivial
                      have tok1_3 : True := trivial
                      go_wp2_with (first | ((with_reducible refine gate_callee (f := 28) rfl ?_); refine goesL_ (some 85) rfl rfl Try.func28 (by kernel_rfl) rfl #[.slice A0 l0.length c0, .slice A1 l1.length c1, .slice A2 l2.length c2] rfl (by (try simp only [List.map_toArray, List.map_cons, List.map_nil]); first | done | rfl | (simp only [List.length_drop, List.length_take]; rfl)) ?_; (with_reducible refine (dice_Cut.calls k3 _ _ l0 _ _ l1 _ _ l2 t116 _ ?side1 ?side2 ?side3 ?side4 ?side5 ?side6 A48.out).mono ?_); (case side1 => repeat (first | exact (Kd.C_below HR0.out HB.out) | (with_reducible refine Kd.C_alloc ?_ _) | (with_reducible refine Kd.C_drewN ?_ _) | (with_reducible refine Kd.C_drew ?_))); (case side2 => exact HC0.out); (case side3 => repeat (first | exact (Kd.V_reads' HO_1.out).2.2 | (with_reducible refine Kd.C_alloc ?_ _) | (with_reducible refine Kd.C_drewN ?_ _) | (with_reducible refine Kd.C_drew ?_))); (case side4 => exact (Kd.V_reads' HO_1.out).2.1); (case side5 => repeat (first | exact (Kd.V_reads' HO_2.out).2.2 | (with_reducible refine Kd.C_alloc ?_ _) | (with_reducible refine Kd.C_drewN ?_ _) | (with_reducible refine Kd.C_drew ?_))); (case side6 => exact (Kd.V_reads' HO_2.out).2.1); rintro e w59 ⟨v117, rfl, ho0, hb⟩; refine ⟨_, rfl, ?_⟩; have n0_ := Aside0.mk (Kd.V_elder' (by (with_reducible repeat (first | apply Kd.V_alloc | apply Kd.V_drewN | apply Kd.V_drew)); exact HO_1.out) (by first | exact Kd.N_base ho0 | exact Kd.N_base (Kd.S_N ho0) | exact Kd.R_base ho0) hb); have n1_ := Aside0.mk (Kd.V_elder' (by (with_reducible repeat (first | apply Kd.V_alloc | apply Kd.V_drewN | apply Kd.V_drew)); exact HO_2.out) (by first | exact Kd.N_base ho0 | exact Kd.N_base (Kd.S_N ho0) | exact Kd.R_base ho0) hb); have n2_ := Aside0.mk (Kd.N_elder' (by (with_reducible repeat (first | apply Kd.N_alloc | apply Kd.N_drewN | apply Kd.N_drew)); exact HO_14.out) (by first | exact Kd.N_base ho0 | exact Kd.N_base (Kd.S_N ho0) | exact Kd.R_base ho0) hb); have n3_ := Aside0.mk (Kd.N_lower (Kd.N_mono (ok' := fun k_ => ((P1_ k_ ∨ P2_ k_) ∨ w.heap.size ≤ k_) ∧ some k_ ≠ (u14 : Value).ownBlock) (Kd.S_N (Kd.S_bound ho0)) (fun k_ hk_ => ⟨(.inr (Nat.le_trans (below_size (by repeat (first | (with_reducible first | exact HB.out | apply below_alloc | apply pw_below_drewN | apply below_drew1) | exact HB.out))) hk_.2.1)), (Kd.fresh' (Kd.N_lt (by (with_reducible repeat (first | apply Kd.N_alloc | apply Kd.N_drewN | apply Kd.N_drew)); exact HO_14.out)) k_ hk_.2.1)⟩)) (below_size (by repeat (first | (with_reducible first | exact HB.out | apply below_alloc | apply pw_below_drewN | apply below_drew1) | exact HB.out)))); have n4_ := Aside0.mk (below_step (by repeat (first | (with_reducible first | exact HB.out | apply below_alloc | apply pw_below_drewN | apply below_drew1) | exact HB.out)) hb); clear HO_1; clear HO_2; clear HO_14; clear HB; have HO_1 := n0_; have HO_2 := n1_; have HO_14 := n2_; have HO118 := n3_; have HB := n4_; clear n0_ n1_ n2_ n3_ n4_; (try clear hb); (try clear hb2); (try clear hk); (try clear hi); (try clear ho0)) | ((with_reducible refine gate_callee (f := 29) rfl ?_); refine goesL_ (some 89) rfl rfl Try.func29 (by kernel_rfl) rfl #[.slice A0 l0.length c0, .slice A1 l1.length c1, .slice A2 l2.length c2] rfl (by (try simp only [List.map_toArray, List.map_cons, List.map_nil]); first | done | rfl | (simp only [List.length_drop, List.length_take]; rfl)) ?_; (with_reducible refine (stratumref05_Cut.calls k3 _ _ l0 _ _ l1 _ _ l2 t119 _ ?side1 ?side2 ?side3 ?side4 ?side5 ?side6 A49.out).mono ?_); (case side1 => repeat (first | exact (Kd.C_below HR0.out HB.out) | (with_reducible refine Kd.C_alloc ?_ _) | (with_reducible refine Kd.C_drewN ?_ _) | (with_reducible refine Kd.C_drew ?_))); (case side2 => exact HC0.out); (case side3 => repeat (first | exact (Kd.V_reads' HO_1.out).2.2 | (with_reducible refine Kd.C_alloc ?_ _) | (with_reducible refine Kd.C_drewN ?_ _) | (with_reducible refine Kd.C_drew ?_))); (case side4 => exact (Kd.V_reads' HO_1.out).2.1); (case side5 => repeat (first | exact (Kd.V_reads' HO_2.out).2.2 | (with_reducible refine Kd.C_alloc ?_ _) | (with_reducible refine Kd.C_drewN ?_ _) | (with_reducible refine Kd.C_drew ?_))); (case side6 => exact (Kd.V_reads' HO_2.out).2.1); rintro e w60 ⟨v120, rfl, ho0, hb⟩; refine ⟨_, rfl, ?_⟩; have n0_ := Aside0.mk (Kd.V_elder' (by (with_reducible repeat (first | apply Kd.V_alloc | apply Kd.V_drewN | apply Kd.V_drew)); exact HO_1.out) (by first | exact Kd.N_base ho0 | exact Kd.N_base (Kd.S_N ho0) | exact Kd.R_base ho0) hb); have n1_ := Aside0.mk (Kd.V_elder' (by (with_reducible repeat (first | apply Kd.V_alloc | apply Kd.V_drewN | apply Kd.V_drew)); exact HO_2.out) (by first | exact Kd.N_base ho0 | exact Kd.N_base (Kd.S_N ho0) | exact Kd.R_base ho0) hb); have n2_ := Aside0.mk (Kd.N_elder' (by (with_reducible repeat (first | apply Kd.N_alloc | apply Kd.N_drewN | apply Kd.N_drew)); exact HO_14.out) (by first | exact Kd.N_base ho0 | exact Kd.N_base (Kd.S_N ho0) | exact Kd.R_base ho0) hb); have n3_ := Aside0.mk (Kd.N_elder' (by (with_reducible repeat (first | apply Kd.N_alloc | apply Kd.N_drewN | apply Kd.N_drew)); exact HO118.out) (by first | exact Kd.N_base ho0 | exact Kd.N_base (Kd.S_N ho0) | exact Kd.R_base ho0) hb); have n4_ := Aside0.mk (Kd.N_lower (Kd.N_mono (ok' := fun k_ => ((P1_ k_ ∨ P2_ k_) ∨ w.heap.size ≤ k_) ∧ some k_ ≠ (u14 : Value).ownBlock ∧ some k_ ≠ (v117 : Value).ownBlock) (Kd.S_N (Kd.S_bound ho0)) (fun k_ hk_ => ⟨(.inr (Nat.le_trans (below_size (by repeat (first | (with_reducible first | exact HB.out | apply below_alloc | apply pw_below_drewN | apply below_drew1) | exact HB.out))) hk_.2.1)), (Kd.fresh' (Kd.N_lt (by (with_reducible repeat (first | apply Kd.N_alloc | apply Kd.N_drewN | apply Kd.N_drew)); exact HO_14.out)) k_ hk_.2.1), (Kd.fresh' (Kd.N_lt (by (with_reducible repeat (first | apply Kd.N_alloc | apply Kd.N_drewN | apply Kd.N_drew)); exact HO118.out)) k_ hk_.2.1)⟩)) (below_size (by repeat (first | (with_reducible first | exact HB.out | apply below_alloc | apply pw_below_drewN | apply below_drew1) | exact HB.out)))); have n5_ := Aside0.mk (below_step (by repeat (first | (with_reducible first | exact HB.out | apply below_alloc | apply pw_below_drewN | apply below_drew1) | exact HB.out)) hb); clear HO_1; clear HO_2; clear HO_14; clear HO118; clear HB; have HO_1 := n0_; have HO_2 := n1_; have HO_14 := n2_; have HO118 := n3_; have HO121 := n4_; have HB := n5_; clear n0_ n1_ n2_ n3_ n4_ n5_; (try clear hb); (try clear hb2); (try clear hk); (try clear hi); (try clear ho0); obtain ⟨Ao61, co61, eo61⟩ := Kd.N_slice HO118.out; subst eo61; obtain ⟨Ao62, co62, eo62⟩ := Kd.N_slice HO121.out; subst eo62) | ((with_reducible refine gate_callee (f := 27) rfl ?_); refine goesL_ (some 90) rfl rfl Try.func27 (by kernel_rfl) rfl #[.slice Ao61 t116.length co61, .slice Ao62 t119.length co62] rfl (by (try simp only [List.map_toArray, List.map_cons, List.map_nil]); first | done | rfl | (simp only [List.length_drop, List.length_take]; rfl)) ?_; (with_reducible refine (stratumref04_Same.calls k3 _ _ t116 _ _ t119 true _ ?side1 ?side2 ?side3 ?side4 A50.out).mono ?_); (case side1 => repeat (first | exact (Kd.N_reads' HO118.out).2.2 | (with_reducible refine Kd.C_alloc ?_ _) | (with_reducible refine Kd.C_drewN ?_ _) | (with_reducible refine Kd.C_drew ?_))); (case side2 => exact (Kd.N_reads' HO118.out).2.1); (case side3 => repeat (first | exact (Kd.N_reads' HO121.out).2.2 | (with_reducible refine Kd.C_alloc ?_ _) | (with_reducible refine Kd.C_drewN ?_ _) | (with_reducible refine Kd.C_drew ?_))); (case side4 => exact (Kd.N_reads' HO121.out).2.1); rintro e w' ⟨rfl, ⟨nd, rfl⟩⟩; refine ⟨_, rfl, ?_⟩) | (go_at_call 26; have tk_ := tok1_0; (with_reducible refine (stratumlaw05_ints.calls k3 _ _ l4 t123 _ ?side1 ?side2 A52.out).mono ?_); (case side1 => repeat (first | exact (Kd.C_below HR4.out (by repeat (first | (with_reducible first | exact HB.out | apply below_alloc | apply pw_below_drewN | apply below_drew1) | exact HB.out))) | (with_reducible refine Kd.C_alloc ?_ _) | (with_reducible refine Kd.C_drewN ?_ _) | (with_reducible refine Kd.C_drew ?_))); (case side2 => exact HC4.out); rintro e w63 ⟨v124, rfl, ho0, hb⟩; have n0_ := Aside0.mk (Kd.V_elder' (by (with_reducible repeat (first | apply Kd.V_alloc | apply Kd.V_drewN | apply Kd.V_drew)); exact HO_1.out) (Kd.R_base ho0) hb); have n1_ := Aside0.mk (Kd.V_elder' (by (with_reducible repeat (first | apply Kd.V_alloc | apply Kd.V_drewN | apply Kd.V_drew)); exact HO_2.out) (Kd.R_base ho0) hb); have n2_ := Aside0.mk (Kd.N_elder' (by (with_reducible repeat (first | apply Kd.N_alloc | apply Kd.N_drewN | apply Kd.N_drew)); exact HO_14.out) (Kd.R_base ho0) hb); have n3_ := Aside0.mk (Kd.N_elder' (by (with_reducible repeat (first | apply Kd.N_alloc | apply Kd.N_drewN | apply Kd.N_drew)); exact HO118.out) (Kd.R_base ho0) hb); have n4_ := Aside0.mk (Kd.N_elder' (by (with_reducible repeat (first | apply Kd.N_alloc | apply Kd.N_drewN | apply Kd.N_drew)); exact HO121.out) (Kd.R_base ho0) hb); have n5_ := Aside0.mk (Kd.R_lower (Kd.R_newM (M := fun k_ => (w.heap.size ≤ k_)) ho0 (below_size (by repeat (first | (with_reducible first | exact HB.out | apply below_alloc | apply pw_below_drewN | apply below_drew1) | exact HB.out))) (fun k_ h_ => h_)) (below_size (by repeat (first | (with_reducible first | exact HB.out | apply below_alloc | apply pw_below_drewN | apply below_drew1) | exact HB.out)))); have n6_ := Aside0.mk (below_step (by repeat (first | (with_reducible first | exact HB.out | apply below_alloc | apply pw_below_drewN | apply below_drew1) | exact HB.out)) hb); clear HO_1; clear HO_2; clear HO_14; clear HO118; clear HO121; clear HB; have HO_1 := n0_; have HO_2 := n1_; have HO_14 := n2_; have HO118 := n3_; have HO121 := n4_; have HO125 := n5_; have HB := n6_; clear n0_ n1_ n2_ n3_ n4_ n5_ n6_; (try clear hb); (try clear hb2); (try clear hk); (try clear hi); (try clear ho0); clear tk_ tok1_0) | (go_at_call 26; have tk_ := tok1_1; (with_reducible refine (stratumlaw05_ints.calls k3 _ _ l5 t126 _ ?side1 ?side2 A53.out).mono ?_); (case side1 => repeat (first | exact (Kd.C_below HR5.out HB.out) | (with_reducible refine Kd.C_alloc ?_ _) | (with_reducible refine Kd.C_drewN ?_ _) | (with_reducible refine Kd.C_drew ?_))); (case side2 => exact HC5.out); rintro e w64 ⟨v127, rfl, ho0, hb⟩; have n0_ := Aside0.mk (Kd.V_elder' (by (with_reducible repeat (first | apply Kd.V_alloc | apply Kd.V_drewN | apply Kd.V_drew)); exact HO_1.out) (Kd.R_base ho0) hb); have n1_ := Aside0.mk (Kd.V_elder' (by (with_reducible repeat (first | apply Kd.V_alloc | apply Kd.V_drewN | apply Kd.V_drew)); exact HO_2.out) (Kd.R_base ho0) hb); have n2_ := Aside0.mk (Kd.N_elder' (by (with_reducible repeat (first | apply Kd.N_alloc | apply Kd.N_drewN | apply Kd.N_drew)); exact HO_14.out) (Kd.R_base ho0) hb); have n3_ := Aside0.mk (Kd.N_elder' (by (with_reducible repeat (first | apply Kd.N_alloc | apply Kd.N_drewN | apply Kd.N_drew)); exact HO118.out) (Kd.R_base ho0) hb); have n4_ := Aside0.mk (Kd.N_elder' (by (with_reducible repeat (first | apply Kd.N_alloc | apply Kd.N_drewN | apply Kd.N_drew)); exact HO121.out) (Kd.R_base ho0) hb); have n5_ := Aside0.mk (Kd.R_elder' (by (with_reducible repeat (first | apply Kd.R_alloc | apply Kd.R_drewN | apply Kd.R_drew)); exact HO125.out) (Kd.R_base ho0) hb); have n6_ := Aside0.mk (Kd.R_lower (Kd.R_new' (Kd.R_newM (M := fun k_ => (w.heap.size ≤ k_)) ho0 (below_size (by repeat (first | (with_reducible first | exact HB.out | apply below_alloc | apply pw_below_drewN | apply below_drew1) | exact HB.out))) (fun k_ h_ => h_)) (Kd.R_lt (by (with_reducible repeat (first | apply Kd.R_alloc | apply Kd.R_drewN | apply Kd.R_drew)); exact HO125.out))) (below_size (by repeat (first | (with_reducible first | exact HB.out | apply below_alloc | apply pw_below_drewN | apply below_drew1) | exact HB.out)))); have n7_ := Aside0.mk (below_step (by repeat (first | (with_reducible first | exact HB.out | apply below_alloc | apply pw_below_drewN | apply below_drew1) | exact HB.out)) hb); clear HO_1; clear HO_2; clear HO_14; clear HO118; clear HO121; clear HO125; clear HB; have HO_1 := n0_; have HO_2 := n1_; have HO_14 := n2_; have HO118 := n3_; have HO121 := n4_; have HO125 := n5_; have HO128 := n6_; have HB := n7_; clear n0_ n1_ n2_ n3_ n4_ n5_ n6_ n7_; (try clear hb); (try clear hb2); (try clear hk); (try clear hi); (try clear ho0); obtain ⟨Ao65, co65, eo65⟩ := Kd.N_slice HO_14.out; subst eo65; obtain ⟨Ao66, co66, eo66⟩ := Kd.R_slice HO125.out; subst eo66; obtain ⟨Ao67, co67, eo67⟩ := Kd.R_slice HO128.out; subst eo67; clear tk_ tok1_1) | (go_at_call 28; (with_reducible refine (dice_Cut.calls k3 _ _ x14_3 _ _ t123 _ _ t126 t129 _ ?side1 ?side2 ?side3 ?side4 ?side5 ?side6 A54.out).mono ?_); (case side1 => repeat (first | exact (Kd.N_reads' HO_14.out).2.2 | (with_reducible refine Kd.C_alloc ?_ _) | (with_reducible refine Kd.C_drewN ?_ _) | (with_reducible refine Kd.C_drew ?_))); (case side2 => exact (Kd.N_reads' HO_14.out).2.1); (case side3 => repeat (first | exact (Kd.R_reads' HO125.out).2.2 | (with_reducible refine Kd.C_alloc ?_ _) | (with_reducible refine Kd.C_drewN ?_ _) | (with_reducible refine Kd.C_drew ?_))); (case side4 => exact (Kd.R_reads' HO125.out).2.1); (case side5 => repeat (first | exact (Kd.R_reads' HO128.out).2.2 | (with_reducible refine Kd.C_alloc ?_ _) | (with_reducible refine Kd.C_drewN ?_ _) | (with_reducible refine Kd.C_drew ?_))); (case side6 => exact (Kd.R_reads' HO128.out).2.1); rintro e w68 ⟨v130, rfl, ho0, hb⟩; have n0_ := Aside0.mk (Kd.V_elder' (by (with_reducible repeat (first | apply Kd.V_alloc | apply Kd.V_drewN | apply Kd.V_drew)); exact HO_1.out) (by first | exact Kd.N_base ho0 | exact Kd.N_base (Kd.S_N ho0) | exact Kd.R_base ho0) hb); have n1_ := Aside0.mk (Kd.V_elder' (by (with_reducible repeat (first | apply Kd.V_alloc | apply Kd.V_drewN | apply Kd.V_drew)); exact HO_2.out) (by first | exact Kd.N_base ho0 | exact Kd.N_base (Kd.S_N ho0) | exact Kd.R_base ho0) hb); have n2_ := Aside0.mk (Kd.N_elder' (by (with_reducible repeat (first | apply Kd.N_alloc | apply Kd.N_drewN | apply Kd.N_drew)); exact HO_14.out) (by first | exact Kd.N_base ho0 | exact Kd.N_base (Kd.S_N ho0) | exact Kd.R_base ho0) hb); have n3_ := Aside0.mk (Kd.N_elder' (by (with_reducible repeat (first | apply Kd.N_alloc | apply Kd.N_drewN | apply Kd.N_drew)); exact HO118.out) (by first | exact Kd.N_base ho0 | exact Kd.N_base (Kd.S_N ho0) | exact Kd.R_base ho0) hb); have n4_ := Aside0.mk (Kd.N_elder' (by (with_reducible repeat (first | apply Kd.N_alloc | apply Kd.N_drewN | apply Kd.N_drew)); exact HO121.out) (by first | exact Kd.N_base ho0 | exact Kd.N_base (Kd.S_N ho0) | exact Kd.R_base ho0) hb); have n5_ := Aside0.mk (Kd.R_below (by (with_reducible repeat (first | apply Kd.R_alloc | apply Kd.R_drewN | apply Kd.R_drew)); exact HO125.out) hb); have n6_ := Aside0.mk (Kd.R_below (by (with_reducible repeat (first | apply Kd.R_alloc | apply Kd.R_drewN | apply Kd.R_drew)); exact HO128.out) hb); have n7_ := Aside0.mk (Kd.N_lower (Kd.N_mono (ok' := fun k_ => ((P1_ k_ ∨ P2_ k_) ∨ w.heap.size ≤ k_) ∧ some k_ ≠ (.slice Ao65 x14_3.length co65 : Value).ownBlock ∧ some k_ ≠ (.slice Ao61 t116.length co61 : Value).ownBlock ∧ some k_ ≠ (.slice Ao62 t119.length co62 : Value).ownBlock ∧ some k_ ≠ (.slice Ao66 t123.length co66 : Value).ownBlock ∧ some k_ ≠ (.slice Ao67 t126.length co67 : Value).ownBlock) (Kd.S_N (Kd.S_bound ho0)) (fun k_ hk_ => ⟨(.inr (Nat.le_trans (below_size (by repeat (first | (with_reducible first | exact HB.out | apply below_alloc | apply pw_below_drewN | apply below_drew1) | exact HB.out))) hk_.2.1)), (Kd.fresh' (Kd.N_lt (by (with_reducible repeat (first | apply Kd.N_alloc | apply Kd.N_drewN | apply Kd.N_drew)); exact HO_14.out)) k_ hk_.2.1), (Kd.fresh' (Kd.N_lt (by (with_reducible repeat (first | apply Kd.N_alloc | apply Kd.N_drewN | apply Kd.N_drew)); exact HO118.out)) k_ hk_.2.1), (Kd.fresh' (Kd.N_lt (by (with_reducible repeat (first | apply Kd.N_alloc | apply Kd.N_drewN | apply Kd.N_drew)); exact HO121.out)) k_ hk_.2.1), (Kd.fresh' (Kd.R_lt (by (with_reducible repeat (first | apply Kd.R_alloc | apply Kd.R_drewN | apply Kd.R_drew)); exact HO125.out)) k_ hk_.2.1), (Kd.fresh' (Kd.R_lt (by (with_reducible repeat (first | apply Kd.R_alloc | apply Kd.R_drewN | apply Kd.R_drew)); exact HO128.out)) k_ hk_.2.1)⟩)) (below_size (by repeat (first | (with_reducible first | exact HB.out | apply below_alloc | apply pw_below_drewN | apply below_drew1) | exact HB.out)))); have n8_ := Aside0.mk (below_step (by repeat (first | (with_reducible first | exact HB.out | apply below_alloc | apply pw_below_drewN | apply below_drew1) | exact HB.out)) hb); clear HO_1; clear HO_2; clear HO_14; clear HO118; clear HO121; clear HO125; clear HO128; clear HB; have HO_1 := n0_; have HO_2 := n1_; have HO_14 := n2_; have HO118 := n3_; have HO121 := n4_; have HO125 := n5_; have HO128 := n6_; have HO131 := n7_; have HB := n8_; clear n0_ n1_ n2_ n3_ n4_ n5_ n6_ n7_ n8_; (try clear hb); (try clear hb2); (try clear hk); (try clear hi); (try clear ho0)) | (go_at_call 26; have tk_ := tok1_2; (with_reducible refine (stratumlaw05_ints.calls k3 _ _ l4 t132 _ ?side1 ?side2 A55.out).mono ?_); (case side1 => repeat (first | exact (Kd.C_below HR4.out HB.out) | (with_reducible refine Kd.C_alloc ?_ _) | (with_reducible refine Kd.C_drewN ?_ _) | (with_reducible refine Kd.C_drew ?_))); (case side2 => exact HC4.out); rintro e w69 ⟨v133, rfl, ho0, hb⟩; have n0_ := Aside0.mk (Kd.V_elder' (by (with_reducible repeat (first | apply Kd.V_alloc | apply Kd.V_drewN | apply Kd.V_drew)); exact HO_1.out) (Kd.R_base ho0) hb); have n1_ := Aside0.mk (Kd.V_elder' (by (with_reducible repeat (first | apply Kd.V_alloc | apply Kd.V_drewN | apply Kd.V_drew)); exact HO_2.out) (Kd.R_base ho0) hb); have n2_ := Aside0.mk (Kd.N_elder' (by (with_reducible repeat (first | apply Kd.N_alloc | apply Kd.N_drewN | apply Kd.N_drew)); exact HO_14.out) (Kd.R_base ho0) hb); have n3_ := Aside0.mk (Kd.N_elder' (by (with_reducible repeat (first | apply Kd.N_alloc | apply Kd.N_drewN | apply Kd.N_drew)); exact HO118.out) (Kd.R_base ho0) hb); have n4_ := Aside0.mk (Kd.N_elder' (by (with_reducible repeat (first | apply Kd.N_alloc | apply Kd.N_drewN | apply Kd.N_drew)); exact HO121.out) (Kd.R_base ho0) hb); have n5_ := Aside0.mk (Kd.R_elder' (by (with_reducible repeat (first | apply Kd.R_alloc | apply Kd.R_drewN | apply Kd.R_drew)); exact HO125.out) (Kd.R_base ho0) hb); have n6_ := Aside0.mk (Kd.R_elder' (by (with_reducible repeat (first | apply Kd.R_alloc | apply Kd.R_drewN | apply Kd.R_drew)); exact HO128.out) (Kd.R_base ho0) hb); have n7_ := Aside0.mk (Kd.N_elder' (by (with_reducible repeat (first | apply Kd.N_alloc | apply Kd.N_drewN | apply Kd.N_drew)); exact HO131.out) (Kd.R_base ho0) hb); have n8_ := Aside0.mk (Kd.R_lower (Kd.R_new' (Kd.R_new' (Kd.R_newM (M := fun k_ => (w.heap.size ≤ k_)) ho0 (below_size (by repeat (first | (with_reducible first | exact HB.out | apply below_alloc | apply pw_below_drewN | apply below_drew1) | exact HB.out))) (fun k_ h_ => h_)) (Kd.R_lt (by (with_reducible repeat (first | apply Kd.R_alloc | apply Kd.R_drewN | apply Kd.R_drew)); exact HO125.out))) (Kd.R_lt (by (with_reducible repeat (first | apply Kd.R_alloc | apply Kd.R_drewN | apply Kd.R_drew)); exact HO128.out))) (below_size (by repeat (first | (with_reducible first | exact HB.out | apply below_alloc | apply pw_below_drewN | apply below_drew1) | exact HB.out)))); have n9_ := Aside0.mk (below_step (by repeat (first | (with_reducible first | exact HB.out | apply below_alloc | apply pw_below_drewN | apply below_drew1) | exact HB.out)) hb); clear HO_1; clear HO_2; clear HO_14; clear HO118; clear HO121; clear HO125; clear HO128; clear HO131; clear HB; have HO_1 := n0_; have HO_2 := n1_; have HO_14 := n2_; have HO118 := n3_; have HO121 := n4_; have HO125 := n5_; have HO128 := n6_; have HO131 := n7_; have HO134 := n8_; have HB := n9_; clear n0_ n1_ n2_ n3_ n4_ n5_ n6_ n7_ n8_ n9_; (try clear hb); (try clear hb2); (try clear hk); (try clear hi); (try clear ho0); clear tk_ tok1_2) | (go_at_call 26; have tk_ := tok1_3; (with_reducible refine (stratumlaw05_ints.calls k3 _ _ l5 t135 _ ?side1 ?side2 A56.out).mono ?_); (case side1 => repeat (first | exact (Kd.C_below HR5.out HB.out) | (with_reducible refine Kd.C_alloc ?_ _) | (with_reducible refine Kd.C_drewN ?_ _) | (with_reducible refine Kd.C_drew ?_))); (case side2 => exact HC5.out); rintro e w70 ⟨v136, rfl, ho0, hb⟩; have n0_ := Aside0.mk (Kd.V_elder' (by (with_reducible repeat (first | apply Kd.V_alloc | apply Kd.V_drewN | apply Kd.V_drew)); exact HO_1.out) (Kd.R_base ho0) hb); have n1_ := Aside0.mk (Kd.V_elder' (by (with_reducible repeat (first | apply Kd.V_alloc | apply Kd.V_drewN | apply Kd.V_drew)); exact HO_2.out) (Kd.R_base ho0) hb); have n2_ := Aside0.mk (Kd.N_elder' (by (with_reducible repeat (first | apply Kd.N_alloc | apply Kd.N_drewN | apply Kd.N_drew)); exact HO_14.out) (Kd.R_base ho0) hb); have n3_ := Aside0.mk (Kd.N_elder' (by (with_reducible repeat (first | apply Kd.N_alloc | apply Kd.N_drewN | apply Kd.N_drew)); exact HO118.out) (Kd.R_base ho0) hb); have n4_ := Aside0.mk (Kd.N_elder' (by (with_reducible repeat (first | apply Kd.N_alloc | apply Kd.N_drewN | apply Kd.N_drew)); exact HO121.out) (Kd.R_base ho0) hb); have n5_ := Aside0.mk (Kd.R_elder' (by (with_reducible repeat (first | apply Kd.R_alloc | apply Kd.R_drewN | apply Kd.R_drew)); exact HO125.out) (Kd.R_base ho0) hb); have n6_ := Aside0.mk (Kd.R_elder' (by (with_reducible repeat (first | apply Kd.R_alloc | apply Kd.R_drewN | apply Kd.R_drew)); exact HO128.out) (Kd.R_base ho0) hb); have n7_ := Aside0.mk (Kd.N_elder' (by (with_reducible repeat (first | apply Kd.N_alloc | apply Kd.N_drewN | apply Kd.N_drew)); exact HO131.out) (Kd.R_base ho0) hb); have n8_ := Aside0.mk (Kd.R_elder' (by (with_reducible repeat (first | apply Kd.R_alloc | apply Kd.R_drewN | apply Kd.R_drew)); exact HO134.out) (Kd.R_base ho0) hb); have n9_ := Aside0.mk (Kd.R_lower (Kd.R_new' (Kd.R_new' (Kd.R_new' (Kd.R_newM (M := fun k_ => (w.heap.size ≤ k_)) ho0 (below_size (by repeat (first | (with_reducible first | exact HB.out | apply below_alloc | apply pw_below_drewN | apply below_drew1) | exact HB.out))) (fun k_ h_ => h_)) (Kd.R_lt (by (with_reducible repeat (first | apply Kd.R_alloc | apply Kd.R_drewN | apply Kd.R_drew)); exact HO125.out))) (Kd.R_lt (by (with_reducible repeat (first | apply Kd.R_alloc | apply Kd.R_drewN | apply Kd.R_drew)); exact HO128.out))) (Kd.R_lt (by (with_reducible repeat (first | apply Kd.R_alloc | apply Kd.R_drewN | apply Kd.R_drew)); exact HO134.out))) (below_size (by repeat (first | (with_reducible first | exact HB.out | apply below_alloc | apply pw_below_drewN | apply below_drew1) | exact HB.out)))); have n10_ := Aside0.mk (below_step (by repeat (first | (with_reducible first | exact HB.out | apply below_alloc | apply pw_below_drewN | apply below_drew1) | exact HB.out)) hb); clear HO_1; clear HO_2; clear HO_14; clear HO118; clear HO121; clear HO125; clear HO128; clear HO131; clear HO134; clear HB; have HO_1 := n0_; have HO_2 := n1_; have HO_14 := n2_; have HO118 := n3_; have HO121 := n4_; have HO125 := n5_; have HO128 := n6_; have HO131 := n7_; have HO134 := n8_; have HO137 := n9_; have HB := n10_; clear n0_ n1_ n2_ n3_ n4_ n5_ n6_ n7_ n8_ n9_ n10_; (try clear hb); (try clear hb2); (try clear hk); (try clear hi); (try clear ho0); obtain ⟨Ao71, co71, eo71⟩ := Kd.R_slice HO134.out; subst eo71; obtain ⟨Ao72, co72, eo72⟩ := Kd.R_slice HO137.out; subst eo72; clear tk_ tok1_3) | (go_at_call 29; (with_reducible refine (stratumref05_Cut.calls k3 _ _ x14_3 _ _ t132 _ _ t135 t138 _ ?side1 ?side2 ?side3 ?side4 ?side5 ?side6 A57.out).mono ?_); (case side1 => repeat (first | exact (Kd.N_reads' HO_14.out).2.2 | (with_reducible refine Kd.C_alloc ?_ _) | (with_reducible refine Kd.C_drewN ?_ _) | (with_reducible refine Kd.C_drew ?_))); (case side2 => exact (Kd.N_reads' HO_14.out).2.1); (case side3 => repeat (first | exact (Kd.R_reads' HO134.out).2.2 | (with_reducible refine Kd.C_alloc ?_ _) | (with_reducible refine Kd.C_drewN ?_ _) | (with_reducible refine Kd.C_drew ?_))); (case side4 => exact (Kd.R_reads' HO134.out).2.1); (case side5 => repeat (first | exact (Kd.R_reads' HO137.out).2.2 | (with_reducible refine Kd.C_alloc ?_ _) | (with_reducible refine Kd.C_drewN ?_ _) | (with_reducible refine Kd.C_drew ?_))); (case side6 => exact (Kd.R_reads' HO137.out).2.1); rintro e w73 ⟨v139, rfl, ho0, hb⟩; have n0_ := Aside0.mk (Kd.V_elder' (by (with_reducible repeat (first | apply Kd.V_alloc | apply Kd.V_drewN | apply Kd.V_drew)); exact HO_1.out) (by first | exact Kd.N_base ho0 | exact Kd.N_base (Kd.S_N ho0) | exact Kd.R_base ho0) hb); have n1_ := Aside0.mk (Kd.V_elder' (by (with_reducible repeat (first | apply Kd.V_alloc | apply Kd.V_drewN | apply Kd.V_drew)); exact HO_2.out) (by first | exact Kd.N_base ho0 | exact Kd.N_base (Kd.S_N ho0) | exact Kd.R_base ho0) hb); have n2_ := Aside0.mk (Kd.N_elder' (by (with_reducible repeat (first | apply Kd.N_alloc | apply Kd.N_drewN | apply Kd.N_drew)); exact HO_14.out) (by first | exact Kd.N_base ho0 | exact Kd.N_base (Kd.S_N ho0) | exact Kd.R_base ho0) hb); have n3_ := Aside0.mk (Kd.N_elder' (by (with_reducible repeat (first | apply Kd.N_alloc | apply Kd.N_drewN | apply Kd.N_drew)); exact HO118.out) (by first | exact Kd.N_base ho0 | exact Kd.N_base (Kd.S_N ho0) | exact Kd.R_base ho0) hb); have n4_ := Aside0.mk (Kd.N_elder' (by (with_reducible repeat (first | apply Kd.N_alloc | apply Kd.N_drewN | apply Kd.N_drew)); exact HO121.out) (by first | exact Kd.N_base ho0 | exact Kd.N_base (Kd.S_N ho0) | exact Kd.R_base ho0) hb); have n5_ := Aside0.mk (Kd.R_below (by (with_reducible repeat (first | apply Kd.R_alloc | apply Kd.R_drewN | apply Kd.R_drew)); exact HO125.out) hb); have n6_ := Aside0.mk (Kd.R_below (by (with_reducible repeat (first | apply Kd.R_alloc | apply Kd.R_drewN | apply Kd.R_drew)); exact HO128.out) hb); have n7_ := Aside0.mk (Kd.N_elder' (by (with_reducible repeat (first | apply Kd.N_alloc | apply Kd.N_drewN | apply Kd.N_drew)); exact HO131.out) (by first | exact Kd.N_base ho0 | exact Kd.N_base (Kd.S_N ho0) | exact Kd.R_base ho0) hb); have n8_ := Aside0.mk (Kd.R_below (by (with_reducible repeat (first | apply Kd.R_alloc | apply Kd.R_drewN | apply Kd.R_drew)); exact HO134.out) hb); have n9_ := Aside0.mk (Kd.R_below (by (with_reducible repeat (first | apply Kd.R_alloc | apply Kd.R_drewN | apply Kd.R_drew)); exact HO137.out) hb); have n10_ := Aside0.mk (Kd.N_lower (Kd.N_mono (ok' := fun k_ => ((P1_ k_ ∨ P2_ k_) ∨ w.heap.size ≤ k_) ∧ some k_ ≠ (.slice Ao65 x14_3.length co65 : Value).ownBlock ∧ some k_ ≠ (.slice Ao61 t116.length co61 : Value).ownBlock ∧ some k_ ≠ (.slice Ao62 t119.length co62 : Value).ownBlock ∧ some k_ ≠ (.slice Ao66 t123.length co66 : Value).ownBlock ∧ some k_ ≠ (.slice Ao67 t126.length co67 : Value).ownBlock ∧ some k_ ≠ (v130 : Value).ownBlock ∧ some k_ ≠ (.slice Ao71 t132.length co71 : Value).ownBlock ∧ some k_ ≠ (.slice Ao72 t135.length co72 : Value).ownBlock) (Kd.S_N (Kd.S_bound ho0)) (fun k_ hk_ => ⟨(.inr (Nat.le_trans (below_size (by repeat (first | (with_reducible first | exact HB.out | apply below_alloc | apply pw_below_drewN | apply below_drew1) | exact HB.out))) hk_.2.1)), (Kd.fresh' (Kd.N_lt (by (with_reducible repeat (first | apply Kd.N_alloc | apply Kd.N_drewN | apply Kd.N_drew)); exact HO_14.out)) k_ hk_.2.1), (Kd.fresh' (Kd.N_lt (by (with_reducible repeat (first | apply Kd.N_alloc | apply Kd.N_drewN | apply Kd.N_drew)); exact HO118.out)) k_ hk_.2.1), (Kd.fresh' (Kd.N_lt (by (with_reducible repeat (first | apply Kd.N_alloc | apply Kd.N_drewN | apply Kd.N_drew)); exact HO121.out)) k_ hk_.2.1), (Kd.fresh' (Kd.R_lt (by (with_reducible repeat (first | apply Kd.R_alloc | apply Kd.R_drewN | apply Kd.R_drew)); exact HO125.out)) k_ hk_.2.1), (Kd.fresh' (Kd.R_lt (by (with_reducible repeat (first | apply Kd.R_alloc | apply Kd.R_drewN | apply Kd.R_drew)); exact HO128.out)) k_ hk_.2.1), (Kd.fresh' (Kd.N_lt (by (with_reducible repeat (first | apply Kd.N_alloc | apply Kd.N_drewN | apply Kd.N_drew)); exact HO131.out)) k_ hk_.2.1), (Kd.fresh' (Kd.R_lt (by (with_reducible repeat (first | apply Kd.R_alloc | apply Kd.R_drewN | apply Kd.R_drew)); exact HO134.out)) k_ hk_.2.1), (Kd.fresh' (Kd.R_lt (by (with_reducible repeat (first | apply Kd.R_alloc | apply Kd.R_drewN | apply Kd.R_drew)); exact HO137.out)) k_ hk_.2.1)⟩)) (below_size (by repeat (first | (with_reducible first | exact HB.out | apply below_alloc | apply pw_below_drewN | apply below_drew1) | exact HB.out)))); have n11_ := Aside0.mk (below_step (by repeat (first | (with_reducible first | exact HB.out | apply below_alloc | apply pw_below_drewN | apply below_drew1) | exact HB.out)) hb); clear HO_1; clear HO_2; clear HO_14; clear HO118; clear HO121; clear HO125; clear HO128; clear HO131; clear HO134; clear HO137; clear HB; have HO_1 := n0_; have HO_2 := n1_; have HO_14 := n2_; have HO118 := n3_; have HO121 := n4_; have HO125 := n5_; have HO128 := n6_; have HO131 := n7_; have HO134 := n8_; have HO137 := n9_; have HO140 := n10_; have HB := n11_; clear n0_ n1_ n2_ n3_ n4_ n5_ n6_ n7_ n8_ n9_ n10_ n11_; (try clear hb); (try clear hb2); (try clear hk); (try clear hi); (try clear ho0); obtain ⟨Ao74, co74, eo74⟩ := Kd.N_slice HO131.out; subst eo74; obtain ⟨Ao75, co75, eo75⟩ := Kd.N_slice HO140.out; subst eo75) | (go_at_call 27; (with_reducible refine (stratumref04_Same.calls k3 _ _ t129 _ _ t138 t141 _ ?side1 ?side2 ?side3 ?side4 A58.out).mono ?_); (case side1 => repeat (first | exact (Kd.N_reads' HO131.out).2.2 | (with_reducible refine Kd.C_alloc ?_ _) | (with_reducible refine Kd.C_drewN ?_ _) | (with_reducible refine Kd.C_drew ?_))); (case side2 => exact (Kd.N_reads' HO131.out).2.1); (case side3 => repeat (first | exact (Kd.N_reads' HO140.out).2.2 | (with_reducible refine Kd.C_alloc ?_ _) | (with_reducible refine Kd.C_drewN ?_ _) | (with_reducible refine Kd.C_drew ?_))); (case side4 => exact (Kd.N_reads' HO140.out).2.1); rintro e w' ⟨rfl, ⟨nd, rfl⟩⟩))
                      go_ret
                      exact ⟨by first | rfl | (simp [errW_none, errW_some] <;> rfl) | (simp [*, errW_none, errW_some] <;> rfl), by repeat (first | (with_reducible first | exact HB.out | apply below_alloc | apply pw_below_drewN | apply below_drew1) | exact HB.out)⟩
                    · replace c51 := Bool.eq_false_iff.mpr c51
                      subst c51
                      have H1 : (some false) = some r := by rw [if_neg (show ¬ (false = true) by decide)] at H; exact H
                      clear H
                      have H := H1
                      clear H1
                      obtain rfl := Option.some.inj H
                      go_wp2_with (first | ((with_reducible refine gate_callee (f := 28) rfl ?_); refine goesL_ (some 85) rfl rfl Try.func28 (by kernel_rfl) rfl #[.slice A0 l0.length c0, .slice A1 l1.length c1, .slice A2 l2.length c2] rfl (by (try simp only [List.map_toArray, List.map_cons, List.map_nil]); first | done | rfl | (simp only [List.length_drop, List.length_take]; rfl)) ?_; (with_reducible refine (dice_Cut.calls k3 _ _ l0 _ _ l1 _ _ l2 t116 _ ?side1 ?side2 ?side3 ?side4 ?side5 ?side6 A48.out).mono ?_); (case side1 => repeat (first | exact (Kd.C_below HR0.out HB.out) | (with_reducible refine Kd.C_alloc ?_ _) | (with_reducible refine Kd.C_drewN ?_ _) | (with_reducible refine Kd.C_drew ?_))); (case side2 => exact HC0.out); (case side3 => repeat (first | exact (Kd.V_reads' HO_1.out).2.2 | (with_reducible refine Kd.C_alloc ?_ _) | (with_reducible refine Kd.C_drewN ?_ _) | (with_reducible refine Kd.C_drew ?_))); (case side4 => exact (Kd.V_reads' HO_1.out).2.1); (case side5 => repeat (first | exact (Kd.V_reads' HO_2.out).2.2 | (with_reducible refine Kd.C_alloc ?_ _) | (with_reducible refine Kd.C_drewN ?_ _) | (with_reducible refine Kd.C_drew ?_))); (case side6 => exact (Kd.V_reads' HO_2.out).2.1); rintro e w76 ⟨v117, rfl, ho0, hb⟩; refine ⟨_, rfl, ?_⟩; have n0_ := Aside0.mk (Kd.V_elder' (by (with_reducible repeat (first | apply Kd.V_alloc | apply Kd.V_drewN | apply Kd.V_drew)); exact HO_1.out) (by first | exact Kd.N_base ho0 | exact Kd.N_base (Kd.S_N ho0) | exact Kd.R_base ho0) hb); have n1_ := Aside0.mk (Kd.V_elder' (by (with_reducible repeat (first | apply Kd.V_alloc | apply Kd.V_drewN | apply Kd.V_drew)); exact HO_2.out) (by first | exact Kd.N_base ho0 | exact Kd.N_base (Kd.S_N ho0) | exact Kd.R_base ho0) hb); have n2_ := Aside0.mk (Kd.N_elder' (by (with_reducible repeat (first | apply Kd.N_alloc | apply Kd.N_drewN | apply Kd.N_drew)); exact HO_14.out) (by first | exact Kd.N_base ho0 | exact Kd.N_base (Kd.S_N ho0) | exact Kd.R_base ho0) hb); have n3_ := Aside0.mk (Kd.N_lower (Kd.N_mono (ok' := fun k_ => ((P1_ k_ ∨ P2_ k_) ∨ w.heap.size ≤ k_) ∧ some k_ ≠ (u14 : Value).ownBlock) (Kd.S_N (Kd.S_bound ho0)) (fun k_ hk_ => ⟨(.inr (Nat.le_trans (below_size (by repeat (first | (with_reducible first | exact HB.out | apply below_alloc | apply pw_below_drewN | apply below_drew1) | exact HB.out))) hk_.2.1)), (Kd.fresh' (Kd.N_lt (by (with_reducible repeat (first | apply Kd.N_alloc | apply Kd.N_drewN | apply Kd.N_drew)); exact HO_14.out)) k_ hk_.2.1)⟩)) (below_size (by repeat (first | (with_reducible first | exact HB.out | apply below_alloc | apply pw_below_drewN | apply below_drew1) | exact HB.out)))); have n4_ := Aside0.mk (below_step (by repeat (first | (with_reducible first | exact HB.out | apply below_alloc | apply pw_below_drewN | apply below_drew1) | exact HB.out)) hb); clear HO_1; clear HO_2; clear HO_14; clear HB; have HO_1 := n0_; have HO_2 := n1_; have HO_14 := n2_; have HO118 := n3_; have HB := n4_; clear n0_ n1_ n2_ n3_ n4_; (try clear hb); (try clear hb2); (try clear hk); (try clear hi); (try clear ho0)) | ((with_reducible refine gate_callee (f := 29) rfl ?_); refine goesL_ (some 89) rfl rfl Try.func29 (by kernel_rfl) rfl #[.slice A0 l0.length c0, .slice A1 l1.length c1, .slice A2 l2.length c2] rfl (by (try simp only [List.map_toArray, List.map_cons, List.map_nil]); first | done | rfl | (simp only [List.length_drop, List.length_take]; rfl)) ?_; (with_reducible refine (stratumref05_Cut.calls k3 _ _ l0 _ _ l1 _ _ l2 t119 _ ?side1 ?side2 ?side3 ?side4 ?side5 ?side6 A49.out).mono ?_); (case side1 => repeat (first | exact (Kd.C_below HR0.out HB.out) | (with_reducible refine Kd.C_alloc ?_ _) | (with_reducible refine Kd.C_drewN ?_ _) | (with_reducible refine Kd.C_drew ?_))); (case side2 => exact HC0.out); (case side3 => repeat (first | exact (Kd.V_reads' HO_1.out).2.2 | (with_reducible refine Kd.C_alloc ?_ _) | (with_reducible refine Kd.C_drewN ?_ _) | (with_reducible refine Kd.C_drew ?_))); (case side4 => exact (Kd.V_reads' HO_1.out).2.1); (case side5 => repeat (first | exact (Kd.V_reads' HO_2.out).2.2 | (with_reducible refine Kd.C_alloc ?_ _) | (with_reducible refine Kd.C_drewN ?_ _) | (with_reducible refine Kd.C_drew ?_))); (case side6 => exact (Kd.V_reads' HO_2.out).2.1); rintro e w77 ⟨v120, rfl, ho0, hb⟩; refine ⟨_, rfl, ?_⟩; have n0_ := Aside0.mk (Kd.V_elder' (by (with_reducible repeat (first | apply Kd.V_alloc | apply Kd.V_drewN | apply Kd.V_drew)); exact HO_1.out) (by first | exact Kd.N_base ho0 | exact Kd.N_base (Kd.S_N ho0) | exact Kd.R_base ho0) hb); have n1_ := Aside0.mk (Kd.V_elder' (by (with_reducible repeat (first | apply Kd.V_alloc | apply Kd.V_drewN | apply Kd.V_drew)); exact HO_2.out) (by first | exact Kd.N_base ho0 | exact Kd.N_base (Kd.S_N ho0) | exact Kd.R_base ho0) hb); have n2_ := Aside0.mk (Kd.N_elder' (by (with_reducible repeat (first | apply Kd.N_alloc | apply Kd.N_drewN | apply Kd.N_drew)); exact HO_14.out) (by first | exact Kd.N_base ho0 | exact Kd.N_base (Kd.S_N ho0) | exact Kd.R_base ho0) hb); have n3_ := Aside0.mk (Kd.N_elder' (by (with_reducible repeat (first | apply Kd.N_alloc | apply Kd.N_drewN | apply Kd.N_drew)); exact HO118.out) (by first | exact Kd.N_base ho0 | exact Kd.N_base (Kd.S_N ho0) | exact Kd.R_base ho0) hb); have n4_ := Aside0.mk (Kd.N_lower (Kd.N_mono (ok' := fun k_ => ((P1_ k_ ∨ P2_ k_) ∨ w.heap.size ≤ k_) ∧ some k_ ≠ (u14 : Value).ownBlock ∧ some k_ ≠ (v117 : Value).ownBlock) (Kd.S_N (Kd.S_bound ho0)) (fun k_ hk_ => ⟨(.inr (Nat.le_trans (below_size (by repeat (first | (with_reducible first | exact HB.out | apply below_alloc | apply pw_below_drewN | apply below_drew1) | exact HB.out))) hk_.2.1)), (Kd.fresh' (Kd.N_lt (by (with_reducible repeat (first | apply Kd.N_alloc | apply Kd.N_drewN | apply Kd.N_drew)); exact HO_14.out)) k_ hk_.2.1), (Kd.fresh' (Kd.N_lt (by (with_reducible repeat (first | apply Kd.N_alloc | apply Kd.N_drewN | apply Kd.N_drew)); exact HO118.out)) k_ hk_.2.1)⟩)) (below_size (by repeat (first | (with_reducible first | exact HB.out | apply below_alloc | apply pw_below_drewN | apply below_drew1) | exact HB.out)))); have n5_ := Aside0.mk (below_step (by repeat (first | (with_reducible first | exact HB.out | apply below_alloc | apply pw_below_drewN | apply below_drew1) | exact HB.out)) hb); clear HO_1; clear HO_2; clear HO_14; clear HO118; clear HB; have HO_1 := n0_; have HO_2 := n1_; have HO_14 := n2_; have HO118 := n3_; have HO121 := n4_; have HB := n5_; clear n0_ n1_ n2_ n3_ n4_ n5_; (try clear hb); (try clear hb2); (try clear hk); (try clear hi); (try clear ho0); obtain ⟨Ao78, co78, eo78⟩ := Kd.N_slice HO118.out; subst eo78; obtain ⟨Ao79, co79, eo79⟩ := Kd.N_slice HO121.out; subst eo79) | ((with_reducible refine gate_callee (f := 27) rfl ?_); refine goesL_ (some 90) rfl rfl Try.func27 (by kernel_rfl) rfl #[.slice Ao78 t116.length co78, .slice Ao79 t119.length co79] rfl (by (try simp only [List.map_toArray, List.map_cons, List.map_nil]); first | done | rfl | (simp only [List.length_drop, List.length_take]; rfl)) ?_; (with_reducible refine (stratumref04_Same.calls k3 _ _ t116 _ _ t119 false _ ?side1 ?side2 ?side3 ?side4 A50.out).mono ?_); (case side1 => repeat (first | exact (Kd.N_reads' HO118.out).2.2 | (with_reducible refine Kd.C_alloc ?_ _) | (with_reducible refine Kd.C_drewN ?_ _) | (with_reducible refine Kd.C_drew ?_))); (case side2 => exact (Kd.N_reads' HO118.out).2.1); (case side3 => repeat (first | exact (Kd.N_reads' HO121.out).2.2 | (with_reducible refine Kd.C_alloc ?_ _) | (with_reducible refine Kd.C_drewN ?_ _) | (with_reducible refine Kd.C_drew ?_))); (case side4 => exact (Kd.N_reads' HO121.out).2.1); rintro e w' ⟨rfl, ⟨nd, rfl⟩⟩; refine ⟨_, rfl, ?_⟩))
                      go_ret
                      exact ⟨by first | rfl | (simp [errW_none, errW_some] <;> rfl) | (simp [*, errW_none, errW_some] <;> rfl), by repeat (first | (with_reducible first | exact HB.out | apply below_alloc | apply pw_below_drewN | apply below_drew1) | exact HB.out)⟩

end Go.Proofs.Ytjeojnjkmhnepaa.Pr
