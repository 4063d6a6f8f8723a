-- Printed by wip/tools/pr.py, our driver of the kit's print with plugged contracts: Lean checks it.
import Derived.Test.YtjeojnjkmhnepaaPr0
namespace Go.Proofs.Ytjeojnjkmhnepaa.Pr
open Go.RowKit Go.Proofs.YtjeojnjkmhnepaaW.PrintWords Go.Proofs.YtjeojnjkmhnepaaW.PrintLast Go.Proofs.YtjeojnjkmhnepaaW.PrintMore
attribute [local go_sem] max2_int min2_int max_two min_two max_three min_three max_four min_four   -- for this text's walks alone
set_option linter.unusedVariables false
set_option linter.unusedSimpArgs false

/-! ### stratumlaw03_Of: function 14 -/
mutual
def stratumlaw03_Of.l0 : Nat → List (S81) → List (S29) → Int → Option ((List (S29)))
  | 0, _, _, _ => none
  | k + 1, x0, x3, x4 => if x4 < (x0.length : Int) then (stratumlaw03_Of.j1 k x0 x3 x4 (decide (x4 < 4))) else (stratumlaw03_Of.j1 k x0 x3 x4 false)
def stratumlaw03_Of.j1 : Nat → List (S81) → List (S29) → Int → Bool → Option ((List (S29)))
  | 0, _, _, _, _ => none
  | k + 1, x0, x3, x4, x15 => if x15 = true then (if 0 ≤ x4 then (if x4 < (x0.length : Int) then (stratumlaw03_Of.l1 k x0 x3 x4 1 0 (wrap64 (1 + (wrap64 (Int.tmod ((rd_T81 x0 x4).f0) 200)))) ([] : List Int)) else (none)) else (none)) else (if (x3.length : Int) = 0 then (if x3.length < 4398046511104 then (some (x3 ++ [(⟨100, (([10] : List Int))⟩ : S29)])) else (none)) else (some x3))
def stratumlaw03_Of.l1 : Nat → List (S81) → List (S29) → Int → Int → Int → Int → List Int → Option ((List (S29)))
  | 0, _, _, _, _, _, _, _ => none
  | k + 1, x0, x3, x4, x6, x7, x109000, x109001 => if 0 ≤ x4 then (if x4 < (x0.length : Int) then (if x7 < (((rd_T81 x0 x4).f1).length : Int) then (if x7 < 4 then (if 0 ≤ x7 then (if x109001.length < 17592186044416 then (stratumlaw03_Of.l1 k x0 x3 x4 (wrap64 (x6 * (wrap64 (2 + (wrap64 (Int.tmod (rd ((rd_T81 x0 x4).f1) x7) 4)))))) (wrap64 (x7 + 1)) x109000 (x109001 ++ [wrap64 (x6 * (wrap64 (2 + (wrap64 (Int.tmod (rd ((rd_T81 x0 x4).f1) x7) 4)))))])) else (none)) else (none)) else (if x3.length < 4398046511104 then (stratumlaw03_Of.l0 k x0 (x3 ++ [(⟨x109000, x109001⟩ : S29)]) (wrap64 (x4 + 1))) else (none))) else (if x3.length < 4398046511104 then (stratumlaw03_Of.l0 k x0 (x3 ++ [(⟨x109000, x109001⟩ : S29)]) (wrap64 (x4 + 1))) else (none))) else (none)) else (none)
end
def stratumlaw03_Of.f (k : Nat) (l0 : List (S81)) : Option ((List (S29))) := stratumlaw03_Of.l0 k l0 ([] : List (S29)) 0
theorem stratumlaw03_Of.mono_l : ∀ k, (∀ y0 y1 y2, LeO (stratumlaw03_Of.l0 k y0 y1 y2) (stratumlaw03_Of.l0 (k + 1) y0 y1 y2)) ∧ (∀ y0 y1 y2 y3, LeO (stratumlaw03_Of.j1 k y0 y1 y2 y3) (stratumlaw03_Of.j1 (k + 1) y0 y1 y2 y3)) ∧ (∀ y0 y1 y2 y3 y4 y5 y6, LeO (stratumlaw03_Of.l1 k y0 y1 y2 y3 y4 y5 y6) (stratumlaw03_Of.l1 (k + 1) y0 y1 y2 y3 y4 y5 y6))
  | 0 => ⟨fun _ _ _ r h => by simp [stratumlaw03_Of.l0] at h, fun _ _ _ _ r h => by simp [stratumlaw03_Of.j1] at h, fun _ _ _ _ _ _ _ r h => by simp [stratumlaw03_Of.l1] at h⟩
  | k + 1 => by
    obtain ⟨ih0, ih1, ih2⟩ := stratumlaw03_Of.mono_l k
    refine ⟨?_, ?_, ?_⟩
    · intro y0 y1 y2
      unfold stratumlaw03_Of.l0
      repeat' first
      | (with_reducible exact ih0 _ _ _)
      | (with_reducible exact ih1 _ _ _ _)
      | (with_reducible exact ih2 _ _ _ _ _ _ _)
      | (with_reducible exact LeO.refl _)
      | (with_reducible exact LeO.none _)
      | (with_reducible refine LeO.ite ?_ ?_)
      | (with_reducible refine LeO.bind ?_ (fun _ => ?_))
      | exact ih0 _ _ _
      | exact ih1 _ _ _ _
      | exact ih2 _ _ _ _ _ _ _
      | exact LeO.none _
      | refine LeO.ite ?_ ?_
      | refine LeO.bind ?_ (fun _ => ?_)
    · intro y0 y1 y2 y3
      unfold stratumlaw03_Of.j1
      repeat' first
      | (with_reducible exact ih0 _ _ _)
      | (with_reducible exact ih1 _ _ _ _)
      | (with_reducible exact ih2 _ _ _ _ _ _ _)
      | (with_reducible exact LeO.refl _)
      | (with_reducible exact LeO.none _)
      | (with_reducible refine LeO.ite ?_ ?_)
      | (with_reducible refine LeO.bind ?_ (fun _ => ?_))
      | exact ih0 _ _ _
      | exact ih1 _ _ _ _
      | exact ih2 _ _ _ _ _ _ _
      | exact LeO.none _
      | refine LeO.ite ?_ ?_
      | refine LeO.bind ?_ (fun _ => ?_)
    · intro y0 y1 y2 y3 y4 y5 y6
      unfold stratumlaw03_Of.l1
      repeat' first
      | (with_reducible exact ih0 _ _ _)
      | (with_reducible exact ih1 _ _ _ _)
      | (with_reducible exact ih2 _ _ _ _ _ _ _)
      | (with_reducible exact LeO.refl _)
      | (with_reducible exact LeO.none _)
      | (with_reducible refine LeO.ite ?_ ?_)
      | (with_reducible refine LeO.bind ?_ (fun _ => ?_))
      | exact ih0 _ _ _
      | exact ih1 _ _ _ _
      | exact ih2 _ _ _ _ _ _ _
      | exact LeO.none _
      | refine LeO.ite ?_ ?_
      | refine LeO.bind ?_ (fun _ => ?_)
theorem stratumlaw03_Of.mono : ∀ a0 k, LeO (stratumlaw03_Of.f k a0) (stratumlaw03_Of.f (k + 1) a0) := by
  intro a0 k
  obtain ⟨ih0, ih1, ih2⟩ := stratumlaw03_Of.mono_l k
  unfold stratumlaw03_Of.f
  repeat' first
      | (with_reducible exact ih0 _ _ _)
      | (with_reducible exact ih1 _ _ _ _)
      | (with_reducible exact ih2 _ _ _ _ _ _ _)
      | (with_reducible exact LeO.refl _)
      | (with_reducible exact LeO.none _)
      | (with_reducible refine LeO.ite ?_ ?_)
      | (with_reducible refine LeO.bind ?_ (fun _ => ?_))
      | exact ih0 _ _ _
      | exact ih1 _ _ _ _
      | exact ih2 _ _ _ _ _ _ _
      | exact LeO.none _
      | refine LeO.ite ?_ ?_
      | refine LeO.bind ?_ (fun _ => ?_)
set_option maxHeartbeats 8000000 in
set_option maxRecDepth 100000 in
theorem stratumlaw03_Of.calls (k : Nat) (A0 : Option Addr) (c0 : Nat) (l0 : List (S81)) (r : List (S29)) (w : World) (hr0 : Kd.C k81 w A0 l0.length l0) (hc0 : l0.length ≤ c0) (h : stratumlaw03_Of.f k l0 = some r) :
    Calls Try.prog 14 #[.slice A0 l0.length c0] w fun e w' => ∃ v0_ : Value, e = .returned (v0_) ∧ Kd.S k29 29 w' w.heap.size (fun _ => True) v0_ r ∧ Below w.heap.size w w' := by
  have hu29 := Try.underlying29
  have HR0 := Aside0.mk hr0
  have HC0 := Aside0.mk hc0
  clear hr0 hc0
  have HB := Aside0.mk (Below.refl w.heap.size w)
  have H : (stratumlaw03_Of.l0 k l0 ([] : List (S29)) 0) = some r := h
  clear h
  have H' := Aside0.mk H
  clear H
  go_enter Try.func14, Try.ntmps14
  go_wp2
  go_loopg [3, 4] k (fun kq v3 v4 w' => ∃ (x3_1 : List (S29)) (x4_1 : Int), v4 = .int .i64 x4_1 ∧ Aside0 (stratumlaw03_Of.l0 kq l0 x3_1 x4_1 = some r) ∧ Aside0 (kq ≤ k) ∧ Aside0 (Kd.S k29 29 w' w.heap.size (fun _ => True) v3 x3_1) ∧ Aside0 (Below w.heap.size w w'))
  case atStart => exact ⟨(([] : List (S29))), (0), (by first | rfl | (simp; done) | (simp [*]; done)), H', ⟨Nat.le_refl _⟩, ⟨by first | exact Kd.S_nil _ _ _ _ _ | exact Kd.N_nil _ _ _ _ _ | exact Kd.V_nil _ _ _ _ _ | exact Kd.Q_nil _ _ _ _ _ | exact Kd.R_nil _ _ _ _ _⟩, ⟨by repeat (first | (with_reducible first | exact HB.out | apply below_alloc | apply pw_below_drewN | apply below_drew1) | exact HB.out)⟩⟩
  case round =>
    clear H'
    try clear c1
    obtain ⟨x3_1, x4_1, rfl, HA, HK1, HO_3, HB⟩ := hrel
    cases gk with
    | zero => exact absurd HA.out (by simp [stratumlaw03_Of.l0])
    | succ k1 =>
      have H := HA.out
      clear HA
      simp only [stratumlaw03_Of.l0] at H
      have HC2 := Aside0.mk H
      clear H
      go_upto_region 3 with (fail)
      go_cut [15] (fun v15 wc => ∃ (kq : Nat) (x15_1 : Bool), v15 = .bool x15_1 ∧ Aside0 (stratumlaw03_Of.j1 kq l0 x3_1 x4_1 x15_1 = some r) ∧ Aside0 (kq ≤ k1) ∧ Aside0 (Kd.S k29 29 wc w.heap.size (fun _ => True) u3 x3_1) ∧ Aside0 (Below w.heap.size w wc))
      case first =>
        have H := HC2.out
        clear HC2
        by_cases c3 : x4_1 < (l0.length : Int)
        · rw [if_pos c3] at H
          have c3b0 : decide (x4_1 < (l0.length : Int)) = true := decide_eq_true c3
          clear c3
          (first | rw [c3b0] | (simp only [i64_w, i32_w]; rw [c3b0]) | skip)
          have H' := Aside0.mk H
          clear H
          go_wp2
          go_meet
          case rel => exact ⟨_, (decide (x4_1 < 4)), (by first | rfl | (simp; done) | (simp [*]; done)), H', ⟨by have := HK1.out; first | omega | exact Nat.le_refl _⟩, ⟨by (with_reducible repeat (first | apply Kd.S_alloc | apply Kd.S_drewN | apply Kd.S_drew)); exact HO_3.out⟩, ⟨by repeat (first | (with_reducible first | exact HB.out | apply below_alloc | apply pw_below_drewN | apply below_drew1) | exact HB.out)⟩⟩
        · rw [if_neg c3] at H
          have c3b0 : decide (x4_1 < (l0.length : Int)) = false := decide_eq_false c3
          clear c3
          (first | rw [c3b0] | (simp only [i64_w, i32_w]; rw [c3b0]) | skip)
          have H' := Aside0.mk H
          clear H
          go_wp2
          go_meet
          case rel => exact ⟨_, (false), (by first | rfl | (simp; done) | (simp [*]; done)), H', ⟨by have := HK1.out; first | omega | exact Nat.le_refl _⟩, ⟨by (with_reducible repeat (first | apply Kd.S_alloc | apply Kd.S_drewN | apply Kd.S_drew)); exact HO_3.out⟩, ⟨by repeat (first | (with_reducible first | exact HB.out | apply below_alloc | apply pw_below_drewN | apply below_drew1) | exact HB.out)⟩⟩
      case rest =>
        clear HC2
        try clear c1
        try clear p2
        try clear c3
        try clear c3b0
        obtain ⟨kq, x15_1, rfl, HA, HJ1, HO_3, HB⟩ := hcut
        cases kq with
        | zero => exact absurd HA.out (by simp [stratumlaw03_Of.j1])
        | succ kj1 =>
          have H := HA.out
          clear HA
          simp only [stratumlaw03_Of.j1] at H
          by_cases c4 : x15_1 = true
          · subst c4
            have H1 : (if 0 ≤ x4_1 then (if x4_1 < (l0.length : Int) then (stratumlaw03_Of.l1 kj1 l0 x3_1 x4_1 1 0 (wrap64 (1 + (wrap64 (Int.tmod ((rd_T81 l0 x4_1).f0) 200)))) ([] : List Int)) else (none)) else (none)) = some r := by rw [if_pos rfl] at H; exact H
            clear H
            have H := H1
            clear H1
            by_cases c5 : 0 ≤ x4_1
            · rw [if_pos c5] at H
              have c5b0 : decide (0 ≤ x4_1) = true := decide_eq_true c5
              clear c5
              by_cases c6 : x4_1 < (l0.length : Int)
              · rw [if_pos c6] at H
                have c6b0 : decide (x4_1 < (l0.length : Int)) = true := decide_eq_true c6
                clear c6
                have H' := Aside0.mk H
                clear H
                have p107 : 0 ≤ (x4_1 : Int) := of_decide_eq_true (by first | (with_reducible assumption) | assumption)
                have q107 : x4_1 < (l0.length : Int) := of_decide_eq_true (by first | (with_reducible assumption) | assumption)
                obtain ⟨ad107, A107_1, c107_1, e107, hx107_0, hx107_1, hl107_1, hi107_1⟩ := at_T81 HR0.out x4_1 p107 q107
                cases e107
                replace hx107_0 := (HB.out.cell (World.block_lt_of_cell? w _ hx107_0)).trans hx107_0
                replace hx107_1 := (HB.out.cell (World.block_lt_of_cell? w _ hx107_1)).trans hx107_1
                have HR107_1 := Aside0.mk hi107_1
                have HC107_1 := Aside0.mk hl107_1
                clear hi107_1 hl107_1
                replace p107 := eq_true p107
                replace q107 := eq_true q107
                go_wp2_with (first | ((with_reducible refine gate_dst (N := 5) rfl ?_); refine box_event ?hg (N := 5) ?hd (cs := #[.int .i64 0, .slice none 0 0]) (t := 29) ?hr ?_; (case hd => rfl); (case hg => rfl); (case hr => first | (go_simp; done) | (go_simp; rfl)); intro gb108 hg w7 hbox hb; have n0_ := Aside0.mk (Kd.S_below (Kd.S_elderB (by (with_reducible repeat (first | apply Kd.S_alloc | apply Kd.S_drewN | apply Kd.S_drew)); exact HO_3.out) gb108 (Nat.le_of_eq hg.symm)) hb); have n1_ := Aside0.mk (below_step (by repeat (first | (with_reducible first | exact HB.out | apply below_alloc | apply pw_below_drewN | apply below_drew1) | exact HB.out)) hb); have n2_ := Aside0.mk (hbox); have n3_ := Aside0.mk ((by rw [hg]; exact (below_size (by repeat (first | (with_reducible first | exact HB.out | apply below_alloc | apply pw_below_drewN | apply below_drew1) | exact HB.out))) : w.heap.size ≤ gb108)); have n4_ := Aside0.mk ((by rw [hg]; exact (below_size (by repeat (first | (with_reducible first | exact HB.out | apply below_alloc | apply pw_below_drewN | apply below_drew1) | exact HB.out))) : w.heap.size ≤ gb108)); clear HO_3; clear HB; have HO_3 := n0_; have HB := n1_; have BK108 := n2_; have GW108 := n3_; have GE108 := n4_; clear n0_ n1_ n2_ n3_ n4_; clear hb hbox hg; have hcz8_0 : w7.cell? ⟨gb108, 0, none⟩ = some (.int .i64 0) := (blk_cell BK108.out 0).trans rfl; have hcz8_1 : w7.cell? ⟨gb108, 1, none⟩ = some (.slice none 0 0) := (blk_cell BK108.out 1).trans rfl; have hfz8_0 := blk_frozen BK108.out 0; have hfz8_1 := blk_frozen BK108.out 1))
                go_loopg [6, 7] kj1 (fun kq v6 v7 w' => ∃ (x6_3 : Int) (x7_3 : Int) (x109001_3 : List Int) (u109001 : Value), v6 = .int .i64 x6_3 ∧ v7 = .int .i64 x7_3 ∧ Aside0 (stratumlaw03_Of.l1 kq l0 x3_1 x4_1 x6_3 x7_3 (wrap64 (1 + (wrap64 (Int.tmod ((rd_T81 l0 x4_1).f0) 200)))) x109001_3 = some r) ∧ Aside0 (kq ≤ kj1) ∧ Aside0 (Kd.S k29 29 w' w.heap.size (fun k_ => some k_ ≠ (u109001 : Value).ownBlock ∧ k_ ≠ gb108) u3 x3_1) ∧ Aside0 (Kd.R (Kd.int .i64) 3 w' w.heap.size (fun _ => True) u109001 x109001_3) ∧ Aside0 (w'.heap[gb108]? = some (.cells #[.int .i64 (wrap64 (1 + (wrap64 (Int.tmod ((rd_T81 l0 x4_1).f0) 200)))), u109001] 29 (0, 0))) ∧ Aside0 (Below w.heap.size w w'))
                case atStart => exact ⟨(1), (0), (([] : List Int)), (.slice none 0 0), (by first | rfl | (simp; done) | (simp [*]; done)), (by first | rfl | (simp; done) | (simp [*]; done)), H', ⟨Nat.le_refl _⟩, ⟨by (with_reducible repeat (first | apply Kd.S_alloc | apply Kd.S_drewN | apply Kd.S_drew)); exact Kd.S_mono (Kd.S_far (p := ⟨gb108, 1, none⟩) (Kd.S_far (p := ⟨gb108, 0, none⟩) (Kd.S_mono HO_3.out (fun k_ hk => (⟨hk, hk.2⟩ : _ ∧ k_ ≠ gb108))) (fun _ hk => hk.2) (.int .i64 (wrap64 (1 + (wrap64 (Int.tmod ((rd_T81 l0 x4_1).f0) 200)))))) (fun _ hk => hk.2) (.slice none 0 0)) (fun _ hk => ⟨(by simp [Value.ownBlock]), hk.1.2⟩)⟩, ⟨by first | exact Kd.R_nil _ _ _ _ _ | exact Kd.N_nil _ _ _ _ _ | exact Kd.V_nil _ _ _ _ _ | exact Kd.Q_nil _ _ _ _ _ | exact Kd.S_nil _ _ _ _ _⟩, ⟨by (with_reducible repeat (first | refine blk_drewN ?_ _ | refine blk_drew ?_ | refine blk_alloc ?_ _)); refine blk_put (cs := #[.int .i64 (wrap64 (1 + (wrap64 (Int.tmod ((rd_T81 l0 x4_1).f0) 200)))), .slice none 0 0]) ?_ 1 _ rfl; (with_reducible repeat (first | refine blk_drewN ?_ _ | refine blk_drew ?_ | refine blk_alloc ?_ _)); refine blk_put (cs := #[.int .i64 0, .slice none 0 0]) ?_ 0 _ rfl; (with_reducible repeat (first | refine blk_drewN ?_ _ | refine blk_drew ?_ | refine blk_alloc ?_ _)); exact BK108.out⟩, ⟨by repeat (first | (with_reducible first | exact HB.out | apply below_alloc | apply pw_below_drewN | apply below_drew1 | refine below_set ?_ GE108.out) | exact HB.out)⟩⟩
                case round =>
                  clear H'
                  try clear c1
                  try clear p1
                  try clear q1
                  try clear hx1
                  try clear p2
                  try clear c3
                  try clear c3b0
                  try clear c4
                  try clear c5
                  try clear c5b0
                  try clear c6
                  try clear c6b0
                  try clear p6
                  try clear hcz8_0
                  try clear hcz8_1
                  try clear hfz8_0
                  try clear hfz8_1
                  try clear hx107_0
                  try clear hx107_1
                  try clear p107
                  try clear p2
                  try clear q107
                  obtain ⟨x6_3, x7_3, x109001_3, u109001, rfl, rfl, HA, HK3, HO_3, HO_109001, BK108, HB⟩ := hrel
                  cases gk with
                  | zero => exact absurd HA.out (by simp [stratumlaw03_Of.l1])
                  | succ k3 =>
                    have H := HA.out
                    clear HA
                    simp only [stratumlaw03_Of.l1] at H
                    by_cases c9 : 0 ≤ x4_1
                    · rw [if_pos c9] at H
                      have c9b0 : decide (0 ≤ x4_1) = true := decide_eq_true c9
                      clear c9
                      by_cases c10 : x4_1 < (l0.length : Int)
                      · rw [if_pos c10] at H
                        have c10b0 : decide (x4_1 < (l0.length : Int)) = true := decide_eq_true c10
                        clear c10
                        by_cases c11 : x7_3 < (((rd_T81 l0 x4_1).f1).length : Int)
                        · rw [if_pos c11] at H
                          have c11b0 : decide (x7_3 < (((rd_T81 l0 x4_1).f1).length : Int)) = true := decide_eq_true c11
                          clear c11
                          by_cases c12 : x7_3 < 4
                          · rw [if_pos c12] at H
                            have c12b0 : decide (x7_3 < 4) = true := decide_eq_true c12
                            clear c12
                            by_cases c13 : 0 ≤ x7_3
                            · rw [if_pos c13] at H
                              have c13b0 : decide (0 ≤ x7_3) = true := decide_eq_true c13
                              clear c13
                              by_cases c14 : x109001_3.length < 17592186044416
                              · rw [if_pos c14] at H
                                have LMc14 := Aside0.mk c14
                                clear c14
                                obtain ⟨y112, hy112⟩ : ∃ y_ : List Int, y_ = (x109001_3 ++ [wrap64 (x6_3 * (wrap64 (2 + (wrap64 (Int.tmod (rd ((rd_T81 l0 x4_1).f1) x7_3) 4)))))]) := ⟨_, rfl⟩
                                replace H : (stratumlaw03_Of.l1 k3 l0 x3_1 x4_1 (wrap64 (x6_3 * (wrap64 (2 + (wrap64 (Int.tmod (rd ((rd_T81 l0 x4_1).f1) x7_3) 4)))))) (wrap64 (x7_3 + 1)) (wrap64 (1 + (wrap64 (Int.tmod ((rd_T81 l0 x4_1).f0) 200)))) y112) = some r := by first | (rw [hy112]; with_reducible exact H) | (have H2_ := (Option.bind_some _ _).symm.trans H; rw [hy112]; with_reducible exact H2_) | (have H2_ := (Option.bind_some _ _).symm.trans H; with_reducible exact H2_) | with_reducible exact H | (rw [hy112]; exact H) | exact H
                                have Ny112 := Aside0.mk hy112
                                clear hy112
                                have H' := Aside0.mk H
                                clear H
                                have p109 : 0 ≤ (x4_1 : Int) := of_decide_eq_true (by first | (with_reducible assumption) | assumption)
                                have q109 : x4_1 < (l0.length : Int) := of_decide_eq_true (by first | (with_reducible assumption) | assumption)
                                obtain ⟨ad109, A109_1, c109_1, e109, hx109_0, hx109_1, hl109_1, hi109_1⟩ := at_T81 HR0.out x4_1 p109 q109
                                obtain rfl : ad107 = ad109 := (by injection e109)
                                replace hx109_0 := (HB.out.cell (World.block_lt_of_cell? w _ hx109_0)).trans hx109_0
                                replace hx109_1 := (HB.out.cell (World.block_lt_of_cell? w _ hx109_1)).trans hx109_1
                                have HR109_1 := Aside0.mk hi109_1
                                have HC109_1 := Aside0.mk hl109_1
                                clear hi109_1 hl109_1
                                replace p109 := eq_true p109
                                replace q109 := eq_true q109
                                have p110 : 0 ≤ (x4_1 : Int) := of_decide_eq_true (by first | (with_reducible assumption) | assumption)
                                have q110 : x4_1 < (l0.length : Int) := of_decide_eq_true (by first | (with_reducible assumption) | assumption)
                                obtain ⟨ad110, A110_1, c110_1, e110, hx110_0, hx110_1, hl110_1, hi110_1⟩ := at_T81 HR0.out x4_1 p110 q110
                                obtain rfl : ad107 = ad110 := (by injection e110)
                                replace hx110_0 := (HB.out.cell (World.block_lt_of_cell? w _ hx110_0)).trans hx110_0
                                replace hx110_1 := (HB.out.cell (World.block_lt_of_cell? w _ hx110_1)).trans hx110_1
                                have HR110_1 := Aside0.mk hi110_1
                                have HC110_1 := Aside0.mk hl110_1
                                clear hi110_1 hl110_1
                                replace p110 := eq_true p110
                                replace q110 := eq_true q110
                                have ea_ := Option.some.inj (hx109_1.symm.trans hx110_1)
                                injection ea_ with ea_ en_ ec_
                                subst ea_
                                subst ec_
                                clear en_
                                have p111 : 0 ≤ (x7_3 : Int) := of_decide_eq_true (by first | (with_reducible assumption) | assumption)
                                have q111 : x7_3 < (((rd_T81 l0 x4_1).f1).length : Int) := of_decide_eq_true (by first | (with_reducible assumption) | assumption)
                                obtain ⟨ad111, e111, hx111_0⟩ := Kd.at_int HR110_1.out x7_3 p111 q111
                                cases e111
                                replace hx111_0 := (HB.out.cell (World.block_lt_of_cell? w _ hx111_0)).trans hx111_0
                                replace p111 := eq_true p111
                                replace q111 := eq_true q111
                                have hcz15_0 : wr.cell? ⟨gb108, 0, none⟩ = some (.int .i64 (wrap64 (1 + (wrap64 (Int.tmod ((rd_T81 l0 x4_1).f0) 200))))) := (blk_cell BK108.out 0).trans rfl
                                have hcz15_1 : wr.cell? ⟨gb108, 1, none⟩ = some (u109001) := (blk_cell BK108.out 1).trans rfl
                                have hfz15_0 := blk_frozen BK108.out 0
                                have hfz15_1 := blk_frozen BK108.out 1
                                go_wp2_with (first | ((with_reducible refine gate_builtin (b := .append) (xs := #[.tmp 55, .tmp 57]) rfl ?_); at_builtin; refine Kd.R_append (Kd.int .i64) (w0 := w) w.heap.size rfl (.tmp 55) (.tmp 57) 26 3 (.int .i64 0) 8 rfl Try.underlying26 info3 rfl (by decide) (by omega) u109001 x109001_3 (wrap64 (x6_3 * (wrap64 (2 + (wrap64 (Int.tmod (rd ((rd_T81 l0 x4_1).f1) x7_3) 4)))))) [.int .i64 (wrap64 (x6_3 * (wrap64 (2 + (wrap64 (Int.tmod (rd ((rd_T81 l0 x4_1).f1) x7_3) 4))))))] (fun _ => True) (fun _ => False) rfl rfl ?aP (fun _ hk => hk.elim) ?aF ?aO ?aB ?aS ?aL ?_; (case aP => exact rfl); (case aB => exact (by repeat (first | (with_reducible first | exact HB.out | apply below_alloc | apply pw_below_drewN | apply below_drew1 | refine below_set ?_ GE108.out) | exact HB.out))); (case aF => exact (fun _ _ => trivial)); (case aO => exact (by (with_reducible repeat (first | apply Kd.R_alloc | apply Kd.R_drewN | apply Kd.R_drew)); exact HO_109001.out)); (case aS => exact (below_size (by repeat (first | (with_reducible first | exact HB.out | apply below_alloc | apply pw_below_drewN | apply below_drew1 | refine below_set ?_ GE108.out) | exact HB.out)))); (case aL => have := LMc14.out; omega); intro v113 w16 ho hb hg hat; rw [← Ny112.out] at ho; have n0_ := Aside0.mk (Kd.S_after (ok := (fun k_ => k_ ≠ gb108)) (by (with_reducible repeat (first | apply Kd.S_alloc | apply Kd.S_drewN | apply Kd.S_drew)); exact Kd.S_mono HO_3.out (fun _ hk => ⟨hk.2, hk.1⟩)) hg hat); have n1_ := Aside0.mk (blk_grown (g := gb108) (o := .cells #[.int .i64 (wrap64 (1 + (wrap64 (Int.tmod ((rd_T81 l0 x4_1).f0) 200)))), u109001] 29 (0, 0)) (by (with_reducible repeat (first | refine blk_drewN ?_ _ | refine blk_drew ?_ | refine blk_alloc ?_ _)); exact BK108.out) hg (Kd.R_ne HO_109001.out BK108.out (by decide))); have n2_ := Aside0.mk (hb); have n3_ := Aside0.mk (ho); clear HO_3; clear BK108; clear HB; clear HO_109001; have HO_3 := n0_; have BK108 := n1_; have HB := n2_; have HO114 := n3_; clear n0_ n1_ n2_ n3_; clear ho hb hg hat; obtain ⟨Ao17, co17, eo17⟩ := Kd.R_slice HO114.out; subst eo17; have hcz18_0 : w16.cell? ⟨gb108, 0, none⟩ = some (.int .i64 (wrap64 (1 + (wrap64 (Int.tmod ((rd_T81 l0 x4_1).f0) 200))))) := (blk_cell BK108.out 0).trans rfl; have hcz18_1 : w16.cell? ⟨gb108, 1, none⟩ = some (u109001) := (blk_cell BK108.out 1).trans rfl; have hfz18_0 := blk_frozen BK108.out 0; have hfz18_1 := blk_frozen BK108.out 1))
                                go_roundg k3
                                case measure => have := HK1.out; have := HJ1.out; have := HK3.out; omega
                                case rel => exact ⟨(wrap64 (x6_3 * (wrap64 (2 + (wrap64 (Int.tmod (rd ((rd_T81 l0 x4_1).f1) x7_3) 4)))))), (wrap64 (x7_3 + 1)), (y112), (.slice Ao17 y112.length co17), (by first | rfl | (simp; done) | (simp [*]; done)), (by first | rfl | (simp; done) | (simp [*]; done)), H', ⟨by have := HK1.out; have := HJ1.out; have := HK3.out; omega⟩, ⟨by (with_reducible repeat (first | apply Kd.S_alloc | apply Kd.S_drewN | apply Kd.S_drew)); exact Kd.S_mono (Kd.S_far (p := ⟨gb108, 1, none⟩) (Kd.S_mono HO_3.out (fun k_ hk => (⟨hk, hk.1⟩ : _ ∧ k_ ≠ gb108))) (fun _ hk => hk.2) (.slice Ao17 y112.length co17)) (fun _ hk => ⟨hk.1.2, hk.1.1⟩)⟩, ⟨by (with_reducible repeat (first | apply Kd.R_alloc | apply Kd.R_drewN | apply Kd.R_drew)); exact Kd.R_mono (Kd.R_far (p := ⟨gb108, 1, none⟩) (Kd.R_types HO114.out BK108.out (by decide)) (fun _ hk => hk.2) (.slice Ao17 y112.length co17)) (fun _ hk => trivial)⟩, ⟨by (with_reducible repeat (first | refine blk_drewN ?_ _ | refine blk_drew ?_ | refine blk_alloc ?_ _)); refine blk_put (cs := #[.int .i64 (wrap64 (1 + (wrap64 (Int.tmod ((rd_T81 l0 x4_1).f0) 200)))), u109001]) ?_ 1 _ rfl; (with_reducible repeat (first | refine blk_drewN ?_ _ | refine blk_drew ?_ | refine blk_alloc ?_ _)); exact BK108.out⟩, ⟨by repeat (first | (with_reducible first | exact HB.out | apply below_alloc | apply pw_below_drewN | apply below_drew1 | refine below_set ?_ GE108.out) | exact HB.out)⟩⟩
                              · rw [if_neg c14] at H
                                exact absurd H (by simp)
                            · rw [if_neg c13] at H
                              exact absurd H (by simp)
                          · rw [if_neg c12] at H
                            have c12b0 : decide (x7_3 < 4) = false := decide_eq_false c12
                            clear c12
                            by_cases c19 : x3_1.length < 4398046511104
                            · rw [if_pos c19] at H
                              have LMc19 := Aside0.mk c19
                              clear c19
                              obtain ⟨y115, hy115⟩ : ∃ y_ : List (S29), y_ = (x3_1 ++ [(⟨(wrap64 (1 + (wrap64 (Int.tmod ((rd_T81 l0 x4_1).f0) 200)))), x109001_3⟩ : S29)]) := ⟨_, rfl⟩
                              replace H : (stratumlaw03_Of.l0 k3 l0 y115 (wrap64 (x4_1 + 1))) = some r := by first | (rw [hy115]; with_reducible exact H) | (have H2_ := (Option.bind_some _ _).symm.trans H; rw [hy115]; with_reducible exact H2_) | (have H2_ := (Option.bind_some _ _).symm.trans H; with_reducible exact H2_) | with_reducible exact H | (rw [hy115]; exact H) | exact H
                              have Ny115 := Aside0.mk hy115
                              clear hy115
                              have H' := Aside0.mk H
                              clear H
                              have p109 : 0 ≤ (x4_1 : Int) := of_decide_eq_true (by first | (with_reducible assumption) | assumption)
                              have q109 : x4_1 < (l0.length : Int) := of_decide_eq_true (by first | (with_reducible assumption) | assumption)
                              obtain ⟨ad109, A109_1, c109_1, e109, hx109_0, hx109_1, hl109_1, hi109_1⟩ := at_T81 HR0.out x4_1 p109 q109
                              obtain rfl : ad107 = ad109 := (by injection e109)
                              replace hx109_0 := (HB.out.cell (World.block_lt_of_cell? w _ hx109_0)).trans hx109_0
                              replace hx109_1 := (HB.out.cell (World.block_lt_of_cell? w _ hx109_1)).trans hx109_1
                              have HR109_1 := Aside0.mk hi109_1
                              have HC109_1 := Aside0.mk hl109_1
                              clear hi109_1 hl109_1
                              replace p109 := eq_true p109
                              replace q109 := eq_true q109
                              have hcz20_0 : wr.cell? ⟨gb108, 0, none⟩ = some (.int .i64 (wrap64 (1 + (wrap64 (Int.tmod ((rd_T81 l0 x4_1).f0) 200))))) := (blk_cell BK108.out 0).trans rfl
                              have hcz20_1 : wr.cell? ⟨gb108, 1, none⟩ = some (u109001) := (blk_cell BK108.out 1).trans rfl
                              have hfz20_0 := blk_frozen BK108.out 0
                              have hfz20_1 := blk_frozen BK108.out 1
                              obtain ⟨Ao22, co22, eo22⟩ := Kd.R_slice HO_109001.out
                              subst eo22
                              go_wp2_with (first | ((with_reducible refine gate_builtin (b := .append) (xs := #[.tmp 60, .tmp 62]) rfl ?_); at_builtin; refine Kd.S_append k29 (w0 := w) w.heap.size rfl (.tmp 60) (.tmp 62) 24 29 (.agg #[(.int .i64 0), (.slice none 0 0)]) 32 rfl Try.underlying24 info29 rfl (by decide) (by omega) u3 x3_1 (⟨(wrap64 (1 + (wrap64 (Int.tmod ((rd_T81 l0 x4_1).f0) 200)))), x109001_3⟩ : S29) [.int .i64 (wrap64 (1 + (wrap64 (Int.tmod ((rd_T81 l0 x4_1).f0) 200)))), .slice Ao22 x109001_3.length co22] (fun k_ => k_ ≠ gb108) (fun k_ => some k_ = (.slice Ao22 x109001_3.length co22 : Value).ownBlock) rfl rfl ?aP (fun k_ hk_ => ((Kd.R_mono (ok' := fun k_ => ((fun k_ => k_ ≠ gb108)) k_ ∧ some k_ ≠ (u3 : Value).ownBlock) (Kd.R_types (Kd.R_apart' (HO_109001.out) (Kd.S_typed HO_3.out) (by decide)) BK108.out (by decide)) (fun k_ hk => ⟨hk.2, hk.1.2⟩))).1 k_ hk_.symm) ?aF ?aO ?aB ?aS ?aL ?_; (case aP => exact k29_mkM _ _ _ (⟨(wrap64 (1 + (wrap64 (Int.tmod ((rd_T81 l0 x4_1).f0) 200)))), x109001_3⟩ : S29) (Kd.R_mono (Kd.R_tight rfl (Kd.R_mono (ok' := fun k_ => ((fun k_ => k_ ≠ gb108)) k_ ∧ some k_ ≠ (u3 : Value).ownBlock) (Kd.R_types (Kd.R_apart' (HO_109001.out) (Kd.S_typed HO_3.out) (by decide)) BK108.out (by decide)) (fun k_ hk => ⟨hk.2, hk.1.2⟩))) (fun _ h_ => h_))); (case aB => exact (by repeat (first | (with_reducible first | exact HB.out | apply below_alloc | apply pw_below_drewN | apply below_drew1 | refine below_set ?_ GE108.out) | exact HB.out))); (case aF => exact (fun k_ hk => Kd.freshB (g := gb108) (o := .cells #[.int .i64 (wrap64 (1 + (wrap64 (Int.tmod ((rd_T81 l0 x4_1).f0) 200)))), .slice Ao22 x109001_3.length co22] 29 (0, 0)) (by (with_reducible repeat (first | refine blk_drewN ?_ _ | refine blk_drew ?_ | refine blk_alloc ?_ _)); exact BK108.out) k_ hk)); (case aO => exact (by (with_reducible repeat (first | apply Kd.S_alloc | apply Kd.S_drewN | apply Kd.S_drew)); exact Kd.S_mono HO_3.out (fun k_ hk => ⟨hk.2, fun e_ => hk.1 e_⟩))); (case aS => exact (below_size (by repeat (first | (with_reducible first | exact HB.out | apply below_alloc | apply pw_below_drewN | apply below_drew1 | refine below_set ?_ GE108.out) | exact HB.out)))); (case aL => have := LMc19.out; omega); intro v116 w21 ho hb hg hat; rw [← Ny115.out] at ho; have n0_ := Aside0.mk (blk_grown (g := gb108) (o := .cells #[.int .i64 (wrap64 (1 + (wrap64 (Int.tmod ((rd_T81 l0 x4_1).f0) 200)))), .slice Ao22 x109001_3.length co22] 29 (0, 0)) (by (with_reducible repeat (first | refine blk_drewN ?_ _ | refine blk_drew ?_ | refine blk_alloc ?_ _)); exact BK108.out) hg (Kd.S_away HO_3.out (fun _ hk => hk.2))); have n1_ := Aside0.mk (hb); have n2_ := Aside0.mk (ho); clear BK108; clear HB; clear HO_3; clear HO_109001; have BK108 := n0_; have HB := n1_; have HO117 := n2_; clear n0_ n1_ n2_; clear ho hb hg hat))
                              go_roundg k3
                              case measure => have := HK1.out; have := HJ1.out; have := HK3.out; omega
                              case rel => exact ⟨(y115), (wrap64 (x4_1 + 1)), (by first | rfl | (simp; done) | (simp [*]; done)), H', ⟨by have := HK1.out; have := HJ1.out; have := HK3.out; omega⟩, ⟨by (with_reducible repeat (first | apply Kd.S_alloc | apply Kd.S_drewN | apply Kd.S_drew)); exact Kd.S_mono HO117.out (fun _ hk => trivial)⟩, ⟨by repeat (first | (with_reducible first | exact HB.out | apply below_alloc | apply pw_below_drewN | apply below_drew1 | refine below_set ?_ GE108.out) | exact HB.out)⟩⟩
                            · rw [if_neg c19] at H
                              exact absurd H (by simp)
                        · rw [if_neg c11] at H
                          have c11b0 : decide (x7_3 < (((rd_T81 l0 x4_1).f1).length : Int)) = false := decide_eq_false c11
                          clear c11
                          by_cases c23 : x3_1.length < 4398046511104
                          · rw [if_pos c23] at H
                            have LMc23 := Aside0.mk c23
                            clear c23
                            obtain ⟨y118, hy118⟩ : ∃ y_ : List (S29), y_ = (x3_1 ++ [(⟨(wrap64 (1 + (wrap64 (Int.tmod ((rd_T81 l0 x4_1).f0) 200)))), x109001_3⟩ : S29)]) := ⟨_, rfl⟩
                            replace H : (stratumlaw03_Of.l0 k3 l0 y118 (wrap64 (x4_1 + 1))) = some r := by first | (rw [hy118]; with_reducible exact H) | (have H2_ := (Option.bind_some _ _).symm.trans H; rw [hy118]; with_reducible exact H2_) | (have H2_ := (Option.bind_some _ _).symm.trans H; with_reducible exact H2_) | with_reducible exact H | (rw [hy118]; exact H) | exact H
                            have Ny118 := Aside0.mk hy118
                            clear hy118
                            have H' := Aside0.mk H
                            clear H
                            have p109 : 0 ≤ (x4_1 : Int) := of_decide_eq_true (by first | (with_reducible assumption) | assumption)
                            have q109 : x4_1 < (l0.length : Int) := of_decide_eq_true (by first | (with_reducible assumption) | assumption)
                            obtain ⟨ad109, A109_1, c109_1, e109, hx109_0, hx109_1, hl109_1, hi109_1⟩ := at_T81 HR0.out x4_1 p109 q109
                            obtain rfl : ad107 = ad109 := (by injection e109)
                            replace hx109_0 := (HB.out.cell (World.block_lt_of_cell? w _ hx109_0)).trans hx109_0
                            replace hx109_1 := (HB.out.cell (World.block_lt_of_cell? w _ hx109_1)).trans hx109_1
                            have HR109_1 := Aside0.mk hi109_1
                            have HC109_1 := Aside0.mk hl109_1
                            clear hi109_1 hl109_1
                            replace p109 := eq_true p109
                            replace q109 := eq_true q109
                            have hcz24_0 : wr.cell? ⟨gb108, 0, none⟩ = some (.int .i64 (wrap64 (1 + (wrap64 (Int.tmod ((rd_T81 l0 x4_1).f0) 200))))) := (blk_cell BK108.out 0).trans rfl
                            have hcz24_1 : wr.cell? ⟨gb108, 1, none⟩ = some (u109001) := (blk_cell BK108.out 1).trans rfl
                            have hfz24_0 := blk_frozen BK108.out 0
                            have hfz24_1 := blk_frozen BK108.out 1
                            obtain ⟨Ao26, co26, eo26⟩ := Kd.R_slice HO_109001.out
                            subst eo26
                            go_wp2_with (first | ((with_reducible refine gate_builtin (b := .append) (xs := #[.tmp 60, .tmp 62]) rfl ?_); at_builtin; refine Kd.S_append k29 (w0 := w) w.heap.size rfl (.tmp 60) (.tmp 62) 24 29 (.agg #[(.int .i64 0), (.slice none 0 0)]) 32 rfl Try.underlying24 info29 rfl (by decide) (by omega) u3 x3_1 (⟨(wrap64 (1 + (wrap64 (Int.tmod ((rd_T81 l0 x4_1).f0) 200)))), x109001_3⟩ : S29) [.int .i64 (wrap64 (1 + (wrap64 (Int.tmod ((rd_T81 l0 x4_1).f0) 200)))), .slice Ao26 x109001_3.length co26] (fun k_ => k_ ≠ gb108) (fun k_ => some k_ = (.slice Ao26 x109001_3.length co26 : Value).ownBlock) rfl rfl ?aP (fun k_ hk_ => ((Kd.R_mono (ok' := fun k_ => ((fun k_ => k_ ≠ gb108)) k_ ∧ some k_ ≠ (u3 : Value).ownBlock) (Kd.R_types (Kd.R_apart' (HO_109001.out) (Kd.S_typed HO_3.out) (by decide)) BK108.out (by decide)) (fun k_ hk => ⟨hk.2, hk.1.2⟩))).1 k_ hk_.symm) ?aF ?aO ?aB ?aS ?aL ?_; (case aP => exact k29_mkM _ _ _ (⟨(wrap64 (1 + (wrap64 (Int.tmod ((rd_T81 l0 x4_1).f0) 200)))), x109001_3⟩ : S29) (Kd.R_mono (Kd.R_tight rfl (Kd.R_mono (ok' := fun k_ => ((fun k_ => k_ ≠ gb108)) k_ ∧ some k_ ≠ (u3 : Value).ownBlock) (Kd.R_types (Kd.R_apart' (HO_109001.out) (Kd.S_typed HO_3.out) (by decide)) BK108.out (by decide)) (fun k_ hk => ⟨hk.2, hk.1.2⟩))) (fun _ h_ => h_))); (case aB => exact (by repeat (first | (with_reducible first | exact HB.out | apply below_alloc | apply pw_below_drewN | apply below_drew1 | refine below_set ?_ GE108.out) | exact HB.out))); (case aF => exact (fun k_ hk => Kd.freshB (g := gb108) (o := .cells #[.int .i64 (wrap64 (1 + (wrap64 (Int.tmod ((rd_T81 l0 x4_1).f0) 200)))), .slice Ao26 x109001_3.length co26] 29 (0, 0)) (by (with_reducible repeat (first | refine blk_drewN ?_ _ | refine blk_drew ?_ | refine blk_alloc ?_ _)); exact BK108.out) k_ hk)); (case aO => exact (by (with_reducible repeat (first | apply Kd.S_alloc | apply Kd.S_drewN | apply Kd.S_drew)); exact Kd.S_mono HO_3.out (fun k_ hk => ⟨hk.2, fun e_ => hk.1 e_⟩))); (case aS => exact (below_size (by repeat (first | (with_reducible first | exact HB.out | apply below_alloc | apply pw_below_drewN | apply below_drew1 | refine below_set ?_ GE108.out) | exact HB.out)))); (case aL => have := LMc23.out; omega); intro v119 w25 ho hb hg hat; rw [← Ny118.out] at ho; have n0_ := Aside0.mk (blk_grown (g := gb108) (o := .cells #[.int .i64 (wrap64 (1 + (wrap64 (Int.tmod ((rd_T81 l0 x4_1).f0) 200)))), .slice Ao26 x109001_3.length co26] 29 (0, 0)) (by (with_reducible repeat (first | refine blk_drewN ?_ _ | refine blk_drew ?_ | refine blk_alloc ?_ _)); exact BK108.out) hg (Kd.S_away HO_3.out (fun _ hk => hk.2))); have n1_ := Aside0.mk (hb); have n2_ := Aside0.mk (ho); clear BK108; clear HB; clear HO_3; clear HO_109001; have BK108 := n0_; have HB := n1_; have HO120 := n2_; clear n0_ n1_ n2_; clear ho hb hg hat))
                            go_roundg k3
                            case measure => have := HK1.out; have := HJ1.out; have := HK3.out; omega
                            case rel => exact ⟨(y118), (wrap64 (x4_1 + 1)), (by first | rfl | (simp; done) | (simp [*]; done)), H', ⟨by have := HK1.out; have := HJ1.out; have := HK3.out; omega⟩, ⟨by (with_reducible repeat (first | apply Kd.S_alloc | apply Kd.S_drewN | apply Kd.S_drew)); exact Kd.S_mono HO120.out (fun _ hk => trivial)⟩, ⟨by repeat (first | (with_reducible first | exact HB.out | apply below_alloc | apply pw_below_drewN | apply below_drew1 | refine below_set ?_ GE108.out) | exact HB.out)⟩⟩
                          · rw [if_neg c23] at H
                            exact absurd H (by simp)
                      · rw [if_neg c10] at H
                        exact absurd H (by simp)
                    · rw [if_neg c9] at H
                      exact absurd H (by simp)
              · rw [if_neg c6] at H
                exact absurd H (by simp)
            · rw [if_neg c5] at H
              exact absurd H (by simp)
          · replace c4 := Bool.eq_false_iff.mpr c4
            subst c4
            have H1 : (if (x3_1.length : Int) = 0 then (if x3_1.length < 4398046511104 then (some (x3_1 ++ [(⟨100, (([10] : List Int))⟩ : S29)])) else (none)) else (some x3_1)) = some r := by rw [if_neg (show ¬ (false = true) by decide)] at H; exact H
            clear H
            have H := H1
            clear H1
            by_cases c27 : (x3_1.length : Int) = 0
            · rw [if_pos c27] at H
              have c27b0 : ((x3_1.length : Int) == 0) = true := beq_iff_eq.mpr c27
              have c27b1 : ((x3_1.length : Int) != 0) = false := bne_eq_false_iff_eq.mpr c27
              clear c27
              obtain ⟨y101, hy101⟩ : ∃ y_ : List Int, y_ = (([10] : List Int)) := ⟨_, rfl⟩
              replace H : (if x3_1.length < 4398046511104 then (some (x3_1 ++ [(⟨100, y101⟩ : S29)])) else (none)) = some r := by first | (rw [hy101]; with_reducible exact H) | (have H2_ := (Option.bind_some _ _).symm.trans H; rw [hy101]; with_reducible exact H2_) | (have H2_ := (Option.bind_some _ _).symm.trans H; with_reducible exact H2_) | with_reducible exact H | (rw [hy101]; exact H) | exact H
              have Ny101 := Aside0.mk hy101
              clear hy101
              by_cases c28 : x3_1.length < 4398046511104
              · rw [if_pos c28] at H
                have LMc28 := Aside0.mk c28
                clear c28
                obtain ⟨y104, hy104⟩ : ∃ y_ : List (S29), y_ = (x3_1 ++ [(⟨100, y101⟩ : S29)]) := ⟨_, rfl⟩
                replace H : (some y104) = some r := by first | (rw [hy104]; with_reducible exact H) | (have H2_ := (Option.bind_some _ _).symm.trans H; rw [hy104]; with_reducible exact H2_) | (have H2_ := (Option.bind_some _ _).symm.trans H; with_reducible exact H2_) | with_reducible exact H | (rw [hy104]; exact H) | exact H
                have Ny104 := Aside0.mk hy104
                clear hy104
                obtain rfl := Option.some.inj H
                obtain ⟨Ao29, co29, eo29⟩ := Kd.S_slice HO_3.out
                subst eo29
                go_wp2_with (first | ((with_reducible refine gate_dst (N := 68) rfl ?_); refine Kd.R_lit (Kd.int .i64) _ 3 ?hg (N := 68) ?hd (xs := ([10] : List Int)) (inner := [.int .i64 10]) (ok := fun _ => True) (okp := fun _ => True) ?hr ?hp (fun _ hk => hk) trivial (Below.refl _ _) (Nat.le_refl _) (by simp) ?_; (case hd => rfl); (case hg => rfl); (case hr => first | (go_simp; done) | (go_simp; rfl)); (case hp => exact (Reps.one (show Kd.M (Kd.int .i64) _ _ _ 10 [.int .i64 10] from rfl) (Reps.none _ _))); intro v102 w30 ho31 hb hg_ hnew_; clear hg_ hnew_; (first | rw [← Ny101.out] at ho31 | (simp only [Int.reduceToNat] at ho31; rw [← Ny101.out] at ho31)); have n0_ := Aside0.mk (Kd.S_elder' (by (with_reducible repeat (first | apply Kd.S_alloc | apply Kd.S_drewN | apply Kd.S_drew)); exact HO_3.out) (Kd.R_base ho31) hb); have n1_ := Aside0.mk (Kd.R_lower ho31 (below_size (by repeat (first | (with_reducible first | exact HB.out | apply below_alloc | apply pw_below_drewN | apply below_drew1) | exact HB.out)))); have n2_ := Aside0.mk (below_step (by repeat (first | (with_reducible first | exact HB.out | apply below_alloc | apply pw_below_drewN | apply below_drew1) | exact HB.out)) hb); clear HO_3; clear HB; have HO_3 := n0_; have HO103 := n1_; have HB := n2_; clear n0_ n1_ n2_; clear hb ho31; obtain ⟨Ao32, co32, eo32⟩ := Kd.R_slice HO103.out; subst eo32) | ((with_reducible refine gate_builtin (b := .append) (xs := #[.tmp 67, .tmp 70]) rfl ?_); at_builtin; refine Kd.S_append k29 (w0 := w) w.heap.size rfl (.tmp 67) (.tmp 70) 24 29 (.agg #[(.int .i64 0), (.slice none 0 0)]) 32 rfl Try.underlying24 info29 rfl (by decide) (by omega) (.slice Ao29 x3_1.length co29) x3_1 (⟨100, y101⟩ : S29) [.int .i64 100, .slice Ao32 y101.length co32] (fun _ => True) (fun k_ => some k_ = (.slice Ao32 y101.length co32 : Value).ownBlock) rfl rfl ?aP (fun k_ hk_ => ((Kd.R_mono (ok' := fun k_ => ((fun _ => True)) k_ ∧ some k_ ≠ (.slice Ao29 x3_1.length co29 : Value).ownBlock) (Kd.R_apart' (HO103.out) (Kd.S_typed HO_3.out) (by decide)) (fun k_ hk => ⟨trivial, hk.2⟩))).1 k_ hk_.symm) ?aF ?aO ?aB ?aS ?aL ?_; (case aP => exact k29_mkM _ _ _ (⟨100, y101⟩ : S29) (Kd.R_mono (Kd.R_tight rfl (Kd.R_mono (ok' := fun k_ => ((fun _ => True)) k_ ∧ some k_ ≠ (.slice Ao29 x3_1.length co29 : Value).ownBlock) (Kd.R_apart' (HO103.out) (Kd.S_typed HO_3.out) (by decide)) (fun k_ hk => ⟨trivial, hk.2⟩))) (fun _ h_ => h_))); (case aB => exact (by repeat (first | (with_reducible first | exact HB.out | apply below_alloc | apply pw_below_drewN | apply below_drew1) | exact HB.out))); (case aF => exact (fun _ _ => trivial)); (case aO => exact (by (with_reducible repeat (first | apply Kd.S_alloc | apply Kd.S_drewN | apply Kd.S_drew)); exact Kd.S_mono HO_3.out (fun k_ hk => ⟨trivial, fun e_ => hk.2 e_⟩))); (case aS => exact (below_size (by repeat (first | (with_reducible first | exact HB.out | apply below_alloc | apply pw_below_drewN | apply below_drew1) | exact HB.out)))); (case aL => have := LMc28.out; omega); intro v105 w33 ho hb hg hat; rw [← Ny104.out] at ho; have n0_ := Aside0.mk (hb); have n1_ := Aside0.mk (ho); clear HB; clear HO_3; clear HO103; have HB := n0_; have HO106 := n1_; clear n0_ n1_; clear ho hb hg hat))
                go_ret
                exact ⟨_, by first | rfl | (simp [errW_none, errW_some] <;> rfl) | (simp [*, errW_none, errW_some] <;> rfl), by (with_reducible repeat (first | apply Kd.S_alloc | apply Kd.S_drewN | apply Kd.S_drew)); exact HO106.out, by repeat (first | (with_reducible first | exact HB.out | apply below_alloc | apply pw_below_drewN | apply below_drew1) | exact HB.out)⟩
              · rw [if_neg c28] at H
                exact absurd H (by simp)
            · rw [if_neg c27] at H
              have c27b0 : ((x3_1.length : Int) == 0) = false := beq_eq_false_iff_ne.mpr c27
              have c27b1 : ((x3_1.length : Int) != 0) = true := bne_iff_ne.mpr c27
              have c27b2 : ¬ (x3_1 = []) := fun h_ => c27 (by rw [h_]; rfl)
              obtain rfl := Option.some.inj H
              obtain ⟨Ao34, co34, eo34⟩ := Kd.S_slice HO_3.out
              subst eo34
              go_wp2
              go_ret
              exact ⟨_, by first | rfl | (simp [errW_none, errW_some] <;> rfl) | (simp [*, errW_none, errW_some] <;> rfl), by (with_reducible repeat (first | apply Kd.S_alloc | apply Kd.S_drewN | apply Kd.S_drew)); exact HO_3.out, by repeat (first | (with_reducible first | exact HB.out | apply below_alloc | apply pw_below_drewN | apply below_drew1) | exact HB.out)⟩

/-! ### stratumlaw03_Key: function 15 -/
def stratumlaw03_Key.l0 : Nat → List (S29) → List Int → List Int → Int → Option (List Int)
  | 0, _, _, _, _ => none
  | k + 1, x0, x1, x5, x6 => if x6 < (x0.length : Int) then (if x6 < (x1.length : Int) then (if 0 ≤ x6 then (if ((rd_T29 x0 x6).f0) = 0 then (none) else (if x5.length < 17592186044416 then (stratumlaw03_Key.l0 k x0 x1 (x5 ++ [Int.tmod (wrap64 (rd x1 x6)) ((rd_T29 x0 x6).f0)]) (wrap64 (x6 + 1))) else (none))) else (none)) else (if 0 ≤ x6 then (if ((rd_T29 x0 x6).f0) = 0 then (none) else (if x5.length < 17592186044416 then (stratumlaw03_Key.l0 k x0 x1 (x5 ++ [(0 : Int) % ((rd_T29 x0 x6).f0)]) (wrap64 (x6 + 1))) else (none))) else (none))) else (some x5)
def stratumlaw03_Key.f (k : Nat) (l0 : List (S29)) (l1 : List Int) : Option (List Int) := stratumlaw03_Key.l0 k l0 l1 ([] : List Int) 0
theorem stratumlaw03_Key.mono_l : ∀ k, (∀ y0 y1 y2 y3, LeO (stratumlaw03_Key.l0 k y0 y1 y2 y3) (stratumlaw03_Key.l0 (k + 1) y0 y1 y2 y3))
  | 0 => fun _ _ _ _ r h => by simp [stratumlaw03_Key.l0] at h
  | k + 1 => by
    have ih0 := stratumlaw03_Key.mono_l k
    · intro y0 y1 y2 y3
      unfold stratumlaw03_Key.l0
      repeat' first
      | (with_reducible exact ih0 _ _ _ _)
      | (with_reducible exact LeO.refl _)
      | (with_reducible exact LeO.none _)
      | (with_reducible refine LeO.ite ?_ ?_)
      | (with_reducible refine LeO.bind ?_ (fun _ => ?_))
      | exact ih0 _ _ _ _
      | exact LeO.none _
      | refine LeO.ite ?_ ?_
      | refine LeO.bind ?_ (fun _ => ?_)
theorem stratumlaw03_Key.mono : ∀ a0 a1 k, LeO (stratumlaw03_Key.f k a0 a1) (stratumlaw03_Key.f (k + 1) a0 a1) := by
  intro a0 a1 k
  have ih0 := stratumlaw03_Key.mono_l k
  unfold stratumlaw03_Key.f
  repeat' first
      | (with_reducible exact ih0 _ _ _ _)
      | (with_reducible exact LeO.refl _)
      | (with_reducible exact LeO.none _)
      | (with_reducible refine LeO.ite ?_ ?_)
      | (with_reducible refine LeO.bind ?_ (fun _ => ?_))
      | exact ih0 _ _ _ _
      | exact LeO.none _
      | refine LeO.ite ?_ ?_
      | refine LeO.bind ?_ (fun _ => ?_)
set_option maxHeartbeats 8000000 in
set_option maxRecDepth 100000 in
theorem stratumlaw03_Key.calls (k : Nat) (A0 : Option Addr) (c0 : Nat) (l0 : List (S29)) (A1 : Option Addr) (c1 : Nat) (l1 : List Int) (r : List Int) (w : World) (hr0 : Kd.C k29 w A0 l0.length l0) (hc0 : l0.length ≤ c0) (hr1 : Kd.C (Kd.int .u16) w A1 l1.length l1) (hc1 : l1.length ≤ c1) (h : stratumlaw03_Key.f k l0 l1 = some r) :
    Calls Try.prog 15 #[.slice A0 l0.length c0, .slice A1 l1.length c1] w fun e w' => ∃ v0_ : Value, e = .returned (v0_) ∧ Kd.R (Kd.int .i64) 3 w' w.heap.size (fun _ => True) v0_ r ∧ Below w.heap.size w w' := by
  have HR0 := Aside0.mk hr0
  have HC0 := Aside0.mk hc0
  clear hr0 hc0
  have HR1 := Aside0.mk hr1
  have HC1 := Aside0.mk hc1
  clear hr1 hc1
  have HB := Aside0.mk (Below.refl w.heap.size w)
  have H : (stratumlaw03_Key.l0 k l0 l1 ([] : List Int) 0) = some r := h
  clear h
  have H' := Aside0.mk H
  clear H
  go_enter Try.func15, Try.ntmps15
  go_wp2
  go_loopg [5, 6] k (fun kq v5 v6 w' => ∃ (x5_1 : List Int) (x6_1 : Int), v6 = .int .i64 x6_1 ∧ Aside0 (stratumlaw03_Key.l0 kq l0 l1 x5_1 x6_1 = some r) ∧ Aside0 (kq ≤ k) ∧ Aside0 (Kd.R (Kd.int .i64) 3 w' w.heap.size (fun _ => True) v5 x5_1) ∧ Aside0 (Below w.heap.size w w'))
  case atStart => exact ⟨(([] : List Int)), (0), (by first | rfl | (simp; done) | (simp [*]; done)), H', ⟨Nat.le_refl _⟩, ⟨by first | exact Kd.R_nil _ _ _ _ _ | exact Kd.N_nil _ _ _ _ _ | exact Kd.V_nil _ _ _ _ _ | exact Kd.Q_nil _ _ _ _ _ | exact Kd.S_nil _ _ _ _ _⟩, ⟨by repeat (first | (with_reducible first | exact HB.out | apply below_alloc | apply pw_below_drewN | apply below_drew1) | exact HB.out)⟩⟩
  case round =>
    clear H'
    try clear c1
    try clear p2
    obtain ⟨x5_1, x6_1, rfl, HA, HK1, HO_5, HB⟩ := hrel
    cases gk with
    | zero => exact absurd HA.out (by simp [stratumlaw03_Key.l0])
    | succ k1 =>
      have H := HA.out
      clear HA
      simp only [stratumlaw03_Key.l0] at H
      by_cases c3 : x6_1 < (l0.length : Int)
      · rw [if_pos c3] at H
        have c3b0 : decide (x6_1 < (l0.length : Int)) = true := decide_eq_true c3
        clear c3
        by_cases c4 : x6_1 < (l1.length : Int)
        · rw [if_pos c4] at H
          have c4b0 : decide (x6_1 < (l1.length : Int)) = true := decide_eq_true c4
          clear c4
          by_cases c5 : 0 ≤ x6_1
          · rw [if_pos c5] at H
            have c5b0 : decide (0 ≤ x6_1) = true := decide_eq_true c5
            clear c5
            by_cases c6 : ((rd_T29 l0 x6_1).f0) = 0
            · rw [if_pos c6] at H
              exact absurd H (by simp)
            · rw [if_neg c6] at H
              have c6b0 : (((rd_T29 l0 x6_1).f0) == 0) = false := beq_eq_false_iff_ne.mpr c6
              have c6b1 : (((rd_T29 l0 x6_1).f0) != 0) = true := bne_iff_ne.mpr c6
              by_cases c7 : x5_1.length < 17592186044416
              · rw [if_pos c7] at H
                have LMc7 := Aside0.mk c7
                clear c7
                obtain ⟨y123, hy123⟩ : ∃ y_ : List Int, y_ = (x5_1 ++ [Int.tmod (wrap64 (rd l1 x6_1)) ((rd_T29 l0 x6_1).f0)]) := ⟨_, rfl⟩
                replace H : (stratumlaw03_Key.l0 k1 l0 l1 y123 (wrap64 (x6_1 + 1))) = some r := by first | (rw [hy123]; with_reducible exact H) | (have H2_ := (Option.bind_some _ _).symm.trans H; rw [hy123]; with_reducible exact H2_) | (have H2_ := (Option.bind_some _ _).symm.trans H; with_reducible exact H2_) | with_reducible exact H | (rw [hy123]; exact H) | exact H
                have Ny123 := Aside0.mk hy123
                clear hy123
                have H' := Aside0.mk H
                clear H
                have p121 : 0 ≤ (x6_1 : Int) := of_decide_eq_true (by first | (with_reducible assumption) | assumption)
                have q121 : x6_1 < (l1.length : Int) := of_decide_eq_true (by first | (with_reducible assumption) | assumption)
                obtain ⟨ad121, e121, hx121_0⟩ := Kd.at_int HR1.out x6_1 p121 q121
                cases e121
                replace hx121_0 := (HB.out.cell (World.block_lt_of_cell? w _ hx121_0)).trans hx121_0
                replace p121 := eq_true p121
                replace q121 := eq_true q121
                have p122 : 0 ≤ (x6_1 : Int) := of_decide_eq_true (by first | (with_reducible assumption) | assumption)
                have q122 : x6_1 < (l0.length : Int) := of_decide_eq_true (by first | (with_reducible assumption) | assumption)
                obtain ⟨ad122, A122_1, c122_1, e122, hx122_0, hx122_1, hl122_1, hi122_1⟩ := at_T29 HR0.out x6_1 p122 q122
                cases e122
                replace hx122_0 := (HB.out.cell (World.block_lt_of_cell? w _ hx122_0)).trans hx122_0
                replace hx122_1 := (HB.out.cell (World.block_lt_of_cell? w _ hx122_1)).trans hx122_1
                have HR122_1 := Aside0.mk hi122_1
                have HC122_1 := Aside0.mk hl122_1
                clear hi122_1 hl122_1
                replace p122 := eq_true p122
                replace q122 := eq_true q122
                go_wp2_with (first | ((with_reducible refine gate_builtin (b := .append) (xs := #[.tmp 23, .tmp 31]) rfl ?_); at_builtin; refine Kd.R_append (Kd.int .i64) (w0 := w) w.heap.size rfl (.tmp 23) (.tmp 31) 26 3 (.int .i64 0) 8 rfl Try.underlying26 info3 rfl (by decide) (by omega) u5 x5_1 (Int.tmod (wrap64 (rd l1 x6_1)) ((rd_T29 l0 x6_1).f0)) [.int .i64 (Int.tmod (wrap64 (rd l1 x6_1)) ((rd_T29 l0 x6_1).f0))] (fun _ => True) (fun _ => False) rfl rfl ?aP (fun _ hk => hk.elim) ?aF ?aO ?aB ?aS ?aL ?_; (case aP => exact rfl); (case aB => exact (by repeat (first | (with_reducible first | exact HB.out | apply below_alloc | apply pw_below_drewN | apply below_drew1) | exact HB.out))); (case aF => exact (fun _ _ => trivial)); (case aO => exact (by (with_reducible repeat (first | apply Kd.R_alloc | apply Kd.R_drewN | apply Kd.R_drew)); exact HO_5.out)); (case aS => exact (below_size (by repeat (first | (with_reducible first | exact HB.out | apply below_alloc | apply pw_below_drewN | apply below_drew1) | exact HB.out)))); (case aL => have := LMc7.out; omega); intro v124 w8 ho hb hg hat; rw [← Ny123.out] at ho; have n0_ := Aside0.mk (hb); have n1_ := Aside0.mk (ho); clear HB; clear HO_5; have HB := n0_; have HO125 := n1_; clear n0_ n1_; clear ho hb hg hat))
                go_roundg k1
                case measure => have := HK1.out; omega
                case rel => exact ⟨(y123), (wrap64 (x6_1 + 1)), (by first | rfl | (simp; done) | (simp [*]; done)), H', ⟨by have := HK1.out; omega⟩, ⟨by (with_reducible repeat (first | apply Kd.R_alloc | apply Kd.R_drewN | apply Kd.R_drew)); exact HO125.out⟩, ⟨by repeat (first | (with_reducible first | exact HB.out | apply below_alloc | apply pw_below_drewN | apply below_drew1) | exact HB.out)⟩⟩
              · rw [if_neg c7] at H
                exact absurd H (by simp)
          · rw [if_neg c5] at H
            exact absurd H (by simp)
        · rw [if_neg c4] at H
          have c4b0 : decide (x6_1 < (l1.length : Int)) = false := decide_eq_false c4
          clear c4
          by_cases c9 : 0 ≤ x6_1
          · rw [if_pos c9] at H
            have c9b0 : decide (0 ≤ x6_1) = true := decide_eq_true c9
            clear c9
            by_cases c10 : ((rd_T29 l0 x6_1).f0) = 0
            · rw [if_pos c10] at H
              exact absurd H (by simp)
            · rw [if_neg c10] at H
              have c10b0 : (((rd_T29 l0 x6_1).f0) == 0) = false := beq_eq_false_iff_ne.mpr c10
              have c10b1 : (((rd_T29 l0 x6_1).f0) != 0) = true := bne_iff_ne.mpr c10
              by_cases c11 : x5_1.length < 17592186044416
              · rw [if_pos c11] at H
                have LMc11 := Aside0.mk c11
                clear c11
                obtain ⟨y127, hy127⟩ : ∃ y_ : List Int, y_ = (x5_1 ++ [(0 : Int) % ((rd_T29 l0 x6_1).f0)]) := ⟨_, rfl⟩
                replace H : (stratumlaw03_Key.l0 k1 l0 l1 y127 (wrap64 (x6_1 + 1))) = some r := by first | (rw [hy127]; with_reducible exact H) | (have H2_ := (Option.bind_some _ _).symm.trans H; rw [hy127]; with_reducible exact H2_) | (have H2_ := (Option.bind_some _ _).symm.trans H; with_reducible exact H2_) | with_reducible exact H | (rw [hy127]; exact H) | exact H
                have Ny127 := Aside0.mk hy127
                clear hy127
                have H' := Aside0.mk H
                clear H
                have p126 : 0 ≤ (x6_1 : Int) := of_decide_eq_true (by first | (with_reducible assumption) | assumption)
                have q126 : x6_1 < (l0.length : Int) := of_decide_eq_true (by first | (with_reducible assumption) | assumption)
                obtain ⟨ad126, A126_1, c126_1, e126, hx126_0, hx126_1, hl126_1, hi126_1⟩ := at_T29 HR0.out x6_1 p126 q126
                cases e126
                replace hx126_0 := (HB.out.cell (World.block_lt_of_cell? w _ hx126_0)).trans hx126_0
                replace hx126_1 := (HB.out.cell (World.block_lt_of_cell? w _ hx126_1)).trans hx126_1
                have HR126_1 := Aside0.mk hi126_1
                have HC126_1 := Aside0.mk hl126_1
                clear hi126_1 hl126_1
                replace p126 := eq_true p126
                replace q126 := eq_true q126
                go_wp2_with (first | ((with_reducible refine gate_builtin (b := .append) (xs := #[.tmp 23, .tmp 31]) rfl ?_); at_builtin; refine Kd.R_append (Kd.int .i64) (w0 := w) w.heap.size rfl (.tmp 23) (.tmp 31) 26 3 (.int .i64 0) 8 rfl Try.underlying26 info3 rfl (by decide) (by omega) u5 x5_1 ((0 : Int) % ((rd_T29 l0 x6_1).f0)) [.int .i64 ((0 : Int) % ((rd_T29 l0 x6_1).f0))] (fun _ => True) (fun _ => False) rfl rfl ?aP (fun _ hk => hk.elim) ?aF ?aO ?aB ?aS ?aL ?_; (case aP => exact rfl); (case aB => exact (by repeat (first | (with_reducible first | exact HB.out | apply below_alloc | apply pw_below_drewN | apply below_drew1) | exact HB.out))); (case aF => exact (fun _ _ => trivial)); (case aO => exact (by (with_reducible repeat (first | apply Kd.R_alloc | apply Kd.R_drewN | apply Kd.R_drew)); exact HO_5.out)); (case aS => exact (below_size (by repeat (first | (with_reducible first | exact HB.out | apply below_alloc | apply pw_below_drewN | apply below_drew1) | exact HB.out)))); (case aL => have := LMc11.out; omega); intro v128 w12 ho hb hg hat; rw [← Ny127.out] at ho; have n0_ := Aside0.mk (hb); have n1_ := Aside0.mk (ho); clear HB; clear HO_5; have HB := n0_; have HO129 := n1_; clear n0_ n1_; clear ho hb hg hat))
                go_roundg k1
                case measure => have := HK1.out; omega
                case rel => exact ⟨(y127), (wrap64 (x6_1 + 1)), (by first | rfl | (simp; done) | (simp [*]; done)), H', ⟨by have := HK1.out; omega⟩, ⟨by (with_reducible repeat (first | apply Kd.R_alloc | apply Kd.R_drewN | apply Kd.R_drew)); exact HO129.out⟩, ⟨by repeat (first | (with_reducible first | exact HB.out | apply below_alloc | apply pw_below_drewN | apply below_drew1) | exact HB.out)⟩⟩
              · rw [if_neg c11] at H
                exact absurd H (by simp)
          · rw [if_neg c9] at H
            exact absurd H (by simp)
      · rw [if_neg c3] at H
        have c3b0 : decide (x6_1 < (l0.length : Int)) = false := decide_eq_false c3
        clear c3
        obtain rfl := Option.some.inj H
        go_wp2
        go_ret
        exact ⟨_, by first | rfl | (simp [errW_none, errW_some] <;> rfl) | (simp [*, errW_none, errW_some] <;> rfl), by (with_reducible repeat (first | apply Kd.R_alloc | apply Kd.R_drewN | apply Kd.R_drew)); exact HO_5.out, by repeat (first | (with_reducible first | exact HB.out | apply below_alloc | apply pw_below_drewN | apply below_drew1) | exact HB.out)⟩

end Go.Proofs.Ytjeojnjkmhnepaa.Pr
