/- It is proved here that DiceCuts returns true, for every input that reads as data. -/
import Derived.Test.YtjeojnjkmhnepaaProg
import Derived.Below
import Derived.Deep.Draws
import Derived.Deep.AppendLies
import Derived.Maps.AppendAt
import Derived.OwnWalk
import Derived.Laws.BytesArg
import Derived.Laws.MakeOwn
import Derived.Laws.OwnMore
import Derived.Deep.OwnRows
import Derived.Tactics
import Derived.Lib.ConvBytes
import Derived.Laws.Slices
import Derived.WalkKit
import Derived.KernelRfl
import Derived.RowKit3
import Derived.Deep.LoopGhost
import Derived.Deep.QuietTactic
import Derived.BigQuiet
import Derived.WideLaws
import Derived.Deep.DeepCutAuto
import Derived.Deep.CutBlock
import Derived.Deep.RegionHeld3
import Derived.Laws.Rows
import Derived.Lib.AppendStr
import Derived.ArgAppend
import Derived.Laws.IdiomCopy
import Derived.OrdersHeld
import Derived.Laws.BitsLemmas
import Derived.RowKit
import Derived.Test.YtjeojnjkmhnepaaWWords
import Derived.Test.YtjeojnjkmhnepaaWLast
import Derived.Test.YtjeojnjkmhnepaaWTab
import Derived.Test.YtjeojnjkmhnepaaWFour
import Derived.Test.YtjeojnjkmhnepaaWQPut
import Derived.Test.YtjeojnjkmhnepaaWApart
import Derived.Test.YtjeojnjkmhnepaaWArr
import Derived.Test.YtjeojnjkmhnepaaWZeros
import Derived.Test.YtjeojnjkmhnepaaWFoot
import Derived.Test.YtjeojnjkmhnepaaWKept
import Derived.Test.YtjeojnjkmhnepaaWShare
import Derived.Test.YtjeojnjkmhnepaaWN
import Derived.Test.YtjeojnjkmhnepaaWFootNe
import Derived.Test.YtjeojnjkmhnepaaWAt
import Derived.Test.YtjeojnjkmhnepaaWEqStruct
import Derived.Test.YtjeojnjkmhnepaaWRepsOne
import Derived.Test.YtjeojnjkmhnepaaWInv
import Derived.Test.YtjeojnjkmhnepaaWInvWords
import Derived.Test.YtjeojnjkmhnepaaWGuard
import Derived.Test.YtjeojnjkmhnepaaWNEv
import Derived.Test.YtjeojnjkmhnepaaWMore
import Derived.Test.YtjeojnjkmhnepaaL4
import Derived.Test.YtjeojnjkmhnepaaL2
import Derived.Test.YtjeojnjkmhnepaaPrCuts1
open Go Go.RowKit Go.Proofs.YtjeojnjkmhnepaaW.PrintWords Go.Proofs.YtjeojnjkmhnepaaW.PrintLast Go.Proofs.YtjeojnjkmhnepaaW.PrintMore
set_option linter.unusedVariables false
set_option linter.unusedSimpArgs false
namespace Go.Proofs.Ytjeojnjkmhnepaa.Pr
open Dice
theorem cmp_loop (a : List Int) (h : a.length ≤ 1000000) : ∀ (n i : Nat), n + i = a.length → Ev (fun k => stratumref03_Cmp.l0 k a a i) 0
  | 0, i, hn => by
    refine Ev.from 1 (fun k hk => ?_)
    obtain ⟨k, rfl⟩ : ∃ m, k = m + 1 := ⟨k - 1, by omega⟩
    simp only [stratumref03_Cmp.l0]
    rw [if_neg (by omega)]
    simp [stratumref03_Cmp.j1]
  | n + 1, i, hn => by
    obtain ⟨K, c⟩ := cmp_loop a h n (i + 1) (by omega)
    dsimp only at c
    refine Ev.from (K + 1) (fun k hk => ?_)
    obtain ⟨k, rfl⟩ : ∃ m, k = m + 1 := ⟨k - 1, by omega⟩
    simp only [stratumref03_Cmp.l0]
    rw [if_pos (by omega), decide_eq_true (by omega : (i : Int) < (a.length : Int))]
    simp only [stratumref03_Cmp.j1]
    rw [if_pos trivial, if_pos (by omega), if_pos (by omega), if_pos (by omega), if_neg (by omega), if_neg (by omega), wr (by omega) (by omega)]
    exact c k (by omega)
theorem cmp_ev (a : List Int) (h : a.length ≤ 1000000) : Ev (fun k => stratumref03_Cmp.f k a a) 0 := cmp_loop a h a.length 0 (by omega)
theorem same50_loop (t : List S50) (ht : t.length ≤ 1000000) (hk : ∀ r ∈ t, r.f0.length ≤ 1000000) : ∀ (n i : Nat), n + i = t.length → Ev (fun k => stratumref04_Same.l0 k t t i) true
  | 0, i, hn => by
    refine Ev.from 0 (fun k hk => ?_)
    simp only [stratumref04_Same.l0]
    rw [if_neg (by omega)]
  | n + 1, i, hn => by
    have hi : i < t.length := by omega
    obtain ⟨K, c⟩ := same50_loop t ht hk n (i + 1) (by omega)
    obtain ⟨K1, c1⟩ := cmp_ev t[i].f0 (hk _ (List.getElem_mem hi))
    dsimp only at c c1
    refine Ev.from (K + K1) (fun k hk => ?_)
    simp only [stratumref04_Same.l0]
    have hg : rd_T50 t i = t[i] := by simp [rd_T50, List.getD_eq_getElem?_getD, List.getElem?_eq_getElem hi]
    rw [if_pos (by omega), if_pos (by omega), if_pos (by omega), hg, c1 k (by omega)]
    simp only [Option.bind_some, if_true, beq_self_eq_true, Bool.not_true, Bool.or_self]
    rw [if_neg (by simp), wr (by omega) (by omega)]
    exact c k (by omega)
theorem same50_ev (t : List S50) (ht : t.length ≤ 1000000) (hk : ∀ r ∈ t, r.f0.length ≤ 1000000) : Ev (fun k => stratumref04_Same.f k t t) true := by
  obtain ⟨K, c⟩ := same50_loop t ht hk t.length 0 (by omega)
  refine ⟨K, fun k hk => ?_⟩
  simp only [stratumref04_Same.f]
  rw [if_pos trivial]
  exact c k hk
theorem refcut_loop (t : List S50) (a b : List Int) (ha : a.length ≤ 1000000) (ht : t.length ≤ 1000000) (hk : ∀ r ∈ t, r.f0.length ≤ 1000000) : ∀ (n i : Nat) (xs : List S50), n + i = t.length → xs.length ≤ i →
    Ev (fun k => stratumref05_Cut.l0 k t a b xs i) (xs ++ (t.drop i).filter fun r => within a b r.f0)
  | 0, i, xs, hn, hx => by
    rw [List.drop_of_length_le (by omega), List.filter_nil, List.append_nil]
    refine Ev.from 0 (fun k _ => ?_)
    simp only [stratumref05_Cut.l0]
    rw [if_neg (by omega)]
  | n + 1, i, xs, hn, hx => by
    have hi : i < t.length := by omega
    have hr := hk _ (List.getElem_mem hi)
    have hdrop : t.drop i = t[i] :: t.drop (i + 1) := (List.drop_eq_getElem_cons hi)
    have hg : rd_T50 t i = t[i] := by simp [rd_T50, List.getD_eq_getElem?_getD, List.getElem?_eq_getElem hi]
    obtain ⟨K1, c1⟩ := refwithin_ev a b t[i].f0 ha
    dsimp only at c1
    by_cases hw : within a b t[i].f0 = true
    · obtain ⟨K, c⟩ := refcut_loop t a b ha ht hk n (i + 1) (xs ++ [t[i]]) (by omega) (by simp; omega)
      dsimp only at c
      rw [hdrop, List.filter_cons_of_pos (p := fun r : S50 => within a b r.f0) hw]
      refine Ev.from (K + K1) (fun k hk => ?_)
      simp only [stratumref05_Cut.l0]
      rw [if_pos (by omega), if_pos (by omega), hg, c1 k (by omega)]
      simp only [Option.bind_some, hw, if_true]
      rw [if_pos (by simp; omega), if_pos (by omega), wr (by omega) (by omega)]
      have := c k (by omega)
      simpa using this
    · obtain ⟨K, c⟩ := refcut_loop t a b ha ht hk n (i + 1) xs (by omega) (by omega)
      dsimp only at c
      have hw' : within a b t[i].f0 = false := by simpa using hw
      rw [hdrop, List.filter_cons_of_neg (p := fun r : S50 => within a b r.f0) hw]
      refine Ev.from (K + K1) (fun k hk => ?_)
      simp only [stratumref05_Cut.l0]
      rw [if_pos (by omega), if_pos (by omega), hg, c1 k (by omega)]
      simp only [Option.bind_some, hw']
      rw [if_neg (by simp), wr (by omega) (by omega)]
      exact c k (by omega)
theorem refcut_ev (t : List S50) (a b : List Int) (ha : a.length ≤ 1000000) (ht : t.length ≤ 1000000) (hk : ∀ r ∈ t, r.f0.length ≤ 1000000) : Ev (fun k => stratumref05_Cut.f k t a b) (t.filter fun r => within a b r.f0) := by
  have h := refcut_loop t a b ha ht hk t.length 0 [] (by omega) (by simp)
  simpa [stratumref05_Cut.f] using h
theorem ints_loop (l : List Int) (hl : l.length ≤ 1000000) (hb : ∀ y ∈ l, 0 ≤ y ∧ y ≤ 255) : ∀ (n i : Nat) (xs : List Int), n + i = l.length → xs.length ≤ i → Ev (fun k => stratumlaw05_ints.l0 k l xs i) (xs ++ l.drop i)
  | 0, i, xs, hn, hx => by
    rw [List.drop_of_length_le (by omega), List.append_nil]
    refine Ev.from 0 (fun k _ => ?_)
    simp only [stratumlaw05_ints.l0]
    rw [if_neg (by omega)]
  | n + 1, i, xs, hn, hx => by
    have hi : i < l.length := by omega
    have hg : rd l i = l[i] := by simp [rd, List.getD_eq_getElem?_getD, List.getElem?_eq_getElem hi]
    have hy := hb _ (List.getElem_mem hi)
    obtain ⟨K, c⟩ := ints_loop l hl hb n (i + 1) (xs ++ [l[i]]) (by omega) (by simp; omega)
    dsimp only at c
    rw [List.drop_eq_getElem_cons hi]
    refine Ev.from K (fun k hk => ?_)
    simp only [stratumlaw05_ints.l0]
    rw [if_pos (by omega), if_pos (by omega), if_pos (by omega), hg, wr (i := l[i]) (by omega) (by omega), wr (by omega) (by omega)]
    have := c k (by omega)
    simpa using this
theorem ints_ev (l : List Int) (hl : l.length ≤ 1000000) (hb : ∀ y ∈ l, 0 ≤ y ∧ y ≤ 255) : Ev (fun k => stratumlaw05_ints.f k l) l := by
  have h := ints_loop l hl hb l.length 0 [] (by omega) (by simp)
  simpa [stratumlaw05_ints.f] using h
abbrev gu8 (l : List Int) : Prop := ∀ y ∈ l, (Lit.int .u8 y).wf = true
theorem gu8.ok {l : List Int} (h : gu8 l) : ∀ y ∈ l, 0 ≤ y ∧ y ≤ 255 := fun y hy => wf_u8 (h y hy)
theorem filter_keys {t : List S50} {p : S50 → Bool} (ht : t.length ≤ 1000000) (hk : ∀ r ∈ t, r.f0.length ≤ 1000000) : (t.filter p).length ≤ 1000000 ∧ ∀ r ∈ t.filter p, r.f0.length ≤ 1000000 :=
  ⟨Nat.le_trans (List.length_filter_le _ _) ht, fun r hr => hk r (List.mem_filter.1 hr).1⟩
theorem cuts_l1 (t : List S50) (a b : List Int) (keys : List (List Int)) (x y : List Int) (ha : a.length ≤ 100) (ht : t.length ≤ 200) (hk : ∀ r ∈ t, r.f0.length ≤ 50) (hl : keys.length ≤ 200) (gk : ∀ z ∈ keys, gu8 z) (gx : gu8 x) (gy : gu8 y) (lx : x.length ≤ 4) (ly : y.length ≤ 4) :
    ∀ (n i : Nat) (rows : List S50), n + i = keys.length → rows.length = i → (∀ r ∈ rows, r.f0.length ≤ 50) → Ev (fun k => stratumlaw05_DiceCuts.l1 k t a b keys x y rows i) true
  | 0, i, rows, hn, hr, hrk => by
    have ht1 : t.length ≤ 1000000 := by omega
    have hk1 : ∀ r ∈ t, r.f0.length ≤ 1000000 := fun r h => Nat.le_trans (hk r h) (by omega)
    have hr1 : rows.length ≤ 1000000 := by omega
    have hrk1 : ∀ r ∈ rows, r.f0.length ≤ 1000000 := fun r h => Nat.le_trans (hrk r h) (by omega)
    obtain ⟨K1, c1⟩ := cut_ev t a b ht1 hk1
    obtain ⟨K2, c2⟩ := refcut_ev t a b (by omega) ht1 hk1
    obtain ⟨K3, c3⟩ := same50_ev (t.filter fun r => within a b r.f0) (filter_keys ht1 hk1).1 (filter_keys ht1 hk1).2
    obtain ⟨K4, c4⟩ := ints_ev x (by omega) gx.ok
    obtain ⟨K5, c5⟩ := ints_ev y (by omega) gy.ok
    obtain ⟨K6, c6⟩ := cut_ev rows x y hr1 hrk1
    obtain ⟨K7, c7⟩ := refcut_ev rows x y (by omega) hr1 hrk1
    obtain ⟨K8, c8⟩ := same50_ev (rows.filter fun r => within x y r.f0) (filter_keys hr1 hrk1).1 (filter_keys hr1 hrk1).2
    dsimp only at c1 c2 c3 c4 c5 c6 c7 c8
    refine Ev.from (K1 + K2 + K3 + K4 + K5 + K6 + K7 + K8) (fun k hk => ?_)
    simp only [stratumlaw05_DiceCuts.l1]
    rw [if_neg (by omega), c1 k (by omega)]
    simp only [Option.bind_some]
    rw [c2 k (by omega)]
    simp only [Option.bind_some]
    rw [c3 k (by omega)]
    simp only [Option.bind_some, if_true]
    rw [c4 k (by omega)]
    simp only [Option.bind_some]
    rw [c5 k (by omega)]
    simp only [Option.bind_some]
    rw [c6 k (by omega)]
    simp only [Option.bind_some]
    rw [c7 k (by omega)]
    simp only [Option.bind_some]
    rw [c8 k (by omega)]
    rfl
  | n + 1, i, rows, hn, hr, hrk => by
    have hi : i < keys.length := by omega
    have hg : rd_Lsl5_u8 keys i = keys[i] := by simp [rd_Lsl5_u8, List.getD_eq_getElem?_getD, List.getElem?_eq_getElem hi]
    by_cases hc : (keys[i].length : Int) > 50
    · refine Ev.from 0 (fun k _ => ?_)
      simp only [stratumlaw05_DiceCuts.l1]
      rw [if_pos (by omega), if_pos (by omega), hg, if_pos hc]
    · obtain ⟨K1, c1⟩ := ints_ev keys[i] (by omega) (gk _ (List.getElem_mem hi)).ok
      obtain ⟨K2, c2⟩ := cuts_l1 t a b keys x y ha ht hk hl gk gx gy lx ly n (i + 1) (rows ++ [⟨keys[i], ⟨i, 0, 0, 0⟩⟩]) (by omega) (by simp [hr]) (fun r h => by
        rcases List.mem_append.1 h with h | h
        · exact hrk r h
        · simp at h; subst h; simp; omega)
      dsimp only at c1 c2
      refine Ev.from (K1 + K2) (fun k hk => ?_)
      simp only [stratumlaw05_DiceCuts.l1]
      rw [if_pos (by omega), if_pos (by omega), hg, if_neg hc, c1 k (by omega)]
      simp only [Option.bind_some]
      rw [if_pos (by omega), wr (by omega) (by omega)]
      exact c2 k (by omega)
theorem cuts_l0 (t : List S50) (a b : List Int) (keys : List (List Int)) (x y : List Int) (ha : a.length ≤ 100) (ht : t.length ≤ 200) (hl : keys.length ≤ 200) (gk : ∀ z ∈ keys, gu8 z) (gx : gu8 x) (gy : gu8 y) (lx : x.length ≤ 4) (ly : y.length ≤ 4) :
    ∀ (n i : Nat), n + i = t.length → (∀ j : Nat, (h : j < t.length) → j < i → t[j].f0.length ≤ 50) → Ev (fun k => stratumlaw05_DiceCuts.l0 k t a b keys x y i) true
  | 0, i, hn, hj => by
    obtain ⟨K, c⟩ := cuts_l1 t a b keys x y ha ht (fun r hr => by
      obtain ⟨j, h, rfl⟩ := List.mem_iff_getElem.1 hr
      exact hj j h (by omega)) hl gk gx gy lx ly keys.length 0 [] (by omega) rfl (fun r h => by cases h)
    dsimp only at c
    refine Ev.from K (fun k hk => ?_)
    simp only [stratumlaw05_DiceCuts.l0]
    rw [if_neg (by omega)]
    exact c k hk
  | n + 1, i, hn, hj => by
    have hi : i < t.length := by omega
    have hg : rd_T50 t i = t[i] := by simp [rd_T50, List.getD_eq_getElem?_getD, List.getElem?_eq_getElem hi]
    by_cases hc : (t[i].f0.length : Int) > 50
    · refine Ev.from 0 (fun k _ => ?_)
      simp only [stratumlaw05_DiceCuts.l0]
      rw [if_pos (by omega), if_pos (by omega), hg, if_pos hc]
    · obtain ⟨K, c⟩ := cuts_l0 t a b keys x y ha ht hl gk gx gy lx ly n (i + 1) (by omega) (fun j h hj' => by
        rcases Nat.lt_or_ge j i with h1 | h1
        · exact hj j h h1
        · obtain rfl : j = i := by omega
          omega)
      dsimp only at c
      refine Ev.from K (fun k hk => ?_)
      simp only [stratumlaw05_DiceCuts.l0]
      rw [if_pos (by omega), if_pos (by omega), hg, if_neg hc, wr (by omega) (by omega)]
      exact c k hk
theorem DiceCuts_true (l0 : List S50) (l1 l2 : List Int) (l3 : List (List Int)) (l4 l5 : List Int) (g3 : ∀ z ∈ l3, gu8 z) (g4 : gu8 l4) (g5 : gu8 l5) : ∃ k, stratumlaw05_DiceCuts.f k l0 l1 l2 l3 l4 l5 = some true := by
  obtain ⟨K0, c0⟩ := heavy_ev [l1, l2] (by simp)
  dsimp only at c0
  by_cases hall : ([l1, l2].any fun x => decide (100 < x.length)) = true ∨ (l0.length : Int) > 200 ∨ (l3.length : Int) > 200 ∨ (l4.length : Int) > 4 ∨ (l5.length : Int) > 4
  · refine Ev.rounds (Ev.from (g := fun k => stratumlaw05_DiceCuts.f k l0 l1 l2 l3 l4 l5) K0 (fun k hk => ?_))
    have hj : stratumlaw05_DiceCuts.j0 (k + 1) l0 l1 l2 l3 l4 l5 true = some true := by simp [stratumlaw05_DiceCuts.j0, stratumlaw05_known.f]
    simp only [stratumlaw05_DiceCuts.f, c0 (k + 1) (by omega), Option.bind_some, hj]
    repeat' split
    all_goals first | rfl | (exfalso; simp_all; done) | skip
    all_goals omega
  · obtain ⟨K1, c1⟩ := cuts_l0 l0 l1 l2 l3 l4 l5 (by simp at hall; omega) (by omega) (by omega) g3 g4 g5 (by omega) (by omega) l0.length 0 (by omega) (fun j h hj => absurd hj (by omega))
    dsimp only at c1
    refine Ev.rounds (Ev.from (g := fun k => stratumlaw05_DiceCuts.f k l0 l1 l2 l3 l4 l5) (K0 + K1) (fun k hk => ?_))
    simp only [stratumlaw05_DiceCuts.f, c0 (k + 1) (by omega), Option.bind_some]
    rw [if_neg (fun h => hall (.inl h)), if_neg (by omega), if_neg (by omega), if_neg (by omega), if_neg (by omega)]
    simp only [stratumlaw05_known.f, Option.bind_some, Bool.not_true, stratumlaw05_DiceCuts.j0]
    rw [if_neg (by simp)]
    exact c1 k (by omega)
theorem DiceCuts_true_calls (A0 : Option Addr) (c0 : Nat) (l0 : List S50) (A1 : Option Addr) (c1 : Nat) (l1 : List Int) (A2 : Option Addr) (c2 : Nat) (l2 : List Int) (A3 : Option Addr) (c3 : Nat) (l3 : List (List Int)) (A4 : Option Addr) (c4 : Nat) (l4 : List Int) (A5 : Option Addr) (c5 : Nat) (l5 : List Int) (w : World)
    (hr0 : Kd.C k50 w A0 l0.length l0) (hc0 : l0.length ≤ c0) (g0 : ∀ y ∈ l0, (∀ z ∈ y.f0, (Lit.int .i64 z).wf = true) ∧ ((Lit.int .i64 y.f1.f0).wf = true ∧ (Lit.int .i64 y.f1.f1).wf = true ∧ (Lit.int .i64 y.f1.f2).wf = true ∧ (Lit.int .i64 y.f1.f3).wf = true)) (hr1 : Kd.C (Kd.int .i64) w A1 l1.length l1) (hc1 : l1.length ≤ c1) (g1 : ∀ y ∈ l1, (Lit.int .i64 y).wf = true) (hr2 : Kd.C (Kd.int .i64) w A2 l2.length l2) (hc2 : l2.length ≤ c2) (g2 : ∀ y ∈ l2, (Lit.int .i64 y).wf = true)
    (hr3 : Kd.C (Kd.slice 5 (Kd.int .u8)) w A3 l3.length l3) (hc3 : l3.length ≤ c3) (g3 : ∀ z ∈ l3, gu8 z) (hr4 : Kd.C (Kd.int .u8) w A4 l4.length l4) (hc4 : l4.length ≤ c4) (g4 : gu8 l4) (hr5 : Kd.C (Kd.int .u8) w A5 l5.length l5) (hc5 : l5.length ≤ c5) (g5 : gu8 l5) :
    Calls Try.prog 7 #[.slice A0 l0.length c0, .slice A1 l1.length c1, .slice A2 l2.length c2, .slice A3 l3.length c3, .slice A4 l4.length c4, .slice A5 l5.length c5] w fun e w' => e = .returned (.bool true) ∧ Below w.heap.size w w' := by
  obtain ⟨k, h⟩ := DiceCuts_true l0 l1 l2 l3 l4 l5 g3 g4 g5
  exact stratumlaw05_DiceCuts.calls k A0 c0 l0 _ A1 c1 l1 _ A2 c2 l2 A3 c3 l3 A4 c4 l4 A5 c5 l5 true w hr0 hc0 (V_ofC hr1 hc1) (V_ofC hr2 hc2) hr3 hc3 hr4 hc4 hr5 hc5 h
end Go.Proofs.Ytjeojnjkmhnepaa.Pr
