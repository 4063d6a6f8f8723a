/- It is proved here that DiceParts returns true, for every input that reads as data, and what dice.Cut comes to. -/
import Derived.Test.YtjeojnjkmhnepaaProg
import Derived.Below
import Derived.Deep.Draws
import Derived.Deep.AppendLies
import Derived.Maps.AppendAt
import Derived.OwnWalk
import Derived.Laws.BytesArg
import Derived.Laws.MakeOwn
import Derived.Laws.OwnMore
import Derived.Deep.OwnRows
import Derived.Tactics
import Derived.Lib.ConvBytes
import Derived.Laws.Slices
import Derived.WalkKit
import Derived.KernelRfl
import Derived.RowKit3
import Derived.Deep.LoopGhost
import Derived.Deep.QuietTactic
import Derived.BigQuiet
import Derived.WideLaws
import Derived.Deep.DeepCutAuto
import Derived.Deep.CutBlock
import Derived.Deep.RegionHeld3
import Derived.Laws.Rows
import Derived.Lib.AppendStr
import Derived.ArgAppend
import Derived.Laws.IdiomCopy
import Derived.OrdersHeld
import Derived.Laws.BitsLemmas
import Derived.RowKit
import Derived.Test.YtjeojnjkmhnepaaWWords
import Derived.Test.YtjeojnjkmhnepaaWLast
import Derived.Test.YtjeojnjkmhnepaaWTab
import Derived.Test.YtjeojnjkmhnepaaWFour
import Derived.Test.YtjeojnjkmhnepaaWQPut
import Derived.Test.YtjeojnjkmhnepaaWApart
import Derived.Test.YtjeojnjkmhnepaaWArr
import Derived.Test.YtjeojnjkmhnepaaWZeros
import Derived.Test.YtjeojnjkmhnepaaWFoot
import Derived.Test.YtjeojnjkmhnepaaWKept
import Derived.Test.YtjeojnjkmhnepaaWShare
import Derived.Test.YtjeojnjkmhnepaaWN
import Derived.Test.YtjeojnjkmhnepaaWFootNe
import Derived.Test.YtjeojnjkmhnepaaWAt
import Derived.Test.YtjeojnjkmhnepaaWEqStruct
import Derived.Test.YtjeojnjkmhnepaaWRepsOne
import Derived.Test.YtjeojnjkmhnepaaWInv
import Derived.Test.YtjeojnjkmhnepaaWInvWords
import Derived.Test.YtjeojnjkmhnepaaWGuard
import Derived.Test.YtjeojnjkmhnepaaWNEv
import Derived.Test.YtjeojnjkmhnepaaWMore
import Derived.Test.YtjeojnjkmhnepaaL1
import Derived.Test.YtjeojnjkmhnepaaPr7
open Go Go.RowKit Go.Proofs.YtjeojnjkmhnepaaW.PrintWords Go.Proofs.YtjeojnjkmhnepaaW.PrintLast Go.Proofs.YtjeojnjkmhnepaaW.PrintMore
set_option linter.unusedVariables false
set_option linter.unusedSimpArgs false
namespace Go.Proofs.Ytjeojnjkmhnepaa.Pr
open Dice
theorem rdT50_get (t : List S50) (i : Nat) (h : i < t.length) : rd_T50 t i = t[i] := by
  simp [rd_T50, List.getD_eq_getElem?_getD, List.getElem?_eq_getElem h]
theorem cut_loop (t : List S50) (a b : List Int) (ht : t.length ≤ 1000000) (hk : ∀ r ∈ t, r.f0.length ≤ 1000000) : ∀ (n i : Nat) (xs : List S50), n + i = t.length → xs.length ≤ i →
    Ev (fun k => dice_Cut.l0 k a b xs t (t.length : Int) i) (xs ++ (t.drop i).filter fun r => within a b r.f0)
  | 0, i, xs, hn, hx => by
    rw [List.drop_of_length_le (by omega), List.filter_nil, List.append_nil]
    refine Ev.step (f := fun _ => some xs) (fun k => ?_) (Ev.now _)
    simp only [dice_Cut.l0]
    rw [if_neg (by omega)]
  | n + 1, i, xs, hn, hx => by
    have hi : i < t.length := by omega
    have hr := hk _ (List.getElem_mem hi)
    have hdrop : t.drop i = t[i] :: t.drop (i + 1) := (List.drop_eq_getElem_cons hi)
    by_cases hw : within a b t[i].f0 = true
    · have h := cut_loop t a b ht hk n (i + 1) (xs ++ [t[i]]) (by omega) (by simp; omega)
      rw [hdrop, List.filter_cons_of_pos (p := fun r : S50 => within a b r.f0) hw]
      rw [List.append_assoc] at h
      refine Ev.step (fun k => ?_) h
      simp only [dice_Cut.l0]
      rw [if_pos (by omega), if_pos (by omega), if_pos (by omega), rdT50_get t i hi]
      simp only [dice_Within.f, hw, Option.bind_some, if_true, slices_Clone_int_int.f]
      rw [if_pos (by omega)]
      simp only [Option.bind_some]
      rw [if_pos (by omega), wr (by omega) (by omega)]
      simp
    · have h := cut_loop t a b ht hk n (i + 1) xs (by omega) (by omega)
      have hw' : within a b t[i].f0 = false := by simpa using hw
      rw [hdrop, List.filter_cons_of_neg (p := fun r : S50 => within a b r.f0) hw]
      refine Ev.step (fun k => ?_) h
      simp only [dice_Cut.l0]
      rw [if_pos (by omega), if_pos (by omega), if_pos (by omega), rdT50_get t i hi]
      simp only [dice_Within.f, hw', Option.bind_some]
      rw [if_neg (by simp), wr (by omega) (by omega)]
      simp
theorem cut_ev (t : List S50) (a b : List Int) (ht : t.length ≤ 1000000) (hk : ∀ r ∈ t, r.f0.length ≤ 1000000) : Ev (fun k => dice_Cut.f k t a b) (t.filter fun r => within a b r.f0) := by
  have h := cut_loop t a b ht hk t.length 0 [] (by omega) (by simp)
  simpa [dice_Cut.f] using h
theorem parts_one (l : List S29) (a b : List Int) (hB : BoxIn l a b) (h1 : 1 ≤ l.length) (k : Int) (hk0 : rd a 0 ≤ k) (hk1 : k ≤ rd b 0) (key : List Int) (hl : key.length = l.length) :
    (if within a (k :: b.drop 1) key = true then 1 else 0) + (if within (k :: a.drop 1) b key = true then 1 else 0) = (if within a b key = true then 1 else (0 : Nat)) := by
  have la := hB.1; have lb := hB.2.1
  have rdc : ∀ (x : List Int) (i : Nat), x.length = l.length → i < l.length → rd (k :: x.drop 1) i = if i = 0 then k else rd x i := by
    intro x i hx hi
    rcases i with _ | i
    · simp [rd]
    · simp [rd, List.getElem?_drop, Nat.add_comm]
  have e1 := within_iff a (k :: b.drop 1) key (by simp; omega) (by omega)
  have e2 := within_iff (k :: a.drop 1) b key (by simp; omega) (by simp; omega)
  have e3 := within_iff a b key (by omega) (by omega)
  have hla : (k :: a.drop 1).length = l.length := by simp; omega
  rw [la] at e1 e3
  rw [hla] at e2
  by_cases c1 : within a (k :: b.drop 1) key = true <;> by_cases c2 : within (k :: a.drop 1) b key = true <;> by_cases c3 : within a b key = true <;> simp only [c1, c2, c3, if_true, if_false, Bool.false_eq_true]
  · exfalso
    have p := e1.1 c1 0 (by omega); have q := e2.1 c2 0 (by omega)
    rw [rdc b 0 lb (by omega)] at p; rw [rdc a 0 la (by omega)] at q
    simp at p q; omega
  · exfalso
    have p := e1.1 c1 0 (by omega); have q := e2.1 c2 0 (by omega)
    rw [rdc b 0 lb (by omega)] at p; rw [rdc a 0 la (by omega)] at q
    simp at p q; omega
  · exfalso
    apply c3; rw [e3]
    intro i hi
    have p := e1.1 c1 i hi
    rw [rdc b i lb hi] at p
    split at p
    · rename_i h; subst h; simp at *; omega
    · exact p
  · exfalso
    apply c3; rw [e3]
    intro i hi
    have p := e2.1 c2 i hi
    rw [rdc a i la hi] at p
    split at p
    · rename_i h; subst h; simp at *; omega
    · exact p
  · exfalso
    have q := e3.1 c3 0 (by omega)
    by_cases hx : rd key 0 < k
    · apply c1; rw [e1]; intro i hi; rw [rdc b i lb hi]
      split
      · rename_i h; subst h; simp at *; omega
      · exact e3.1 c3 i hi
    · apply c2; rw [e2]; intro i hi; rw [rdc a i la hi]
      split
      · rename_i h; subst h; simp at *; omega
      · exact e3.1 c3 i hi
theorem parts_all (l : List S29) (a b : List Int) (hB : BoxIn l a b) (h1 : 1 ≤ l.length) (k : Int) (hk0 : rd a 0 ≤ k) (hk1 : k ≤ rd b 0) : ∀ t : List S50, (∀ r ∈ t, r.f0.length = l.length) →
    (t.filter fun r => within a (k :: b.drop 1) r.f0).length + (t.filter fun r => within (k :: a.drop 1) b r.f0).length = (t.filter fun r => within a b r.f0).length
  | [], _ => rfl
  | r :: t, h => by
    have ih := parts_all l a b hB h1 k hk0 hk1 t (fun x hx => h x (by simp [hx]))
    have h2 := parts_one l a b hB h1 k hk0 hk1 r.f0 (h r (by simp))
    simp only [List.filter_cons]
    split at h2 <;> split at h2 <;> split at h2 <;> simp_all <;> omega
theorem parts_loop (l : List S29) (hl : DimsOk l) (a b : List Int) (hB : BoxIn l a b) (kk : Int) (hk0 : rd a 0 ≤ kk) (hk1 : kk ≤ rd b 0) (keys : List (List Int)) (hkeys : ∀ z ∈ keys, ∀ y ∈ z, 0 ≤ y ∧ y ≤ 65535) (hlen : keys.length ≤ 200) :
    ∀ (n i : Nat) (t : List S50), n + i = keys.length → t.length = i → (∀ r ∈ t, r.f0.length = l.length) → Ev (fun k => stratumlaw05_DiceParts.l0 k keys l a b kk t i) true
  | 0, i, t, hn, ht, hr => by
    have h4 := hl.l1; have h0 := hl.l0; have la := hB.1; have lb := hB.2.1
    have hk : ∀ r ∈ t, r.f0.length ≤ 1000000 := fun r h => by rw [hr r h]; omega
    have c1 := cut_ev t a (kk :: b.drop 1) (by omega) hk
    have c2 := cut_ev t (kk :: a.drop 1) b (by omega) hk
    have c3 := cut_ev t a b (by omega) hk
    have hp := parts_all l a b hB (by omega) kk hk0 hk1 t hr
    have l1 := List.length_filter_le (fun r : S50 => within a b r.f0) t
    obtain ⟨K1, c1⟩ := c1
    obtain ⟨K2, c2⟩ := c2
    obtain ⟨K3, c3⟩ := c3
    dsimp only at c1 c2 c3
    refine Ev.from (K1 + K2 + K3) (fun k hk => ?_)
    simp only [stratumlaw05_DiceParts.l0]
    rw [if_neg (by omega), if_pos (by simp)]
    simp only [Option.bind_some, List.nil_append, List.singleton_append]
    rw [if_pos (by omega)]
    try simp only [Option.bind_some]
    rw [if_pos (by simp; omega), if_pos (by omega)]
    try simp only [Option.bind_some]
    rw [if_pos (by simp; omega), c1 k (by omega)]
    try simp only [Option.bind_some]
    rw [c2 k (by omega)]
    try simp only [Option.bind_some]
    rw [c3 k (by omega)]
    try simp only [Option.bind_some]
    rw [wr (by omega) (by omega), beq_iff_eq.mpr (by omega)]
  | n + 1, i, t, hn, ht, hr => by
    have hi : i < keys.length := by omega
    have hm : rd_L9 keys i ∈ keys := by
      simp only [rd_L9, Int.toNat_natCast, List.getD_eq_getElem?_getD, List.getElem?_eq_getElem hi, Option.getD_some]
      exact List.getElem_mem _
    obtain ⟨key, hkey, kin⟩ := key_ev l (rd_L9 keys i) hl (hkeys _ hm)
    have ih := parts_loop l hl a b hB kk hk0 hk1 keys hkeys hlen n (i + 1) (t ++ [⟨key, ⟨0, 0, 0, 0⟩⟩]) (by omega) (by simp [ht]) (fun r hr' => by
      rcases List.mem_append.1 hr' with h | h
      · exact hr r h
      · simp at h; subst h; exact kin.1)
    obtain ⟨K1, c1⟩ := hkey
    obtain ⟨K2, c2⟩ := ih
    dsimp only at c1 c2
    refine Ev.from (K1 + K2) (fun k hk => ?_)
    simp only [stratumlaw05_DiceParts.l0]
    rw [if_pos (by omega), if_pos (by omega), c1 k (by omega)]
    try simp only [Option.bind_some]
    rw [if_pos (by omega), wr (by omega) (by omega)]
    simpa using c2 k (by omega)
theorem DiceParts_true (l0 : List S81) (l1 l2 : List Int) (l3 : List (List Int)) (a4 : Int) (g0 : gcut l0) (g1 : gu16 l1) (g2 : gu16 l2) (g3 : ∀ z ∈ l3, gu16 z) (g4 : (Lit.int .u16 a4).wf = true) : ∃ k, stratumlaw05_DiceParts.f k l0 l1 l2 l3 a4 = some true := by
  obtain ⟨l, hl, hd⟩ := of_ev l0 g0.ok
  obtain ⟨⟨a, b⟩, hab, kab⟩ := box_ev l l1 l2 hd g1.ok g2.ok
  have h4 := wf_u16 g4
  by_cases hc : (l3.length : Int) > 200
  · refine Ev.rounds (Ev.step (f := fun _ => some true) (g := fun k => stratumlaw05_DiceParts.f k l0 l1 l2 l3 a4) (fun k => ?_) (Ev.now _))
    simp only [stratumlaw05_DiceParts.f, if_pos hc, stratumlaw05_DiceParts.j0, if_true, stratumlaw05_known.f, Option.bind_some]
  · have hB := kab.2.2 0 (by have := hd.l0; omega)
    have hs := (hd.al 0 (by have := hd.l0; omega)).s1
    have hla := kab.1; have hlb := kab.2.1; have hl0 := hd.l0
    simp only at hB hla hlb
    obtain ⟨q, hq⟩ : ∃ q, q = a4 % (rd b 0 - rd a 0 + 1) := ⟨_, rfl⟩
    have hB' : 0 ≤ rd a 0 ∧ rd a 0 < rd b 0 ∧ rd b 0 ≤ (rd_T29 l 0).f0 := hB
    have hs' : (rd_T29 l 0).f0 ≤ 200 := hs
    have q0 := Int.emod_nonneg a4 (by omega : rd b 0 - rd a 0 + 1 ≠ 0)
    have q1 := Int.emod_lt_of_pos a4 (by omega : 0 < rd b 0 - rd a 0 + 1)
    rw [← hq] at q0 q1
    have hlp := parts_loop l hd a b kab (rd a 0 + q) (by omega) (by omega) l3 (fun z hz => (g3 z hz).ok) (by omega) l3.length 0 [] (by omega) rfl (fun r h => by cases h)
    obtain ⟨K1, c1⟩ := hl
    obtain ⟨K2, c2⟩ := hab
    obtain ⟨K3, c3⟩ := hlp
    dsimp only at c1 c2 c3
    refine Ev.rounds (Ev.from (g := fun k => stratumlaw05_DiceParts.f k l0 l1 l2 l3 a4) (K1 + K2 + K3) (fun k hk => ?_))
    simp only [stratumlaw05_DiceParts.f, if_neg hc, stratumlaw05_known.f, Option.bind_some, Bool.not_true, stratumlaw05_DiceParts.j0]
    rw [if_neg (by simp), c1 k (by omega)]
    try simp only [Option.bind_some]
    rw [c2 k (by omega)]
    try simp only [Option.bind_some]
    have w1 : wrap64 (rd b 0 - rd a 0) = rd b 0 - rd a 0 := wr (by omega) (by omega)
    have w2 : wrap64 (rd b 0 - rd a 0 + 1) = rd b 0 - rd a 0 + 1 := wr (by omega) (by omega)
    have w3 : wrap64 a4 = a4 := wr (by omega) (by omega)
    have w4 : Int.tmod a4 (rd b 0 - rd a 0 + 1) = q := by rw [hq]; exact Int.tmod_eq_emod_of_nonneg h4.1
    have w5 : wrap64 (rd a 0 + q) = rd a 0 + q := wr (by omega) (by omega)
    rw [if_pos (by omega), if_pos (by omega), w1, w2, if_neg (by omega), w3, w4, w5]
    exact c3 k (by omega)
theorem DiceParts_true_calls (A0 : Option Addr) (c0 : Nat) (l0 : List S81) (A1 : Option Addr) (c1 : Nat) (l1 : List Int) (A2 : Option Addr) (c2 : Nat) (l2 : List Int) (A3 : Option Addr) (c3 : Nat) (l3 : List (List Int)) (a4 : Int) (w : World)
    (hr0 : Kd.C k81 w A0 l0.length l0) (hc0 : l0.length ≤ c0) (g0 : gcut l0) (hr1 : Kd.C (Kd.int .u16) w A1 l1.length l1) (hc1 : l1.length ≤ c1) (g1 : gu16 l1) (hr2 : Kd.C (Kd.int .u16) w A2 l2.length l2) (hc2 : l2.length ≤ c2) (g2 : gu16 l2)
    (hr3 : Kd.C (Kd.slice 55 (Kd.int .u16)) w A3 l3.length l3) (hc3 : l3.length ≤ c3) (g3 : ∀ z ∈ l3, gu16 z) (g4 : (Lit.int .u16 a4).wf = true) :
    Calls Try.prog 8 #[.slice A0 l0.length c0, .slice A1 l1.length c1, .slice A2 l2.length c2, .slice A3 l3.length c3, .int .u16 a4] w fun e w' => e = .returned (.bool true) ∧ Below w.heap.size w w' := by
  obtain ⟨k, h⟩ := DiceParts_true l0 l1 l2 l3 a4 g0 g1 g2 g3 g4
  exact stratumlaw05_DiceParts.calls k A0 c0 l0 A1 c1 l1 A2 c2 l2 A3 c3 l3 a4 true w hr0 hc0 hr1 hc1 hr2 hc2 hr3 hc3 h
end Go.Proofs.Ytjeojnjkmhnepaa.Pr
