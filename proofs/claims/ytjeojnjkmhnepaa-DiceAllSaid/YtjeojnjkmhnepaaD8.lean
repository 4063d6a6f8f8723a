/- It is proved here what stratumlaw03.Of, Key and stratumlaw05.Box come to: sound dimensions, members of them, and boxes that are not empty. -/
import Derived.Test.YtjeojnjkmhnepaaProg
import Derived.Below
import Derived.Deep.Draws
import Derived.Deep.AppendLies
import Derived.Maps.AppendAt
import Derived.OwnWalk
import Derived.Laws.BytesArg
import Derived.Laws.MakeOwn
import Derived.Laws.OwnMore
import Derived.Deep.OwnRows
import Derived.Tactics
import Derived.Lib.ConvBytes
import Derived.Laws.Slices
import Derived.WalkKit
import Derived.KernelRfl
import Derived.RowKit3
import Derived.Deep.LoopGhost
import Derived.Deep.QuietTactic
import Derived.BigQuiet
import Derived.WideLaws
import Derived.Deep.DeepCutAuto
import Derived.Deep.CutBlock
import Derived.Deep.RegionHeld3
import Derived.Laws.Rows
import Derived.Lib.AppendStr
import Derived.ArgAppend
import Derived.Laws.IdiomCopy
import Derived.OrdersHeld
import Derived.Laws.BitsLemmas
import Derived.RowKit
import Derived.Test.YtjeojnjkmhnepaaWWords
import Derived.Test.YtjeojnjkmhnepaaWLast
import Derived.Test.YtjeojnjkmhnepaaWTab
import Derived.Test.YtjeojnjkmhnepaaWFour
import Derived.Test.YtjeojnjkmhnepaaWQPut
import Derived.Test.YtjeojnjkmhnepaaWApart
import Derived.Test.YtjeojnjkmhnepaaWArr
import Derived.Test.YtjeojnjkmhnepaaWZeros
import Derived.Test.YtjeojnjkmhnepaaWFoot
import Derived.Test.YtjeojnjkmhnepaaWKept
import Derived.Test.YtjeojnjkmhnepaaWShare
import Derived.Test.YtjeojnjkmhnepaaWN
import Derived.Test.YtjeojnjkmhnepaaWFootNe
import Derived.Test.YtjeojnjkmhnepaaWAt
import Derived.Test.YtjeojnjkmhnepaaWEqStruct
import Derived.Test.YtjeojnjkmhnepaaWRepsOne
import Derived.Test.YtjeojnjkmhnepaaWInv
import Derived.Test.YtjeojnjkmhnepaaWInvWords
import Derived.Test.YtjeojnjkmhnepaaWGuard
import Derived.Test.YtjeojnjkmhnepaaWNEv
import Derived.Test.YtjeojnjkmhnepaaWMore
import Derived.Test.YtjeojnjkmhnepaaPr3
open Go Go.RowKit Go.Proofs.YtjeojnjkmhnepaaW.PrintWords Go.Proofs.YtjeojnjkmhnepaaW.PrintLast Go.Proofs.YtjeojnjkmhnepaaW.PrintMore
set_option linter.unusedVariables false
set_option linter.unusedSimpArgs false
namespace Go.Proofs.Ytjeojnjkmhnepaa.Pr
theorem Ev.from {α : Type} {g : Nat → Option α} {r : α} (K : Nat) (h : ∀ k, K ≤ k → g (k + 1) = some r) : Ev g r :=
  ⟨K + 1, fun n hn => by
    obtain ⟨m, rfl⟩ : ∃ m, n = m + 1 := ⟨n - 1, by omega⟩
    exact h m (by omega)⟩
theorem wr {i : Int} (h0 : -9223372036854775808 ≤ i) (h1 : i ≤ 9223372036854775807) : wrap64 i = i := by
  unfold wrap64; omega
/-- Dimensions that choices make. -/
def DivOk : Int → List Int → Prop
  | _, [] => True
  | last, x :: xs => (∃ q, 2 ≤ q ∧ x = last * q) ∧ last < x ∧ x ≤ 10000 ∧ DivOk x xs
structure DimOk (d : S29) : Prop where
  s0 : 1 ≤ d.f0
  s1 : d.f0 ≤ 200
  dl : d.f1.length ≤ 4
  dv : DivOk 1 d.f1
structure DimsOk (l : List S29) : Prop where
  l0 : 1 ≤ l.length
  l1 : l.length ≤ 4
  al : ∀ i : Nat, i < l.length → DimOk (rd_T29 l i)
def KeyIn (l : List S29) (r : List Int) : Prop := r.length = l.length ∧ ∀ i : Nat, i < l.length → 0 ≤ rd r i ∧ rd r i < (rd_T29 l i).f0
theorem rd_append_left (xs ys : List Int) (i : Nat) (h : i < xs.length) : rd (xs ++ ys) i = rd xs i := by
  simp [rd, List.getElem?_append_left h]
theorem rd_append_at (xs : List Int) (y : Int) : rd (xs ++ [y]) xs.length = y := by simp [rd]
theorem key_loop (l : List S29) (a : List Int) (hl : DimsOk l) (ha : ∀ y ∈ a, 0 ≤ y ∧ y ≤ 65535) : ∀ (n i : Nat) (xs : List Int), n + i = l.length → xs.length = i → (∀ j : Nat, j < i → 0 ≤ rd xs j ∧ rd xs j < (rd_T29 l j).f0) →
    ∃ r, Ev (fun k => stratumlaw03_Key.l0 k l a xs i) r ∧ KeyIn l r
  | 0, i, xs, hn, hx, hb => by
    refine ⟨xs, Ev.step (f := fun _ => some xs) (fun k => ?_) (Ev.now _), by omega, fun j hj => hb j (by omega)⟩
    simp only [stratumlaw03_Key.l0]
    rw [if_neg (by omega)]
  | n + 1, i, xs, hn, hx, hb => by
    have hi : i < l.length := by omega
    have hd := hl.al i hi
    have h4 := hl.l1
    have hs0 := hd.s0
    have hs1 := hd.s1
    have go : ∀ v : Int, 0 ≤ v → v ≤ 65535 → ∃ r, Ev (fun k => stratumlaw03_Key.l0 k l a (xs ++ [Int.tmod v (rd_T29 l i).f0]) ((i : Int) + 1)) r ∧ KeyIn l r := by
      intro v hv hv1
      have ht : Int.tmod v (rd_T29 l i).f0 = v % (rd_T29 l i).f0 := Int.tmod_eq_emod_of_nonneg hv
      have h0 := Int.emod_nonneg v (by omega : (rd_T29 l i).f0 ≠ 0)
      have h1 := Int.emod_lt_of_pos v (by omega : 0 < (rd_T29 l i).f0)
      obtain ⟨r, hr, hk⟩ := key_loop l a hl ha n (i + 1) (xs ++ [Int.tmod v (rd_T29 l i).f0]) (by omega) (by simp [hx]) (fun j hj => by
        rcases Nat.lt_or_ge j i with h | h
        · rw [rd_append_left _ _ _ (by omega)]; exact hb j h
        · obtain rfl : j = i := by omega
          subst hx
          rw [rd_append_at, ht]
          exact ⟨h0, h1⟩)
      refine ⟨r, ?_, hk⟩
      simpa using hr
    by_cases hc : (i : Int) < (a.length : Int)
    · have hm : rd a i ∈ a := by
        have : i < a.length := by omega
        simp only [rd, Int.toNat_natCast, List.getD_eq_getElem?_getD, List.getElem?_eq_getElem this, Option.getD_some]
        exact List.getElem_mem _
      obtain ⟨h0, h1⟩ := ha _ hm
      obtain ⟨r, hr, hk⟩ := go (rd a i) h0 h1
      refine ⟨r, Ev.step (fun k => ?_) hr, hk⟩
      simp only [stratumlaw03_Key.l0]
      rw [if_pos (by omega), if_pos hc, if_pos (by omega), if_neg (by omega), if_pos (by omega), wr (i := rd a i) (by omega) (by omega), wr (by omega) (by omega)]
    · obtain ⟨r, hr, hk⟩ := go 0 (by omega) (by omega)
      refine ⟨r, Ev.step (fun k => ?_) hr, hk⟩
      simp only [stratumlaw03_Key.l0]
      rw [if_pos (by omega), if_neg hc, if_pos (by omega), if_neg (by omega), if_pos (by omega), wr (by omega) (by omega)]
      simp
theorem key_ev (l : List S29) (a : List Int) (hl : DimsOk l) (ha : ∀ y ∈ a, 0 ≤ y ∧ y ≤ 65535) : ∃ r, Ev (fun k => stratumlaw03_Key.f k l a) r ∧ KeyIn l r :=
  key_loop l a hl ha l.length 0 [] (by omega) rfl (fun j hj => absurd hj (by omega))
end Go.Proofs.Ytjeojnjkmhnepaa.Pr
namespace Go.Proofs.Ytjeojnjkmhnepaa.Pr
def DivTo : Int → List Int → Int → Prop
  | p, [], e => e = p
  | p, x :: xs, e => (∃ q, 2 ≤ q ∧ q ≤ 5 ∧ x = p * q) ∧ DivTo x xs e
theorem DivTo.snoc {q : Int} (h2 : 2 ≤ q) (h5 : q ≤ 5) : ∀ {p : Int} {xs : List Int} {e : Int}, DivTo p xs e → DivTo p (xs ++ [e * q]) (e * q)
  | p, [], e, h => by cases h; exact ⟨⟨q, h2, h5, rfl⟩, rfl⟩
  | p, x :: xs, e, h => ⟨h.1, DivTo.snoc h2 h5 h.2⟩
theorem DivTo.le : ∀ {p : Int} {xs : List Int} {e : Int}, DivTo p xs e → 1 ≤ p → p ≤ e
  | p, [], e, h, hp => by cases h; omega
  | p, x :: xs, e, h, hp => by
    obtain ⟨⟨q, h2, h5, rfl⟩, h3⟩ := h
    have hm : p * 2 ≤ p * q := Int.mul_le_mul_of_nonneg_left h2 (by omega)
    have := DivTo.le h3 (by omega)
    omega
theorem DivTo.up : ∀ {p : Int} {xs : List Int} {e : Int}, DivTo p xs e → 1 ≤ p → e ≤ p * 5 ^ xs.length
  | p, [], e, h, hp => by cases h; simp
  | p, x :: xs, e, h, hp => by
    obtain ⟨⟨q, h2, h5, rfl⟩, h3⟩ := h
    have hm : p * 2 ≤ p * q := Int.mul_le_mul_of_nonneg_left h2 (by omega)
    have hm5 : p * q ≤ p * 5 := Int.mul_le_mul_of_nonneg_left h5 (by omega)
    have h4 := DivTo.up h3 (by omega)
    have h6 : (0 : Int) ≤ 5 ^ xs.length := Int.le_of_lt (Int.pow_pos (by decide))
    have h7 := Int.mul_le_mul_of_nonneg_right hm5 h6
    have h8 : p * 5 ^ (List.length (p * q :: xs)) = p * 5 * 5 ^ xs.length := by rw [List.length_cons, Int.pow_succ, Int.mul_assoc, Int.mul_comm 5]
    rw [h8]
    omega
theorem DivTo.ok : ∀ {p : Int} {xs : List Int} {e : Int}, DivTo p xs e → 1 ≤ p → e ≤ 10000 → DivOk p xs
  | p, [], e, h, hp, he => trivial
  | p, x :: xs, e, h, hp, he => by
    obtain ⟨⟨q, h2, h5, rfl⟩, h3⟩ := h
    have hm : p * 2 ≤ p * q := Int.mul_le_mul_of_nonneg_left h2 (by omega)
    have hle := DivTo.le h3 (by omega)
    exact ⟨⟨q, h2, rfl⟩, by omega, by omega, DivTo.ok h3 (by omega) he⟩
theorem of_out (m : List S81) (xs : List S29) (i : Nat) (hx : xs.length = i) (h4 : i ≤ 4) (hs : ∀ d ∈ xs, DimOk d) (hi : i = m.length ∨ i = 4) : ∃ l, Ev (fun k => stratumlaw03_Of.l0 k m xs i) l ∧ 1 ≤ l.length ∧ l.length ≤ 4 ∧ ∀ d ∈ l, DimOk d := by
  have hf : ∀ k, stratumlaw03_Of.l0 (k + 1) m xs i = stratumlaw03_Of.j1 k m xs i false := by
    intro k
    simp only [stratumlaw03_Of.l0]
    rcases hi with hi | hi
    · rw [if_neg (by omega)]
    · split
      · have : decide ((i : Int) < 4) = false := decide_eq_false (by omega)
        rw [this]
      · rfl
  cases xs with
  | nil =>
    refine ⟨[⟨100, [10]⟩], Ev.step hf (Ev.step (f := fun _ => some [⟨100, [10]⟩]) (fun k => ?_) (Ev.now _)), by simp, by simp, ?_⟩
    · simp [stratumlaw03_Of.j1]
    · intro d hd
      simp at hd
      subst hd
      exact ⟨by decide, by decide, by decide, ⟨⟨10, by decide, by decide⟩, by decide, by decide, trivial⟩⟩
  | cons d ds =>
    refine ⟨d :: ds, Ev.step hf (Ev.step (f := fun _ => some (d :: ds)) (fun k => ?_) (Ev.now _)), by simp, by omega, hs⟩
    simp only [stratumlaw03_Of.j1]
    rw [if_neg (by decide), if_neg (by simp; omega)]
def CutOk (c : S81) : Prop := (0 ≤ c.f0 ∧ c.f0 ≤ 65535) ∧ ∀ y ∈ c.f1, 0 ≤ y ∧ y ≤ 255
theorem rdT81_mem (m : List S81) (i : Nat) (h : i < m.length) : rd_T81 m i ∈ m := by
  simp only [rd_T81, Int.toNat_natCast, List.getD_eq_getElem?_getD, List.getElem?_eq_getElem h, Option.getD_some]
  exact List.getElem_mem _
theorem rd_mem (m : List Int) (i : Nat) (h : i < m.length) : rd m i ∈ m := by
  simp only [rd, Int.toNat_natCast, List.getD_eq_getElem?_getD, List.getElem?_eq_getElem h, Option.getD_some]
  exact List.getElem_mem _
theorem rdT29_mem (m : List S29) (i : Nat) (h : i < m.length) : rd_T29 m i ∈ m := by
  simp only [rd_T29, Int.toNat_natCast, List.getD_eq_getElem?_getD, List.getElem?_eq_getElem h, Option.getD_some]
  exact List.getElem_mem _
theorem of_in (m : List S81) (xs : List S29) (i : Nat) (hi : i < m.length) (hi4 : i < 4) (hxl : xs.length ≤ 4) (hm : ∀ c ∈ m, CutOk c) (s : Int) (hs0 : 1 ≤ s) (hs1 : s ≤ 200) (Q : List S29 → Prop)
    (next : ∀ d : S29, DimOk d → ∃ l, Ev (fun k => stratumlaw03_Of.l0 k m (xs ++ [d]) ((i : Int) + 1)) l ∧ Q l) :
    ∀ (n j : Nat) (e : Int) (ds : List Int), n + j = 4 → ds.length = j → DivTo 1 ds e → ∃ l, Ev (fun k => stratumlaw03_Of.l1 k m xs i e j s ds) l ∧ Q l := by
  intro n
  induction n with
  | zero =>
    intro j e ds hn hj hd
    have hup := DivTo.up hd (by omega)
    have h5 : (5 : Int) ^ ds.length = 625 := by rw [hj, show j = 4 by omega]; rfl
    obtain ⟨l, hl, hq⟩ := next ⟨s, ds⟩ ⟨hs0, hs1, by simp; omega, DivTo.ok hd (by omega) (by omega)⟩
    refine ⟨l, Ev.step (fun k => ?_) hl, hq⟩
    simp only [stratumlaw03_Of.l1]
    rw [if_pos (by omega), if_pos (by omega)]
    split
    · rw [if_neg (by omega), if_pos (by omega)]
      rw [wr (by omega) (by omega)]
    · rw [if_pos (by omega), wr (by omega) (by omega)]
  | succ n ih =>
    intro j e ds hn hj hd
    have hup := DivTo.up hd (by omega)
    have hle := DivTo.le hd (by omega)
    have h5 : (5 : Int) ^ ds.length ≤ 625 := by
      have : ds.length ≤ 4 := by omega
      calc (5 : Int) ^ ds.length ≤ 5 ^ 4 := by exact_mod_cast Nat.pow_le_pow_right (by decide) this
        _ = 625 := rfl
    by_cases hc : (j : Int) < ((rd_T81 m i).f1.length : Int)
    · have hok := hm _ (rdT81_mem m i hi)
      have hb := hok.2 _ (rd_mem (rd_T81 m i).f1 j (by omega))
      have ht : Int.tmod (rd (rd_T81 m i).f1 j) 4 = rd (rd_T81 m i).f1 j % 4 := Int.tmod_eq_emod_of_nonneg hb.1
      obtain ⟨q, hq⟩ : ∃ q, q = 2 + Int.tmod (rd (rd_T81 m i).f1 j) 4 := ⟨_, rfl⟩
      have hq2 : 2 ≤ q := by rw [hq, ht]; omega
      have hq5 : q ≤ 5 := by rw [hq, ht]; omega
      have hm2 : e * q ≤ e * 5 := Int.mul_le_mul_of_nonneg_left hq5 (by omega)
      have hm3 : e * 2 ≤ e * q := Int.mul_le_mul_of_nonneg_left hq2 (by omega)
      obtain ⟨l, hl, hQ⟩ := ih (j + 1) (e * q) (ds ++ [e * q]) (by omega) (by simp [hj]) (DivTo.snoc hq2 hq5 hd)
      refine ⟨l, Ev.step (fun k => ?_) hl, hQ⟩
      simp only [stratumlaw03_Of.l1]
      rw [if_pos (by omega), if_pos (by omega), if_pos hc, if_pos (by omega), if_pos (by omega), if_pos (by omega)]
      rw [wr (i := Int.tmod (rd (rd_T81 m i).f1 j) 4) (by rw [ht]; omega) (by rw [ht]; omega), ← hq, wr (i := q) (by omega) (by omega), wr (i := e * q) (by omega) (by omega), wr (by omega) (by omega)]
      simp
    · obtain ⟨l, hl, hq⟩ := next ⟨s, ds⟩ ⟨hs0, hs1, by simp; omega, DivTo.ok hd (by omega) (by omega)⟩
      refine ⟨l, Ev.step (fun k => ?_) hl, hq⟩
      simp only [stratumlaw03_Of.l1]
      rw [if_pos (by omega), if_pos (by omega), if_neg hc, if_pos (by omega), wr (by omega) (by omega)]

theorem of_loop (m : List S81) (hm : ∀ c ∈ m, CutOk c) : ∀ (n i : Nat) (xs : List S29), n + i = 4 → xs.length = i → i ≤ m.length → (∀ d ∈ xs, DimOk d) →
    ∃ l, Ev (fun k => stratumlaw03_Of.l0 k m xs i) l ∧ (1 ≤ l.length ∧ l.length ≤ 4 ∧ ∀ d ∈ l, DimOk d)
  | 0, i, xs, hn, hx, him, hs => of_out m xs i hx (by omega) hs (.inr (by omega))
  | n + 1, i, xs, hn, hx, him, hs => by
    by_cases hi : i < m.length
    · have hok := hm _ (rdT81_mem m i hi)
      have ht : Int.tmod (rd_T81 m i).f0 200 = (rd_T81 m i).f0 % 200 := Int.tmod_eq_emod_of_nonneg hok.1.1
      obtain ⟨l, hl, hq⟩ := of_in m xs i hi (by omega) (by omega) hm (1 + Int.tmod (rd_T81 m i).f0 200) (by rw [ht]; omega) (by rw [ht]; omega) (fun l => 1 ≤ l.length ∧ l.length ≤ 4 ∧ ∀ d ∈ l, DimOk d)
        (fun d hd => by
          obtain ⟨l, hl, hq⟩ := of_loop m hm n (i + 1) (xs ++ [d]) (by omega) (by simp [hx]) (by omega) (fun x hx => by
            rcases List.mem_append.1 hx with h | h
            · exact hs x h
            · simp at h; subst h; exact hd)
          exact ⟨l, by simpa using hl, hq⟩) 4 0 1 [] rfl rfl rfl
      refine ⟨l, Ev.step (f := fun k => stratumlaw03_Of.j1 k m xs i true) (fun k => ?_) (Ev.step (fun k => ?_) hl), hq⟩
      · simp only [stratumlaw03_Of.l0]
        rw [if_pos (by omega), decide_eq_true (by omega : (i : Int) < 4)]
      · simp only [stratumlaw03_Of.j1]
        rw [if_pos trivial, if_pos (by omega), if_pos (by omega), wr (i := Int.tmod (rd_T81 m i).f0 200) (by rw [ht]; omega) (by rw [ht]; omega), wr (by rw [ht]; omega) (by rw [ht]; omega)]
        rfl
    · exact of_out m xs i hx (by omega) hs (.inl (by omega))
theorem of_ev (m : List S81) (hm : ∀ c ∈ m, CutOk c) : ∃ l, Ev (fun k => stratumlaw03_Of.f k m) l ∧ DimsOk l := by
  obtain ⟨l, hl, h0, h1, h2⟩ := of_loop m hm 4 0 [] rfl rfl (by omega) (fun d hd => by cases hd)
  exact ⟨l, hl, h0, h1, fun i hi => h2 _ (rdT29_mem l i hi)⟩
theorem mx_ge (a b : Int) : a ≤ mx a b ∧ b ≤ mx a b ∧ (mx a b = a ∨ mx a b = b) := by unfold mx; split <;> omega
theorem mn_le (a b : Int) : mn a b ≤ a ∧ mn a b ≤ b ∧ (mn a b = a ∨ mn a b = b) := by unfold mn; split <;> omega
/-- A box of dimensions: none of its sides is empty. -/
def BoxIn (l : List S29) (p q : List Int) : Prop := p.length = l.length ∧ q.length = l.length ∧ ∀ i : Nat, i < l.length → 0 ≤ rd p i ∧ rd p i < rd q i ∧ rd q i ≤ (rd_T29 l i).f0
theorem rd_set (xs : List Int) (i j : Nat) (v : Int) (h : i < xs.length) : rd (xs.set i v) j = if j = i then v else rd xs j := by
  by_cases e : j = i
  · subst e; simp [rd, h]
  · simp [rd, e, List.getElem?_set, Ne.symm e]
theorem box_loop (l : List S29) (hl : DimsOk l) : ∀ (n i : Nat) (p q : List Int), n + i = l.length → p.length = l.length → q.length = l.length →
    (∀ j : Nat, j < i → 0 ≤ rd p j ∧ rd p j < rd q j ∧ rd q j ≤ (rd_T29 l j).f0) → (∀ j : Nat, i ≤ j → j < l.length → (0 ≤ rd p j ∧ rd p j < (rd_T29 l j).f0) ∧ (0 ≤ rd q j ∧ rd q j < (rd_T29 l j).f0)) →
    ∃ r, Ev (fun k => stratumlaw05_Box.l0 k l p q i) r ∧ BoxIn l r.1 r.2
  | 0, i, p, q, hn, hp, hq, h1, h2 => by
    refine ⟨(p, q), Ev.step (f := fun _ => some (p, q)) (fun k => ?_) (Ev.now _), hp, hq, fun j hj => h1 j (by omega)⟩
    simp only [stratumlaw05_Box.l0]
    rw [if_neg (by omega)]
  | n + 1, i, p, q, hn, hp, hq, h1, h2 => by
    have hi : i < l.length := by omega
    have h4 := hl.l1
    have hd := hl.al i hi
    have hs1 := hd.s1
    obtain ⟨⟨a0, a1⟩, b0, b1⟩ := h2 i (Nat.le_refl _) hi
    obtain ⟨x1, x2, x3⟩ := mx_ge (rd p i) (rd q i)
    obtain ⟨n1, n2, n3⟩ := mn_le (rd p i) (rd q i)
    obtain ⟨r, hr, hb⟩ := box_loop l hl n (i + 1) (p.set i (mn (rd p i) (rd q i))) (q.set i (mx (rd p i) (rd q i) + 1)) (by omega) (by simp [hp]) (by simp [hq])
      (fun j hj => by
        rw [rd_set _ _ _ _ (by omega), rd_set _ _ _ _ (by omega)]
        by_cases e : j = i
        · subst e; simp only [if_true]; omega
        · rw [if_neg e, if_neg e]; exact h1 j (by omega))
      (fun j hj hjl => by
        rw [rd_set _ _ _ _ (by omega), rd_set _ _ _ _ (by omega), if_neg (by omega), if_neg (by omega)]
        exact h2 j (by omega) hjl)
    refine ⟨r, Ev.step (fun k => ?_) hr, hb⟩
    simp only [stratumlaw05_Box.l0]
    rw [if_pos (by omega), if_pos (by omega), if_pos (by omega), if_pos (by omega), wr (i := mx (rd p i) (rd q i) + 1) (by omega) (by omega), wr (by omega) (by omega)]
    simp
theorem box_ev (l : List S29) (a b : List Int) (hl : DimsOk l) (ha : ∀ y ∈ a, 0 ≤ y ∧ y ≤ 65535) (hb : ∀ y ∈ b, 0 ≤ y ∧ y ≤ 65535) : ∃ r, Ev (fun k => stratumlaw05_Box.f k l a b) r ∧ BoxIn l r.1 r.2 := by
  obtain ⟨p, hp, kp⟩ := key_ev l a hl ha
  obtain ⟨q, hq, kq⟩ := key_ev l b hl hb
  obtain ⟨r, hr, hB⟩ := box_loop l hl l.length 0 p q (by omega) kp.1 kq.1 (fun j hj => absurd hj (by omega)) (fun j _ hj => ⟨kp.2 j hj, kq.2 j hj⟩)
  exact ⟨r, Ev.bind hp (Ev.bind hq hr), hB⟩
theorem same_loop (a : List Int) : ∀ (n i : Nat), n + i = a.length → a.length ≤ 1000000 → Ev (fun k => stratumlaw05_same.l0 k a a i) true
  | 0, i, hn, hl => by
    refine Ev.step (f := fun _ => some true) (fun k => ?_) (Ev.now _)
    simp only [stratumlaw05_same.l0]
    rw [if_neg (by omega)]
  | n + 1, i, hn, hl => by
    have h := same_loop a n (i + 1) (by omega) hl
    refine Ev.step (fun k => ?_) h
    simp only [stratumlaw05_same.l0]
    rw [if_pos (by omega), if_pos (by omega), if_pos (by omega), if_pos trivial, wr (by omega) (by omega)]
    simp
theorem same_ev (a : List Int) (hl : a.length ≤ 1000000) : Ev (fun k => stratumlaw05_same.f k a a) true := by
  refine Ev.congr (fun k => ?_) (same_loop a a.length 0 (by omega) hl)
  simp only [stratumlaw05_same.f]
  rw [if_pos trivial]
  rfl
theorem rd_ext {a b : List Int} (hl : a.length = b.length) (h : ∀ i : Nat, i < a.length → rd a i = rd b i) : a = b := by
  apply List.ext_getElem hl
  intro i h1 h2
  have := h i h1
  simpa [rd, List.getD_eq_getElem?_getD, List.getElem?_eq_getElem h1, List.getElem?_eq_getElem h2] using this
end Go.Proofs.Ytjeojnjkmhnepaa.Pr
