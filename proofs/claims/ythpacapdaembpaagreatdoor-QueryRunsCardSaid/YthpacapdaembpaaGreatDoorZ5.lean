import Derived.Test.YthpacapdaembpaaGreatDoorZ4
import Derived.Test.YthpacapdaembpaaGreatDoorZ2
import Derived.Test.YthpacapdaembpaaGreatDoorZ3
open Go Go.RowKit Go.Proofs.YthpacapdaembpaaGreatDoor.K Go.Proofs.YthpacapdaembpaaGreatDoor.T
set_option linter.unusedVariables false
set_option linter.unusedSimpArgs false
namespace Go.Proofs.YthpacapdaembpaaGreatDoor.A
variable {F F' : Nat → Option (List Value)} {M M' : Nat → Option Chunk} {N N' : Nat} {K : Kont} {E : PanK}
theorem isMin.perm {m : Int} {l l' : List Int} (h : isMin m l) (p : l.Perm l') : isMin m l' := ⟨p.mem_iff.1 h.1, fun x hx => h.2 x (p.mem_iff.2 hx)⟩
theorem isMax.perm {m : Int} {l l' : List Int} (h : isMax m l) (p : l.Perm l') : isMax m l' := ⟨p.mem_iff.1 h.1, fun x hx => h.2 x (p.mem_iff.2 hx)⟩
theorem isCell.swap {c : CE} {l m : List Int} (h : isCell c l) (p : l.Perm m) : isCell c m :=
  ⟨by rw [h.n, p.length_eq], by rw [h.s]; congr 1; exact p.foldr_eq' (fun x _ y _ z => by omega) 0, h.lo.perm p, h.hi.perm p⟩
theorem hasAt.perm {t : List Rw} {ls ms : List KV} (h : hasAt t ls) (e : ∀ k, (valsAt ls k).Perm (valsAt ms k)) : hasAt t ms := fun k => by
  have h1 := h k
  have h2 := e k
  cases hl : look t k with
  | none => rw [hl] at h1; simp only at h1; simp only; rw [h1] at h2; exact h2.symm.eq_nil
  | some c => rw [hl] at h1; exact h1.swap h2
/-- Numbers at other keys. -/
def reK (f : List Int → List Int) (ls : List KV) : List KV := ls.map fun x => (f x.1, x.2)
theorem reK_size (f : List Int → List Int) (ls : List KV) : sizeL (reK f ls) = sizeL ls := by
  induction ls with
  | nil => rfl
  | cons x ls ih => simp only [sizeL, reK, List.map_cons, List.sum_cons] at ih ⊢; rw [ih]
/-- A table's numbers, each key's together, are the numbers. -/
theorem regroup (f : List Int → List Int) (ls : List KV) (k : List Int) : ∀ (t : List Rw), nodup t →
    (valsAt (reK f (t.map fun r => (r.1, valsAt ls r.1))) k).Perm (valsAt (reK f (ls.filter fun x => decide (∃ r ∈ t, r.1 = x.1))) k)
  | [], _ => by
    have : ls.filter (fun x => decide (∃ r ∈ ([] : List Rw), r.1 = x.1)) = [] := by simp
    rw [this]; exact List.Perm.refl _
  | r :: t, h => by
    have h' := List.pairwise_cons.1 h
    have ih := regroup f ls k t h'.2
    rw [List.map_cons]
    have e1 : reK f ((r.1, valsAt ls r.1) :: t.map fun r => (r.1, valsAt ls r.1)) = (f r.1, valsAt ls r.1) :: reK f (t.map fun r => (r.1, valsAt ls r.1)) := rfl
    rw [e1, valsAt_cons]
    have key : ∀ (ls : List KV), (valsAt (reK f (ls.filter fun x => decide (∃ q ∈ r :: t, q.1 = x.1))) k).Perm ((if f r.1 = k then valsAt ls r.1 else []) ++ valsAt (reK f (ls.filter fun x => decide (∃ q ∈ t, q.1 = x.1))) k) := by
      intro ls
      induction ls with
      | nil => simp [reK, valsAt]
      | cons x ls ih2 =>
        rw [List.filter_cons, List.filter_cons, valsAt_cons]
        by_cases hx : x.1 = r.1
        · have a1 : (∃ q ∈ r :: t, q.1 = x.1) := ⟨r, by simp, hx.symm⟩
          have a2 : ¬ ∃ q ∈ t, q.1 = x.1 := fun ⟨q, hq, e⟩ => h'.1 q hq (by rw [e, hx])
          simp only [decide_eq_true a1, decide_eq_false a2, if_true, Bool.false_eq_true, if_false]
          rw [if_pos hx]
          have e2 : reK f (x :: ls.filter fun x => decide (∃ q ∈ r :: t, q.1 = x.1)) = (f x.1, x.2) :: reK f (ls.filter fun x => decide (∃ q ∈ r :: t, q.1 = x.1)) := rfl
          rw [e2, valsAt_cons]
          simp only [hx]
          by_cases hk : f r.1 = k
          · rw [if_pos hk, if_pos hk] at *
            rw [List.append_assoc]
            exact List.Perm.append_left _ ih2
          · rw [if_neg hk, if_neg hk] at *
            exact ih2
        · rw [if_neg hx, List.nil_append]
          by_cases h2 : ∃ q ∈ t, q.1 = x.1
          · have a1 : (∃ q ∈ r :: t, q.1 = x.1) := by obtain ⟨q, hq, e⟩ := h2; exact ⟨q, by simp [hq], e⟩
            simp only [decide_eq_true a1, decide_eq_true h2, if_true]
            have e2 : ∀ (l : List KV), reK f (x :: l) = (f x.1, x.2) :: reK f l := fun _ => rfl
            rw [e2, e2, valsAt_cons, valsAt_cons]
            refine (List.Perm.append_left _ ih2).trans ?_
            rw [← List.append_assoc, ← List.append_assoc]
            exact List.Perm.append_right _ List.perm_append_comm
          · have a1 : ¬ (∃ q ∈ r :: t, q.1 = x.1) := fun ⟨q, hq, e⟩ => by
              rcases List.mem_cons.1 hq with rfl | hq
              · exact hx e.symm
              · exact h2 ⟨q, hq, e⟩
            simp only [decide_eq_false a1, decide_eq_false h2, Bool.false_eq_true, if_false]
            exact ih2
    exact (List.Perm.append_left _ ih).trans (key ls).symm
theorem valsAt_empties (f : List Int → List Int) (p : KV → Bool) (k : List Int) : ∀ (ls : List KV), (∀ x ∈ ls, p x = false → x.2 = []) → valsAt (reK f (ls.filter p)) k = valsAt (reK f ls) k
  | [], _ => rfl
  | x :: ls, h => by
    have ih := valsAt_empties f p k ls (fun y hy => h y (by simp [hy]))
    have e2 : ∀ (l : List KV), reK f (x :: l) = (f x.1, x.2) :: reK f l := fun _ => rfl
    rw [List.filter_cons, e2, valsAt_cons]
    cases hp : p x
    · rw [h x (by simp) hp]
      simpa using ih
    · simp only [if_true]
      rw [e2, valsAt_cons, ih]
theorem hasAt.regroup {t : List Rw} {ls : List KV} (h : hasAt t ls) (hs : srt t) (f : List Int → List Int) (k : List Int) : (valsAt (reK f (toldBy t ls)) k).Perm (valsAt (reK f ls) k) := by
  have h1 := A.regroup f ls k t hs.nodup
  rw [valsAt_empties f _ k ls] at h1
  · exact h1
  · intro x hx hp
    have hn : ¬ ∃ r ∈ t, r.1 = x.1 := of_decide_eq_false hp
    have h2 := h x.1
    rw [look_none.2 (fun r hr e => hn ⟨r, hr, e⟩)] at h2
    simp only at h2
    cases hx2 : x.2 with
    | nil => rfl
    | cons v vs =>
      have : v ∈ valsAt ls x.1 := by
        unfold valsAt
        exact List.mem_flatMap.2 ⟨x, List.mem_filter.2 ⟨hx, by simp⟩, by rw [hx2]; simp⟩
      rw [h2] at this; cases this
/-- A table rolled. -/
theorem roll_hasAt {t : List Rw} {ls : List KV} (h : hasAt t ls) (hs : srt t) (f : List Int → List Int) (hn : t.length * sizeL ls < 9223372036854775808) : hasAt (tab (t.map fun r => (f r.1, r.2))) (reK f ls) := by
  have h1 := h.tells hs
  have h2 : tells (t.map fun r => (f r.1, r.2)) (reK f (toldBy t ls)) := by
    refine ⟨by simp [reK, toldBy], fun i r l hr hl => ?_⟩
    rw [List.getElem?_map] at hr
    unfold reK at hl
    rw [List.getElem?_map] at hl
    cases ht : t[i]? with
    | none => rw [ht] at hr; cases hr
    | some x =>
      cases ho : (toldBy t ls)[i]? with
      | none => rw [ho] at hl; cases hl
      | some y =>
        rw [ht] at hr; rw [ho] at hl
        simp at hr hl
        subst hr; subst hl
        obtain ⟨a, b⟩ := h1.2 i x y ht ho
        exact ⟨by simp only; rw [a], b⟩
  have h3 := tab_hasAt h2 (by
    rw [reK_size]
    have := toldBy_size t ls
    omega)
  exact h3.perm (fun k => h.regroup hs f k)
/-- Keys of dimensions. -/
def goodKey (l : List Dm) (k : List Int) : Prop := k.length = l.length ∧ ∀ x ∈ k, 0 ≤ x ∧ x ≤ 1000000
/-- A table that tells numbers at keys of dimensions. -/
structure goodT (l : List Dm) (t : List Rw) (ls : List KV) : Prop where
  has : hasAt t ls
  srt : srt t
  key : ∀ x ∈ ls, goodKey l x.1
  val : ∀ x ∈ ls, ∀ v ∈ x.2, i64 v
theorem goodT.row {l : List Dm} {t : List Rw} {ls : List KV} (h : goodT l t ls) {r : Rw} (hr : r ∈ t) : goodKey l r.1 ∧ isCell r.2 (valsAt ls r.1) ∧ ∀ v ∈ valsAt ls r.1, i64 v := by
  obtain ⟨⟨x, hx, e⟩, h2⟩ := mem_keys h.has h.srt hr
  refine ⟨e ▸ h.key x hx, h2, fun v hv => ?_⟩
  obtain ⟨y, hy, _, hv'⟩ := valsAt_mem hv
  exact h.val y hy v hv'
theorem goodT.sound {l : List Dm} {t : List Rw} {ls : List KV} (h : goodT l t ls) : soundT l.length t = true := by
  refine soundT_of (fun r hr => ?_) h.srt
  obtain ⟨a, b, c⟩ := h.row hr
  exact okRow_of (by rw [a.1]) (fun x hx => (a.2 x hx).1) b c
theorem goodT.i64 {l : List Dm} {t : List Rw} {ls : List KV} (h : goodT l t ls) : ∀ r ∈ t, ∀ x ∈ r.1, A.i64 x := fun r hr x hx => by
  have := (h.row hr).1.2 x hx
  exact ⟨by omega, by omega⟩
theorem goodT.okK {l : List Dm} (hl : l.length ≤ 1000) {t : List Rw} {ls : List KV} (h : goodT l t ls) : ∀ r ∈ t, A.okK r.1 := fun r hr =>
  ⟨by rw [(h.row hr).1.1]; omega, h.i64 r hr⟩
theorem goodT.ext {l : List Dm} {t u : List Rw} {ls ms : List KV} (h : goodT l t ls) (k : goodT l u ms) (hp : ∀ q, (valsAt ls q).Perm (valsAt ms q)) : t = u := h.has.ext k.has h.srt k.srt hp
theorem goodT.facts {l : List Dm} (hl : goodDims l) {ks : List (List Int)} {v : List Int} (hv : ∀ x ∈ v, A.i64 x) : goodT l (tab ((factsOf l ks v).map fr1)) ((factsOf l ks v).map kvF) := by
  refine ⟨tabF_hasAt (facts_i64 hv) (by rw [factsOf_len]; omega), tab_srt _, fun x hx => ?_, fun x hx y hy => ?_⟩
  · obtain ⟨f, hf, rfl⟩ := List.mem_map.1 hx
    obtain ⟨c, hc⟩ := (factsOf_mem hf).1
    simp only [kvF]
    rw [hc]
    exact ⟨keyOf_len l c, fun x hx => by have := keyOf_ok hl c x hx; omega⟩
  · obtain ⟨f, hf, rfl⟩ := List.mem_map.1 hx
    simp [kvF] at hy
    rw [hy]; exact facts_i64 hv f hf
theorem goodT.merge {l : List Dm} {t u : List Rw} {ls ms : List KV} (h : goodT l t ls) (k : goodT l u ms) (hn : t.length * sizeL ls + u.length * sizeL ms < 9223372036854775808) : goodT l (tab (t ++ u)) (ls ++ ms) :=
  ⟨merge_hasAt h.has k.has h.srt k.srt hn, tab_srt _, fun x hx => (List.mem_append.1 hx).elim (h.key x) (k.key x), fun x hx => (List.mem_append.1 hx).elim (h.val x) (k.val x)⟩
theorem goodT.roll {l : List Dm} {t : List Rw} {ls : List KV} (h : goodT l t ls) (f : List Int → List Int) (hf : ∀ k, goodKey l k → goodKey l (f k)) (hn : t.length * sizeL ls < 9223372036854775808) : goodT l (tab (t.map fun r => (f r.1, r.2))) (reK f ls) :=
  ⟨roll_hasAt h.has h.srt f hn, tab_srt _, fun x hx => by obtain ⟨y, hy, rfl⟩ := List.mem_map.1 hx; exact hf _ (h.key y hy), fun x hx => by obtain ⟨y, hy, rfl⟩ := List.mem_map.1 hx; exact h.val y hy⟩
end Go.Proofs.YthpacapdaembpaaGreatDoor.A
open Go Go.RowKit Go.Proofs.YthpacapdaembpaaGreatDoor.K Go.Proofs.YthpacapdaembpaaGreatDoor.T
set_option linter.unusedVariables false
set_option linter.unusedSimpArgs false
namespace Go.Proofs.YthpacapdaembpaaGreatDoor.A
variable {F F' : Nat → Option (List Value)} {M M' : Nat → Option Chunk} {N N' : Nat} {K : Kont} {E : PanK}
theorem divL_chk : ∀ (l : List Nat) (a : Nat), 1 ≤ a → a * 5 ^ l.length ≤ 10000 → chk a ((divL a l).map (fun n : Nat => (n : Int))) = true
  | [], a, _, _ => rfl
  | b :: l, a, h, hn => by
    have h1 : a * (2 + b % 4) ≤ a * 5 := Nat.mul_le_mul_left _ (by omega)
    have h2 : a * 2 ≤ a * (2 + b % 4) := Nat.mul_le_mul_left _ (by omega)
    have h5 : 1 ≤ 5 ^ l.length := Nat.one_le_pow _ _ (by decide)
    have h3 : a * 5 * 5 ^ l.length ≤ 10000 := by rw [List.length_cons, Nat.pow_succ, Nat.mul_comm (5 ^ l.length) 5, ← Nat.mul_assoc] at hn; exact hn
    have h4 : a * (2 + b % 4) * 5 ^ l.length ≤ 10000 := Nat.le_trans (Nat.mul_le_mul_right _ h1) h3
    have h6 : a * 5 * 1 ≤ 10000 := Nat.le_trans (Nat.mul_le_mul_left _ h5) h3
    simp only [divL, List.map_cons, chk]
    rw [divL_chk l (a * (2 + b % 4)) (by omega) h4, Bool.and_true]
    refine decide_eq_true ?_
    have h7 : ((a * (2 + b % 4) : Nat) : Int) % (a : Int) = 0 := by rw [← Int.natCast_emod, Nat.mul_mod_right]; rfl
    omega
theorem dimOf_ok {c : Int × List Int} (hc : 0 ≤ c.1 ∧ c.1 < 65536) : okDim (dimOf c) = true := by
  unfold okDim
  have hl : ((c.2.take 4).map Int.toNat).length ≤ 4 := by simp; omega
  have h1 : chk 1 (dimOf c).2 = true := by
    refine divL_chk _ 1 (Nat.le_refl _) ?_
    rw [Nat.one_mul]
    exact Nat.le_trans (Nat.pow_le_pow_right (by decide) hl) (by decide)
  have h2 : (dimOf c).2.length ≤ 4 := by simp only [dimOf, List.length_map, divL_len]; simp; omega
  have h3 : 1 ≤ (dimOf c).1 ∧ (dimOf c).1 ≤ 10000 := by simp only [dimOf]; omega
  rw [h1, decide_eq_true ⟨h3.1, h3.2, h2⟩]; rfl
theorem dimsOf_ok {m : List (Int × List Int)} (hc : ∀ c ∈ m, 0 ≤ c.1 ∧ c.1 < 65536) : okDims (dimsOf m) = true := by
  have hg := dimsOf_good m hc
  unfold okDims
  rw [decide_eq_true ⟨hg.1, hg.2.1⟩, Bool.true_and, List.all_eq_true]
  intro d hd
  unfold dimsOf at hd
  split at hd
  · simp at hd; subst hd; decide +kernel
  · obtain ⟨c, hc', rfl⟩ := List.mem_map.1 hd
    exact dimOf_ok (hc c (List.mem_of_mem_take hc'))
/-- Levels from which one may go to others. -/
def upLev (l : List Dm) (a b : List Int) : Prop := a.length = l.length ∧ b.length = l.length ∧ ∀ (i : Nat) (h : i < l.length), 0 ≤ a.getD i 0 ∧ a.getD i 0 ≤ b.getD i 0 ∧ b.getD i 0 < l[i].2.length + 2
theorem lvs_of : ∀ {l : List Dm} {a b : List Int}, upLev l a b → lvs l a b = true
  | [], _, _, _ => by simp [lvs]
  | d :: l, [], _, h => by have := h.1; simp at this
  | d :: l, _ :: _, [], h => by have := h.2.1; simp at this
  | d :: l, x :: a, y :: b, h => by
    simp only [lvs]
    have h0 := h.2.2 0 (by simp)
    simp at h0
    rw [lvs_of (l := l) (a := a) (b := b) ⟨by have := h.1; simp at this; exact this, by have := h.2.1; simp at this; exact this, fun i hi => by
      have := h.2.2 (i + 1) (by simp; exact hi)
      simpa using this⟩, Bool.and_true]
    exact decide_eq_true (by omega)
theorem levF_of {l : List Dm} {a b : List Int} (h : upLev l a b) : levF l a b = true := by
  unfold levF
  rw [lvs_of h, decide_eq_true ⟨h.1, h.2.1⟩]; rfl
def zeros (n : Nat) : List Int := List.replicate n 0
theorem zeros_get (n i : Nat) : (zeros n).getD i 0 = 0 := by
  unfold zeros
  rw [List.getD_eq_getElem?_getD, List.getElem?_replicate]
  split <;> rfl
theorem zeros_up {l : List Dm} {m : List Int} (hl : m.length = l.length) (h : okLev l m) : upLev l (zeros l.length) m :=
  ⟨by simp [zeros], hl, fun i hi => by rw [zeros_get]; have := h i hi; omega⟩
theorem nil_ok (l : List Dm) : okLev l [] := fun i h => by simp; omega
theorem okDims_all {l : List Dm} (h : okDims l = true) : ∀ d ∈ l, okDim d = true := by
  unfold okDims at h
  rw [Bool.and_eq_true] at h
  exact List.all_eq_true.1 h.2
theorem upF_of {d : Dm} (hd : okDim d = true) {a b v : Int} (h0 : 0 ≤ a) (h1 : a ≤ b) (h2 : b < d.2.length + 2) (hv : 0 ≤ v) : upF d a b v = if a = b then v else if byF d b = 0 then 0 else v / (byF d b / byF d a) := by
  unfold upF
  rw [if_neg (by rw [hd]; simp; omega)]
theorem byF_zero {d : Dm} (hd : okDim d = true) {b : Int} (h0 : 0 ≤ b) : byF d b = 0 ↔ b > d.2.length := by
  constructor
  · intro h
    by_cases hb : b ≤ d.2.length
    · have := (byF_pos hd h0 hb).1; omega
    · omega
  · intro h
    unfold byF
    rw [if_neg (by omega), if_pos h]
theorem upF_good {d : Dm} (hd : okDim d = true) {a b v : Int} (h0 : 0 ≤ a) (h1 : a ≤ b) (h2 : b < d.2.length + 2) (hv : 0 ≤ v) : 0 ≤ upF d a b v ∧ upF d a b v ≤ v := by
  rw [upF_of hd h0 h1 h2 hv]
  split
  · exact ⟨hv, Int.le_refl _⟩
  · split
    · exact ⟨Int.le_refl _, hv⟩
    · rename_i h3 h4
      have hb : b ≤ d.2.length := by
        by_cases h : b ≤ d.2.length
        · exact h
        · exact absurd ((byF_zero hd (by omega)).2 (by omega)) h4
      obtain ⟨r, s⟩ := byF_div hd (a := a) (b := b) h0 (by omega) hb
      exact ⟨Int.ediv_nonneg hv (by omega), Int.ediv_le_self _ hv⟩
theorem atF_eq {l : List Dm} (hl : okDims l = true) {a b k : List Int} (h : upLev l a b) (hk : k.length = l.length) : atF l a b k = atL l a b k := by
  unfold atF atOK
  rw [hl, decide_eq_true ⟨h.1, h.2.1, hk⟩]; rfl
theorem atL_get {l : List Dm} {a b k : List Int} {i : Nat} (h : i < l.length) : (atL l a b k)[i]? = some (upF l[i] (a.getD i 0) (b.getD i 0) (k.getD i 0)) := by
  simp [atL, h]
theorem atF_good {l : List Dm} (hl : okDims l = true) {a b : List Int} (h : upLev l a b) (k : List Int) (hk : goodKey l k) : goodKey l (atF l a b k) := by
  rw [atF_eq hl h hk.1]
  refine ⟨atL_len l a b k, fun x hx => ?_⟩
  obtain ⟨i, hi, rfl⟩ := List.mem_iff_getElem.1 hx
  rw [atL_len] at hi
  have e := atL_get (a := a) (b := b) (k := k) hi
  rw [List.getElem?_eq_getElem (by rw [atL_len]; exact hi)] at e
  injection e with e
  rw [e]
  obtain ⟨h1, h2, h3⟩ := h.2.2 i hi
  have hki := hk.2 (k[i]'(by rw [hk.1]; exact hi)) (List.getElem_mem _)
  have e2 : k.getD i 0 = k[i]'(by rw [hk.1]; exact hi) := by rw [List.getD_eq_getElem?_getD, List.getElem?_eq_getElem (by rw [hk.1]; exact hi)]; rfl
  rw [e2]
  have := upF_good (okDims_all hl l[i] (List.getElem_mem _)) h1 h2 h3 hki.1
  omega
/-- A table of such may be rolled. -/
theorem goodT.rolled {l : List Dm} (hl : okDims l = true) {t : List Rw} {ls : List KV} (h : goodT l t ls) {a b : List Int} (hab : upLev l a b) (hn : t.length * sizeL ls < 9223372036854775808) : rollE l t a b = 0 ∧ goodT l (rollT l t a b) (reK (atF l a b) ls) := by
  have e0 : rollE l t a b = 0 := by unfold rollE; rw [hl, levF_of hab, h.sound]; rfl
  refine ⟨e0, ?_⟩
  unfold rollT
  rw [if_pos e0]
  exact h.roll (atF l a b) (fun k hk => atF_good hl hab k hk) hn
end Go.Proofs.YthpacapdaembpaaGreatDoor.A
open Go Go.RowKit Go.Proofs.YthpacapdaembpaaGreatDoor.K Go.Proofs.YthpacapdaembpaaGreatDoor.T
set_option linter.unusedVariables false
set_option linter.unusedSimpArgs false
namespace Go.Proofs.YthpacapdaembpaaGreatDoor.A
variable {F F' : Nat → Option (List Value)} {M M' : Nat → Option Chunk} {N N' : Nat} {K : Kont} {E : PanK}
theorem mkz_r {n : Nat} (hn : n ≤ 1000000) (k : ∀ b, N ≤ b → K (.slice (some ⟨b, 0, none⟩) n n) ⟨F, upd M b (some (.cells 3 (ic (zeros n)) n)), b + 1⟩) : mks 3 [(.int .i64 0)] 1 8 (.int .i64 (n : Nat)) (.int .i64 (n : Nat)) K ⟨F, M, N⟩ := by
  refine ⟨_, n, _, n, rfl, rfl, Nat.le_refl _, by omega, by unfold maxLen; omega, fun b hb => ?_⟩
  have hflat : ∀ n : Nat, (List.replicate n [(Value.int .i64 0)]).flatten = ic (zeros n) := fun n => by
    induction n with
    | zero => rfl
    | succ n ih => rw [List.replicate_succ, List.flatten_cons, ih]; rfl
  rw [hflat, Nat.mul_one]
  exact k b hb
theorem small2 {a b : Nat} (h1 : a ≤ 1000) (h2 : b ≤ 1000) : a * b < 9223372036854775808 := by
  have := Nat.mul_le_mul h1 h2
  omega
theorem zeros_len (n : Nat) : (zeros n).length = n := by simp [zeros]
theorem okLev_i64 {l : List Dm} {m : List Int} (hl : m.length = l.length) (h : okLev l m) (hd : ∀ d ∈ l, d.2.length ≤ 1000000) : ∀ x ∈ m, i64 x := fun x hx => by
  obtain ⟨i, hi, rfl⟩ := List.mem_iff_getElem.1 hx
  have h1 := h i (by omega)
  have h2 := hd (l[i]'(by omega)) (List.getElem_mem _)
  rw [List.getD_eq_getElem?_getD, List.getElem?_eq_getElem hi] at h1
  simp only [Option.getD_some] at h1
  exact ⟨by omega, by omega⟩
theorem okDim_div {d : Dm} (h : okDim d = true) : d.2.length ≤ 4 := by unfold okDim at h; rw [Bool.and_eq_true] at h; exact (of_decide_eq_true h.1).2.2
end Go.Proofs.YthpacapdaembpaaGreatDoor.A
open Go Go.RowKit Go.Proofs.YthpacapdaembpaaGreatDoor.K Go.Proofs.YthpacapdaembpaaGreatDoor.T
set_option linter.unusedVariables false
set_option linter.unusedSimpArgs false
namespace Go.Proofs.YthpacapdaembpaaGreatDoor.A
variable {F F' : Nat → Option (List Value)} {M M' : Nat → Option Chunk} {N N' : Nat} {K : Kont} {E : PanK}
end Go.Proofs.YthpacapdaembpaaGreatDoor.A
open Go Go.RowKit Go.Proofs.YthpacapdaembpaaGreatDoor.K Go.Proofs.YthpacapdaembpaaGreatDoor.T
set_option linter.unusedVariables false
set_option linter.unusedSimpArgs false
namespace Go.Proofs.YthpacapdaembpaaGreatDoor.A
variable {F F' : Nat → Option (List Value)} {M M' : Nat → Option Chunk} {N N' : Nat} {K : Kont} {E : PanK}
theorem wf_i64 {x : Int} (h : (Lit.int .i64 x).wf = true) : i64 x := by
  have h' : -9223372036854775808 ≤ x ∧ x ≤ 9223372036854775807 := by simpa [Lit.wf, IntKind.min, IntKind.max, IntKind.signed, IntKind.bits] using h
  exact h'
theorem rowsF_all {α : Type} {R : List Value → α → Prop} {sz : Nat} {rows : List (List Value)} {xs : List α} (h : rowsF R sz rows xs) : ∀ x ∈ xs, ∃ r, R r x := fun x hx => by
  obtain ⟨i, hi, rfl⟩ := List.mem_iff_getElem.1 hx
  obtain ⟨r, _, h2, _⟩ := h.get (List.getElem?_eq_getElem hi)
  exact ⟨r, h2⟩
end Go.Proofs.YthpacapdaembpaaGreatDoor.A
open Go Go.RowKit Go.Proofs.YthpacapdaembpaaGreatDoor.K Go.Proofs.YthpacapdaembpaaGreatDoor.T
set_option linter.unusedVariables false
set_option linter.unusedSimpArgs false
namespace Go.Proofs.YthpacapdaembpaaGreatDoor.A
variable {F F' : Nat → Option (List Value)} {M M' : Nat → Option Chunk} {N N' : Nat} {K : Kont} {E : PanK}
/-- A table as it comes in. -/
abbrev rCell : (Nat → Option (List Value)) → List Value → Int × Int × Int × Int → Prop := rP (rI .i64) (rP (rI .i64) (rP (rI .i64) (rI .i64)))
abbrev rRow : (Nat → Option (List Value)) → List Value → List Int × Int × Int × Int × Int → Prop := rP (rS 1 (rI .i64)) rCell
def toRw (y : List Int × Int × Int × Int × Int) : Rw := (y.1, ⟨y.2.1, y.2.2.1, y.2.2.2.1, y.2.2.2.2⟩)
theorem fin_true {f : FuncId} {args : Array Value} {W : World} (h : call Tryz.prog f args (fun v _ => v = .bool true) (fun _ _ => False) (h0 W)) : Calls Tryz.prog f args W fun e w' => e = .returned (.bool true) ∧ Below W.heap.size W w' :=
  (calls0 (K := fun v => v = .bool true) h).mono fun e w' ⟨⟨v, he, hv⟩, hb⟩ => ⟨by rw [he, hv], hb⟩
end Go.Proofs.YthpacapdaembpaaGreatDoor.A
open Go Go.RowKit Go.Proofs.YthpacapdaembpaaGreatDoor.K Go.Proofs.YthpacapdaembpaaGreatDoor.T
set_option linter.unusedVariables false
set_option linter.unusedSimpArgs false
namespace Go.Proofs.YthpacapdaembpaaGreatDoor.A
variable {F F' : Nat → Option (List Value)} {M M' : Nat → Option Chunk} {N N' : Nat} {K : Kont} {E : PanK}
theorem wf_u16 {x : Int} (h : (Lit.int .u16 x).wf = true) : 0 ≤ x ∧ x < 65536 := by
  have h' : 0 ≤ x ∧ x ≤ 65535 := by simpa [Lit.wf, IntKind.min, IntKind.max, IntKind.signed, IntKind.bits] using h
  omega
theorem wf_u8 {x : Int} (h : (Lit.int .u8 x).wf = true) : 0 ≤ x ∧ x < 256 := by
  have h' : 0 ≤ x ∧ x ≤ 255 := by simpa [Lit.wf, IntKind.min, IntKind.max, IntKind.signed, IntKind.bits] using h
  omega
theorem listK {kk : IntKind} {cs : List Value} {l : List Int} (h : rS 1 (rI kk) F cs l) : ∃ v, cs = [v] ∧ sF F 1 v l.length (ick kk l) ∧ (∀ x ∈ l, (Lit.int kk x).wf = true) ∧ l.length ≤ 140737488351232 := by
  obtain ⟨v, rows, rfl, h2⟩ := h
  obtain ⟨h3, h4, h5⟩ := rS_ints ⟨v, rows, rfl, h2⟩
  exact ⟨v, rfl, h3, h4, h5⟩
theorem list_of {kk : IntKind} {v : Value} {l : List Int} (h : rS 1 (rI kk) F [v] l) : sF F 1 v l.length (ick kk l) ∧ (∀ x ∈ l, (Lit.int kk x).wf = true) ∧ l.length ≤ 140737488351232 := by
  obtain ⟨u, e, h⟩ := listK h
  injection e with e _
  subst e; exact h
theorem lists_of {kk : IntKind} {v : Value} {ls : List (List Int)} (h : rS 1 (rS 1 (rI kk)) F [v] ls) : kksD kk F v ls ∧ ls.length ≤ 140737488351232 ∧ ∀ l ∈ ls, ∀ x ∈ l, (Lit.int kk x).wf = true := by
  obtain ⟨v', rows, e, hv, hr, hl⟩ := h
  injection e with e _
  subst e
  have hr' : rowsF (fun r c => (∃ u, r = [u] ∧ sF F 1 u c.length (ick kk c) ∧ c.length ≤ 140737488351232) ∧ ∀ x ∈ c, (Lit.int kk x).wf = true) 1 rows ls := hr.mono fun r c h => by
    obtain ⟨u, rfl, h1, h2, h3⟩ := listK h
    exact ⟨⟨u, rfl, h1, h3⟩, h2⟩
  exact ⟨⟨rows, hv, hr'.mono fun _ _ h => h.1⟩, hl, fun l hl => by obtain ⟨r, h⟩ := rowsF_all hr' l hl; exact h.2⟩
abbrev rCut : (Nat → Option (List Value)) → List Value → Int × List Int → Prop := rP (rI .u16) (rS 1 (rI .u8))
theorem cuts_of {v : Value} {y : List (Int × List Int)} (h : rS 2 rCut F [v] y) : cutsD F v y ∧ y.length ≤ 140737488351232 ∧ ∀ c ∈ y, (0 ≤ c.1 ∧ c.1 < 65536) ∧ ∀ x ∈ c.2, 0 ≤ x ∧ x < 256 := by
  obtain ⟨v', rows, e, hv, hr, hl⟩ := h
  injection e with e _
  subst e
  have hr' : rowsF (fun r f => cutD F r f ∧ (0 ≤ f.1 ∧ f.1 < 65536) ∧ ∀ x ∈ f.2, 0 ≤ x ∧ x < 256) 2 rows y := hr.mono fun r f ⟨c1, c2, e, ⟨ha, hb⟩, hc⟩ => by
    obtain ⟨u, rfl, h1, h2, h3⟩ := listK hc
    exact ⟨⟨u, by rw [e, ha]; rfl, h1, h3⟩, wf_u16 hb, fun x hx => wf_u8 (h2 x hx)⟩
  exact ⟨⟨rows, hv, hr'.mono fun _ _ h => h.1⟩, hl, fun c hc => by obtain ⟨r, h⟩ := rowsF_all hr' c hc; exact h.2⟩
end Go.Proofs.YthpacapdaembpaaGreatDoor.A
open Go Go.RowKit Go.Proofs.YthpacapdaembpaaGreatDoor.K Go.Proofs.YthpacapdaembpaaGreatDoor.T
set_option linter.unusedVariables false
set_option linter.unusedSimpArgs false
namespace Go.Proofs.YthpacapdaembpaaGreatDoor.A
variable {F F' : Nat → Option (List Value)} {M M' : Nat → Option Chunk} {N N' : Nat} {K : Kont} {E : PanK}
abbrev rDim : (Nat → Option (List Value)) → List Value → Int × List Int → Prop := rP (rI .i64) (rS 1 (rI .i64))
end Go.Proofs.YthpacapdaembpaaGreatDoor.A
open Go Go.RowKit Go.Proofs.YthpacapdaembpaaGreatDoor.K Go.Proofs.YthpacapdaembpaaGreatDoor.T
set_option linter.unusedVariables false
set_option linter.unusedSimpArgs false
namespace Go.Proofs.YthpacapdaembpaaGreatDoor.A
variable {F F' : Nat → Option (List Value)} {M M' : Nat → Option Chunk} {N N' : Nat} {K : Kont} {E : PanK}
theorem all_range_no {p : Nat → Bool} {n i : Nat} (hi : i < n) (h : p i = false) : (List.range n).all p = false := by
  rw [List.all_eq_false]
  exact ⟨i, List.mem_range.2 hi, by simp [h]⟩
theorem all_range_succ {p : Nat → Bool} {i : Nat} (h : (List.range i).all p = true) (hp : p i = true) : (List.range (i + 1)).all p = true := by
  rw [List.range_succ, List.all_append, h]; simp [hp]
/-- dice.every -/
theorem every_c {v fv : Value} {ls : List (List Int)} {p : Nat → Bool} {n : Nat} (hv : kksD .i64 F v ls) (hl : ls.length ≤ 1000000) (h0 : 0 < ls.length) (hn : ls[0].length = n) (hnl : n ≤ 140737488351232)
    (hf : (∀ x ∈ ls, x.length = n) → ∀ {K : Kont} (N1 i : Nat), N ≤ N1 → i < n → (∀ N', N1 ≤ N' → (Hp.mk F M N').wf → K (.bool (p i)) ⟨F, M, N'⟩) → callv Tryz.prog fv #[.int .i64 (i : Nat)] K E ⟨F, M, N1⟩)
    (k : ∀ N', N ≤ N' → (Hp.mk F M N').wf → K (.bool ((ls.all fun x => decide (x.length = n)) && (List.range n).all p)) ⟨F, M, N'⟩) :
    callv Tryz.prog (.func (.func 52) #[] #[]) #[fv, v] K E ⟨F, M, N⟩ := by
  refine callv_of_text mixed Tryz.func52 (by kernel_rfl) (t52 _ E _ _) (fun hw => ?_)
  have hlv : lenV v = some (.int .i64 (ls.length : Nat)) := by obtain ⟨rows, h1, _⟩ := hv; obtain ⟨a, c, rfl, _⟩ := h1.form; rfl
  have fin : ∀ v', v' = ((ls.all fun x => decide (x.length = n)) && (List.range n).all p) → ∀ N', N ≤ N' → ∀ h', h' = (⟨F, M, N'⟩ : Hp) → h'.wf → ∃ h'', h'.wk h'' ∧ (h''.wf → K (.bool v') h'') := fun v' e N' hN h' e' hc => by
    subst e; subst e'
    exact ⟨_, wk_refl hc, fun hw' => k _ hN hw'⟩
  try simp only [hlv]
  try simp only [gdTT, gdFF, gdTF, gdFT, pvS, pickT, pickF, faP, lenS, capS, nilP, exA, exB, exC, notB, cndT, cndF, Bool.not_true, Bool.not_false, Nat.zero_add, Nat.add_zero]
  refine l52_1_0_1_0_0 (σ := Nat) (fun i => .int .i64 (i : Nat)) (fun i h => h = ⟨F, M, N⟩ ∧ i ≤ ls.length ∧ ∀ x ∈ ls.take i, x.length = n) (fun i => ls.length - i) 0 rfl
    (fun hw1 => ⟨_, wk_refl hw1, rfl, Nat.zero_le _, by simp⟩) (fun k1 i j h1 hI hw1 next => ?_)
  obtain ⟨rfl, hi, he⟩ := hI
  refine lss_r (fun hlt => ?_) (fun hge => ?_)
  · have h1 : i < ls.length := by omega
    try simp only [gdTT, gdFF, gdTF, gdFT, pvS, pickT, pickF, faP, lenS, capS, nilP, exA, exB, exC, notB, cndT, cndF, Bool.not_true, Bool.not_false, Nat.zero_add, Nat.add_zero]
    refine kk_r hv h1 fun q u hu hul => lenF_r hu ?_
    refine kk_r (i := 0) hv h0 fun q' u' hu' hul' => lenF_r hu' ?_
    refine neq_r (fun h2 => ?_) (fun h2 => ?_)
    · try simp only [gdTT, gdFF, gdTF, gdFT, pvS, pickT, pickF, faP, lenS, capS, nilP, exA, exB, exC, notB, cndT, cndF, Bool.not_true, Bool.not_false, Nat.zero_add, Nat.add_zero]
      refine fin _ ?_ _ (Nat.le_refl _) _ rfl
      have : (ls.all fun x => decide (x.length = n)) = false := by
        rw [List.all_eq_false]
        exact ⟨ls[i], List.getElem_mem _, by rw [decide_eq_false (by omega)]; simp⟩
      rw [this]; rfl
    · try simp only [gdTT, gdFF, gdTF, gdFT, pvS, pickT, pickF, faP, lenS, capS, nilP, exA, exB, exC, notB, cndT, cndF, Bool.not_true, Bool.not_false, Nat.zero_add, Nat.add_zero]
      refine inc_r (by omega) ?_
      refine next (i + 1) _ _ (by omega) (fun hw2 => ⟨_, wk_refl hw2, rfl, h1, fun x hx => ?_⟩)
      rw [List.take_add_one, List.getElem?_eq_getElem h1] at hx
      rcases List.mem_append.1 hx with hx | hx
      · exact he x hx
      · simp at hx; rw [hx]; omega
  · try simp only [gdTT, gdFF, gdTF, gdFT, pvS, pickT, pickF, faP, lenS, capS, nilP, exA, exB, exC, notB, cndT, cndF, Bool.not_true, Bool.not_false, Nat.zero_add, Nat.add_zero]
    rw [t52_1_1]
    rw [List.take_of_length_le (by omega)] at he
    have hall : (ls.all fun x => decide (x.length = n)) = true := List.all_eq_true.2 fun x hx => decide_eq_true (he x hx)
    rw [hall, Bool.true_and] at fin
    refine kk_r (i := 0) hv h0 fun q' u' hu' hul' => lenF_r hu' ?_
    rw [hn]
    refine l52_1_1_0_1_0_0 (σ := Nat) (fun i => .int .i64 (i : Nat)) (fun i h => ∃ N', h = ⟨F, M, N'⟩ ∧ N ≤ N' ∧ i ≤ n ∧ (List.range i).all p = true) (fun i => n - i) 0 rfl
      (fun hw1 => ⟨_, wk_refl hw1, N, rfl, Nat.le_refl _, Nat.zero_le _, rfl⟩) (fun k1 i j h1 hI hw1 next => ?_)
    obtain ⟨N1, rfl, hN1, hi2, hp⟩ := hI
    refine lss_r (fun hlt => ?_) (fun hge => ?_)
    · have h1 : i < n := by omega
      try simp only [gdTT, gdFF, gdTF, gdFT, pvS, pickT, pickF, faP, lenS, capS, nilP, exA, exB, exC, notB, cndT, cndF, Bool.not_true, Bool.not_false, Nat.zero_add, Nat.add_zero]
      refine hf he N1 i hN1 h1 (fun N2 hN2 hw2 => ?_)
      cases hpi : p i
      · try simp only [gdTT, gdFF, gdTF, gdFT, pvS, pickT, pickF, faP, lenS, capS, nilP, exA, exB, exC, notB, cndT, cndF, Bool.not_true, Bool.not_false, Nat.zero_add, Nat.add_zero]
        exact fin _ (all_range_no h1 hpi).symm _ (by omega) _ rfl
      · try simp only [gdTT, gdFF, gdTF, gdFT, pvS, pickT, pickF, faP, lenS, capS, nilP, exA, exB, exC, notB, cndT, cndF, Bool.not_true, Bool.not_false, Nat.zero_add, Nat.add_zero]
        refine inc_r (by omega) ?_
        exact next (i + 1) _ _ (by omega) (fun hw3 => ⟨_, wk_refl hw3, N2, rfl, by omega, h1, all_range_succ hp hpi⟩)
    · try simp only [gdTT, gdFF, gdTF, gdFT, pvS, pickT, pickF, faP, lenS, capS, nilP, exA, exB, exC, notB, cndT, cndF, Bool.not_true, Bool.not_false, Nat.zero_add, Nat.add_zero]
      rw [t52_1_1_1]
      rw [show i = n by omega] at hp
      exact fin _ hp.symm _ hN1 _ rfl
/-- Is a key in a box? -/
def withinF (lo hi key : List Int) : Bool := decide (hi.length = lo.length ∧ key.length = lo.length) && (List.range lo.length).all fun i => decide (lo.getD i 0 ≤ key.getD i 0 ∧ key.getD i 0 < hi.getD i 0)
/-- Is a box one of dimensions? -/
def boxOK (l : List Dm) (lo hi : List Int) : Bool := decide (lo.length = l.length ∧ hi.length = l.length) && (List.range lo.length).all fun i => decide (0 ≤ lo.getD i 0 ∧ lo.getD i 0 ≤ hi.getD i 0 ∧ hi.getD i 0 ≤ (l.getD i (0, [])).1)
theorem getD_at {α : Type} {l : List α} {i : Nat} (h : i < l.length) (d : α) : l.getD i d = l[i] := by rw [List.getD_eq_getElem?_getD, List.getElem?_eq_getElem h]; rfl
/-- What was handed over in a new row. -/
theorem lits_D {ks : List (List Int)} {b : Nat} {cells : List Value} (hF : F b = some cells) (hl : cells.length = ks.length) (hr : rowsF (fun r c => ∃ u, r = [u] ∧ sF F 1 u c.length (ick .i64 c) ∧ c.length ≤ 140737488351232) 1 (cells.map fun x => [x]) ks) : kksD .i64 F (.slice (some ⟨b, 0, none⟩) ks.length ks.length) ks := by
  refine ⟨_, sF_lit (cells := (cells.map fun x => [x]).flatten) ?_ ?_ (Nat.le_refl _), hr⟩
  · rw [hF]
    congr 1
    clear hF hl hr
    induction cells with
    | nil => rfl
    | cons x xs ih => simp only [List.map_cons, List.flatten_cons]; rw [← ih]; rfl
  · have := flatten_len (sz := 1) (cells.map fun x => [x]) (by simp)
    rw [this, List.length_map, hl]
theorem frzP_at {p : Nat → Prop} {b : Nat} {e : TypeId} {cs : List Value} {tot : Nat} (hp : p b) (hM : M b = some (.cells e cs tot)) : frzP F M p b = some cs := by simp [frzP, hp, hM]
/-- dice.Within$1 -/
theorem within1_c {b1 b2 b3 : Nat} {ul uh uk : Value} {lo hi key : List Int} {e1 e2 e3 : TypeId} {i : Nat} (h1 : M b1 = some (.cells e1 [ul] 1)) (h2 : M b2 = some (.cells e2 [uh] 1)) (h3 : M b3 = some (.cells e3 [uk] 1)) (hl : sF F 1 ul lo.length (ic lo)) (hh : sF F 1 uh hi.length (ic hi)) (hk : sF F 1 uk key.length (ic key)) (i1 : i < lo.length) (i2 : i < hi.length) (i3 : i < key.length)
    (k : ∀ N', N ≤ N' → (Hp.mk F M N').wf → K (.bool (decide (lo.getD i 0 ≤ key.getD i 0 ∧ key.getD i 0 < hi.getD i 0))) ⟨F, M, N'⟩) :
    callv Tryz.prog (.func (.func 62) #[] #[.pointer (some ⟨b3, 0, none⟩), .pointer (some ⟨b1, 0, none⟩), .pointer (some ⟨b2, 0, none⟩)]) #[.int .i64 (i : Nat)] K E ⟨F, M, N⟩ := by
  refine callv_of_text mixed Tryz.func62 (by kernel_rfl) (t62 _ E _ _ _ _) (fun hw => ?_)
  rw [getD_at i1, getD_at i2, getD_at i3] at k
  refine ldM (v := uk) (ixn_r hk i3 fun p => ?_)
  refine ldM (v := ul) (ixn_r hl i1 fun p => ?_)
  refine geq_r (fun h4 => ?_) (fun h4 => ?_)
  · try simp only [gdTT, gdFF, gdTF, gdFT, pvS, pickT, pickF, faP, lenS, capS, nilP, exA, exB, exC, notB, cndT, cndF, Bool.not_true, Bool.not_false, Nat.zero_add, Nat.add_zero]
    refine ldM (v := uk) (ixn_r hk i3 fun p => ?_)
    refine ldM (v := uh) (ixn_r hh i2 fun p => ?_)
    refine lss_r (fun h5 => ?_) (fun h5 => ?_)
    · try simp only [gdTT, gdFF, gdTF, gdFT, pvS, pickT, pickF, faP, lenS, capS, nilP, exA, exB, exC, notB, cndT, cndF, Bool.not_true, Bool.not_false, Nat.zero_add, Nat.add_zero]
      rw [decide_eq_true ⟨h4, h5⟩] at k
      exact fun hc => ⟨_, wk_refl hc, fun hw' => k _ (Nat.le_refl _) hw'⟩
    · try simp only [gdTT, gdFF, gdTF, gdFT, pvS, pickT, pickF, faP, lenS, capS, nilP, exA, exB, exC, notB, cndT, cndF, Bool.not_true, Bool.not_false, Nat.zero_add, Nat.add_zero]
      rw [decide_eq_false fun q => h5 q.2] at k
      exact fun hc => ⟨_, wk_refl hc, fun hw' => k _ (Nat.le_refl _) hw'⟩
  · try simp only [gdTT, gdFF, gdTF, gdFT, pvS, pickT, pickF, faP, lenS, capS, nilP, exA, exB, exC, notB, cndT, cndF, Bool.not_true, Bool.not_false, Nat.zero_add, Nat.add_zero]
    rw [decide_eq_false fun q => h4 q.1] at k
    exact fun hc => ⟨_, wk_refl hc, fun hw' => k _ (Nat.le_refl _) hw'⟩
theorem kk_row {u : Value} {c : List Int} (h : sF F 1 u c.length (ic c)) (hl : c.length ≤ 140737488351232) : ∃ w, [u] = [w] ∧ sF F 1 w c.length (ick .i64 c) ∧ c.length ≤ 140737488351232 := ⟨u, rfl, h, hl⟩
theorem sF_one {sz m : Nat} {v : Value} {cells : List Value} (h : sF F sz v m cells) : [v].length = 1 ∧ ∀ c ∈ [v], c.oneCell' = true := by
  obtain ⟨a, c, rfl, _⟩ := h.form
  exact ⟨rfl, List.all_eq_true.1 rfl⟩
/-- dice.Within -/
theorem within_c {ul uh uk : Value} {lo hi key : List Int} (hl : sF F 1 ul lo.length (ic lo)) (hh : sF F 1 uh hi.length (ic hi)) (hk : sF F 1 uk key.length (ic key)) (hll : lo.length ≤ 140737488351232) (hhl : hi.length ≤ 140737488351232) (hkl : key.length ≤ 140737488351232)
    (k : ∀ F' N', (Hp.mk F' M N').wf → subF F F' → N ≤ N' → K (.bool (withinF lo hi key)) ⟨F', M, N'⟩) :
    callv Tryz.prog (.func (.func 40) #[] #[]) #[ul, uh, uk] K E ⟨F, M, N⟩ := by
  refine callv_of_text mixed Tryz.func40 (by kernel_rfl) (t40 _ E _ _ _) (fun hw => ?_)
  have hm : clean M N := hw.m
  obtain ⟨la, lc, hlf, _⟩ := hl.form
  obtain ⟨ha, hc0, hhf, _⟩ := hh.form
  obtain ⟨ka, kc, hkf, _⟩ := hk.form
  refine nw_r (cs := [ul]) (fun b1 hb1 => ?_) (by rw [hlf]; rfl)
  refine nw_r (cs := [uh]) (fun b2 hb2 => ?_) (by rw [hhf]; rfl)
  refine nw_r (cs := [uk]) (fun b3 hb3 => ?_) (by rw [hkf]; rfl)
  refine ldM (v := ul) (ldM (v := uh) (ldM (v := uk) ?_))
  refine nws_r (cs := [ul, uh, uk]) (by rw [hlf, hhf, hkf]; kernel_rfl) (fun b4 hb4 => ?_)
  refine callv_go (fun hc => ⟨_, wk_P (p := fun q => q = b4) hc, ?_⟩)
  have hs := subF_frzP (p := fun q => q = b4) hc
  have g4 := frzP_at (F := F) (p := fun q => q = b4) rfl (upd_same (upd (upd (upd M b1 (some (.cells 34 [ul] [ul].length))) b2 (some (.cells 34 [uh] [uh].length))) b3 (some (.cells 34 [uk] [uk].length))) b4 (some (.cells 34 [ul, uh, uk] [ul, uh, uk].length)))
  generalize hM4 : upd (upd (upd (upd M b1 _) b2 _) b3 _) b4 _ = M4 at *
  have hk4 : ∀ q, q ≠ b4 → keepM M4 (fun q => ¬ q = b4) q = M4 q := fun q hq => keepM_in hq
  have g1 : keepM M4 (fun q => ¬ q = b4) b1 = some (.cells 34 [ul] 1) := (hk4 _ (by omega)).trans (by rw [← hM4]; exact (upd_ne _ _ (by omega)).trans ((upd_ne _ _ (by omega)).trans ((upd_ne _ _ (by omega)).trans (upd_same _ _ _))))
  have g2 : keepM M4 (fun q => ¬ q = b4) b2 = some (.cells 34 [uh] 1) := (hk4 _ (by omega)).trans (by rw [← hM4]; exact (upd_ne _ _ (by omega)).trans ((upd_ne _ _ (by omega)).trans (upd_same _ _ _)))
  have g3 : keepM M4 (fun q => ¬ q = b4) b3 = some (.cells 34 [uk] 1) := (hk4 _ (by omega)).trans (by rw [← hM4]; exact (upd_ne _ _ (by omega)).trans (upd_same _ _ _))
  have hMM : ∀ q, q < N → keepM M4 (fun q => ¬ q = b4) q = M q := fun q hq => (hk4 _ (by omega)).trans (by rw [← hM4]; exact (upd_ne _ _ (by omega)).trans ((upd_ne _ _ (by omega)).trans ((upd_ne _ _ (by omega)).trans (upd_ne _ _ (by omega)))))
  generalize keepM M4 (fun q => ¬ q = b4) = M5 at *
  generalize frzP F M4 (fun q => q = b4) = F5 at *
  have hl5 := hl.mono hs
  have hh5 := hh.mono hs
  have hk5 := hk.mono hs
  have hks : kksD .i64 F5 (.slice (some ⟨b4, 0, none⟩) 3 3) [lo, hi, key] := by
    have h0 := rowsF.nil (fun (r : List Value) (c : List Int) => ∃ u, r = [u] ∧ sF F5 1 u c.length (ick .i64 c) ∧ c.length ≤ 140737488351232) 1
    exact lits_D (ks := [lo, hi, key]) g4 rfl (rowsF_snoc1 (rowsF_snoc1 (rowsF_snoc1 h0 (sF_one hl5) (kk_row hl5 hll)) (sF_one hh5) (kk_row hh5 hhl)) (sF_one hk5) (kk_row hk5 hkl))
  refine every_c (n := lo.length) (p := fun i => decide (lo.getD i 0 ≤ key.getD i 0 ∧ key.getD i 0 < hi.getD i 0)) hks (by simp) (by simp) rfl hll (fun hlen K1 N1 i hN1 hi1 hK => ?_) (fun N' hN' hw' hc => ?_)
  · exact within1_c g1 g2 g3 hl5 hh5 hk5 hi1 (by rw [hlen hi (by simp)]; exact hi1) (by rw [hlen key (by simp)]; exact hi1) hK
  · refine ⟨_, frz_wf hm hMM hc, fun hw'' => ?_⟩
    have e : withinF lo hi key = (([lo, hi, key].all fun x => decide (x.length = lo.length)) && (List.range lo.length).all fun i => decide (lo.getD i 0 ≤ key.getD i 0 ∧ key.getD i 0 < hi.getD i 0)) := by
      unfold withinF
      congr 1
      simp
    have := k _ _ hw'' (hs.trans (subF_frzAll hc)) (by omega)
    rw [e] at this; exact this
end Go.Proofs.YthpacapdaembpaaGreatDoor.A
open Go Go.RowKit Go.Proofs.YthpacapdaembpaaGreatDoor.K Go.Proofs.YthpacapdaembpaaGreatDoor.T
set_option linter.unusedVariables false
set_option linter.unusedSimpArgs false
namespace Go.Proofs.YthpacapdaembpaaGreatDoor.A
variable {F F' : Nat → Option (List Value)} {M M' : Nat → Option Chunk} {N N' : Nat} {K : Kont} {E : PanK}
theorem dims_at {v : Value} {l : List Dm} {K : Value → Value → Kont} (hv : dimsD F v l) {i : Nat} (hi : i < l.length) (k : ∀ p q, K p q (.int .i64 l[i].1) ⟨F, M, N⟩) :
    pv (iaV none 2 v (.int .i64 (i : Nat))) (fun p => pv (faV 0 p) fun q => ld false 1 q (K p q)) ⟨F, M, N⟩ := by
  obtain ⟨rows, h1, h2⟩ := hv
  refine fld_r h1 h2 (by decide) hi (off := 0) (by decide) fun p q r x hR _ hx => ?_
  obtain ⟨kv, rfl, hkv, hkl⟩ := hR
  simp at hx
  subst hx
  exact k p q
/-- What is told of a place of a box. -/
def boxP (l : List Dm) (lo hi : List Int) (i : Nat) : Bool := decide (0 ≤ lo.getD i 0 ∧ lo.getD i 0 ≤ hi.getD i 0 ∧ hi.getD i 0 ≤ (l.getD i (0, [])).1)
/-- dice.Sound$1 -/
theorem dsound1_c {b1 b2 b3 : Nat} {ul uh ud : Value} {lo hi : List Int} {l : List Dm} {e1 e2 e3 : TypeId} {i : Nat} (h1 : M b1 = some (.cells e1 [ul] 1)) (h2 : M b2 = some (.cells e2 [uh] 1)) (h3 : M b3 = some (.cells e3 [ud] 1)) (hl : sF F 1 ul lo.length (ic lo)) (hh : sF F 1 uh hi.length (ic hi)) (hd : dimsD F ud l) (i1 : i < lo.length) (i2 : i < hi.length) (i3 : i < l.length)
    (k : ∀ N', N ≤ N' → (Hp.mk F M N').wf → K (.bool (boxP l lo hi i)) ⟨F, M, N'⟩) :
    callv Tryz.prog (.func (.func 53) #[] #[.pointer (some ⟨b1, 0, none⟩), .pointer (some ⟨b2, 0, none⟩), .pointer (some ⟨b3, 0, none⟩)]) #[.int .i64 (i : Nat)] K E ⟨F, M, N⟩ := by
  refine callv_of_text mixed Tryz.func53 (by kernel_rfl) (t53 _ E _ _ _ _) (fun hw => ?_)
  unfold boxP at k
  rw [getD_at i1, getD_at i2, getD_at i3] at k
  refine ldM (v := ul) (ixn_r hl i1 fun p => ?_)
  refine geq_r (fun h4 => ?_) (fun h4 => ?_)
  · try simp only [gdTT, gdFF, gdTF, gdFT, pvS, pickT, pickF, faP, lenS, capS, nilP, exA, exB, exC, notB, cndT, cndF, Bool.not_true, Bool.not_false, Nat.zero_add, Nat.add_zero]
    refine ldM (v := ul) (ixn_r hl i1 fun p => ?_)
    refine ldM (v := uh) (ixn_r hh i2 fun p => ?_)
    refine leq_r (fun h5 => ?_) (fun h5 => ?_)
    · try simp only [gdTT, gdFF, gdTF, gdFT, pvS, pickT, pickF, faP, lenS, capS, nilP, exA, exB, exC, notB, cndT, cndF, Bool.not_true, Bool.not_false, Nat.zero_add, Nat.add_zero]
      refine ldM (v := uh) (ixn_r hh i2 fun p => ?_)
      refine ldM (v := ud) (dims_at hd i3 fun p q => ?_)
      refine leq_r (fun h6 => ?_) (fun h6 => ?_)
      · try simp only [gdTT, gdFF, gdTF, gdFT, pvS, pickT, pickF, faP, lenS, capS, nilP, exA, exB, exC, notB, cndT, cndF, Bool.not_true, Bool.not_false, Nat.zero_add, Nat.add_zero]
        rw [decide_eq_true ⟨h4, h5, h6⟩] at k
        exact fun hc => ⟨_, wk_refl hc, fun hw' => k _ (Nat.le_refl _) hw'⟩
      · try simp only [gdTT, gdFF, gdTF, gdFT, pvS, pickT, pickF, faP, lenS, capS, nilP, exA, exB, exC, notB, cndT, cndF, Bool.not_true, Bool.not_false, Nat.zero_add, Nat.add_zero]
        rw [decide_eq_false fun q => h6 q.2.2] at k
        exact fun hc => ⟨_, wk_refl hc, fun hw' => k _ (Nat.le_refl _) hw'⟩
    · try simp only [gdTT, gdFF, gdTF, gdFT, pvS, pickT, pickF, faP, lenS, capS, nilP, exA, exB, exC, notB, cndT, cndF, Bool.not_true, Bool.not_false, Nat.zero_add, Nat.add_zero]
      rw [decide_eq_false fun q => h5 q.2.1] at k
      exact fun hc => ⟨_, wk_refl hc, fun hw' => k _ (Nat.le_refl _) hw'⟩
  · try simp only [gdTT, gdFF, gdTF, gdFT, pvS, pickT, pickF, faP, lenS, capS, nilP, exA, exB, exC, notB, cndT, cndF, Bool.not_true, Bool.not_false, Nat.zero_add, Nat.add_zero]
    rw [decide_eq_false fun q => h4 q.1] at k
    exact fun hc => ⟨_, wk_refl hc, fun hw' => k _ (Nat.le_refl _) hw'⟩
/-- dice.Sound -/
theorem dcsound_c {ud ul uh : Value} {l : List Dm} {lo hi : List Int} (hd : dimsD F ud l) (hl : sF F 1 ul lo.length (ic lo)) (hh : sF F 1 uh hi.length (ic hi)) (hll : lo.length ≤ 140737488351232) (hhl : hi.length ≤ 140737488351232)
    (k : ∀ F' N', (Hp.mk F' M N').wf → subF F F' → N ≤ N' → K (.bool (boxOK l lo hi)) ⟨F', M, N'⟩) :
    callv Tryz.prog (.func (.func 31) #[] #[]) #[ud, ul, uh] K E ⟨F, M, N⟩ := by
  refine callv_of_text mixed Tryz.func31 (by kernel_rfl) (t31 _ E _ _ _) (fun hw => ?_)
  have hm : clean M N := hw.m
  obtain ⟨la, lc, hlf, _⟩ := hl.form
  obtain ⟨ha, hc0, hhf, _⟩ := hh.form
  obtain ⟨da, dc, hdf⟩ := hd.form
  have hlv : lenV ul = some (.int .i64 (lo.length : Nat)) := by rw [hlf]; rfl
  have hdv : lenV ud = some (.int .i64 (l.length : Nat)) := by rw [hdf]; rfl
  refine nw_r (cs := [ud]) (fun b1 hb1 => ?_) (by rw [hdf]; rfl)
  refine nw_r (cs := [ul]) (fun b2 hb2 => ?_) (by rw [hlf]; rfl)
  refine nw_r (cs := [uh]) (fun b3 hb3 => ?_) (by rw [hhf]; rfl)
  refine ldM (v := ul) ?_
  refine pv_r hlv ?_
  refine ldM (v := ud) (pv_r hdv ?_)
  refine eql_r (fun hq => ?_) (fun hq => ?_)
  · try simp only [gdTT, gdFF, gdTF, gdFT, pvS, pickT, pickF, faP, lenS, capS, nilP, exA, exB, exC, notB, cndT, cndF, Bool.not_true, Bool.not_false, Nat.zero_add, Nat.add_zero]
    refine ldM (v := ul) (ldM (v := uh) ?_)
    refine nws_r (cs := [ul, uh]) (by rw [hlf, hhf]; kernel_rfl) (fun b4 hb4 => ?_)
    refine callv_go (fun hc => ⟨_, wk_P (p := fun q => q = b4) hc, ?_⟩)
    have hs := subF_frzP (p := fun q => q = b4) hc
    have g4 := frzP_at (F := F) (p := fun q => q = b4) rfl (upd_same (upd (upd (upd M b1 (some (.cells 28 [ud] [ud].length))) b2 (some (.cells 34 [ul] [ul].length))) b3 (some (.cells 34 [uh] [uh].length))) b4 (some (.cells 34 [ul, uh] [ul, uh].length)))
    generalize hM4 : upd (upd (upd (upd M b1 _) b2 _) b3 _) b4 _ = M4 at *
    have hk4 : ∀ q, q ≠ b4 → keepM M4 (fun q => ¬ q = b4) q = M4 q := fun q hq => keepM_in hq
    have g1 : keepM M4 (fun q => ¬ q = b4) b1 = some (.cells 28 [ud] 1) := (hk4 _ (by omega)).trans (by rw [← hM4]; exact (upd_ne _ _ (by omega)).trans ((upd_ne _ _ (by omega)).trans ((upd_ne _ _ (by omega)).trans (upd_same _ _ _))))
    have g2 : keepM M4 (fun q => ¬ q = b4) b2 = some (.cells 34 [ul] 1) := (hk4 _ (by omega)).trans (by rw [← hM4]; exact (upd_ne _ _ (by omega)).trans ((upd_ne _ _ (by omega)).trans (upd_same _ _ _)))
    have g3 : keepM M4 (fun q => ¬ q = b4) b3 = some (.cells 34 [uh] 1) := (hk4 _ (by omega)).trans (by rw [← hM4]; exact (upd_ne _ _ (by omega)).trans (upd_same _ _ _))
    have hMM : ∀ q, q < N → keepM M4 (fun q => ¬ q = b4) q = M q := fun q hq => (hk4 _ (by omega)).trans (by rw [← hM4]; exact (upd_ne _ _ (by omega)).trans ((upd_ne _ _ (by omega)).trans ((upd_ne _ _ (by omega)).trans (upd_ne _ _ (by omega)))))
    generalize keepM M4 (fun q => ¬ q = b4) = M5 at *
    generalize frzP F M4 (fun q => q = b4) = F5 at *
    have hl5 := hl.mono hs
    have hh5 := hh.mono hs
    have hd5 := hd.mono hs
    have hks : kksD .i64 F5 (.slice (some ⟨b4, 0, none⟩) 2 2) [lo, hi] := by
      have h0 := rowsF.nil (fun (r : List Value) (c : List Int) => ∃ u, r = [u] ∧ sF F5 1 u c.length (ick .i64 c) ∧ c.length ≤ 140737488351232) 1
      exact lits_D (ks := [lo, hi]) g4 rfl (rowsF_snoc1 (rowsF_snoc1 h0 (sF_one hl5) (kk_row hl5 hll)) (sF_one hh5) (kk_row hh5 hhl))
    refine every_c (n := lo.length) (p := boxP l lo hi) hks (by simp) (by simp) rfl hll (fun hlen K1 N1 i hN1 hi1 hK => ?_) (fun N' hN' hw' => ?_)
    · exact dsound1_c g2 g3 g1 hl5 hh5 hd5 hi1 (by rw [hlen hi (by simp)]; exact hi1) (by omega) hK
    · try simp only [gdTT, gdFF, gdTF, gdFT, pvS, pickT, pickF, faP, lenS, capS, nilP, exA, exB, exC, notB, cndT, cndF, Bool.not_true, Bool.not_false, Nat.zero_add, Nat.add_zero]
      refine fun hc => ⟨_, frz_wf hm hMM hc, fun hw'' => ?_⟩
      have e : boxOK l lo hi = (([lo, hi].all fun x => decide (x.length = lo.length)) && (List.range lo.length).all (boxP l lo hi)) := by
        have e0 : decide (lo.length = l.length ∧ hi.length = l.length) = decide (hi.length = lo.length) := decide_eq_decide.2 ⟨fun q => by omega, fun q => by omega⟩
        unfold boxOK boxP
        rw [e0]
        congr 1
        simp
      have := k _ _ hw'' (hs.trans (subF_frzAll hc)) (by omega)
      rw [e] at this; exact this
  · try simp only [gdTT, gdFF, gdTF, gdFT, pvS, pickT, pickF, faP, lenS, capS, nilP, exA, exB, exC, notB, cndT, cndF, Bool.not_true, Bool.not_false, Nat.zero_add, Nat.add_zero]
    refine fun hc => ⟨⟨F, M, b3 + 1⟩, wk_drop hc (subM_drop (subM_drop (subM_drop (subM_refl _) (hm _ (by omega))) (hm _ (by omega))) (hm _ (by omega))), fun hw' => ?_⟩
    have e : boxOK l lo hi = false := by unfold boxOK; rw [decide_eq_false (by omega)]; rfl
    have := k _ _ hw' (subF.refl _) (by omega)
    rw [e] at this; exact this
/-- Sound of boxes, of the reference -/
theorem rcsound_c {ud ul uh : Value} {l : List Dm} {lo hi : List Int} (hd : dimsD F ud l) (hl : sF F 1 ul lo.length (ic lo)) (hh : sF F 1 uh hi.length (ic hi)) (hdl : l.length ≤ 140737488351232)
    (k : ∀ N', N ≤ N' → (Hp.mk F M N').wf → K (.bool (boxOK l lo hi)) ⟨F, M, N'⟩) :
    callv Tryz.prog (.func (.func 44) #[] #[]) #[ud, ul, uh] K E ⟨F, M, N⟩ := by
  refine callv_of_text mixed Tryz.func44 (by kernel_rfl) (t44 _ E _ _ _) (fun hw => ?_)
  have hlv : lenV ul = some (.int .i64 (lo.length : Nat)) := by obtain ⟨a, c, rfl, _⟩ := hl.form; rfl
  have hhv : lenV uh = some (.int .i64 (hi.length : Nat)) := by obtain ⟨a, c, rfl, _⟩ := hh.form; rfl
  have hdv : lenV ud = some (.int .i64 (l.length : Nat)) := by obtain ⟨a, c, rfl⟩ := hd.form; rfl
  have fin : ∀ v', v' = boxOK l lo hi → ∀ N', N ≤ N' → ∀ h', h' = (⟨F, M, N'⟩ : Hp) → h'.wf → ∃ h'', h'.wk h'' ∧ (h''.wf → K (.bool v') h'') := fun v' e N' hN h' e' hc => by
    subst e; subst e'
    exact ⟨_, wk_refl hc, fun hw' => k _ hN hw'⟩
  refine pv_r hlv (pv_r hdv ?_)
  refine neq_r (fun h1 => ?_) (fun h1 => ?_)
  · try simp only [gdTT, gdFF, gdTF, gdFT, pvS, pickT, pickF, faP, lenS, capS, nilP, exA, exB, exC, notB, cndT, cndF, Bool.not_true, Bool.not_false, Nat.zero_add, Nat.add_zero]
    exact fin _ (by unfold boxOK; rw [decide_eq_false (by omega)]; rfl) _ (Nat.le_refl _) _ rfl
  try simp only [gdTT, gdFF, gdTF, gdFT, pvS, pickT, pickF, faP, lenS, capS, nilP, exA, exB, exC, notB, cndT, cndF, Bool.not_true, Bool.not_false, Nat.zero_add, Nat.add_zero]
  refine pv_r hhv (pv_r hdv ?_)
  refine neq_r (fun h2 => ?_) (fun h2 => ?_)
  · try simp only [gdTT, gdFF, gdTF, gdFT, pvS, pickT, pickF, faP, lenS, capS, nilP, exA, exB, exC, notB, cndT, cndF, Bool.not_true, Bool.not_false, Nat.zero_add, Nat.add_zero]
    exact fin _ (by unfold boxOK; rw [decide_eq_false (by omega)]; rfl) _ (Nat.le_refl _) _ rfl
  try simp only [gdTT, gdFF, gdTF, gdFT, pvS, pickT, pickF, faP, lenS, capS, nilP, exA, exB, exC, notB, cndT, cndF, Bool.not_true, Bool.not_false, Nat.zero_add, Nat.add_zero]
  have hb : boxOK l lo hi = (List.range l.length).all (boxP l lo hi) := by
    unfold boxOK boxP
    rw [decide_eq_true ⟨by omega, by omega⟩, Bool.true_and, show lo.length = l.length by omega]
  rw [hb] at fin
  refine l44_1_1_0_1_0_0 (σ := Nat) (fun i => .int .i64 (i : Nat)) (fun i h => h = ⟨F, M, N⟩ ∧ i ≤ l.length ∧ (List.range i).all (boxP l lo hi) = true) (fun i => l.length - i) 0 rfl
    (fun hw1 => ⟨_, wk_refl hw1, rfl, Nat.zero_le _, rfl⟩) (fun k1 i j h1 hI hw1 next => ?_)
  obtain ⟨rfl, hi', he⟩ := hI
  refine pv_r hdv ?_
  refine lss_r (fun hlt => ?_) (fun hge => ?_)
  · have i3 : i < l.length := by omega
    have i1 : i < lo.length := by omega
    have i2 : i < hi.length := by omega
    have hp : boxP l lo hi i = decide (0 ≤ lo[i] ∧ lo[i] ≤ hi[i] ∧ hi[i] ≤ l[i].1) := by
      unfold boxP
      rw [getD_at i1, getD_at i2, getD_at i3]
    try simp only [gdTT, gdFF, gdTF, gdFT, pvS, pickT, pickF, faP, lenS, capS, nilP, exA, exB, exC, notB, cndT, cndF, Bool.not_true, Bool.not_false, Nat.zero_add, Nat.add_zero]
    refine ixn_r hl i1 fun p => ?_
    refine lss_r (fun h4 => ?_) (fun h4 => ?_)
    · try simp only [gdTT, gdFF, gdTF, gdFT, pvS, pickT, pickF, faP, lenS, capS, nilP, exA, exB, exC, notB, cndT, cndF, Bool.not_true, Bool.not_false, Nat.zero_add, Nat.add_zero]
      exact fin _ (all_range_no i3 (by rw [hp]; exact decide_eq_false (by omega))).symm _ (Nat.le_refl _) _ rfl
    try simp only [gdTT, gdFF, gdTF, gdFT, pvS, pickT, pickF, faP, lenS, capS, nilP, exA, exB, exC, notB, cndT, cndF, Bool.not_true, Bool.not_false, Nat.zero_add, Nat.add_zero]
    refine ixn_r hl i1 fun p => ixn_r hh i2 fun p => ?_
    refine gtr_r (fun h5 => ?_) (fun h5 => ?_)
    · try simp only [gdTT, gdFF, gdTF, gdFT, pvS, pickT, pickF, faP, lenS, capS, nilP, exA, exB, exC, notB, cndT, cndF, Bool.not_true, Bool.not_false, Nat.zero_add, Nat.add_zero]
      exact fin _ (all_range_no i3 (by rw [hp]; exact decide_eq_false (by omega))).symm _ (Nat.le_refl _) _ rfl
    try simp only [gdTT, gdFF, gdTF, gdFT, pvS, pickT, pickF, faP, lenS, capS, nilP, exA, exB, exC, notB, cndT, cndF, Bool.not_true, Bool.not_false, Nat.zero_add, Nat.add_zero]
    refine ixn_r hh i2 fun p => dims_at hd i3 fun p q => ?_
    refine gtr_r (fun h6 => ?_) (fun h6 => ?_)
    · try simp only [gdTT, gdFF, gdTF, gdFT, pvS, pickT, pickF, faP, lenS, capS, nilP, exA, exB, exC, notB, cndT, cndF, Bool.not_true, Bool.not_false, Nat.zero_add, Nat.add_zero]
      exact fin _ (all_range_no i3 (by rw [hp]; exact decide_eq_false (by omega))).symm _ (Nat.le_refl _) _ rfl
    try simp only [gdTT, gdFF, gdTF, gdFT, pvS, pickT, pickF, faP, lenS, capS, nilP, exA, exB, exC, notB, cndT, cndF, Bool.not_true, Bool.not_false, Nat.zero_add, Nat.add_zero]
    refine inc_r (by omega) ?_
    exact next (i + 1) _ _ (by omega) (fun hw3 => ⟨_, wk_refl hw3, rfl, i3, all_range_succ he (by rw [hp]; exact decide_eq_true ⟨by omega, by omega, by omega⟩)⟩)
  · try simp only [gdTT, gdFF, gdTF, gdFT, pvS, pickT, pickF, faP, lenS, capS, nilP, exA, exB, exC, notB, cndT, cndF, Bool.not_true, Bool.not_false, Nat.zero_add, Nat.add_zero]
    rw [t44_1_1_1]
    rw [show i = l.length by omega] at he
    exact fin _ he.symm _ (Nat.le_refl _) _ rfl
/-- Within, of the reference -/
theorem rwithin_c {ul uh uk : Value} {lo hi key : List Int} (hl : sF F 1 ul lo.length (ic lo)) (hh : sF F 1 uh hi.length (ic hi)) (hk : sF F 1 uk key.length (ic key)) (hll : lo.length ≤ 140737488351232)
    (k : ∀ N', N ≤ N' → (Hp.mk F M N').wf → K (.bool (withinF lo hi key)) ⟨F, M, N'⟩) :
    callv Tryz.prog (.func (.func 48) #[] #[]) #[ul, uh, uk] K E ⟨F, M, N⟩ := by
  refine callv_of_text mixed Tryz.func48 (by kernel_rfl) (t48 _ E _ _ _) (fun hw => ?_)
  have hlv : lenV ul = some (.int .i64 (lo.length : Nat)) := by obtain ⟨a, c, rfl, _⟩ := hl.form; rfl
  have hhv : lenV uh = some (.int .i64 (hi.length : Nat)) := by obtain ⟨a, c, rfl, _⟩ := hh.form; rfl
  have hkv : lenV uk = some (.int .i64 (key.length : Nat)) := by obtain ⟨a, c, rfl, _⟩ := hk.form; rfl
  have fin : ∀ v', v' = withinF lo hi key → ∀ N', N ≤ N' → ∀ h', h' = (⟨F, M, N'⟩ : Hp) → h'.wf → ∃ h'', h'.wk h'' ∧ (h''.wf → K (.bool v') h'') := fun v' e N' hN h' e' hc => by
    subst e; subst e'
    exact ⟨_, wk_refl hc, fun hw' => k _ hN hw'⟩
  refine pv_r hlv (pv_r hhv ?_)
  refine neq_r (fun h1 => ?_) (fun h1 => ?_)
  · try simp only [gdTT, gdFF, gdTF, gdFT, pvS, pickT, pickF, faP, lenS, capS, nilP, exA, exB, exC, notB, cndT, cndF, Bool.not_true, Bool.not_false, Nat.zero_add, Nat.add_zero]
    exact fin _ (by unfold withinF; rw [decide_eq_false (by omega)]; rfl) _ (Nat.le_refl _) _ rfl
  try simp only [gdTT, gdFF, gdTF, gdFT, pvS, pickT, pickF, faP, lenS, capS, nilP, exA, exB, exC, notB, cndT, cndF, Bool.not_true, Bool.not_false, Nat.zero_add, Nat.add_zero]
  refine pv_r hlv (pv_r hkv ?_)
  refine neq_r (fun h2 => ?_) (fun h2 => ?_)
  · try simp only [gdTT, gdFF, gdTF, gdFT, pvS, pickT, pickF, faP, lenS, capS, nilP, exA, exB, exC, notB, cndT, cndF, Bool.not_true, Bool.not_false, Nat.zero_add, Nat.add_zero]
    exact fin _ (by unfold withinF; rw [decide_eq_false (by omega)]; rfl) _ (Nat.le_refl _) _ rfl
  try simp only [gdTT, gdFF, gdTF, gdFT, pvS, pickT, pickF, faP, lenS, capS, nilP, exA, exB, exC, notB, cndT, cndF, Bool.not_true, Bool.not_false, Nat.zero_add, Nat.add_zero]
  have hb : withinF lo hi key = (List.range lo.length).all fun i => decide (lo.getD i 0 ≤ key.getD i 0 ∧ key.getD i 0 < hi.getD i 0) := by
    unfold withinF
    rw [decide_eq_true ⟨by omega, by omega⟩, Bool.true_and]
  rw [hb] at fin
  refine l48_1_1_0_1_0_0 (σ := Nat) (fun i => .int .i64 (i : Nat)) (fun i h => h = ⟨F, M, N⟩ ∧ i ≤ lo.length ∧ ((List.range i).all fun i => decide (lo.getD i 0 ≤ key.getD i 0 ∧ key.getD i 0 < hi.getD i 0)) = true) (fun i => lo.length - i) 0 rfl
    (fun hw1 => ⟨_, wk_refl hw1, rfl, Nat.zero_le _, rfl⟩) (fun k1 i j h1 hI hw1 next => ?_)
  obtain ⟨rfl, hi', he⟩ := hI
  refine pv_r hlv ?_
  refine lss_r (fun hlt => ?_) (fun hge => ?_)
  · have i1 : i < lo.length := by omega
    have i2 : i < hi.length := by omega
    have i3 : i < key.length := by omega
    have hp : decide (lo.getD i 0 ≤ key.getD i 0 ∧ key.getD i 0 < hi.getD i 0) = decide (lo[i] ≤ key[i] ∧ key[i] < hi[i]) := by
      rw [getD_at i1, getD_at i2, getD_at i3]
    try simp only [gdTT, gdFF, gdTF, gdFT, pvS, pickT, pickF, faP, lenS, capS, nilP, exA, exB, exC, notB, cndT, cndF, Bool.not_true, Bool.not_false, Nat.zero_add, Nat.add_zero]
    refine ixn_r hk i3 fun p => ixn_r hl i1 fun p => ?_
    refine lss_r (fun h4 => ?_) (fun h4 => ?_)
    · try simp only [gdTT, gdFF, gdTF, gdFT, pvS, pickT, pickF, faP, lenS, capS, nilP, exA, exB, exC, notB, cndT, cndF, Bool.not_true, Bool.not_false, Nat.zero_add, Nat.add_zero]
      exact fin _ (all_range_no i1 (by rw [hp]; exact decide_eq_false (by omega))).symm _ (Nat.le_refl _) _ rfl
    try simp only [gdTT, gdFF, gdTF, gdFT, pvS, pickT, pickF, faP, lenS, capS, nilP, exA, exB, exC, notB, cndT, cndF, Bool.not_true, Bool.not_false, Nat.zero_add, Nat.add_zero]
    refine ixn_r hk i3 fun p => ixn_r hh i2 fun p => ?_
    refine geq_r (fun h5 => ?_) (fun h5 => ?_)
    · try simp only [gdTT, gdFF, gdTF, gdFT, pvS, pickT, pickF, faP, lenS, capS, nilP, exA, exB, exC, notB, cndT, cndF, Bool.not_true, Bool.not_false, Nat.zero_add, Nat.add_zero]
      exact fin _ (all_range_no i1 (by rw [hp]; exact decide_eq_false (by omega))).symm _ (Nat.le_refl _) _ rfl
    try simp only [gdTT, gdFF, gdTF, gdFT, pvS, pickT, pickF, faP, lenS, capS, nilP, exA, exB, exC, notB, cndT, cndF, Bool.not_true, Bool.not_false, Nat.zero_add, Nat.add_zero]
    refine inc_r (by omega) ?_
    exact next (i + 1) _ _ (by omega) (fun hw3 => ⟨_, wk_refl hw3, rfl, i1, all_range_succ he (by rw [hp]; exact decide_eq_true ⟨by omega, by omega⟩)⟩)
  · try simp only [gdTT, gdFF, gdTF, gdFT, pvS, pickT, pickF, faP, lenS, capS, nilP, exA, exB, exC, notB, cndT, cndF, Bool.not_true, Bool.not_false, Nat.zero_add, Nat.add_zero]
    rw [t48_1_1_1]
    rw [show i = lo.length by omega] at he
    exact fin _ he.symm _ (Nat.le_refl _) _ rfl
end Go.Proofs.YthpacapdaembpaaGreatDoor.A
open Go Go.RowKit Go.Proofs.YthpacapdaembpaaGreatDoor.K Go.Proofs.YthpacapdaembpaaGreatDoor.T
set_option linter.unusedVariables false
set_option linter.unusedSimpArgs false
namespace Go.Proofs.YthpacapdaembpaaGreatDoor.A
variable {F F' : Nat → Option (List Value)} {M M' : Nat → Option Chunk} {N N' : Nat} {K : Kont} {E : PanK}
/-- The rows whose keys are in a box. -/
def cutF (lo hi : List Int) (t : List Rw) : List Rw := t.filter fun r => withinF lo hi r.1
theorem cutF_len (lo hi : List Int) (t : List Rw) : (cutF lo hi t).length ≤ t.length := List.length_filter_le _ _
theorem cutF_t {lo hi : List Int} {t : List Rw} {i : Nat} (h : i < t.length) (hp : withinF lo hi t[i].1 = true) : cutF lo hi (t.take (i + 1)) = cutF lo hi (t.take i) ++ [t[i]] := by
  unfold cutF
  rw [List.take_add_one, List.getElem?_eq_getElem h, Option.toList_some, List.filter_append]
  simp [hp]
theorem cutF_f {lo hi : List Int} {t : List Rw} {i : Nat} (h : i < t.length) (hp : withinF lo hi t[i].1 = false) : cutF lo hi (t.take (i + 1)) = cutF lo hi (t.take i) := by
  unfold cutF
  rw [List.take_add_one, List.getElem?_eq_getElem h, Option.toList_some, List.filter_append]
  simp [hp]
set_option maxRecDepth 10000 in
/-- dice.Cut -/
theorem dcut_c {v ul uh : Value} {t : List Rw} {lo hi : List Int} (hv : tblD F v t) (hl : sF F 1 ul lo.length (ic lo)) (hh : sF F 1 uh hi.length (ic hi)) (hll : lo.length ≤ 140737488351232) (hhl : hi.length ≤ 140737488351232) (htl : t.length ≤ 1000000000) (hk : ∀ r ∈ t, r.1.length ≤ 10000000000)
    (k : ∀ v' F' N', (Hp.mk F' M N').wf → subF F F' → N ≤ N' → tblD F' v' (cutF lo hi t) → K v' ⟨F', M, N'⟩) :
    callv Tryz.prog (.func (.func 20) #[] #[]) #[v, ul, uh] K E ⟨F, M, N⟩ := by
  refine callv_of_text mixed Tryz.func20 (by kernel_rfl) (t20 _ E _ _ _) (fun hw => ?_)
  have hm : clean M N := hw.m
  obtain ⟨trs, hvs, hrs⟩ := hv
  refine lenF_r hvs ?_
  refine l20_1_1_0_1_0_0 (σ := Nat × Value) (fun s => s.2) (fun s => .int .i64 (s.1 : Nat))
    (fun s h => ∃ F' M' N' rows, h = ⟨F', M', N'⟩ ∧ subF F F' ∧ N ≤ N' ∧ (∀ q, q < N → M' q = M q) ∧ clean M' N' ∧ s.1 ≤ t.length ∧ own M' N 51 5 s.2 (cutF lo hi (t.take s.1)).length rows.flatten ∧ rowsF (rowD F') 5 rows (cutF lo hi (t.take s.1))) (fun s => t.length - s.1) (0, .slice none 0 0) rfl rfl
    (fun hw1 => ⟨_, wk_refl hw1, F, M, N, [], rfl, subF.refl _, Nat.le_refl _, fun _ _ => rfl, hm, Nat.zero_le _, own.nil, rowsF.nil _ _⟩) (fun k1 s j h1 hI hw1 next => ?_)
  obtain ⟨F1, M1, N1, rows, rfl, hF1, hN1, hM1, hm1, hi', ho, hr⟩ := hI
  have hcl := cutF_len lo hi (t.take s.1)
  rw [List.length_take] at hcl
  refine lss_r (fun hlt => ?_) (fun hge => ?_)
  · have h1 : s.1 < t.length := by omega
    try simp only [gdTT, gdFF, gdTF, gdFT, pvS, pickT, pickF, faP, lenS, capS, nilP, exA, exB, exC, notB, cndT, cndF, Bool.not_true, Bool.not_false, Nat.zero_add, Nat.add_zero]
    refine row_r (hvs.mono hF1) (hrs.mono fun _ _ h => h.mono hF1) (by decide) h1 (fun p r _ hR hrl hr1 => ?_)
    obtain ⟨kv, hre, hkv, hkl⟩ := hR
    subst hre
    refine nw_r (fun b1 hb1 => ?_)
    refine stM (cs' := kv :: t[s.1].2.cs) ?_ (upd_same _ _ _) rfl rfl hr1
    refine pv_r rfl (ldM (v := kv) ?_)
    rw [upd_upd]
    have hM2 : ∀ q, q < N → upd M1 b1 (some (.cells 51 (kv :: t[s.1].2.cs) 5)) q = M q := fun q hq => (upd_ne _ _ (by omega)).trans (hM1 q hq)
    have hb2 := upd_same M1 b1 (some (.cells 51 (kv :: t[s.1].2.cs) 5))
    have ho2 := ho.box hm1 hb1 (some (.cells 51 (kv :: t[s.1].2.cs) 5))
    refine within_c (hl.mono hF1) (hh.mono hF1) hkv hll hhl hkl (fun F2 N2 hw2 hF2 hN2 => ?_)
    have hm2 : clean (upd M1 b1 (some (.cells 51 (kv :: t[s.1].2.cs) 5))) N2 := hw2.m
    generalize upd M1 b1 _ = M2 at *
    cases hp : withinF lo hi t[s.1].1
    · try simp only [gdTT, gdFF, gdTF, gdFT, pvS, pickT, pickF, faP, lenS, capS, nilP, exA, exB, exC, notB, cndT, cndF, Bool.not_true, Bool.not_false, Nat.zero_add, Nat.add_zero]
      rw [t20_1_1_0_1_0_0_1_1_1]
      refine inc_r (by omega) ?_
      refine next (s.1 + 1, s.2) _ _ (by simp only; omega) (fun hw3 => ⟨_, wk_refl hw3, F2, M2, N2, rows, rfl, hF1.trans hF2, by omega, hM2, hm2, h1, ?_, ?_⟩)
      · simp only; rw [cutF_f h1 hp]; exact ho2
      · simp only; rw [cutF_f h1 hp]; exact hr.mono fun _ _ h => h.mono hF2
    · try simp only [gdTT, gdFF, gdTF, gdFT, pvS, pickT, pickF, faP, lenS, capS, nilP, exA, exB, exC, notB, cndT, cndF, Bool.not_true, Bool.not_false, Nat.zero_add, Nat.add_zero]
      refine ldM (v := kv) ?_ hb2
      try simp only [gdTT, gdFF, gdTF, gdFT, pvS, pickT, pickF, faP, lenS, capS, nilP, exA, exB, exC, notB, cndT, cndF, Bool.not_true, Bool.not_false, Nat.zero_add, Nat.add_zero]
      refine ldMa (vs := t[s.1].2.cs) ?_ hb2
      refine clone_f hm2 (hkv.mono hF2).sR (by have := hk _ (List.getElem_mem h1); omega) (fun kv' F3 N3 hw3 hF3 hN3 hkv' => ?_)
      refine ⟨ldV_a (row_M hb2) (by exact Nat.le_of_ble_eq_true rfl) rfl, ?_⟩
      have hrc := row_cells (c := t[s.1].2) hkv'
      obtain ⟨ak, ck, hkf, hck⟩ := hkv'.form
      refine pv_r (v := .agg (kv' :: t[s.1].2.cs).toArray) (by rw [hkf]; kernel_rfl) ?_
      refine push_r (new := kv' :: t[s.1].2.cs) ho2 hw3.m (by omega) (by rw [hkf]; kernel_rfl) hrc.1 hrc.2 (by omega) (by unfold maxLen; omega) (fun p v' M4 N4 h4 h5 h6 h7 => ?_)
      rw [t20_1_1_0_1_0_0_1_1_1]
      refine inc_r (by omega) ?_
      refine next (s.1 + 1, v') _ _ (by simp only; omega) (fun hw5 => ⟨_, wk_refl hw5, F3, M4, N4, rows ++ [kv' :: t[s.1].2.cs], rfl, (hF1.trans hF2).trans hF3, by omega, fun q hq => ?_, h7, h1, ?_, ?_⟩)
      · exact ((h5 q (fun e => by have := (ho2.ge q e).1; omega) (by omega)).1).trans (hM2 q hq)
      · simp only; rw [cutF_t h1 hp, List.length_append]; simpa using h4
      · simp only
        rw [cutF_t h1 hp]
        exact rowsF_snoc1 (hr.mono fun _ _ h => h.mono (hF2.trans hF3)) hrc ⟨kv', rfl, hkv', hkl⟩
  · try simp only [gdTT, gdFF, gdTF, gdFT, pvS, pickT, pickF, faP, lenS, capS, nilP, exA, exB, exC, notB, cndT, cndF, Bool.not_true, Bool.not_false, Nat.zero_add, Nat.add_zero]
    rw [t20_1_1_1]
    rw [List.take_of_length_le (by omega)] at ho hr
    exact fun hc => ⟨_, frz_wf hm hM1 hc, fun hw' => k _ _ _ hw' (hF1.trans (subF_frzAll hc)) hN1 (tbl_frz hc ho hr)⟩
set_option maxRecDepth 10000 in
/-- Cut, of the reference -/
theorem rcut_c {v ul uh : Value} {t : List Rw} {lo hi : List Int} (hv : tblD F v t) (hl : sF F 1 ul lo.length (ic lo)) (hh : sF F 1 uh hi.length (ic hi)) (hll : lo.length ≤ 140737488351232) (htl : t.length ≤ 1000000000) (hk : ∀ r ∈ t, r.1.length ≤ 10000000000)
    (k : ∀ v' F' N', (Hp.mk F' M N').wf → subF F F' → N ≤ N' → tblD F' v' (cutF lo hi t) → K v' ⟨F', M, N'⟩) :
    callv Tryz.prog (.func (.func 25) #[] #[]) #[v, ul, uh] K E ⟨F, M, N⟩ := by
  refine callv_of_text mixed Tryz.func25 (by kernel_rfl) (t25 _ E _ _ _) (fun hw => ?_)
  have hm : clean M N := hw.m
  obtain ⟨trs, hvs, hrs⟩ := hv
  have hlv : lenV v = some (.int .i64 (t.length : Nat)) := by obtain ⟨a, c, rfl, _⟩ := hvs.form; rfl
  refine l25_1_1_0_1_0_0 (σ := Nat × Value) (fun s => s.2) (fun s => .int .i64 (s.1 : Nat))
    (fun s h => ∃ F' M' N' rows, h = ⟨F', M', N'⟩ ∧ subF F F' ∧ N ≤ N' ∧ (∀ q, q < N → M' q = M q) ∧ clean M' N' ∧ s.1 ≤ t.length ∧ own M' N 51 5 s.2 (cutF lo hi (t.take s.1)).length rows.flatten ∧ rowsF (rowD F') 5 rows (cutF lo hi (t.take s.1))) (fun s => t.length - s.1) (0, .slice none 0 0) rfl rfl
    (fun hw1 => ⟨_, wk_refl hw1, F, M, N, [], rfl, subF.refl _, Nat.le_refl _, fun _ _ => rfl, hm, Nat.zero_le _, own.nil, rowsF.nil _ _⟩) (fun k1 s j h1 hI hw1 next => ?_)
  obtain ⟨F1, M1, N1, rows, rfl, hF1, hN1, hM1, hm1, hi', ho, hr⟩ := hI
  have hcl := cutF_len lo hi (t.take s.1)
  rw [List.length_take] at hcl
  refine pv_r hlv ?_
  refine lss_r (fun hlt => ?_) (fun hge => ?_)
  · have h1 : s.1 < t.length := by omega
    have hvs1 := hvs.mono hF1
    have hrs1 : rowsF (rowD F1) 5 trs t := hrs.mono fun _ _ h => h.mono hF1
    try simp only [gdTT, gdFF, gdTF, gdFT, pvS, pickT, pickF, faP, lenS, capS, nilP, exA, exB, exC, notB, cndT, cndF, Bool.not_true, Bool.not_false, Nat.zero_add, Nat.add_zero]
    refine key_r hvs1 hrs1 h1 fun p q kv hkv hkl => ?_
    refine rwithin_c (hl.mono hF1) (hh.mono hF1) hkv hll (fun N2 hN2 hw2 => ?_)
    have hm2 : clean M1 N2 := hw2.m
    cases hp : withinF lo hi t[s.1].1
    · try simp only [gdTT, gdFF, gdTF, gdFT, pvS, pickT, pickF, faP, lenS, capS, nilP, exA, exB, exC, notB, cndT, cndF, Bool.not_true, Bool.not_false, Nat.zero_add, Nat.add_zero]
      rw [t25_1_1_0_1_0_0_1_1]
      refine inc_r (by omega) ?_
      refine next (s.1 + 1, s.2) _ _ (by simp only; omega) (fun hw3 => ⟨_, wk_refl hw3, F1, M1, N2, rows, rfl, hF1, by omega, hM1, hm2, h1, ?_, ?_⟩)
      · simp only; rw [cutF_f h1 hp]; exact ho
      · simp only; rw [cutF_f h1 hp]; exact hr
    · try simp only [gdTT, gdFF, gdTF, gdFT, pvS, pickT, pickF, faP, lenS, capS, nilP, exA, exB, exC, notB, cndT, cndF, Bool.not_true, Bool.not_false, Nat.zero_add, Nat.add_zero]
      refine key_r hvs1 hrs1 h1 fun p q kv hkv hkl => ?_
      have hkl2 := hk _ (List.getElem_mem h1)
      refine (own.nil (B := N2)).app hm2 (Nat.le_refl _) hkv.sR (ints_one _) (by omega) (by unfold maxLen; omega) (fun kv' M3 N3 h4 h5 h6 h7 => ?_)
      rw [Nat.zero_add, List.nil_append] at h4
      refine cell_r hvs1 hrs1 h1 fun p q => ?_
      obtain ⟨ak, ck, hkf, hck⟩ := h4.form
      have hrc : (kv' :: t[s.1].2.cs).length = 5 ∧ ∀ x ∈ kv' :: t[s.1].2.cs, x.oneCell' = true := by rw [hkf]; exact ⟨rfl, List.all_eq_true.1 rfl⟩
      have hon : ∀ q, kv'.ownBlock = some q → N2 ≤ q ∧ q < N3 := fun q e => ⟨(h4.ge q e).1, h4.lt h7 q e⟩
      have hos : ∀ q, s.2.ownBlock = some q → q < N2 := fun q e => ho.lt hm2 q e
      refine pv_r (v := .agg (kv' :: t[s.1].2.cs).toArray) (by rw [hkf]; kernel_rfl) ?_
      refine push_r (new := kv' :: t[s.1].2.cs) (ho.keep (fun q hq => (h5 q (by simp [Value.ownBlock]) (hos q hq)).1) (Nat.le_refl _)) h7 (by omega) (by rw [hkf]; kernel_rfl) hrc.1 hrc.2 (by omega) (by unfold maxLen; omega) (fun p v' M4 N4 g4 g5 g6 g7 => ?_)
      rw [t25_1_1_0_1_0_0_1_1]
      refine inc_r (by omega) ?_
      have h8 : own M4 N2 3 1 kv' t[s.1].1.length (ic t[s.1].1) := h4.keep (fun q hq => (g5 q (fun e => by have := hos q e; have := hon q hq; omega) (hon q hq).2).1) (Nat.le_refl _)
      have hne : ∀ q, v'.ownBlock = some q → ¬ kv'.ownBlock = some q := fun q e e' => (g5 q (fun e2 => by have := hos q e2; have := hon q e'; omega) (hon q e').2).2 e
      refine next (s.1 + 1, v') _ _ (by simp only; omega) (fun hw5 => ⟨_, wk_P (p := fun q => kv'.ownBlock = some q) hw5, frzP F1 M4 (fun q => kv'.ownBlock = some q), keepM M4 (fun q => ¬ kv'.ownBlock = some q), N4, rows ++ [kv' :: t[s.1].2.cs], rfl, hF1.trans (subF_frzP hw5), by omega, fun q hq => ?_, keepM_clean g7, h1, ?_, ?_⟩)
      · rw [keepM_in (fun e => by have := hon q e; omega)]
        have e1 : kv'.ownBlock ≠ some q := fun e => by have := hon q e; omega
        exact ((g5 q (fun e => by have := (ho.ge q e).1; omega) (by omega)).1).trans (((h5 q (by simp [Value.ownBlock]) (by omega)).1).trans (hM1 q hq))
      · simp only; rw [cutF_t h1 hp, List.length_append]
        refine own.keep ?_ (fun q hq => keepM_in (hne q hq)) (Nat.le_refl _)
        simpa using g4
      · simp only
        rw [cutF_t h1 hp]
        exact rowsF_snoc1 (hr.mono fun _ _ h => h.mono (subF_frzP hw5)) hrc ⟨kv', rfl, h8.frzP (fun q h => h), hkl⟩
  · try simp only [gdTT, gdFF, gdTF, gdFT, pvS, pickT, pickF, faP, lenS, capS, nilP, exA, exB, exC, notB, cndT, cndF, Bool.not_true, Bool.not_false, Nat.zero_add, Nat.add_zero]
    rw [t25_1_1_1]
    rw [List.take_of_length_le (by omega)] at ho hr
    exact fun hc => ⟨_, frz_wf hm hM1 hc, fun hw' => k _ _ _ hw' (hF1.trans (subF_frzAll hc)) hN1 (tbl_frz hc ho hr)⟩
end Go.Proofs.YthpacapdaembpaaGreatDoor.A
open Go Go.RowKit Go.Proofs.YthpacapdaembpaaGreatDoor.K Go.Proofs.YthpacapdaembpaaGreatDoor.T
set_option linter.unusedVariables false
set_option linter.unusedSimpArgs false
namespace Go.Proofs.YthpacapdaembpaaGreatDoor.A
variable {F F' : Nat → Option (List Value)} {M M' : Nat → Option Chunk} {N N' : Nat} {K : Kont} {E : PanK}
/-- Is there a level for each dimension? -/
def lvP (l : List Dm) (m : List Int) (i : Nat) : Bool := decide (0 ≤ m.getD i 0 ∧ m.getD i 0 < ((l.getD i (0, [])).2.length + 2 : Nat))
def lvOK (l : List Dm) (m : List Int) : Bool := decide (m.length = l.length) && (List.range l.length).all (lvP l m)
/-- query.Check$1 -/
theorem lvl1_c {cs : List Value} {d : Dm} {n : Int} (hd : dimD F cs d) (k : ∀ N', N ≤ N' → (Hp.mk F M N').wf → K (.bool (decide (0 ≤ n ∧ n < (d.2.length + 2 : Nat)))) ⟨F, M, N'⟩) :
    callv Tryz.prog (.func (.func 27) #[] #[]) #[.agg cs.toArray, .int .i64 n] K E ⟨F, M, N⟩ := by
  refine callv_of_text mixed Tryz.func27 (by kernel_rfl) (t27 _ E _ _) (fun hw => ?_)
  have hm := hw.m
  have hd' := hd
  obtain ⟨v, rfl, hv, hvl⟩ := hd
  refine nw_r (cs := [.int .i64 d.1, v]) (fun b hb => ?_)
  refine geq_r (fun h1 => ?_) (fun h1 => ?_)
  · try simp only [gdTT, gdFF, gdTF, gdFT, pvS, pickT, pickF, faP, lenS, capS, nilP, exA, exB, exC, notB, cndT, cndF, Bool.not_true, Bool.not_false, Nat.zero_add, Nat.add_zero]
    refine ldMa (vs := [.int .i64 d.1, v]) ?_
    refine levels_c hd' (fun N1 hN1 hw1 => ?_)
    refine lss_r (fun h2 => ?_) (fun h2 => ?_)
    · try simp only [gdTT, gdFF, gdTF, gdFT, pvS, pickT, pickF, faP, lenS, capS, nilP, exA, exB, exC, notB, cndT, cndF, Bool.not_true, Bool.not_false, Nat.zero_add, Nat.add_zero]
      rw [decide_eq_true ⟨h1, h2⟩] at k
      exact fun hc => ⟨⟨F, M, N1⟩, wk_end hc, fun hw' => k _ (by omega) hw'⟩
    · try simp only [gdTT, gdFF, gdTF, gdFT, pvS, pickT, pickF, faP, lenS, capS, nilP, exA, exB, exC, notB, cndT, cndF, Bool.not_true, Bool.not_false, Nat.zero_add, Nat.add_zero]
      rw [decide_eq_false fun q => h2 q.2] at k
      exact fun hc => ⟨⟨F, M, N1⟩, wk_end hc, fun hw' => k _ (by omega) hw'⟩
  · try simp only [gdTT, gdFF, gdTF, gdFT, pvS, pickT, pickF, faP, lenS, capS, nilP, exA, exB, exC, notB, cndT, cndF, Bool.not_true, Bool.not_false, Nat.zero_add, Nat.add_zero]
    rw [decide_eq_false fun q => h1 q.1] at k
    exact fun hc => ⟨⟨F, M, b + 1⟩, wk_end hc, fun hw' => k _ (by omega) hw'⟩
/-- slices.EqualFunc of dimensions and levels. -/
theorem eqf_c {v u : Value} {l : List Dm} {m : List Int} (hv : dimsD F v l) (hu : sF F 1 u m.length (ic m)) (hl : l.length ≤ 140737488351232) (k : ∀ N', N ≤ N' → (Hp.mk F M N').wf → K (.bool (lvOK l m)) ⟨F, M, N'⟩) :
    callv Tryz.prog (.func (.func 30) #[] #[]) #[v, u, .func (.func 27) #[] #[]] K E ⟨F, M, N⟩ := by
  refine callv_of_text mixed Tryz.func30 (by kernel_rfl) (t30 _ E _ _ _) (fun hw => ?_)
  have hm : clean M N := hw.m
  have hlv : lenV v = some (.int .i64 (l.length : Nat)) := by obtain ⟨a, c, rfl⟩ := hv.form; rfl
  have hlu : lenV u = some (.int .i64 (m.length : Nat)) := by obtain ⟨a, c, rfl, _⟩ := hu.form; rfl
  have fin : ∀ v', v' = lvOK l m → ∀ N', N ≤ N' → ∀ h', h' = (⟨F, M, N'⟩ : Hp) → h'.wf → ∃ h'', h'.wk h'' ∧ (h''.wf → K (.bool v') h'') := fun v' e N' hN h' e' hc => by
    subst e; subst e'
    exact ⟨_, wk_refl hc, fun hw' => k _ hN hw'⟩
  unfold lvOK at fin
  refine pv_r hlv (pv_r hlu ?_)
  refine neq_r (fun h1 => ?_) (fun h1 => ?_)
  · try simp only [gdTT, gdFF, gdTF, gdFT, pvS, pickT, pickF, faP, lenS, capS, nilP, exA, exB, exC, notB, cndT, cndF, Bool.not_true, Bool.not_false, Nat.zero_add, Nat.add_zero]
    exact fin _ (by rw [decide_eq_false (by omega)]; rfl) _ (Nat.le_refl _) _ rfl
  rw [decide_eq_true (by omega), Bool.true_and] at fin
  try simp only [gdTT, gdFF, gdTF, gdFT, pvS, pickT, pickF, faP, lenS, capS, nilP, exA, exB, exC, notB, cndT, cndF, Bool.not_true, Bool.not_false, Nat.zero_add, Nat.add_zero]
  refine pv_r hlv ?_
  obtain ⟨rows, hv1, hv2⟩ := hv
  refine l30_1_1_0_1_0_0 (σ := Nat) (fun i => .int .i64 (i : Nat)) (fun i h => ∃ N', h = ⟨F, M, N'⟩ ∧ N ≤ N' ∧ i ≤ l.length ∧ (List.range i).all (lvP l m) = true) (fun i => l.length - i) 0 rfl
    (fun hw1 => ⟨_, wk_refl hw1, N, rfl, Nat.le_refl _, Nat.zero_le _, rfl⟩) (fun k1 i j h1' hI hw1 next => ?_)
  obtain ⟨N1, rfl, hN1, hi, he⟩ := hI
  have hm1 : clean M N1 := hw1.m
  refine lss_r (fun hlt => ?_) (fun hge => ?_)
  · have i1 : i < l.length := by omega
    have i2 : i < m.length := by omega
    try simp only [gdTT, gdFF, gdTF, gdFT, pvS, pickT, pickF, faP, lenS, capS, nilP, exA, exB, exC, notB, cndT, cndF, Bool.not_true, Bool.not_false, Nat.zero_add, Nat.add_zero]
    refine row_r hv1 hv2 (by decide) i1 fun p r _ hR hr2 hr1 => ?_
    have hR' := hR
    obtain ⟨kv, hre, hkv, hkl⟩ := hR
    subst hre
    refine nw_r (fun b1 hb1 => ?_)
    refine stM (cs' := [.int .i64 l[i].1, kv]) ?_ (upd_same _ _ _) rfl rfl hr1
    rw [upd_upd]
    refine ixn_r hu i2 fun p => ?_
    refine ldMa (vs := [.int .i64 l[i].1, kv]) ?_
    refine lvl1_c hR' (fun N2 hN2 hw2 => ?_)
    have hp : lvP l m i = decide (0 ≤ m[i] ∧ m[i] < (l[i].2.length + 2 : Nat)) := by
      unfold lvP
      rw [getD_at i1, getD_at i2]
    rw [← hp]
    have hdrop : ∀ {h : Hp}, h = (⟨F, upd M b1 (some (.cells 47 [.int .i64 l[i].1, kv] 2)), N2⟩ : Hp) → h.wf → h.wk ⟨F, M, N2⟩ := fun e hc => by subst e; exact wk_drop hc (subM_drop (subM_refl _) (hm1 _ hb1))
    cases hpi : lvP l m i
    · try simp only [gdTT, gdFF, gdTF, gdFT, pvS, pickT, pickF, faP, lenS, capS, nilP, exA, exB, exC, notB, cndT, cndF, Bool.not_true, Bool.not_false, Nat.zero_add, Nat.add_zero]
      refine fun hc => ⟨⟨F, M, N2⟩, hdrop rfl hc, fun hw' => ?_⟩
      have := k N2 (by omega) hw'
      rw [show lvOK l m = false by unfold lvOK; rw [all_range_no i1 hpi]; simp] at this
      exact this
    · try simp only [gdTT, gdFF, gdTF, gdFT, pvS, pickT, pickF, faP, lenS, capS, nilP, exA, exB, exC, notB, cndT, cndF, Bool.not_true, Bool.not_false, Nat.zero_add, Nat.add_zero]
      refine inc_r (by omega) ?_
      exact next (i + 1) _ _ (by omega) (fun hw3 => ⟨⟨F, M, N2⟩, hdrop rfl hw3, N2, rfl, by omega, i1, all_range_succ he hpi⟩)
  · try simp only [gdTT, gdFF, gdTF, gdFT, pvS, pickT, pickF, faP, lenS, capS, nilP, exA, exB, exC, notB, cndT, cndF, Bool.not_true, Bool.not_false, Nat.zero_add, Nat.add_zero]
    rw [t30_1_1_1]
    rw [show i = l.length by omega] at he
    exact fin _ he.symm _ hN1 _ rfl
/-- What is asked. -/
def queryD (F : Nat → Option (List Value)) (cs : List Value) (m lo hi : List Int) : Prop := ∃ a b c, cs = [a, b, c] ∧ sF F 1 a m.length (ic m) ∧ sF F 1 b lo.length (ic lo) ∧ sF F 1 c hi.length (ic hi) ∧ m.length ≤ 140737488351232 ∧ lo.length ≤ 140737488351232 ∧ hi.length ≤ 140737488351232
theorem queryD.mono {cs : List Value} {m lo hi : List Int} (h : queryD F cs m lo hi) (hF : subF F F') : queryD F' cs m lo hi := let ⟨a, b, c, e, h1, h2, h3, h4⟩ := h; ⟨a, b, c, e, h1.mono hF, h2.mono hF, h3.mono hF, h4⟩
/-- Why something may not be asked. -/
def checkE (l : List Dm) (m lo hi : List Int) : Nat := if okDims l = false then 30 else if lvOK l m = false then 40 else if boxOK l lo hi = false then 60 else 0
/-- query.Check -/
theorem check_c {u : Value} {cs : List Value} {l : List Dm} {m lo hi : List Int} (hu : dimsD F u l) (hl : l.length ≤ 140737488351232) (hq : queryD F cs m lo hi)
    (k : ∀ F' N', (Hp.mk F' M N').wf → subF F F' → N ≤ N' → K (.int .u16 ((checkE l m lo hi : Nat) : Int)) ⟨F', M, N'⟩) :
    callv Tryz.prog (.func (.func 12) #[] #[]) #[u, .agg cs.toArray] K E ⟨F, M, N⟩ := by
  refine callv_of_text mixed Tryz.func12 (by kernel_rfl) (t12 _ E _ _) (fun hw => ?_)
  have hm : clean M N := hw.m
  obtain ⟨a, b, c, rfl, ha, hb, hc, hml, hlol, hhil⟩ := hq
  refine nw_r (cs := [a, b, c]) (fun b1 hb1 => ?_)
  have fin : ∀ n, n = checkE l m lo hi → ∀ F' N', subF F F' → N ≤ N' → ∀ h', h' = (⟨F', upd M b1 (some (.cells 36 [a, b, c] 3)), N'⟩ : Hp) → h'.wf → ∃ h'', h'.wk h'' ∧ (h''.wf → K (.int .u16 ((n : Nat) : Int)) h'') := fun n e F' N' hF hN h' e' hc => by
    subst e; subst e'
    exact ⟨⟨F', M, N'⟩, wk_drop hc (subM_drop (subM_refl _) (hm _ hb1)), fun hw' => k _ _ hw' hF hN⟩
  unfold checkE at fin
  refine dsound_c hu hl (fun N1 hN1 hw1 => ?_)
  cases h1 : okDims l
  · try simp only [gdTT, gdFF, gdTF, gdFT, pvS, pickT, pickF, faP, lenS, capS, nilP, exA, exB, exC, notB, cndT, cndF, Bool.not_true, Bool.not_false, Nat.zero_add, Nat.add_zero]
    exact fin 30 (by rw [h1]; rfl) F N1 (subF.refl _) (by omega) _ rfl
  rw [h1, if_neg (by decide)] at fin
  try simp only [gdTT, gdFF, gdTF, gdFT, pvS, pickT, pickF, faP, lenS, capS, nilP, exA, exB, exC, notB, cndT, cndF, Bool.not_true, Bool.not_false, Nat.zero_add, Nat.add_zero]
  refine ldM (v := a) ?_
  refine eqf_c hu ha hl (fun N2 hN2 hw2 => ?_)
  cases h2 : lvOK l m
  · try simp only [gdTT, gdFF, gdTF, gdFT, pvS, pickT, pickF, faP, lenS, capS, nilP, exA, exB, exC, notB, cndT, cndF, Bool.not_true, Bool.not_false, Nat.zero_add, Nat.add_zero]
    exact fin 40 (by rw [h2]; rfl) F N2 (subF.refl _) (by omega) _ rfl
  rw [h2, if_neg (by decide)] at fin
  try simp only [gdTT, gdFF, gdTF, gdFT, pvS, pickT, pickF, faP, lenS, capS, nilP, exA, exB, exC, notB, cndT, cndF, Bool.not_true, Bool.not_false, Nat.zero_add, Nat.add_zero]
  refine ldM (v := b) ?_
  try simp only [gdTT, gdFF, gdTF, gdFT, pvS, pickT, pickF, faP, lenS, capS, nilP, exA, exB, exC, notB, cndT, cndF, Bool.not_true, Bool.not_false, Nat.zero_add, Nat.add_zero]
  refine ldM (v := c) ?_
  refine dcsound_c hu hb hc hlol hhil (fun F3 N3 hw3 hF3 hN3 => ?_)
  cases h3 : boxOK l lo hi
  · try simp only [gdTT, gdFF, gdTF, gdFT, pvS, pickT, pickF, faP, lenS, capS, nilP, exA, exB, exC, notB, cndT, cndF, Bool.not_true, Bool.not_false, Nat.zero_add, Nat.add_zero]
    exact fin 60 (by rw [h3]; rfl) F3 N3 hF3 (by omega) _ rfl
  rw [h3, if_neg (by decide)] at fin
  try simp only [gdTT, gdFF, gdTF, gdFT, pvS, pickT, pickF, faP, lenS, capS, nilP, exA, exB, exC, notB, cndT, cndF, Bool.not_true, Bool.not_false, Nat.zero_add, Nat.add_zero]
  exact fin 0 rfl F3 N3 hF3 (by omega) _ rfl
/-- Check, of the reference -/
theorem rcheck_c {u : Value} {cs : List Value} {l : List Dm} {m lo hi : List Int} (hu : dimsD F u l) (hl : l.length ≤ 140737488351232) (hq : queryD F cs m lo hi)
    (k : ∀ N', (Hp.mk F M N').wf → N ≤ N' → K (.int .i64 ((checkE l m lo hi : Nat) : Int)) ⟨F, M, N'⟩) :
    callv Tryz.prog (.func (.func 22) #[] #[]) #[u, .agg cs.toArray] K E ⟨F, M, N⟩ := by
  refine callv_of_text mixed Tryz.func22 (by kernel_rfl) (t22 _ E _ _) (fun hw => ?_)
  have hm : clean M N := hw.m
  obtain ⟨a, b, c, rfl, ha, hb, hc, hml, hlol, hhil⟩ := hq
  refine nw_r (cs := [a, b, c]) (fun b1 hb1 => ?_)
  have fin : ∀ n, n = checkE l m lo hi → ∀ N', N ≤ N' → ∀ h', h' = (⟨F, upd M b1 (some (.cells 36 [a, b, c] 3)), N'⟩ : Hp) → h'.wf → ∃ h'', h'.wk h'' ∧ (h''.wf → K (.int .i64 ((n : Nat) : Int)) h'') := fun n e N' hN h' e' hc => by
    subst e; subst e'
    exact ⟨⟨F, M, N'⟩, wk_drop hc (subM_drop (subM_refl _) (hm _ hb1)), fun hw' => k _ hw' hN⟩
  have hlu : lenV u = some (.int .i64 (l.length : Nat)) := by obtain ⟨a, c, rfl⟩ := hu.form; rfl
  have hla : lenV a = some (.int .i64 (m.length : Nat)) := by obtain ⟨a, c, rfl, _⟩ := ha.form; rfl
  unfold checkE at fin
  refine rdsound_c hu hl (fun N1 hN1 hw1 => ?_)
  cases h1 : okDims l
  · try simp only [gdTT, gdFF, gdTF, gdFT, pvS, pickT, pickF, faP, lenS, capS, nilP, exA, exB, exC, notB, cndT, cndF, Bool.not_true, Bool.not_false, Nat.zero_add, Nat.add_zero]
    exact fin 30 (by rw [h1]; rfl) N1 (by omega) _ rfl
  rw [h1, if_neg (by decide)] at fin
  try simp only [gdTT, gdFF, gdTF, gdFT, pvS, pickT, pickF, faP, lenS, capS, nilP, exA, exB, exC, notB, cndT, cndF, Bool.not_true, Bool.not_false, Nat.zero_add, Nat.add_zero]
  refine ldM (v := a) (pv_r hla (pv_r hlu ?_))
  refine neq_r (fun h2 => ?_) (fun h2 => ?_)
  · try simp only [gdTT, gdFF, gdTF, gdFT, pvS, pickT, pickF, faP, lenS, capS, nilP, exA, exB, exC, notB, cndT, cndF, Bool.not_true, Bool.not_false, Nat.zero_add, Nat.add_zero]
    exact fin 40 (by rw [if_pos (by unfold lvOK; rw [decide_eq_false (by omega)]; rfl)]) N1 (by omega) _ rfl
  have hlv : lvOK l m = (List.range l.length).all (lvP l m) := by unfold lvOK; rw [decide_eq_true (by omega), Bool.true_and]
  rw [hlv] at fin
  try simp only [gdTT, gdFF, gdTF, gdFT, pvS, pickT, pickF, faP, lenS, capS, nilP, exA, exB, exC, notB, cndT, cndF, Bool.not_true, Bool.not_false, Nat.zero_add, Nat.add_zero]
  have hu' := hu
  obtain ⟨rows, hu1, hu2⟩ := hu'
  refine l22_1_1_1_0_1_0_0 (σ := Nat) (fun i => .int .i64 (i : Nat)) (fun i h => ∃ N', h = ⟨F, upd M b1 (some (.cells 36 [a, b, c] 3)), N'⟩ ∧ N ≤ N' ∧ i ≤ l.length ∧ (List.range i).all (lvP l m) = true) (fun i => l.length - i) 0 rfl
    (fun hw1 => ⟨_, wk_refl hw1, N1, rfl, by omega, Nat.zero_le _, rfl⟩) (fun k1 i j h1' hI hw1 next => ?_)
  obtain ⟨N2, rfl, hN2, hii, he⟩ := hI
  refine pv_r hlu ?_
  refine lss_r (fun hlt => ?_) (fun hge => ?_)
  · have i1 : i < l.length := by omega
    have i2 : i < m.length := by omega
    have hp : lvP l m i = decide (0 ≤ m[i] ∧ m[i] < (l[i].2.length + 2 : Nat)) := by
      unfold lvP
      rw [getD_at i1, getD_at i2]
    try simp only [gdTT, gdFF, gdTF, gdFT, pvS, pickT, pickF, faP, lenS, capS, nilP, exA, exB, exC, notB, cndT, cndF, Bool.not_true, Bool.not_false, Nat.zero_add, Nat.add_zero]
    refine ldM (v := a) (ixn_r ha i2 fun p => ?_)
    refine lss_r (fun h6 => ?_) (fun h6 => ?_)
    · try simp only [gdTT, gdFF, gdTF, gdFT, pvS, pickT, pickF, faP, lenS, capS, nilP, exA, exB, exC, notB, cndT, cndF, Bool.not_true, Bool.not_false, Nat.zero_add, Nat.add_zero]
      refine ⟨fun h => by simp [isB] at h, fun h => by simp [isB] at h, ?_⟩
      exact fin 40 (by rw [if_pos (all_range_no i1 (by rw [hp]; exact decide_eq_false (by omega)))]) _ hN2 _ rfl
    try simp only [gdTT, gdFF, gdTF, gdFT, pvS, pickT, pickF, faP, lenS, capS, nilP, exA, exB, exC, notB, cndT, cndF, Bool.not_true, Bool.not_false, Nat.zero_add, Nat.add_zero]
    refine ldM (v := a) ?_
    obtain ⟨bb, bo, bc, bcs, hvb, hbF, hbx⟩ := ints_at ha i2
    subst hvb
    refine iaN_r i2 (ld_r (ldV_c (row_F hbF) hbx) ?_)
    refine row_r hu1 hu2 (by decide) i1 fun p r _ hR hr2 hr1 => ?_
    refine rlevels_c hR (fun N3 hN3 hw3 => ?_)
    refine ⟨fun _ => ldV_c (row_F hbF) hbx, fun _ => ldV_c (row_M (upd_same _ _ _)) rfl, ?_⟩
    refine geq_r (fun h8 => ?_) (fun h8 => ?_)
    · try simp only [gdTT, gdFF, gdTF, gdFT, pvS, pickT, pickF, faP, lenS, capS, nilP, exA, exB, exC, notB, cndT, cndF, Bool.not_true, Bool.not_false, Nat.zero_add, Nat.add_zero]
      exact fin 40 (by rw [if_pos (all_range_no i1 (by rw [hp]; exact decide_eq_false (by omega)))]) _ (by omega) _ rfl
    try simp only [gdTT, gdFF, gdTF, gdFT, pvS, pickT, pickF, faP, lenS, capS, nilP, exA, exB, exC, notB, cndT, cndF, Bool.not_true, Bool.not_false, Nat.zero_add, Nat.add_zero]
    refine inc_r (by omega) ?_
    exact next (i + 1) _ _ (by omega) (fun hw3 => ⟨_, wk_refl hw3, N3, rfl, by omega, i1, all_range_succ he (by rw [hp]; exact decide_eq_true ⟨by omega, by omega⟩)⟩)
  · try simp only [gdTT, gdFF, gdTF, gdFT, pvS, pickT, pickF, faP, lenS, capS, nilP, exA, exB, exC, notB, cndT, cndF, Bool.not_true, Bool.not_false, Nat.zero_add, Nat.add_zero]
    rw [t22_1_1_1_1]
    rw [show i = l.length by omega] at he
    rw [he, if_neg (by decide)] at fin
    try simp only [gdTT, gdFF, gdTF, gdFT, pvS, pickT, pickF, faP, lenS, capS, nilP, exA, exB, exC, notB, cndT, cndF, Bool.not_true, Bool.not_false, Nat.zero_add, Nat.add_zero]
    refine ldM (v := b) ?_
    try simp only [gdTT, gdFF, gdTF, gdFT, pvS, pickT, pickF, faP, lenS, capS, nilP, exA, exB, exC, notB, cndT, cndF, Bool.not_true, Bool.not_false, Nat.zero_add, Nat.add_zero]
    refine ldM (v := c) ?_
    refine rcsound_c hu hb hc hl (fun N3 hN3 hw3 => ?_)
    cases h3 : boxOK l lo hi
    · try simp only [gdTT, gdFF, gdTF, gdFT, pvS, pickT, pickF, faP, lenS, capS, nilP, exA, exB, exC, notB, cndT, cndF, Bool.not_true, Bool.not_false, Nat.zero_add, Nat.add_zero]
      exact fin 60 (by rw [h3]; rfl) N3 (by omega) _ rfl
    rw [h3, if_neg (by decide)] at fin
    try simp only [gdTT, gdFF, gdTF, gdFT, pvS, pickT, pickF, faP, lenS, capS, nilP, exA, exB, exC, notB, cndT, cndF, Bool.not_true, Bool.not_false, Nat.zero_add, Nat.add_zero]
    exact fin 0 rfl N3 (by omega) _ rfl
end Go.Proofs.YthpacapdaembpaaGreatDoor.A
open Go Go.RowKit Go.Proofs.YthpacapdaembpaaGreatDoor.K Go.Proofs.YthpacapdaembpaaGreatDoor.T
set_option linter.unusedVariables false
set_option linter.unusedSimpArgs false
namespace Go.Proofs.YthpacapdaembpaaGreatDoor.A
variable {F F' : Nat → Option (List Value)} {M M' : Nat → Option Chunk} {N N' : Nat} {K : Kont} {E : PanK}
theorem soundL_all {p : Int} : ∀ {t : List Rw} {o : Option (List Int)}, soundL p o t = true → (∀ r ∈ t, okRow p r = true) ∧ srt t ∧ (∀ k, o = some k → ∀ r ∈ t, kcmp k r.1 < 0)
  | [], o, _ => ⟨by simp, .nil, by simp⟩
  | r :: t, o, h => by
    unfold soundL at h
    rw [Bool.and_eq_true, Bool.and_eq_true] at h
    obtain ⟨⟨h1, h2⟩, h3⟩ := h
    obtain ⟨a, b, c⟩ := soundL_all h3
    refine ⟨fun x hx => ?_, List.pairwise_cons.2 ⟨fun x hx => c _ rfl x hx, b⟩, fun k hk x hx => ?_⟩
    · rcases List.mem_cons.1 hx with rfl | hx
      · exact h1
      · exact a x hx
    · subst hk
      have h4 := of_decide_eq_true h2
      rcases List.mem_cons.1 hx with rfl | hx
      · exact h4
      · exact kcmp_trans h4 (c _ rfl x hx)
theorem soundT_cut {p : Int} {t : List Rw} {lo hi : List Int} (h : soundT p t = true) : soundT p (cutF lo hi t) = true := by
  obtain ⟨a, b, _⟩ := soundL_all (show soundL p none t = true from h)
  exact soundT_of (fun r hr => a r ((List.mem_filter.1 hr).1)) (List.Pairwise.filter _ b)
theorem lvOK_lev {l : List Dm} {m : List Int} (h : lvOK l m = true) : m.length = l.length ∧ okLev l m := by
  unfold lvOK at h
  rw [Bool.and_eq_true] at h
  obtain ⟨h1, h2⟩ := h
  refine ⟨of_decide_eq_true h1, fun i hi => ?_⟩
  have h3 := List.all_eq_true.1 h2 i (List.mem_range.2 hi)
  unfold lvP at h3
  rw [getD_at hi] at h3
  have := of_decide_eq_true h3
  omega
/-- The table of a query. -/
def runRows (l : List Dm) (t : List Rw) (m lo hi : List Int) : List Rw := rollT l (cutF lo hi t) (zeros l.length) m
def runE (l : List Dm) (t : List Rw) (m lo hi : List Int) : Nat := if checkE l m lo hi = 0 then (if soundT l.length t = false then 1 else if (runRows l t m lo hi).length > 500 then 61 else 0) else checkE l m lo hi
def runT (l : List Dm) (t : List Rw) (m lo hi : List Int) : List Rw := if runE l t m lo hi = 0 then runRows l t m lo hi else []
theorem checkE_ok {l : List Dm} {m lo hi : List Int} (h : checkE l m lo hi = 0) : okDims l = true ∧ lvOK l m = true ∧ boxOK l lo hi = true := by
  unfold checkE at h
  cases h1 : okDims l
  · rw [h1] at h; simp at h
  cases h2 : lvOK l m
  · rw [h1, h2] at h; simp at h
  cases h3 : boxOK l lo hi
  · rw [h1, h2, h3] at h; simp at h
  exact ⟨rfl, rfl, rfl⟩
theorem rollE_ok {l : List Dm} {t : List Rw} {m lo hi : List Int} (h : checkE l m lo hi = 0) (ht : soundT l.length t = true) : rollE l (cutF lo hi t) (zeros l.length) m = 0 := by
  obtain ⟨h1, h2, h3⟩ := checkE_ok h
  obtain ⟨h4, h5⟩ := lvOK_lev h2
  unfold rollE
  rw [h1, levF_of (zeros_up h4 h5), soundT_cut ht]; rfl
theorem runT_len (l : List Dm) (t : List Rw) (m lo hi : List Int) : (runT l t m lo hi).length ≤ t.length := by
  have h1 := rollT_len l (cutF lo hi t) (zeros l.length) m
  have h2 := cutF_len lo hi t
  unfold runT
  split
  · unfold runRows; omega
  · simp
/-- query.short -/
theorem short_c {v : Value} {t : List Rw} (hv : tblD F v t) (k : K (if t.length > 500 then .tuple #[.slice none 0 0, .int .u16 61] else .tuple #[v, .int .u16 0]) ⟨F, M, N⟩) :
    callv Tryz.prog (.func (.func 21) #[] #[]) #[v] K E ⟨F, M, N⟩ := by
  refine callv_of_text mixed Tryz.func21 (by kernel_rfl) (t21 _ E _) (fun hw => ?_)
  have hlv : lenV v = some (.int .i64 (t.length : Nat)) := by obtain ⟨a, c, rfl⟩ := hv.form; rfl
  refine pv_r hlv ?_
  refine gtr_r (fun h1 => ?_) (fun h1 => ?_)
  · try simp only [gdTT, gdFF, gdTF, gdFT, pvS, pickT, pickF, faP, lenS, capS, nilP, exA, exB, exC, notB, cndT, cndF, Bool.not_true, Bool.not_false, Nat.zero_add, Nat.add_zero]
    rw [if_pos (by omega)] at k
    exact fun hc => ⟨_, wk_refl hc, fun _ => k⟩
  · try simp only [gdTT, gdFF, gdTF, gdFT, pvS, pickT, pickF, faP, lenS, capS, nilP, exA, exB, exC, notB, cndT, cndF, Bool.not_true, Bool.not_false, Nat.zero_add, Nat.add_zero]
    rw [if_neg (by omega)] at k
    exact fun hc => ⟨_, wk_refl hc, fun _ => k⟩
set_option maxRecDepth 10000 in
/-- query.Run -/
theorem run_c {u vt : Value} {cs : List Value} {l : List Dm} {t : List Rw} {m lo hi : List Int} (hu : dimsD F u l) (hl : l.length ≤ 140737488351232) (ht : tblD F vt t) (htl : t.length ≤ 1000000000) (hq : queryD F cs m lo hi) (hmi : ∀ x ∈ m, i64 x) (hti : ∀ r ∈ t, ∀ x ∈ r.1, i64 x) (hk' : checkE l m lo hi = 0 → ∀ r ∈ t, r.1.length ≤ 10000000000)
    (k : ∀ v' F' N', (Hp.mk F' M N').wf → subF F F' → N ≤ N' → tblD F' v' (runT l t m lo hi) → K (.tuple #[v', .int .u16 ((runE l t m lo hi : Nat) : Int)]) ⟨F', M, N'⟩) :
    callv Tryz.prog (.func (.func 9) #[] #[]) #[u, vt, .agg cs.toArray] K E ⟨F, M, N⟩ := by
  refine callv_of_text mixed Tryz.func9 (by kernel_rfl) (t9 _ E _ _ _) (fun hw => ?_)
  have hm : clean M N := hw.m
  have hq' := hq
  obtain ⟨a, b, c, rfl, ha, hb, hc, hml, hlol, hhil⟩ := hq'
  have hlu : lenV u = some (.int .i64 (l.length : Nat)) := by obtain ⟨a, c, rfl⟩ := hu.form; rfl
  refine nw_r (cs := [a, b, c]) (fun b1 hb1 => ?_)
  refine ldMa (vs := [a, b, c]) ?_
  have fin : ∀ v' (n : Nat) F' M' N', n = runE l t m lo hi → subF F F' → N ≤ N' → (∀ q, q < N → M' q = M q) → tblD F' v' (runT l t m lo hi) → ∀ h', h' = (⟨F', M', N'⟩ : Hp) → h'.wf → ∃ h'', h'.wk h'' ∧ (h''.wf → K (.tuple #[v', .int .u16 ((n : Nat) : Int)]) h'') := fun v' n F' M' N' e hF hN hM hv h' e' hc => by
    subst e; subst e'
    exact ⟨_, frz_wf hm hM hc, fun hw' => k _ _ _ hw' (hF.trans (subF_frzAll hc)) hN (hv.mono (subF_frzAll hc))⟩
  have hM1 : ∀ q, q < N → upd M b1 (some (.cells 36 [a, b, c] 3)) q = M q := fun q hq => upd_ne _ _ (by omega)
  refine check_c hu hl hq (fun F2 N2 hw2 hF2 hN2 => ?_)
  refine neq_r (fun h1 => ?_) (fun h1 => ?_)
  · try simp only [gdTT, gdFF, gdTF, gdFT, pvS, pickT, pickF, faP, lenS, capS, nilP, exA, exB, exC, notB, cndT, cndF, Bool.not_true, Bool.not_false, Nat.zero_add, Nat.add_zero]
    have e1 : checkE l m lo hi = runE l t m lo hi := by unfold runE; rw [if_neg (by omega)]
    refine fin _ _ _ _ _ e1 hF2 (by omega) hM1 ?_ _ rfl
    unfold runT; rw [if_neg (by omega)]; exact tblD.nil
  have hch : checkE l m lo hi = 0 := by omega
  have hk := hk' hch
  obtain ⟨hokd, hoklv, hokb⟩ := checkE_ok hch
  have hl4 := okDims_len hokd
  try simp only [gdTT, gdFF, gdTF, gdFT, pvS, pickT, pickF, faP, lenS, capS, nilP, exA, exB, exC, notB, cndT, cndF, Bool.not_true, Bool.not_false, Nat.zero_add, Nat.add_zero]
  refine pv_r hlu ?_
  refine tsound_c (ht.mono hF2) (by omega) (fun N3 hN3 hw3 => ?_)
  cases hs : soundT l.length t
  · try simp only [gdTT, gdFF, gdTF, gdFT, pvS, pickT, pickF, faP, lenS, capS, nilP, exA, exB, exC, notB, cndT, cndF, Bool.not_true, Bool.not_false, Nat.zero_add, Nat.add_zero]
    have e1 : 1 = runE l t m lo hi := by unfold runE; rw [if_pos hch, if_pos hs]
    refine fin _ 1 _ _ _ e1 hF2 (by omega) hM1 ?_ _ rfl
    unfold runT; rw [if_neg (by omega)]; exact tblD.nil
  have hre := rollE_ok hch hs
  have hcl := cutF_len lo hi t
  have hrl : (runRows l t m lo hi).length ≤ t.length := by unfold runRows; have := rollT_len l (cutF lo hi t) (zeros l.length) m; omega
  have hrun : runE l t m lo hi = if (runRows l t m lo hi).length > 500 then 61 else 0 := by unfold runE; rw [if_pos hch, if_neg (by rw [hs]; decide)]
  have htci : ∀ r ∈ cutF lo hi t, ∀ x ∈ r.1, i64 x := fun r hr => hti r ((List.mem_filter.1 hr).1)
  try simp only [gdTT, gdFF, gdTF, gdFT, pvS, pickT, pickF, faP, lenS, capS, nilP, exA, exB, exC, notB, cndT, cndF, Bool.not_true, Bool.not_false, Nat.zero_add, Nat.add_zero]
  refine ldM (v := b) ?_
  try simp only [gdTT, gdFF, gdTF, gdFT, pvS, pickT, pickF, faP, lenS, capS, nilP, exA, exB, exC, notB, cndT, cndF, Bool.not_true, Bool.not_false, Nat.zero_add, Nat.add_zero]
  refine ldM (v := c) ?_
  refine pv_r hlu ?_
  try simp only [gdTT, gdFF, gdTF, gdFT, pvS, pickT, pickF, faP, lenS, capS, nilP, exA, exB, exC, notB, cndT, cndF, Bool.not_true, Bool.not_false, Nat.zero_add, Nat.add_zero]
  refine ldM (v := a) ?_
  -- what comes after the roll
  have last : ∀ v' F' M' N', subF F F' → N ≤ N' → (∀ q, q < N → M' q = M q) → tblD F' v' (runRows l t m lo hi) → callv Tryz.prog (.func (.func 21) #[] #[]) #[v'] (fun t23 => pv (exV 0 t23) fun t24 => pv (exV 1 t23) fun t25 => fun h => h.wf → ∃ h', h.wk h' ∧ (h'.wf → K (.tuple #[t24, t25]) h')) E ⟨F', M', N'⟩ := fun v' F' M' N' hF hN hM hv => by
    refine short_c hv ?_
    split
    · rename_i h500
      try simp only [gdTT, gdFF, gdTF, gdFT, pvS, pickT, pickF, faP, lenS, capS, nilP, exA, exB, exC, notB, cndT, cndF, Bool.not_true, Bool.not_false, Nat.zero_add, Nat.add_zero]
      refine fin _ 61 _ _ _ (by rw [hrun, if_pos h500]) hF hN hM ?_ _ rfl
      unfold runT; rw [if_neg (by rw [hrun, if_pos h500]; decide)]; exact tblD.nil
    · rename_i h500
      try simp only [gdTT, gdFF, gdTF, gdFT, pvS, pickT, pickF, faP, lenS, capS, nilP, exA, exB, exC, notB, cndT, cndF, Bool.not_true, Bool.not_false, Nat.zero_add, Nat.add_zero]
      refine fin _ 0 _ _ _ (by rw [hrun, if_neg h500]) hF hN hM ?_ _ rfl
      unfold runT; rw [if_pos (by rw [hrun, if_neg h500])]; exact hv
  have FF := hF2
  have hbox := upd_same M b1 (some (.cells 36 [a, b, c] 3))
  have hm1 : clean (upd M b1 (some (.cells 36 [a, b, c] 3))) N3 := hw3.m
  have hb13 : b1 < N3 := hm1.lt hbox
  generalize upd M b1 _ = M1 at *
  refine ⟨?_, ?_⟩
  · refine dcut_c (ht.mono hF2) (hb.mono hF2) (hc.mono hF2) hlol hhil htl hk (fun v4 F4 N4 hw4 hF4 hN4 hcut => ?_)
    refine ⟨ldV_c (row_M hbox) rfl, ?_⟩
    refine mkz_r (by omega) (fun b5 hb5 => ?_)
    refine ⟨ldV_c (row_M ((upd_ne _ _ (by omega)).trans hbox)) rfl, ?_⟩
    refine callv_go (fun hc' => ⟨_, wk_P (p := fun q => q = b5) hc', ?_⟩)
    have hs5 := subF_frzP (p := fun q => q = b5) hc'
    have hz : sF (frzP F4 (upd M1 b5 (some (.cells 3 (ic (zeros l.length)) l.length))) (fun q => q = b5)) 1 (.slice (some ⟨b5, 0, none⟩) l.length l.length) (zeros l.length).length (ic (zeros l.length)) := by
      rw [zeros_len]; exact sF_lit (frzP_at (p := fun q => q = b5) rfl (upd_same _ _ _)) (by simp [ic, zeros]) (Nat.le_refl _)
    have hM5 : ∀ q, q < N → keepM (upd M1 b5 (some (.cells 3 (ic (zeros l.length)) l.length))) (fun q => ¬ q = b5) q = M q := fun q hq => (keepM_in (by omega)).trans ((upd_ne _ _ (by omega)).trans (hM1 q hq))
    generalize frzP F4 _ _ = F5 at *
    generalize keepM _ _ = M5 at *
    have F25 := hF4.trans hs5
    refine troll_c ((hu.mono hF2).mono F25) hl (hcut.mono hs5) (by omega) hz ((ha.mono hF2).mono F25) hmi htci (fun v6 F6 N6 hw6 hF6 hN6 hr => ?_)
    rw [hre]
    try simp only [gdTT, gdFF, gdTF, gdFT, pvS, pickT, pickF, faP, lenS, capS, nilP, exA, exB, exC, notB, cndT, cndF, Bool.not_true, Bool.not_false, Nat.zero_add, Nat.add_zero]
    refine neq_f (by simp) ?_
    try simp only [gdTT, gdFF, gdTF, gdFT, pvS, pickT, pickF, faP, lenS, capS, nilP, exA, exB, exC, notB, cndT, cndF, Bool.not_true, Bool.not_false, Nat.zero_add, Nat.add_zero]
    exact last _ _ _ _ ((hF2.trans F25).trans hF6) (by omega) hM5 hr
  · refine mkz_r (by omega) (fun b5 hb5 => ?_)
    refine ⟨ldV_c (row_M ((upd_ne _ _ (by omega)).trans hbox)) rfl, ldV_c (row_M ((upd_ne _ _ (by omega)).trans hbox)) rfl, ldV_c (row_M ((upd_ne _ _ (by omega)).trans hbox)) rfl, ?_⟩
    refine callv_go (fun hc' => ⟨_, wk_P (p := fun q => q = b5) hc', ?_⟩)
    have hs5 := subF_frzP (p := fun q => q = b5) hc'
    have hz : sF (frzP F2 (upd M1 b5 (some (.cells 3 (ic (zeros l.length)) l.length))) (fun q => q = b5)) 1 (.slice (some ⟨b5, 0, none⟩) l.length l.length) (zeros l.length).length (ic (zeros l.length)) := by
      rw [zeros_len]; exact sF_lit (frzP_at (p := fun q => q = b5) rfl (upd_same _ _ _)) (by simp [ic, zeros]) (Nat.le_refl _)
    have hM5 : ∀ q, q < N → keepM (upd M1 b5 (some (.cells 3 (ic (zeros l.length)) l.length))) (fun q => ¬ q = b5) q = M q := fun q hq => (keepM_in (by omega)).trans ((upd_ne _ _ (by omega)).trans (hM1 q hq))
    have hbox5 : keepM (upd M1 b5 (some (.cells 3 (ic (zeros l.length)) l.length))) (fun q => ¬ q = b5) b1 = some (.cells 36 [a, b, c] 3) := (keepM_in (by omega)).trans ((upd_ne _ _ (by omega)).trans hbox)
    generalize frzP F2 _ _ = F5 at *
    generalize keepM _ _ = M5 at *
    refine dcut_c ((ht.mono hF2).mono hs5) ((hb.mono hF2).mono hs5) ((hc.mono hF2).mono hs5) hlol hhil htl hk (fun v4 F4 N4 hw4 hF4 hN4 hcut => ?_)
    refine ⟨ldV_c (row_M hbox5) rfl, ?_⟩
    have F25 := hs5.trans hF4
    refine troll_c ((hu.mono hF2).mono F25) hl hcut (by omega) (hz.mono hF4) ((ha.mono hF2).mono F25) hmi htci (fun v6 F6 N6 hw6 hF6 hN6 hr => ?_)
    rw [hre]
    try simp only [gdTT, gdFF, gdTF, gdFT, pvS, pickT, pickF, faP, lenS, capS, nilP, exA, exB, exC, notB, cndT, cndF, Bool.not_true, Bool.not_false, Nat.zero_add, Nat.add_zero]
    refine neq_f (by simp) ?_
    try simp only [gdTT, gdFF, gdTF, gdFT, pvS, pickT, pickF, faP, lenS, capS, nilP, exA, exB, exC, notB, cndT, cndF, Bool.not_true, Bool.not_false, Nat.zero_add, Nat.add_zero]
    exact last _ _ _ _ ((hF2.trans F25).trans hF6) (by omega) hM5 hr
end Go.Proofs.YthpacapdaembpaaGreatDoor.A
open Go Go.RowKit Go.Proofs.YthpacapdaembpaaGreatDoor.K Go.Proofs.YthpacapdaembpaaGreatDoor.T
set_option linter.unusedVariables false
set_option linter.unusedSimpArgs false
namespace Go.Proofs.YthpacapdaembpaaGreatDoor.A
variable {F F' : Nat → Option (List Value)} {M M' : Nat → Option Chunk} {N N' : Nat} {K : Kont} {E : PanK}
theorem zeros_snoc (n : Nat) : ic (zeros (n + 1)) = ic (zeros n) ++ [.int .i64 0] := by
  unfold zeros ic
  rw [List.replicate_succ', List.map_append]; rfl
set_option maxRecDepth 10000 in
/-- Run, of the reference -/
theorem rrun_c {u vt : Value} {cs : List Value} {l : List Dm} {t : List Rw} {m lo hi : List Int} (hu : dimsD F u l) (hl : l.length ≤ 140737488351232) (ht : tblD F vt t) (htl : t.length ≤ 1000000000) (hq : queryD F cs m lo hi) (hmi : ∀ x ∈ m, i64 x) (hti : ∀ r ∈ t, ∀ x ∈ r.1, i64 x) (hk' : checkE l m lo hi = 0 → ∀ r ∈ t, r.1.length ≤ 10000000000)
    (k : ∀ v' F' N', (Hp.mk F' M N').wf → subF F F' → N ≤ N' → tblD F' v' (runT l t m lo hi) → K (.tuple #[v', .int .i64 ((runE l t m lo hi : Nat) : Int)]) ⟨F', M, N'⟩) :
    callv Tryz.prog (.func (.func 10) #[] #[]) #[u, vt, .agg cs.toArray] K E ⟨F, M, N⟩ := by
  refine callv_of_text mixed Tryz.func10 (by kernel_rfl) (t10 _ E _ _ _) (fun hw => ?_)
  have hm : clean M N := hw.m
  have hq' := hq
  obtain ⟨a, b, c, rfl, ha, hb, hc, hml, hlol, hhil⟩ := hq'
  have hlu : lenV u = some (.int .i64 (l.length : Nat)) := by obtain ⟨a, c, rfl⟩ := hu.form; rfl
  refine nw_r (cs := [a, b, c]) (fun b1 hb1 => ?_)
  refine ldMa (vs := [a, b, c]) ?_
  have fin : ∀ v' (n : Nat) F' M' N', n = runE l t m lo hi → subF F F' → N ≤ N' → (∀ q, q < N → M' q = M q) → tblD F' v' (runT l t m lo hi) → ∀ h', h' = (⟨F', M', N'⟩ : Hp) → h'.wf → ∃ h'', h'.wk h'' ∧ (h''.wf → K (.tuple #[v', .int .i64 ((n : Nat) : Int)]) h'') := fun v' n F' M' N' e hF hN hM hv h' e' hc => by
    subst e; subst e'
    exact ⟨_, frz_wf hm hM hc, fun hw' => k _ _ _ hw' (hF.trans (subF_frzAll hc)) hN (hv.mono (subF_frzAll hc))⟩
  have hM1 : ∀ q, q < N → upd M b1 (some (.cells 36 [a, b, c] 3)) q = M q := fun q hq => upd_ne _ _ (by omega)
  refine rcheck_c hu hl hq (fun N2 hw2 hN2 => ?_)
  refine neq_r (fun h1 => ?_) (fun h1 => ?_)
  · try simp only [gdTT, gdFF, gdTF, gdFT, pvS, pickT, pickF, faP, lenS, capS, nilP, exA, exB, exC, notB, cndT, cndF, Bool.not_true, Bool.not_false, Nat.zero_add, Nat.add_zero]
    have e1 : checkE l m lo hi = runE l t m lo hi := by unfold runE; rw [if_neg (by omega)]
    refine fin _ _ _ _ _ e1 (subF.refl _) (by omega) hM1 ?_ _ rfl
    unfold runT; rw [if_neg (by omega)]; exact tblD.nil
  have hch : checkE l m lo hi = 0 := by omega
  have hk := hk' hch
  obtain ⟨hokd, hoklv, hokb⟩ := checkE_ok hch
  have hl4 := okDims_len hokd
  try simp only [gdTT, gdFF, gdTF, gdFT, pvS, pickT, pickF, faP, lenS, capS, nilP, exA, exB, exC, notB, cndT, cndF, Bool.not_true, Bool.not_false, Nat.zero_add, Nat.add_zero]
  refine pv_r hlu ?_
  refine rtsound_c ht (by omega) (fun N3 hN3 hw3 => ?_)
  cases hs : soundT l.length t
  · try simp only [gdTT, gdFF, gdTF, gdFT, pvS, pickT, pickF, faP, lenS, capS, nilP, exA, exB, exC, notB, cndT, cndF, Bool.not_true, Bool.not_false, Nat.zero_add, Nat.add_zero]
    have e1 : 1 = runE l t m lo hi := by unfold runE; rw [if_pos hch, if_pos hs]
    refine fin _ 1 _ _ _ e1 (subF.refl _) (by omega) hM1 ?_ _ rfl
    unfold runT; rw [if_neg (by omega)]; exact tblD.nil
  have hre := rollE_ok hch hs
  have hcl := cutF_len lo hi t
  have hrl : (runRows l t m lo hi).length ≤ t.length := by unfold runRows; have := rollT_len l (cutF lo hi t) (zeros l.length) m; omega
  have hrun : runE l t m lo hi = if (runRows l t m lo hi).length > 500 then 61 else 0 := by unfold runE; rw [if_pos hch, if_neg (by rw [hs]; decide)]
  have htci : ∀ r ∈ cutF lo hi t, ∀ x ∈ r.1, i64 x := fun r hr => hti r ((List.mem_filter.1 hr).1)
  try simp only [gdTT, gdFF, gdTF, gdFT, pvS, pickT, pickF, faP, lenS, capS, nilP, exA, exB, exC, notB, cndT, cndF, Bool.not_true, Bool.not_false, Nat.zero_add, Nat.add_zero]
  have hbox := upd_same M b1 (some (.cells 36 [a, b, c] 3))
  have hm1 : clean (upd M b1 (some (.cells 36 [a, b, c] 3))) N3 := hw3.m
  have hb13 : b1 < N3 := hm1.lt hbox
  generalize upd M b1 _ = M1 at *
  refine l10_1_1_1_1_1_0_1_0_0 (σ := Nat × Value) (fun s => s.2) (fun s => .int .i64 (s.1 : Nat))
    (fun s h => ∃ M' N', h = ⟨F, M', N'⟩ ∧ N3 ≤ N' ∧ (∀ q, q < N3 → M' q = M1 q) ∧ clean M' N' ∧ s.1 ≤ l.length ∧ own M' N3 3 1 s.2 s.1 (ic (zeros s.1))) (fun s => l.length - s.1) (0, .slice none 0 0) rfl rfl
    (fun hw4 => ⟨_, wk_refl hw4, M1, N3, rfl, Nat.le_refl _, fun _ _ => rfl, hm1, Nat.zero_le _, own.nil⟩) (fun k1 s j h1' hI hw4 next => ?_)
  obtain ⟨M4, N4, rfl, hN4, hM4, hm4, hii, ho⟩ := hI
  refine pv_r hlu ?_
  refine lss_r (fun hlt => ?_) (fun hge => ?_)
  · have i1 : s.1 < l.length := by omega
    try simp only [gdTT, gdFF, gdTF, gdFT, pvS, pickT, pickF, faP, lenS, capS, nilP, exA, exB, exC, notB, cndT, cndF, Bool.not_true, Bool.not_false, Nat.zero_add, Nat.add_zero]
    refine push_r (new := [.int .i64 0]) ho hm4 (by omega) (by kernel_rfl) rfl (List.all_eq_true.1 rfl) (by omega) (by unfold maxLen; omega) (fun p v' M5 N5 h4 h5 h6 h7 => ?_)
    refine inc_r (by omega) ?_
    refine next (s.1 + 1, v') _ _ (by simp only; omega) (fun hw5 => ⟨_, wk_refl hw5, M5, N5, rfl, by omega, fun q hq => ?_, h7, i1, ?_⟩)
    · exact ((h5 q (fun e => by have := (ho.ge q e).1; omega) (by omega)).1).trans (hM4 q hq)
    · simp only; rw [zeros_snoc]; exact h4
  · try simp only [gdTT, gdFF, gdTF, gdFT, pvS, pickT, pickF, faP, lenS, capS, nilP, exA, exB, exC, notB, cndT, cndF, Bool.not_true, Bool.not_false, Nat.zero_add, Nat.add_zero]
    rw [t10_1_1_1_1_1_1]
    rw [show s.1 = l.length by omega] at ho
    have hbox4 : M4 b1 = some (.cells 36 [a, b, c] 3) := (hM4 _ hb13).trans hbox
    try simp only [gdTT, gdFF, gdTF, gdFT, pvS, pickT, pickF, faP, lenS, capS, nilP, exA, exB, exC, notB, cndT, cndF, Bool.not_true, Bool.not_false, Nat.zero_add, Nat.add_zero]
    refine ldM (v := b) ?_ hbox4
    try simp only [gdTT, gdFF, gdTF, gdFT, pvS, pickT, pickF, faP, lenS, capS, nilP, exA, exB, exC, notB, cndT, cndF, Bool.not_true, Bool.not_false, Nat.zero_add, Nat.add_zero]
    refine ldM (v := c) ?_ hbox4
    try simp only [gdTT, gdFF, gdTF, gdFT, pvS, pickT, pickF, faP, lenS, capS, nilP, exA, exB, exC, notB, cndT, cndF, Bool.not_true, Bool.not_false, Nat.zero_add, Nat.add_zero]
    refine ldM (v := a) ?_ hbox4
    refine callv_go (fun hc' => ⟨_, wk_P (p := fun q => s.2.ownBlock = some q) hc', ?_⟩)
    have hs5 := subF_frzP (p := fun q => s.2.ownBlock = some q) hc'
    have hz : sF (frzP F M4 (fun q => s.2.ownBlock = some q)) 1 s.2 (zeros l.length).length (ic (zeros l.length)) := by rw [zeros_len]; exact ho.frzP (fun q h => h)
    have hnb : ∀ q, q < N3 → ¬ s.2.ownBlock = some q := fun q hq e => by have := (ho.ge q e).1; omega
    have hM5 : ∀ q, q < N → keepM M4 (fun q => ¬ s.2.ownBlock = some q) q = M q := fun q hq => (keepM_in (hnb q (by omega))).trans ((hM4 q (by omega)).trans (hM1 q hq))
    have hbox5 : keepM M4 (fun q => ¬ s.2.ownBlock = some q) b1 = some (.cells 36 [a, b, c] 3) := (keepM_in (hnb b1 hb13)).trans hbox4
    generalize frzP F M4 _ = F5 at *
    generalize keepM M4 _ = M5 at *
    refine rcut_c (ht.mono hs5) (hb.mono hs5) (hc.mono hs5) hlol htl hk (fun v6 F6 N6 hw6 hF6 hN6 hcut => ?_)
    refine ⟨ldV_c (row_M hbox5) rfl, ?_⟩
    have F56 := hs5.trans hF6
    refine rroll_c (hu.mono F56) hl hcut (by omega) (hz.mono hF6) (ha.mono F56) hmi htci (fun v7 F7 N7 hw7 hF7 hN7 hr => ?_)
    rw [hre]
    try simp only [gdTT, gdFF, gdTF, gdFT, pvS, pickT, pickF, faP, lenS, capS, nilP, exA, exB, exC, notB, cndT, cndF, Bool.not_true, Bool.not_false, Nat.zero_add, Nat.add_zero]
    refine pv_r (v := .int .i64 ((runRows l t m lo hi).length : Nat)) (by obtain ⟨a, c, h⟩ := hr.form; rw [h]; rfl) ?_
    refine gtr_r (fun h500 => ?_) (fun h500 => ?_)
    · try simp only [gdTT, gdFF, gdTF, gdFT, pvS, pickT, pickF, faP, lenS, capS, nilP, exA, exB, exC, notB, cndT, cndF, Bool.not_true, Bool.not_false, Nat.zero_add, Nat.add_zero]
      refine fin _ 61 _ _ _ (by rw [hrun, if_pos (by omega)]) (F56.trans hF7) (by omega) hM5 ?_ _ rfl
      unfold runT; rw [if_neg (by rw [hrun, if_pos (by omega)]; decide)]; exact tblD.nil
    · try simp only [gdTT, gdFF, gdTF, gdFT, pvS, pickT, pickF, faP, lenS, capS, nilP, exA, exB, exC, notB, cndT, cndF, Bool.not_true, Bool.not_false, Nat.zero_add, Nat.add_zero]
      refine fin _ 0 _ _ _ (by rw [hrun, if_neg (by omega)]) (F56.trans hF7) (by omega) hM5 ?_ _ rfl
      unfold runT; rw [if_pos (by rw [hrun, if_neg (by omega)])]; exact hr
end Go.Proofs.YthpacapdaembpaaGreatDoor.A
open Go Go.RowKit Go.Proofs.YthpacapdaembpaaGreatDoor.K Go.Proofs.YthpacapdaembpaaGreatDoor.T
set_option linter.unusedVariables false
set_option linter.unusedSimpArgs false
namespace Go.Proofs.YthpacapdaembpaaGreatDoor.A
variable {F F' : Nat → Option (List Value)} {M M' : Nat → Option Chunk} {N N' : Nat} {K : Kont} {E : PanK}
/-- What is small. -/
def smallQ (l : List Dm) (m lo hi : List Int) : Prop := l.length ≤ 4 ∧ (∀ d ∈ l, d.2.length ≤ 4) ∧ m.length ≤ 4 ∧ lo.length ≤ 4 ∧ hi.length ≤ 4
theorem run_known : runE [(10, [5])] [([1], ⟨1, 0, 0, 0⟩), ([4], ⟨1, 0, 0, 0⟩), ([7], ⟨1, 0, 0, 0⟩)] [1] [0] [10] = 0 ∧ runT [(10, [5])] [([1], ⟨1, 0, 0, 0⟩), ([4], ⟨1, 0, 0, 0⟩), ([7], ⟨1, 0, 0, 0⟩)] [1] [0] [10] = [([0], ⟨2, 0, 0, 0⟩), ([1], ⟨1, 0, 0, 0⟩)] ∧ checkE [(10, [5])] [] [] [] = 40 := by decide +kernel
theorem int1 {b : Nat} {x : Int} (h : F b = some [.int .i64 x]) : sF F 1 (.slice (some ⟨b, 0, none⟩) 1 1) [x].length (ic [x]) := sF_lit h rfl (by decide)
theorem row_cons {b : Nat} {x : Int} {c : CE} {rows : List (List Value)} {t : List Rw} (h : F b = some [.int .i64 x]) (hr : rowsF (rowD F) 5 rows t) : rowsF (rowD F) 5 ((.slice (some ⟨b, 0, none⟩) 1 1 :: c.cs) :: rows) (([x], c) :: t) := by
  have hk := int1 h
  have h1 : rowD F (.slice (some ⟨b, 0, none⟩) 1 1 :: c.cs) ([x], c) := ⟨_, rfl, hk, by simp⟩
  have := rows_app ((rowsF.nil (rowD F) 5).snoc (row_cells (c := c) hk).1 (row_cells (c := c) hk).2 h1) hr
  simpa using this
set_option maxRecDepth 10000 in
/-- known, of stratumlaw06 -/
theorem knownq_c (k : ∀ F' N', subF F F' → N ≤ N' → (Hp.mk F' M N').wf → K (.bool true) ⟨F', M, N'⟩) : callv Tryz.prog (.func (.func 4) #[] #[]) #[] K E ⟨F, M, N⟩ := by
  refine callv_of_text mixed Tryz.func4 (by kernel_rfl) (t4 _ E) (fun hw => ?_)
  have hm : clean M N := hw.m
  refine nws_r (cs := [.int .i64 5]) (by kernel_rfl) (fun b1 hb1 => ?_)
  refine pv_r (v := .agg #[.int .i64 10, .slice (some ⟨b1, 0, none⟩) 1 1]) (by kernel_rfl) ?_
  refine nws_r (cs := [.int .i64 10, .slice (some ⟨b1, 0, none⟩) 1 1]) (by kernel_rfl) (fun b2 hb2 => ?_)
  refine nws_r (cs := [.int .i64 1]) (by kernel_rfl) (fun b3 hb3 => ?_)
  refine pv_r (v := .agg (CE.mk 1 0 0 0).cs.toArray) (by kernel_rfl) ?_
  refine pv_r (v := .agg (.slice (some ⟨b3, 0, none⟩) 1 1 :: (CE.mk 1 0 0 0).cs).toArray) (by kernel_rfl) ?_
  refine nws_r (cs := [.int .i64 4]) (by kernel_rfl) (fun b4 hb4 => ?_)
  refine pv_r (v := .agg (CE.mk 1 0 0 0).cs.toArray) (by kernel_rfl) ?_
  refine pv_r (v := .agg (.slice (some ⟨b4, 0, none⟩) 1 1 :: (CE.mk 1 0 0 0).cs).toArray) (by kernel_rfl) ?_
  refine nws_r (cs := [.int .i64 7]) (by kernel_rfl) (fun b5 hb5 => ?_)
  refine pv_r (v := .agg (CE.mk 1 0 0 0).cs.toArray) (by kernel_rfl) ?_
  refine pv_r (v := .agg (.slice (some ⟨b5, 0, none⟩) 1 1 :: (CE.mk 1 0 0 0).cs).toArray) (by kernel_rfl) ?_
  refine nws_r (cs := (.slice (some ⟨b3, 0, none⟩) 1 1 :: (CE.mk 1 0 0 0).cs) ++ (.slice (some ⟨b4, 0, none⟩) 1 1 :: (CE.mk 1 0 0 0).cs) ++ (.slice (some ⟨b5, 0, none⟩) 1 1 :: (CE.mk 1 0 0 0).cs)) (by kernel_rfl) (fun b6 hb6 => ?_)
  refine nws_r (cs := [.int .i64 1]) (by kernel_rfl) (fun b7 hb7 => ?_)
  refine nws_r (cs := [.int .i64 0]) (by kernel_rfl) (fun b8 hb8 => ?_)
  refine nws_r (cs := [.int .i64 10]) (by kernel_rfl) (fun b9 hb9 => ?_)
  refine pv_r (v := .agg #[.slice (some ⟨b7, 0, none⟩) 1 1, .slice (some ⟨b8, 0, none⟩) 1 1, .slice (some ⟨b9, 0, none⟩) 1 1]) (by kernel_rfl) ?_
  generalize hM9 : upd (upd (upd (upd (upd (upd (upd (upd (upd M b1 _) b2 _) b3 _) b4 _) b5 _) b6 _) b7 _) b8 _) b9 _ = M9
  have g9 : M9 b9 = some (.cells 3 [.int .i64 10] 1) := by rw [← hM9]; exact upd_same _ _ _
  have g8 : M9 b8 = some (.cells 3 [.int .i64 0] 1) := by rw [← hM9]; exact (upd_ne _ _ (by omega)).trans (upd_same _ _ _)
  have g7 : M9 b7 = some (.cells 3 [.int .i64 1] 1) := by rw [← hM9]; exact (upd_ne _ _ (by omega)).trans ((upd_ne _ _ (by omega)).trans (upd_same _ _ _))
  have g6 : M9 b6 = some (.cells 51 ((.slice (some ⟨b3, 0, none⟩) 1 1 :: (CE.mk 1 0 0 0).cs) ++ (.slice (some ⟨b4, 0, none⟩) 1 1 :: (CE.mk 1 0 0 0).cs) ++ (.slice (some ⟨b5, 0, none⟩) 1 1 :: (CE.mk 1 0 0 0).cs)) 15) := by rw [← hM9]; exact (upd_ne _ _ (by omega)).trans ((upd_ne _ _ (by omega)).trans ((upd_ne _ _ (by omega)).trans (upd_same _ _ _)))
  have g5 : M9 b5 = some (.cells 3 [.int .i64 7] 1) := by rw [← hM9]; exact (upd_ne _ _ (by omega)).trans ((upd_ne _ _ (by omega)).trans ((upd_ne _ _ (by omega)).trans ((upd_ne _ _ (by omega)).trans (upd_same _ _ _))))
  have g4 : M9 b4 = some (.cells 3 [.int .i64 4] 1) := by rw [← hM9]; exact (upd_ne _ _ (by omega)).trans ((upd_ne _ _ (by omega)).trans ((upd_ne _ _ (by omega)).trans ((upd_ne _ _ (by omega)).trans ((upd_ne _ _ (by omega)).trans (upd_same _ _ _)))))
  have g3 : M9 b3 = some (.cells 3 [.int .i64 1] 1) := by rw [← hM9]; exact (upd_ne _ _ (by omega)).trans ((upd_ne _ _ (by omega)).trans ((upd_ne _ _ (by omega)).trans ((upd_ne _ _ (by omega)).trans ((upd_ne _ _ (by omega)).trans ((upd_ne _ _ (by omega)).trans (upd_same _ _ _))))))
  have g2 : M9 b2 = some (.cells 47 [.int .i64 10, .slice (some ⟨b1, 0, none⟩) 1 1] 2) := by rw [← hM9]; exact (upd_ne _ _ (by omega)).trans ((upd_ne _ _ (by omega)).trans ((upd_ne _ _ (by omega)).trans ((upd_ne _ _ (by omega)).trans ((upd_ne _ _ (by omega)).trans ((upd_ne _ _ (by omega)).trans ((upd_ne _ _ (by omega)).trans (upd_same _ _ _)))))))
  have g1 : M9 b1 = some (.cells 3 [.int .i64 5] 1) := by rw [← hM9]; exact (upd_ne _ _ (by omega)).trans ((upd_ne _ _ (by omega)).trans ((upd_ne _ _ (by omega)).trans ((upd_ne _ _ (by omega)).trans ((upd_ne _ _ (by omega)).trans ((upd_ne _ _ (by omega)).trans ((upd_ne _ _ (by omega)).trans ((upd_ne _ _ (by omega)).trans (upd_same _ _ _))))))))
  have hMM : ∀ q, q < N → M9 q = M q := fun q hq => by rw [← hM9]; exact (upd_ne _ _ (by omega)).trans ((upd_ne _ _ (by omega)).trans ((upd_ne _ _ (by omega)).trans ((upd_ne _ _ (by omega)).trans ((upd_ne _ _ (by omega)).trans ((upd_ne _ _ (by omega)).trans ((upd_ne _ _ (by omega)).trans ((upd_ne _ _ (by omega)).trans (upd_ne _ _ (by omega)))))))))
  clear hM9
  obtain ⟨N9, hN9⟩ : ∃ n, n = b9 + 1 := ⟨_, rfl⟩
  rw [← hN9]
  refine callv_go (fun hc => ⟨_, frz_wf hm hMM hc, ?_⟩)
  have hs := subF_frzAll (N := N) hc
  have f1 := frz_at (F := F) (N := N) (by omega) g1
  have f2 := frz_at (F := F) (N := N) (by omega) g2
  have f3 := frz_at (F := F) (N := N) (by omega) g3
  have f4 := frz_at (F := F) (N := N) (by omega) g4
  have f5 := frz_at (F := F) (N := N) (by omega) g5
  have f6 := frz_at (F := F) (N := N) (by omega) g6
  have f7 := frz_at (F := F) (N := N) (by omega) g7
  have f8 := frz_at (F := F) (N := N) (by omega) g8
  have f9 := frz_at (F := F) (N := N) (by omega) g9
  generalize frzAll F M9 N = F9 at *
  have hd : dimsD F9 (.slice (some ⟨b2, 0, none⟩) 1 1) [(10, [5])] := by
    have hd1 : dimD F9 [.int .i64 10, .slice (some ⟨b1, 0, none⟩) 1 1] (10, [5]) := ⟨_, rfl, int1 f1, by decide⟩
    exact ⟨[[.int .i64 10, .slice (some ⟨b1, 0, none⟩) 1 1]], sF_lit f2 rfl (by decide), rowsF_snoc1 (rowsF.nil (dimD F9) 2) hd1.one hd1⟩
  have ht : tblD F9 (.slice (some ⟨b6, 0, none⟩) 3 3) [([1], ⟨1, 0, 0, 0⟩), ([4], ⟨1, 0, 0, 0⟩), ([7], ⟨1, 0, 0, 0⟩)] :=
    ⟨[.slice (some ⟨b3, 0, none⟩) 1 1 :: (CE.mk 1 0 0 0).cs, .slice (some ⟨b4, 0, none⟩) 1 1 :: (CE.mk 1 0 0 0).cs, .slice (some ⟨b5, 0, none⟩) 1 1 :: (CE.mk 1 0 0 0).cs], sF_lit f6 rfl (by decide), row_cons f3 (row_cons f4 (row_cons f5 (rowsF.nil _ _)))⟩
  have hq : queryD F9 [.slice (some ⟨b7, 0, none⟩) 1 1, .slice (some ⟨b8, 0, none⟩) 1 1, .slice (some ⟨b9, 0, none⟩) 1 1] [1] [0] [10] := ⟨_, _, _, rfl, int1 f7, int1 f8, int1 f9, by decide, by decide, by decide⟩
  refine run_c hd (by decide) ht (by decide) hq (by simp [i64]) (by simp [i64]) (fun _ => by simp) (fun v' F' N' hw' hF hN hr => ?_)
  obtain ⟨e1, e2, e3⟩ := run_known
  rw [e1]
  rw [e2] at hr
  obtain ⟨rows, ht1, ht2⟩ := hr
  try simp only [gdTT, gdFF, gdTF, gdFT, pvS, pickT, pickF, faP, lenS, capS, nilP, exA, exB, exC, notB, cndT, cndF, Bool.not_true, Bool.not_false, Nat.zero_add, Nat.add_zero]
  refine eql_t rfl ?_
  try simp only [gdTT, gdFF, gdTF, gdFT, pvS, pickT, pickF, faP, lenS, capS, nilP, exA, exB, exC, notB, cndT, cndF, Bool.not_true, Bool.not_false, Nat.zero_add, Nat.add_zero]
  refine lenF_r ht1 ?_
  refine eql_t rfl ?_
  try simp only [gdTT, gdFF, gdTF, gdFT, pvS, pickT, pickF, faP, lenS, capS, nilP, exA, exB, exC, notB, cndT, cndF, Bool.not_true, Bool.not_false, Nat.zero_add, Nat.add_zero]
  refine cf_r 0 (i := 0) (x := .int .i64 2) ht1 ht2 (by decide) rfl fun p q q' => ?_
  refine eql_t rfl ?_
  try simp only [gdTT, gdFF, gdTF, gdFT, pvS, pickT, pickF, faP, lenS, capS, nilP, exA, exB, exC, notB, cndT, cndF, Bool.not_true, Bool.not_false, Nat.zero_add, Nat.add_zero]
  refine key_r (i := 1) ht1 ht2 (by decide) fun p q kv hkv hkl => ?_
  refine ixn_r (i := 0) hkv (by decide) fun p => ?_
  refine eql_t rfl ?_
  try simp only [gdTT, gdFF, gdTF, gdFT, pvS, pickT, pickF, faP, lenS, capS, nilP, exA, exB, exC, notB, cndT, cndF, Bool.not_true, Bool.not_false, Nat.zero_add, Nat.add_zero]
  refine pv_r (v := .agg #[.slice none 0 0, .slice none 0 0, .slice none 0 0]) (by kernel_rfl) ?_
  have hq0 : queryD F' [.slice none 0 0, .slice none 0 0, .slice none 0 0] [] [] [] := ⟨_, _, _, rfl, sF.nil _ _ _, sF.nil _ _ _, sF.nil _ _ _, by decide, by decide, by decide⟩
  refine check_c (hd.mono hF) (by decide) hq0 (fun F2 N2 hw2 hF2 hN2 => ?_)
  rw [e3]
  refine eql_t rfl ?_
  try simp only [gdTT, gdFF, gdTF, gdFT, pvS, pickT, pickF, faP, lenS, capS, nilP, exA, exB, exC, notB, cndT, cndF, Bool.not_true, Bool.not_false, Nat.zero_add, Nat.add_zero]
  exact fun hc => ⟨_, wk_refl hc, fun hw' => k _ _ ((hs.trans hF).trans hF2) (by omega) hw'⟩
end Go.Proofs.YthpacapdaembpaaGreatDoor.A
open Go Go.RowKit Go.Proofs.YthpacapdaembpaaGreatDoor.K Go.Proofs.YthpacapdaembpaaGreatDoor.T
set_option linter.unusedVariables false
set_option linter.unusedSimpArgs false
namespace Go.Proofs.YthpacapdaembpaaGreatDoor.A
variable {F F' : Nat → Option (List Value)} {M M' : Nat → Option Chunk} {N N' : Nat} {K : Kont} {E : PanK}
end Go.Proofs.YthpacapdaembpaaGreatDoor.A
open Go Go.RowKit Go.Proofs.YthpacapdaembpaaGreatDoor.K Go.Proofs.YthpacapdaembpaaGreatDoor.T
set_option linter.unusedVariables false
set_option linter.unusedSimpArgs false
namespace Go.Proofs.YthpacapdaembpaaGreatDoor.A
variable {F F' : Nat → Option (List Value)} {M M' : Nat → Option Chunk} {N N' : Nat} {K : Kont} {E : PanK}
/-- The table of many. -/
def joinE (ts : List (List Rw)) : Nat := if (tab ts.flatten).length > 500 then 61 else 0
def joinT (ts : List (List Rw)) : List Rw := if (tab ts.flatten).length > 500 then [] else tab ts.flatten
end Go.Proofs.YthpacapdaembpaaGreatDoor.A
open Go Go.RowKit Go.Proofs.YthpacapdaembpaaGreatDoor.K Go.Proofs.YthpacapdaembpaaGreatDoor.T
set_option linter.unusedVariables false
set_option linter.unusedSimpArgs false
namespace Go.Proofs.YthpacapdaembpaaGreatDoor.A
variable {F F' : Nat → Option (List Value)} {M M' : Nat → Option Chunk} {N N' : Nat} {K : Kont} {E : PanK}
theorem mm_max {x y : Int} {k : IntKind} : mm true (.int k x) (.int k y) = some (.int k (max x y)) := by
  simp only [mm, if_true]
  congr 2
  split <;> omega
end Go.Proofs.YthpacapdaembpaaGreatDoor.A
open Go Go.RowKit Go.Proofs.YthpacapdaembpaaGreatDoor.K Go.Proofs.YthpacapdaembpaaGreatDoor.T
set_option linter.unusedVariables false
set_option linter.unusedSimpArgs false
namespace Go.Proofs.YthpacapdaembpaaGreatDoor.A
variable {F F' : Nat → Option (List Value)} {M M' : Nat → Option Chunk} {N N' : Nat} {K : Kont} {E : PanK}
theorem mm_min {x y : Int} {k : IntKind} : mm false (.int k x) (.int k y) = some (.int k (min x y)) := by
  simp only [mm, Bool.false_eq_true, if_false]
  congr 2
  split <;> omega
/-- A number of an own list. -/
theorem get_r {B : Nat} {v : Value} {l : List Int} {K : Value → Kont} (h : own M B 3 1 v l.length (ic l)) {i : Nat} (hi : i < l.length) (k : ∀ p, K p (.int .i64 l[i]) ⟨F, M, N⟩) : pv (iaV none 1 v (.int .i64 (i : Nat))) (fun p => ld false 1 p (K p)) ⟨F, M, N⟩ := by
  rcases h.2 with ⟨rfl, h0⟩ | ⟨b, c, rest, rfl, h1, h2, h3, h4⟩
  · omega
  · refine iaN_r hi (ld_r (ldV_c (row_M h4) ?_) (k _))
    rw [Nat.zero_add, Nat.mul_one, List.getElem?_append_left (by simpa [ic] using hi)]
    simp [ic, List.getElem?_eq_getElem hi]
/-- A number of an own list is set. -/
theorem put_r {B : Nat} {v : Value} {l : List Int} {K : Value → Kont} {x : Int} (h : own M B 3 1 v l.length (ic l)) {i : Nat} (hi : i < l.length)
    (k : ∀ p M', own M' B 3 1 v (l.set i x).length (ic (l.set i x)) → (∀ q, v.ownBlock ≠ some q → M' q = M q) → (∀ n, clean M n → clean M' n) → K p undef ⟨F, M', N⟩) : pv (iaV none 1 v (.int .i64 (i : Nat))) (fun p => st 1 p (.int .i64 x) (K p)) ⟨F, M, N⟩ := by
  rcases h.2 with ⟨rfl, h0⟩ | ⟨b, c, rest, rfl, h1, h2, h3, h4⟩
  · omega
  · refine iaN_r hi ?_
    have hl : i < (ic l).length := by simpa [ic] using hi
    refine st_r (cs' := ic (l.set i x) ++ rest) h4 rfl (List.all_eq_true.1 rfl) (by rw [List.length_append]; omega) ?_ (k _ _ ⟨by simp [ic], .inr ⟨b, c, rest, by rw [List.length_set], by rw [List.length_set]; exact h1, h2, h3, upd_same _ _ _⟩⟩ (fun q hq => upd_ne _ _ (fun e => hq (by rw [e]; rfl))) (fun n hc => hc.set (hc.lt h4) _))
    rw [show (Value.int .i64 x).cells.toList = [Value.int .i64 x] from rfl, Nat.zero_add, Nat.mul_one, splice_app (by simp; omega)]
    congr 1
    unfold ic
    rw [List.map_set]
    unfold splice
    rw [List.set_eq_take_append_cons_drop, if_pos (by simpa using hi)]
    simp
theorem half_get {α : Type} {x a : List α} {i : Nat} (hx : i < x.length) (ha : i < a.length) (h : i < (x.take i ++ a.drop i).length) : (x.take i ++ a.drop i)[i] = a[i] := by
  rw [List.getElem_append_right (by rw [List.length_take]; omega)]
  simp [List.length_take, Nat.min_eq_left (Nat.le_of_lt hx)]
theorem half_set {α : Type} {x a : List α} {i : Nat} (hx : i < x.length) (ha : i < a.length) : (x.take i ++ a.drop i).set i x[i] = x.take (i + 1) ++ a.drop (i + 1) := by
  rw [List.set_append, if_neg (by rw [List.length_take]; omega), List.length_take, Nat.min_eq_left (by omega), Nat.sub_self, List.drop_eq_getElem_cons ha, List.set_cons_zero, List.take_add_one, List.getElem?_eq_getElem hx, Option.toList_some, List.append_assoc]
  rfl
set_option maxRecDepth 10000 in
/-- Key, a list of the caller's own. -/
theorem key_o {u v : Value} {l : List Dm} {c : List Int} (hu : dimsD F u l) (hv : sF F 1 v c.length (ick .u16 c)) (hl : l.length ≤ 1000000) (hs : ∀ d ∈ l, 0 < d.1 ∧ d.1 ≤ 1000000) (hc : ∀ x ∈ c, 0 ≤ x ∧ x < 65536) (hcl : c.length ≤ 140737488351232)
    (k : ∀ v' M' N', own M' N 3 1 v' (keyOf l c).length (ic (keyOf l c)) → (∀ q, q < N → M' q = M q) → N ≤ N' → clean M' N' → (Hp.mk F M' N').wf → K v' ⟨F, M', N'⟩) :
    callv Tryz.prog (.func (.func 15) #[] #[]) #[u, v] K E ⟨F, M, N⟩ := by
  refine callv_of_text mixed Tryz.func15 (by kernel_rfl) (t15 _ E _ _) (fun hw => ?_)
  have hm : clean M N := hw.m
  obtain ⟨rows, hu1, hu2⟩ := hu
  have hlu : lenV u = some (.int .i64 (l.length : Nat)) := by obtain ⟨a, c, rfl, _⟩ := hu1.form; rfl
  have hlv : lenV v = some (.int .i64 (c.length : Nat)) := by obtain ⟨a, c, rfl, _⟩ := hv.form; rfl
  refine l15_1_1_0_1_0_0 (σ := Nat × Value) (fun s => s.2) (fun s => .int .i64 (s.1 : Nat))
    (fun s h => ∃ M' N', h = ⟨F, M', N'⟩ ∧ N ≤ N' ∧ (∀ q, q < N → M' q = M q) ∧ clean M' N' ∧ s.1 ≤ l.length ∧ own M' N 3 1 s.2 s.1 (ic (keyOf (l.take s.1) c))) (fun s => l.length - s.1) (0, .slice none 0 0) rfl rfl
    (fun hw2 => ⟨_, wk_refl hw2, M, N, rfl, Nat.le_refl _, fun _ _ => rfl, hm, Nat.zero_le _, own.nil⟩) (fun k1 s j h1 hI hw2 next => ?_)
  obtain ⟨M2, N2, rfl, hN2, hM2, hm2, hi, ho2⟩ := hI
  simp only [hlu, hlv]
  try simp only [gdTT, gdFF, gdTF, gdFT, pvS, pickT, pickF, faP, lenS, capS, nilP, exA, exB, exC, notB, cndT, cndF, Bool.not_true, Bool.not_false, Nat.zero_add, Nat.add_zero]
  refine lss_r (fun hlt => ?_) (fun hge => ?_)
  · have h1 : s.1 < l.length := by omega
    obtain ⟨d1, d2⟩ := hs l[s.1] (List.getElem_mem _)
    try simp only [gdTT, gdFF, gdTF, gdFT, pvS, pickT, pickF, faP, lenS, capS, nilP, exA, exB, exC, notB, cndT, cndF, Bool.not_true, Bool.not_false, Nat.zero_add, Nat.add_zero]
    -- what is behind the choice
    have nat : ∀ x : Int, 0 ≤ x → x < 65536 → x = c.getD s.1 0 → ∃ n : Nat, x = n ∧ n < 65536 ∧ (c.getD s.1 0) % l[s.1].1 = ((n % l[s.1].1.toNat : Nat) : Int) := fun x h0 h1 e => ⟨x.toNat, by omega, by omega, by
      rw [← e, Int.natCast_emod, Int.toNat_of_nonneg h0, Int.toNat_of_nonneg (by omega)]⟩
    refine lss_r (fun hlt2 => ?_) (fun hge2 => ?_)
    have h2 : s.1 < c.length := by omega
    try simp only [gdTT, gdFF, gdTF, gdFT, pvS, pickT, pickF, faP, lenS, capS, nilP, exA, exB, exC, notB, cndT, cndF, Bool.not_true, Bool.not_false, Nat.zero_add, Nat.add_zero]
    refine ixk_r hv h2 fun p => ?_
    obtain ⟨x0, x1⟩ := hc c[s.1] (List.getElem_mem _)
    obtain ⟨n, hn, hn1, hn2⟩ := nat c[s.1] x0 x1 (by simp [List.getD_eq_getElem?_getD, h2])
    rw [hn]
    refine cv_i64 (a := n) (by omega) ?_
    rotate_left
    try simp only [gdTT, gdFF, gdTF, gdFT, pvS, pickT, pickF, faP, lenS, capS, nilP, exA, exB, exC, notB, cndT, cndF, Bool.not_true, Bool.not_false, Nat.zero_add, Nat.add_zero]
    have hg : c.getD s.1 0 = 0 := by rw [List.getD_eq_getElem?_getD, List.getElem?_eq_none (by omega)]; rfl
    obtain ⟨n, hn0, hn2⟩ : ∃ n : Nat, (.int .i64 0 : Value) = .int .i64 (n : Nat) ∧ (c.getD s.1 0) % l[s.1].1 = ((n % l[s.1].1.toNat : Nat) : Int) := ⟨0, rfl, by rw [hg]; simp⟩
    rw [hn0]
    all_goals
      rw [t15_1_1_0_1_0_0_1_0_0_1_1]
      refine fld_r hu1 hu2 (by decide) h1 (off := 0) (by decide) fun p q r x hR _ hx => ?_
      obtain ⟨kv, rfl, hkv', hkl⟩ := hR
      simp at hx
      subst hx
      rw [show l[s.1].1 = ((l[s.1].1.toNat : Nat) : Int) by omega]
      refine rem_n (by omega) ?_
      refine push_r (new := [.int .i64 ((n % l[s.1].1.toNat : Nat) : Int)]) ho2 hm2 hN2 (by kernel_rfl) rfl (List.all_eq_true.1 rfl) (by omega) (by unfold maxLen; omega) (fun p v' M3 N3 h4 h5 h6 h7 => ?_)
      rw [t15_1_1_0_1_0_0_1_1]
      refine inc_r (by omega) ?_
      refine next (s.1 + 1, v') _ _ (by simp only; omega) (fun hw3 => ⟨_, wk_refl hw3, M3, N3, rfl, by omega, fun q hq => ?_, h7, h1, ?_⟩)
      · exact ((h5 q (fun e => by have := (ho2.ge q e).1; omega) (by omega)).1).trans (hM2 q hq)
      · simp only
        rw [keyOf_take l c h1, hn2]
        simpa [ic] using h4
  · try simp only [gdTT, gdFF, gdTF, gdFT, pvS, pickT, pickF, faP, lenS, capS, nilP, exA, exB, exC, notB, cndT, cndF, Bool.not_true, Bool.not_false, Nat.zero_add, Nat.add_zero]
    rw [t15_1_1_1]
    rw [List.take_of_length_le (by omega)] at ho2
    rw [show s.1 = l.length by omega] at ho2
    exact fun hc' => ⟨_, wk_refl hc', fun hw' => k _ _ _ (by rw [keyOf_len]; exact ho2) hM2 hN2 hm2 hw'⟩
/-- A box, as choices say. -/
def boxLo (l : List Dm) (a b : List Int) : List Int := List.zipWith min (keyOf l a) (keyOf l b)
def boxHi (l : List Dm) (a b : List Int) : List Int := List.zipWith (fun x y => max x y + 1) (keyOf l a) (keyOf l b)
theorem boxLo_len (l : List Dm) (a b : List Int) : (boxLo l a b).length = l.length := by simp [boxLo, keyOf_len]
theorem boxHi_len (l : List Dm) (a b : List Int) : (boxHi l a b).length = l.length := by simp [boxHi, keyOf_len]
theorem keyOf_at {l : List Dm} {c : List Int} (hs : ∀ d ∈ l, 0 < d.1 ∧ d.1 ≤ 1000000) {i : Nat} (hi : i < (keyOf l c).length) (hl : i < l.length) : 0 ≤ (keyOf l c)[i] ∧ (keyOf l c)[i] < l[i].1 := by
  obtain ⟨d1, d2⟩ := hs _ (List.getElem_mem hl)
  have e : (keyOf l c)[i] = (c.getD i 0) % l[i].1 := by simp [keyOf]
  rw [e]
  exact ⟨Int.emod_nonneg _ (by omega), Int.emod_lt_of_pos _ d1⟩
set_option maxRecDepth 10000 in
/-- Box, of stratumlaw05 -/
theorem box_c {u v w : Value} {l : List Dm} {a b : List Int} (hu : dimsD F u l) (hv : sF F 1 v a.length (ick .u16 a)) (hw' : sF F 1 w b.length (ick .u16 b)) (hl : l.length ≤ 1000000) (hs : ∀ d ∈ l, 0 < d.1 ∧ d.1 ≤ 1000000) (hac : ∀ x ∈ a, 0 ≤ x ∧ x < 65536) (hbc : ∀ x ∈ b, 0 ≤ x ∧ x < 65536) (hal : a.length ≤ 140737488351232) (hbl : b.length ≤ 140737488351232)
    (k : ∀ x y F' N', (Hp.mk F' M N').wf → subF F F' → N ≤ N' → sF F' 1 x (boxLo l a b).length (ic (boxLo l a b)) → sF F' 1 y (boxHi l a b).length (ic (boxHi l a b)) → K (.tuple #[x, y]) ⟨F', M, N'⟩) :
    callv Tryz.prog (.func (.func 16) #[] #[]) #[u, v, w] K E ⟨F, M, N⟩ := by
  refine callv_of_text mixed Tryz.func16 (by kernel_rfl) (t16 _ E _ _ _) (fun hw => ?_)
  have hm : clean M N := hw.m
  have hlu : lenV u = some (.int .i64 (l.length : Nat)) := by obtain ⟨a, c, h⟩ := hu.form; rw [h]; rfl
  refine key_o hu hv hl hs hac hal (fun x M1 N1 ho1 hM1 hN1 hm1 hw1 => ?_)
  refine key_o hu hw' hl hs hbc hbl (fun y M2 N2 ho2 hM2 hN2 hm2 hw2 => ?_)
  have hx1 : ∀ q, x.ownBlock = some q → N ≤ q ∧ q < N1 := fun q e => ⟨(ho1.ge q e).1, ho1.lt hm1 q e⟩
  have hy1 : ∀ q, y.ownBlock = some q → N1 ≤ q := fun q e => (ho2.ge q e).1
  have hox : own M2 N 3 1 x (keyOf l a).length (ic (keyOf l a)) := ho1.keep (fun q e => hM2 q (hx1 q e).2) (Nat.le_refl _)
  have hoy : own M2 N 3 1 y (keyOf l b).length (ic (keyOf l b)) := ho2.keep (fun q e => rfl) hN1
  have hA := keyOf_len l a
  have hB := keyOf_len l b
  have hL := boxLo_len l a b
  have hH := boxHi_len l a b
  have bA : ∀ i (h : i < (keyOf l a).length), 0 ≤ (keyOf l a)[i] ∧ (keyOf l a)[i] ≤ 1000000 := fun i h => by
    have := keyOf_at hs h (by omega); have := hs _ (List.getElem_mem (show i < l.length by omega)); omega
  have bB : ∀ i (h : i < (keyOf l b).length), 0 ≤ (keyOf l b)[i] ∧ (keyOf l b)[i] ≤ 1000000 := fun i h => by
    have := keyOf_at hs h (by omega); have := hs _ (List.getElem_mem (show i < l.length by omega)); omega
  have eL : ∀ i (h : i < (boxLo l a b).length) (h1 : i < (keyOf l a).length) (h2 : i < (keyOf l b).length), (boxLo l a b)[i] = min (keyOf l a)[i] (keyOf l b)[i] := fun i h h1 h2 => by simp [boxLo]
  have eH : ∀ i (h : i < (boxHi l a b).length) (h1 : i < (keyOf l a).length) (h2 : i < (keyOf l b).length), (boxHi l a b)[i] = max (keyOf l a)[i] (keyOf l b)[i] + 1 := fun i h h1 h2 => by simp [boxHi]
  generalize keyOf l a = A at *
  generalize keyOf l b = B at *
  generalize boxLo l a b = L at *
  generalize boxHi l a b = H at *
  refine l16_1_1_1_0_1_0_0 (σ := Nat) (fun i => .int .i64 (i : Nat)) (fun i h => ∃ M', h = ⟨F, M', N2⟩ ∧ i ≤ l.length ∧ (∀ q, q < N → M' q = M q) ∧ clean M' N2 ∧ own M' N 3 1 x (L.take i ++ A.drop i).length (ic (L.take i ++ A.drop i)) ∧ own M' N 3 1 y (H.take i ++ B.drop i).length (ic (H.take i ++ B.drop i))) (fun i => l.length - i) 0 rfl
    (fun hw3 => ⟨_, wk_refl hw3, M2, rfl, Nat.zero_le _, fun q hq => (hM2 q (by omega)).trans (hM1 q hq), hm2, hox, hoy⟩) (fun k1 i j h1 hI hw3 next => ?_)
  obtain ⟨M3, rfl, hi, hM3, hm3, h3, h4⟩ := hI
  refine pv_r hlu ?_
  refine lss_r (fun hlt => ?_) (fun hge => ?_)
  · have i1 : i < l.length := by omega
    have i2 : i < (L.take i ++ A.drop i).length := by simp; omega
    have i3 : i < (H.take i ++ B.drop i).length := by simp; omega
    have gA : (L.take i ++ A.drop i)[i] = A[i] := half_get (by omega) (by omega) i2
    have gB : (H.take i ++ B.drop i)[i] = B[i] := half_get (by omega) (by omega) i3
    have cA := bA i (by omega)
    have cB := bB i (by omega)
    have dL := eL i (by omega) (by omega) (by omega)
    have dH := eH i (by omega) (by omega) (by omega)
    try simp only [gdTT, gdFF, gdTF, gdFT, pvS, pickT, pickF, faP, lenS, capS, nilP, exA, exB, exC, notB, cndT, cndF, Bool.not_true, Bool.not_false, Nat.zero_add, Nat.add_zero]
    refine get_r h3 i2 fun p => get_r h4 i3 fun p => ?_
    refine pv_r (mm_min) ?_
    refine get_r h3 i2 fun p => get_r h4 i3 fun p => ?_
    refine pv_r (mm_max) ?_
    rw [gA, gB]
    refine add_r (by omega) (by omega) ?_
    rw [← dL, ← dH]
    refine put_r h4 i3 fun p M4 g1 g2 g3 => ?_
    have h3' : own M4 N 3 1 x (L.take i ++ A.drop i).length (ic (L.take i ++ A.drop i)) := h3.keep (fun q e => g2 q (fun e2 => by have := hy1 q e2; have := hx1 q e; omega)) (Nat.le_refl _)
    refine put_r h3' i2 fun p M5 k1' k2 k3 => ?_
    refine inc_r (by omega) ?_
    rw [half_set (by omega) (by omega)] at g1 k1'
    refine next (i + 1) _ _ (by omega) (fun hw4 => ⟨_, wk_refl hw4, M5, rfl, i1, fun q hq => ?_, k3 _ (g3 _ hm3), k1', g1.keep (fun q e => k2 q (fun e2 => by have := hy1 q e; have := hx1 q e2; omega)) (Nat.le_refl _)⟩)
    exact (k2 q (fun e => by have := hx1 q e; omega)).trans ((g2 q (fun e => by have := hy1 q e; omega)).trans (hM3 q hq))
  · try simp only [gdTT, gdFF, gdTF, gdFT, pvS, pickT, pickF, faP, lenS, capS, nilP, exA, exB, exC, notB, cndT, cndF, Bool.not_true, Bool.not_false, Nat.zero_add, Nat.add_zero]
    rw [t16_1_1_1_1]
    rw [List.take_of_length_le (by omega), List.drop_eq_nil_of_le (by omega), List.append_nil] at h3 h4
    exact fun hc => ⟨_, frz_wf hm hM3 hc, fun hw4 => k _ _ _ _ hw4 (subF_frzAll hc) (by omega) (h3.rd.frz hc (fun b hb => .inl (h3.ge b hb).1)) (h4.rd.frz hc (fun b hb => .inl (h4.ge b hb).1))⟩
theorem boxed {l : List Dm} {a b : List Int} (hs : ∀ d ∈ l, 0 < d.1 ∧ d.1 ≤ 1000000) : boxOK l (boxLo l a b) (boxHi l a b) = true := by
  have hL := boxLo_len l a b
  have hH := boxHi_len l a b
  unfold boxOK
  rw [decide_eq_true ⟨hL, hH⟩, Bool.true_and, List.all_eq_true]
  intro i hi
  have i1 : i < l.length := by rw [← hL]; exact List.mem_range.1 hi
  have i2 : i < (keyOf l a).length := by rw [keyOf_len]; exact i1
  have i3 : i < (keyOf l b).length := by rw [keyOf_len]; exact i1
  have h1 := keyOf_at hs i2 i1
  have h2 := keyOf_at hs i3 i1
  rw [getD_at (by omega), getD_at (by omega), getD_at i1]
  have eL : (boxLo l a b)[i] = min (keyOf l a)[i] (keyOf l b)[i] := by simp [boxLo]
  have eH : (boxHi l a b)[i] = max (keyOf l a)[i] (keyOf l b)[i] + 1 := by simp [boxHi]
  rw [eL, eH]
  exact decide_eq_true ⟨by omega, by omega, by omega⟩
set_option maxRecDepth 10000 in
/-- Ask -/
theorem ask_c {u w va vb : Value} {l : List Dm} {c a b : List Int} (hu : dimsD F u l) (hw' : sF F 1 w c.length (ick .u8 c)) (hv : sF F 1 va a.length (ick .u16 a)) (hvb : sF F 1 vb b.length (ick .u16 b)) (hl : l.length ≤ 1000000) (hs : ∀ d ∈ l, 0 < d.1 ∧ d.1 ≤ 1000000) (hdv : ∀ d ∈ l, d.2.length ≤ 1000000) (hcc : ∀ x ∈ c, 0 ≤ x ∧ x < 256) (hac : ∀ x ∈ a, 0 ≤ x ∧ x < 65536) (hbc : ∀ x ∈ b, 0 ≤ x ∧ x < 65536) (hcl : c.length ≤ 140737488351232) (hal : a.length ≤ 140737488351232) (hbl : b.length ≤ 140737488351232)
    (k : ∀ cs F' N', (Hp.mk F' M N').wf → subF F F' → N ≤ N' → queryD F' cs (levOf l c []) (boxLo l a b) (boxHi l a b) → K (.agg cs.toArray) ⟨F', M, N'⟩) :
    callv Tryz.prog (.func (.func 8) #[] #[]) #[u, w, va, vb] K E ⟨F, M, N⟩ := by
  refine callv_of_text mixed Tryz.func8 (by kernel_rfl) (t8 _ E _ _ _ _) (fun hw => ?_)
  have hm : clean M N := hw.m
  refine nw_r (fun b1 hb1 => ?_)
  refine box_c hu hv hvb hl hs hac hbc hal hbl (fun x y F2 N2 hw2 hF2 hN2 hx hy => ?_)
  try simp only [gdTT, gdFF, gdTF, gdFT, pvS, pickT, pickF, faP, lenS, capS, nilP, exA, exB, exC, notB, cndT, cndF, Bool.not_true, Bool.not_false, Nat.zero_add, Nat.add_zero]
  refine lgen_c (m := []) (hu.mono hF2) (hw'.mono hF2) (sF.nil _ _ _) hl hdv hcc (nil_ok l) hcl (by simp) (fun z F3 N3 hw3 hF3 hN3 hz => ?_)
  have hx3 := hx.mono hF3
  have hy3 := hy.mono hF3
  obtain ⟨a1, c1, e1, _⟩ := hx3.form
  obtain ⟨a2, c2, e2, _⟩ := hy3.form
  obtain ⟨a3, c3, e3, _⟩ := hz.form
  refine pv_r (v := .agg #[z, x, y]) (by rw [e1, e2, e3]; kernel_rfl) ?_
  refine stM (cs' := [z, x, y]) ?_ (upd_same _ _ _) rfl rfl (by rw [e1, e2, e3]; exact List.all_eq_true.1 rfl) (by exact Nat.le_of_ble_eq_true rfl)
  rw [upd_upd]
  refine ldMa (vs := [z, x, y]) ?_
  have h1 := boxLo_len l a b
  have h2 := boxHi_len l a b
  have h3 := levOf_len l c []
  exact fun hc => ⟨⟨F3, M, N3⟩, wk_drop hc (subM_drop (subM_refl _) (hm _ hb1)), fun hw4 => k [z, x, y] _ _ hw4 (hF2.trans hF3) (by omega) ⟨z, x, y, rfl, hz, hx3, hy3, by omega, by omega, by omega⟩⟩
end Go.Proofs.YthpacapdaembpaaGreatDoor.A
open Go Go.RowKit Go.Proofs.YthpacapdaembpaaGreatDoor.K Go.Proofs.YthpacapdaembpaaGreatDoor.T
set_option linter.unusedVariables false
set_option linter.unusedSimpArgs false
namespace Go.Proofs.YthpacapdaembpaaGreatDoor.A
variable {F F' : Nat → Option (List Value)} {M M' : Nat → Option Chunk} {N N' : Nat} {K : Kont} {E : PanK}
theorem look_filter (p : List Int → Bool) (k : List Int) : ∀ t : List Rw, look (t.filter fun r => p r.1) k = if p k = true then look t k else none
  | [] => by simp [look]
  | (k', c) :: t => by
    have ih := look_filter p k t
    rw [List.filter_cons]
    by_cases hk : k' = k
    · subst hk
      by_cases hp : p k' = true
      · rw [if_pos hp, if_pos hp]; simp [look]
      · rw [if_neg hp, ih, if_neg hp, if_neg hp]
    · have e : look ((k', c) :: t) k = look t k := by simp [look, hk]
      rw [e]
      split
      · rw [← ih]; simp [look, hk]
      · exact ih
theorem vals_filter (p : List Int → Bool) (k : List Int) : ∀ ls : List KV, valsAt (ls.filter fun x => p x.1) k = if p k = true then valsAt ls k else []
  | [] => by simp [valsAt]
  | x :: ls => by
    have ih := vals_filter p k ls
    rw [List.filter_cons, valsAt_cons]
    by_cases hk : x.1 = k
    · by_cases hp : p x.1 = true
      · have hp' : p k = true := by rw [← hk]; exact hp
        rw [if_pos hp, valsAt_cons, ih, if_pos hp', if_pos hp']
      · rw [if_neg hp, ih, ← hk, if_neg hp, if_neg hp]
    · rw [if_neg hk, List.nil_append]
      split
      · rw [valsAt_cons, if_neg hk, List.nil_append, ih]
      · exact ih
theorem sizeL_filter (p : KV → Bool) : ∀ ls : List KV, sizeL (ls.filter p) ≤ sizeL ls
  | [] => by simp
  | x :: ls => by
    have ih := sizeL_filter p ls
    rw [List.filter_cons]
    split
    · simp only [sizeL, List.map_cons, List.sum_cons] at ih ⊢; omega
    · simp only [sizeL, List.map_cons, List.sum_cons] at ih ⊢; omega
/-- The numbers in a box. -/
def boxedL (lo hi : List Int) (ls : List KV) : List KV := ls.filter fun x => withinF lo hi x.1
theorem goodT.cut {l : List Dm} {t : List Rw} {ls : List KV} (h : goodT l t ls) (lo hi : List Int) : goodT l (cutF lo hi t) (boxedL lo hi ls) := by
  refine ⟨fun k => ?_, List.Pairwise.filter _ h.srt, fun x hx => h.key x (List.mem_filter.1 hx).1, fun x hx => h.val x (List.mem_filter.1 hx).1⟩
  have e1 : look (cutF lo hi t) k = if withinF lo hi k = true then look t k else none := look_filter (withinF lo hi) k t
  have e2 : valsAt (boxedL lo hi ls) k = if withinF lo hi k = true then valsAt ls k else [] := vals_filter (withinF lo hi) k ls
  rw [e1, e2]
  have h0 := h.has k
  by_cases hp : withinF lo hi k = true
  · rw [if_pos hp, if_pos hp]; exact h0
  · rw [if_neg hp, if_neg hp]
/-- What a query tells. -/
def told (l : List Dm) (m lo hi : List Int) (ls : List KV) : List KV := reK (atF l (zeros l.length) m) (boxedL lo hi ls)
theorem lvOK_of {l : List Dm} {m : List Int} (hl : m.length = l.length) (h : okLev l m) : lvOK l m = true := by
  unfold lvOK
  rw [decide_eq_true hl, Bool.true_and, List.all_eq_true]
  intro i hi
  have i1 := List.mem_range.1 hi
  unfold lvP
  rw [getD_at i1]
  have := h i i1
  exact decide_eq_true ⟨by omega, by omega⟩
theorem checkE_of {l : List Dm} {m lo hi : List Int} (hd : okDims l = true) (hl : m.length = l.length) (h : okLev l m) (hb : boxOK l lo hi = true) : checkE l m lo hi = 0 := by
  unfold checkE
  rw [hd, lvOK_of hl h, hb]; rfl
theorem goodT.run {l : List Dm} {t : List Rw} {ls : List KV} (h : goodT l t ls) {m lo hi : List Int} (hd : okDims l = true) (hl : m.length = l.length) (hm : okLev l m) (hb : boxOK l lo hi = true) (h1 : t.length ≤ 500) (h2 : sizeL ls ≤ 1000) :
    runE l t m lo hi = 0 ∧ goodT l (runT l t m lo hi) (told l m lo hi ls) := by
  have hc := h.cut lo hi
  have h3 := cutF_len lo hi t
  have h4 := sizeL_filter (fun x => withinF lo hi x.1) ls
  have h6 : sizeL (boxedL lo hi ls) ≤ 1000 := Nat.le_trans h4 h2
  obtain ⟨h5, hg⟩ := hc.rolled hd (zeros_up hl hm) (small2 (by omega) h6)
  have h7 : (runRows l t m lo hi).length ≤ 500 := by unfold runRows; have := rollT_len l (cutF lo hi t) (zeros l.length) m; omega
  have e : runE l t m lo hi = 0 := by
    unfold runE
    rw [if_pos (checkE_of hd hl hm hb), if_neg (by rw [h.sound]; decide), if_neg (by omega)]
  refine ⟨e, ?_⟩
  unfold runT
  rw [if_pos e]; exact hg
theorem goodT.none (l : List Dm) : goodT l [] [] := ⟨fun k => by simp [look, valsAt], .nil, by simp, by simp⟩
end Go.Proofs.YthpacapdaembpaaGreatDoor.A
open Go Go.RowKit Go.Proofs.YthpacapdaembpaaGreatDoor.K Go.Proofs.YthpacapdaembpaaGreatDoor.T
set_option linter.unusedVariables false
set_option linter.unusedSimpArgs false
namespace Go.Proofs.YthpacapdaembpaaGreatDoor.A
variable {F F' : Nat → Option (List Value)} {M M' : Nat → Option Chunk} {N N' : Nat} {K : Kont} {E : PanK}
end Go.Proofs.YthpacapdaembpaaGreatDoor.A
open Go Go.RowKit Go.Proofs.YthpacapdaembpaaGreatDoor.K Go.Proofs.YthpacapdaembpaaGreatDoor.T
set_option linter.unusedVariables false
set_option linter.unusedSimpArgs false
namespace Go.Proofs.YthpacapdaembpaaGreatDoor.A
variable {F F' : Nat → Option (List Value)} {M M' : Nat → Option Chunk} {N N' : Nat} {K : Kont} {E : PanK}
set_option maxRecDepth 10000 in
/-- QueryRuns -/
theorem queryRuns_c {um uk uv uc ua ub : Value} {m : List (Int × List Int)} {ks : List (List Int)} {v c a b : List Int} (hm : cutsD F um m) (hml : m.length ≤ 140737488351232) (hmc : ∀ c ∈ m, (0 ≤ c.1 ∧ c.1 < 65536) ∧ ∀ x ∈ c.2, 0 ≤ x ∧ x < 256)
    (hk : kksD .u16 F uk ks) (hkl : ks.length ≤ 140737488351232) (hkc : ∀ k ∈ ks, ∀ x ∈ k, 0 ≤ x ∧ x < 65536) (hv : sF F 1 uv v.length (ic v)) (hvl : v.length ≤ 140737488351232) (hvc : ∀ x ∈ v, i64 x)
    (hc : sF F 1 uc c.length (ick .u8 c)) (hcl : c.length ≤ 140737488351232) (hcc : ∀ x ∈ c, 0 ≤ x ∧ x < 256)
    (ha : sF F 1 ua a.length (ick .u16 a)) (hal : a.length ≤ 140737488351232) (hac : ∀ x ∈ a, 0 ≤ x ∧ x < 65536)
    (hb : sF F 1 ub b.length (ick .u16 b)) (hbl : b.length ≤ 140737488351232) (hbc : ∀ x ∈ b, 0 ≤ x ∧ x < 65536) (k : ∀ h, K (.bool true) h) :
    call Tryz.prog 3 #[um, uk, uv, uc, ua, ub] K E ⟨F, M, N⟩ := by
  refine call_text mixed Tryz.func3 (by kernel_rfl) (t3 _ E _ _ _ _ _ _) (fun hw => ?_)
  have kn : ∀ {M : Nat → Option Chunk} {F : Nat → Option (List Value)} {N : Nat}, callv Tryz.prog (.func (.func 4) #[] #[]) #[] (fun v h => h.wf → ∃ h', h.wk h' ∧ (h'.wf → K v h')) E ⟨F, M, N⟩ := knownq_c (fun F' N' _ _ _ hc => ⟨_, wk_refl hc, fun _ => k _⟩)
  have hlk : lenV uk = some (.int .i64 (ks.length : Nat)) := by obtain ⟨rows, h1, _⟩ := hk; obtain ⟨a, c, rfl, _⟩ := h1.form; rfl
  refine pv_r hlk ?_
  refine gtr_r (fun h1 => ?_) (fun h1 => ?_)
  · try simp only [gdTT, gdFF, gdTF, gdFT, pvS, pickT, pickF, faP, lenS, capS, nilP, exA, exB, exC, notB, cndT, cndF, Bool.not_true, Bool.not_false, Nat.zero_add, Nat.add_zero]; exact kn
  try simp only [gdTT, gdFF, gdTF, gdFT, pvS, pickT, pickF, faP, lenS, capS, nilP, exA, exB, exC, notB, cndT, cndF, Bool.not_true, Bool.not_false, Nat.zero_add, Nat.add_zero]
  refine knownq_c (fun F1 N1 hF1 hN1 hw1 => ?_)
  try simp only [gdTT, gdFF, gdTF, gdFT, pvS, pickT, pickF, faP, lenS, capS, nilP, exA, exB, exC, notB, cndT, cndF, Bool.not_true, Bool.not_false, Nat.zero_add, Nat.add_zero]
  have hgd := dimsOf_good m (fun c hc => (hmc c hc).1)
  have hok := dimsOf_ok (m := m) (fun c hc => (hmc c hc).1)
  refine dof_c (hm.mono hF1) hml hmc (fun ul F2 N2 hw2 hF2 hN2 hd => ?_)
  refine facts_c hd ((hk.mono hF1).mono hF2) ((hv.mono hF1).mono hF2) (by have := hgd.2.1; omega) (fun d hd => by have := hgd.2.2 d hd; omega) hkc hkl hvl (fun uf F3 N3 hw3 hF3 hN3 hf => ?_)
  have hgt := goodT.facts (ks := ks) hgd hvc
  have hlt := tab_len ((factsOf (dimsOf m) ks v).map fr1)
  rw [List.length_map, factsOf_len] at hlt
  have hsz := sizeL_facts (factsOf (dimsOf m) ks v)
  rw [factsOf_len] at hsz
  refine rmake_c hf (by rw [factsOf_len]; omega) (fun f hf => (facts_okK hgd f hf).1) (fun ut F4 N4 hw4 hF4 hN4 ht => ?_)
  generalize hT : tab ((factsOf (dimsOf m) ks v).map fr1) = T at *
  generalize hL : (factsOf (dimsOf m) ks v).map kvF = L at *
  have hd4 := (hd.mono hF3).mono hF4
  generalize dimsOf m = l at *
  have hl4 := hgd.2.1
  have hl0 := hgd.1
  have hdv : ∀ d ∈ l, d.2.length ≤ 1000000 := fun d hd => by have := okDim_div (okDims_all hok d hd); omega
  have hds : ∀ d ∈ l, 0 < d.1 ∧ d.1 ≤ 1000000 := fun d hd => by have := hgd.2.2 d hd; omega
  have F14 := (hF2.trans hF3).trans hF4
  refine ask_c hd4 ((hc.mono hF1).mono F14) ((ha.mono hF1).mono F14) ((hb.mono hF1).mono F14) (by omega) hds hdv hcc hac hbc hcl hal hbl (fun cs F5 N5 hw5 hF5 hN5 hq => ?_)
  have htok := (levOf_ok (c := c) (nil_ok l)).1
  have htl := levOf_len l c []
  have hti := okLev_i64 htl htok hdv
  have hbx := boxed (a := a) (b := b) hds
  generalize levOf l c [] = lv at *
  generalize boxLo l a b = lo at *
  generalize boxHi l a b = hi at *
  have hq' := hq
  obtain ⟨x, y, z, rfl, hx, hy, hz, _⟩ := hq'
  obtain ⟨a1, c1, e1, _⟩ := hx.form
  obtain ⟨a2, c2, e2, _⟩ := hy.form
  obtain ⟨a3, c3, e3, _⟩ := hz.form
  refine nw_r (fun b11 hb11 => ?_)
  refine stM (cs' := [x, y, z]) ?_ (upd_same _ _ _) rfl rfl (by rw [e1, e2, e3]; exact List.all_eq_true.1 rfl) (by exact Nat.le_of_ble_eq_true rfl)
  rw [upd_upd]
  refine ldMa (vs := [x, y, z]) ?_
  obtain ⟨r1, g1⟩ := hgt.run hok htl htok hbx (by omega) (by omega)
  have n1 := runT_len l T lv lo hi
  have hd5 := hd4.mono hF5
  have ht5 := ht.mono hF5
  have hkT : ∀ r ∈ T, r.1.length ≤ 10000000000 := fun r hr => (hgt.okK (by omega) r hr).1
  refine run_c hd5 (by omega) ht5 (by omega) hq hti hgt.i64 (fun _ => hkT) (fun v6 F6 N6 hw6 hF6 hN6 h6 => ?_)
  rw [r1]
  try simp only [gdTT, gdFF, gdTF, gdFT, pvS, pickT, pickF, faP, lenS, capS, nilP, exA, exB, exC, notB, cndT, cndF, Bool.not_true, Bool.not_false, Nat.zero_add, Nat.add_zero]
  refine ldMa (vs := [x, y, z]) ?_
  refine rrun_c (hd5.mono hF6) (by omega) (ht5.mono hF6) (by omega) (hq.mono hF6) hti hgt.i64 (fun _ => hkT) (fun v7 F7 N7 hw7 hF7 hN7 h7 => ?_)
  rw [r1]
  try simp only [gdTT, gdFF, gdTF, gdFT, pvS, pickT, pickF, faP, lenS, capS, nilP, exA, exB, exC, notB, cndT, cndF, Bool.not_true, Bool.not_false, Nat.zero_add, Nat.add_zero]
  refine eql_t rfl ?_
  try simp only [gdTT, gdFF, gdTF, gdFT, pvS, pickT, pickF, faP, lenS, capS, nilP, exA, exB, exC, notB, cndT, cndF, Bool.not_true, Bool.not_false, Nat.zero_add, Nat.add_zero]
  refine eql_t rfl ?_
  try simp only [gdTT, gdFF, gdTF, gdFT, pvS, pickT, pickF, faP, lenS, capS, nilP, exA, exB, exC, notB, cndT, cndF, Bool.not_true, Bool.not_false, Nat.zero_add, Nat.add_zero]
  refine same_c (h6.mono hF7) h7 (by omega) ?_
  rw [decide_eq_true rfl]
  try simp only [gdTT, gdFF, gdTF, gdFT, pvS, pickT, pickF, faP, lenS, capS, nilP, exA, exB, exC, notB, cndT, cndF, Bool.not_true, Bool.not_false, Nat.zero_add, Nat.add_zero]
  exact fun hc => ⟨_, wk_refl hc, fun _ => k _⟩
end Go.Proofs.YthpacapdaembpaaGreatDoor.A
open Go Go.RowKit Go.Proofs.YthpacapdaembpaaGreatDoor.K Go.Proofs.YthpacapdaembpaaGreatDoor.T
set_option linter.unusedVariables false
set_option linter.unusedSimpArgs false
namespace Go.Proofs.YthpacapdaembpaaGreatDoor.A
variable {F F' : Nat → Option (List Value)} {M M' : Nat → Option Chunk} {N N' : Nat} {K : Kont} {E : PanK}
theorem QueryRuns_true (v0 v1 v2 v3 v4 v5 : Value) {y0 : List (Int × List Int)} {y1 : List (List Int)} {y2 y3 y4 y5 : List Int} (W : World) (h0 : rS 2 rCut (F0 W) [v0] y0) (h1 : rS 1 (rS 1 (rI .u16)) (F0 W) [v1] y1) (h2 : rS 1 (rI .i64) (F0 W) [v2] y2) (h3 : rS 1 (rI .u8) (F0 W) [v3] y3) (h4 : rS 1 (rI .u16) (F0 W) [v4] y4) (h5 : rS 1 (rI .u16) (F0 W) [v5] y5) :
    Calls Tryz.prog 3 #[v0, v1, v2, v3, v4, v5] W fun e w' => e = .returned (.bool true) ∧ Below W.heap.size W w' :=
  have b := cuts_of h0
  have c := lists_of h1
  have d := list_of h2
  have e := list_of h3
  have f := list_of h4
  have g := list_of h5
  fin_true (queryRuns_c b.1 b.2.1 b.2.2 c.1 c.2.1 (fun l hl x hx => wf_u16 (c.2.2 l hl x hx)) d.1 d.2.2 (fun x hx => wf_i64 (d.2.1 x hx)) e.1 e.2.2 (fun x hx => wf_u8 (e.2.1 x hx)) f.1 f.2.2 (fun x hx => wf_u16 (f.2.1 x hx)) g.1 g.2.2 (fun x hx => wf_u16 (g.2.1 x hx)) fun _ => rfl)
end Go.Proofs.YthpacapdaembpaaGreatDoor.A
