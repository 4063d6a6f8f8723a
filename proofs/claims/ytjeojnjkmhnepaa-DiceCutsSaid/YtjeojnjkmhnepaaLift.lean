/- It is proved here that whatever reads as data is of its kind: whole numbers, bools, strings, slices and structs. -/
import Derived.Test.YtjeojnjkmhnepaaProg
import Derived.Below
import Derived.Deep.Draws
import Derived.Deep.AppendLies
import Derived.Maps.AppendAt
import Derived.OwnWalk
import Derived.Laws.BytesArg
import Derived.Laws.MakeOwn
import Derived.Laws.OwnMore
import Derived.Deep.OwnRows
import Derived.Tactics
import Derived.Lib.ConvBytes
import Derived.Laws.Slices
import Derived.WalkKit
import Derived.KernelRfl
import Derived.RowKit3
import Derived.Deep.LoopGhost
import Derived.Deep.QuietTactic
import Derived.BigQuiet
import Derived.WideLaws
import Derived.Deep.DeepCutAuto
import Derived.Deep.CutBlock
import Derived.Deep.RegionHeld3
import Derived.Laws.Rows
import Derived.Lib.AppendStr
import Derived.ArgAppend
import Derived.Laws.IdiomCopy
import Derived.OrdersHeld
import Derived.Laws.BitsLemmas
import Derived.RowKit
import Derived.Test.YtjeojnjkmhnepaaWWords
import Derived.Test.YtjeojnjkmhnepaaWLast
import Derived.Test.YtjeojnjkmhnepaaWTab
import Derived.Test.YtjeojnjkmhnepaaWFour
import Derived.Test.YtjeojnjkmhnepaaWQPut
import Derived.Test.YtjeojnjkmhnepaaWApart
import Derived.Test.YtjeojnjkmhnepaaWArr
import Derived.Test.YtjeojnjkmhnepaaWZeros
import Derived.Test.YtjeojnjkmhnepaaWFoot
import Derived.Test.YtjeojnjkmhnepaaWKept
import Derived.Test.YtjeojnjkmhnepaaWShare
import Derived.Test.YtjeojnjkmhnepaaWN
import Derived.Test.YtjeojnjkmhnepaaWFootNe
import Derived.Test.YtjeojnjkmhnepaaWAt
import Derived.Test.YtjeojnjkmhnepaaWEqStruct
import Derived.Test.YtjeojnjkmhnepaaWRepsOne
import Derived.Test.YtjeojnjkmhnepaaWInv
import Derived.Test.YtjeojnjkmhnepaaWInvWords
import Derived.Test.YtjeojnjkmhnepaaWGuard
import Derived.Test.YtjeojnjkmhnepaaWNEv
import Derived.Test.YtjeojnjkmhnepaaWMore
open Go Go.RowKit Go.Proofs.YtjeojnjkmhnepaaW.PrintWords
set_option linter.unusedVariables false
set_option linter.unusedSimpArgs false
namespace Go.Proofs.Ytjeojnjkmhnepaa.Lift

/-- What reads as data of type t is of kind d, and good. -/
structure Opens {α : Type} (P : Program) (t : TypeId) (d : Kd α) (good : α → Prop) : Prop where
  size : P.cellsOf t = d.sz
  get : ∀ {H : Type} {enc : TypeId × Value → H} {w : World} {base : Nat} {sp : Nat → Bool} {hd : Bool} {fuel : Nat} {cs : List Value} {x : DataW H × List MemPlace},
    DataW.trod enc P w base sp hd fuel t cs = some x → ∃ y, d.K w y cs ∧ good y

theorem opens_int {P : Program} {t : TypeId} {k : IntKind} (ht : P.underlying t = some (.int k)) (hs : P.cellsOf t = 1) : Opens P t (Kd.int k) (fun n => (Lit.int k n).wf = true) := by
  refine ⟨hs, fun {H enc w base sp hd fuel cs x} h => ?_⟩
  cases fuel with
  | zero => simp [DataW.trod] at h
  | succ n =>
    unfold DataW.trod at h
    rw [ht] at h
    split at h <;> simp_all
    exact ⟨_, rfl, h.1.2⟩
theorem opens_bool {P : Program} {t : TypeId} (ht : P.underlying t = some .bool) (hs : P.cellsOf t = 1) : Opens P t Kd.bool (fun _ => True) := by
  refine ⟨hs, fun {H enc w base sp hd fuel cs x} h => ?_⟩
  cases fuel with
  | zero => simp [DataW.trod] at h
  | succ n =>
    unfold DataW.trod at h
    rw [ht] at h
    split at h
    all_goals first | (simp at h; done) | skip
    all_goals first | (cases ‹some TypeDesc.bool = _›; done) | exact ⟨_, rfl, trivial⟩
theorem opens_string {P : Program} {t : TypeId} (ht : P.underlying t = some .string) (hs : P.cellsOf t = 1) : Opens P t Kd.string (fun s => s.size ≤ maxLen) := by
  refine ⟨hs, fun {H enc w base sp hd fuel cs x} h => ?_⟩
  cases fuel with
  | zero => simp [DataW.trod] at h
  | succ n =>
    unfold DataW.trod at h
    rw [ht] at h
    split at h <;> simp_all
    exact ⟨_, rfl, h.1⟩
theorem mapM_get {α β : Type} {f : α → Option β} : ∀ {l : List α} {r : List β}, l.mapM f = some r → r.length = l.length ∧ ∀ (i : Nat) (a : α), l[i]? = some a → f a = r[i]?
  | [], r, h => by simp at h; subst h; simp
  | a :: l, r, h => by
    rw [List.mapM_cons] at h
    cases hf : f a with
    | none => simp [hf] at h
    | some b =>
      cases hm : l.mapM f with
      | none => simp [hf, hm] at h
      | some r' =>
        simp [hf, hm] at h
        subst h
        obtain ⟨h1, h2⟩ := mapM_get hm
        refine ⟨by simp [h1], fun i x hx => ?_⟩
        cases i with
        | zero => simp at hx; subst hx; simpa using hf
        | succ i => simpa using h2 i x (by simpa using hx)
theorem cells_get {w : World} {base : Nat} {a : Addr} {n : Nat} {cs : List Value} (h : w.cells? base a n = some cs) : cs.length = n ∧ ∀ (i : Nat) (u : Value), cs[i]? = some u → w.cell? (a.add i) = some u := by
  unfold World.cells? at h
  split at h
  · obtain ⟨h1, h2⟩ := mapM_get h
    refine ⟨by simpa using h1, fun i u hu => ?_⟩
    have hi : i < n := by
      have := (List.getElem?_eq_some_iff.1 hu).1
      rw [h1] at this
      simpa using this
    rw [← hu]
    exact h2 i i (by simp [hi])
  · simp at h
theorem opens_slice {α : Type} {P : Program} {t e : TypeId} {d : Kd α} {good : α → Prop} (ht : P.underlying t = some (.slice e)) (hs : P.cellsOf t = 1) (he : Opens P e d good) :
    Opens P t (Kd.slice e d) (fun ys => ∀ y ∈ ys, good y) := by
  refine ⟨hs, fun {H enc w base sp hd fuel cs x} h => ?_⟩
  rcases DataW.trod_slice ht h with ⟨rfl, rfl⟩ | ⟨a, len, cap, elems, rest, n, _, rfl, rfl, hb, hl, hm, hlen, hel, hsp, hns⟩
  · exact ⟨[], ⟨none, 0, rfl, by simp, ⟨rfl, by simp, fun h => absurd h (by simp)⟩⟩, by simp⟩
  · have hex : ∀ m, m ≤ len → ∃ ys : List α, ys.length = m ∧ ∀ (i : Nat) (y : α), ys[i]? = some y → (∃ c : List Value, w.cells? base (a.add (i * P.cellsOf e)) (P.cellsOf e) = some c ∧ d.K w y c) ∧ good y := by
      intro m
      induction m with
      | zero => exact fun _ => ⟨[], rfl, fun i y h => by simp at h⟩
      | succ m ih =>
        intro hm'
        obtain ⟨ys, h1, h2⟩ := ih (by omega)
        have h3 := hel m (by omega)
        rw [List.getElem?_eq_getElem (by omega)] at h3
        obtain ⟨c, hc, h4⟩ := Option.bind_eq_some_iff.1 h3
        obtain ⟨y, hy, hg⟩ := he.get h4
        refine ⟨ys ++ [y], by simp [h1], fun i z hz => ?_⟩
        rcases Nat.lt_or_ge i ys.length with h5 | h5
        · rw [List.getElem?_append_left h5] at hz
          exact h2 i z hz
        · rw [List.getElem?_append_right h5] at hz
          have h6 : i - ys.length = 0 := by
            have := (List.getElem?_eq_some_iff.1 hz).1
            simp at this
            omega
          rw [h6] at hz
          simp at hz
          subst hz
          have : i = m := by omega
          subst this
          exact ⟨⟨c, hc, hy⟩, hg⟩
    obtain ⟨ys, h1, h2⟩ := hex len (Nat.le_refl _)
    subst h1
    refine ⟨ys, ⟨some a, cap, rfl, hl, ⟨rfl, ?_, fun _ => ⟨a, rfl, fun j y hy => ?_⟩⟩⟩, fun y hy => ?_⟩
    · unfold maxLen at hm
      omega
    · obtain ⟨⟨c, hc, hk⟩, _⟩ := h2 j y hy
      obtain ⟨h3, h4⟩ := cells_get hc
      refine ⟨c, by rw [h3, he.size], hk, fun i u hu => ?_⟩
      rw [← h4 i u hu, he.size]
      rw [Addr.add_add]
    · obtain ⟨j, hj, rfl⟩ := List.mem_iff_getElem.1 hy
      exact (h2 j _ (List.getElem?_eq_getElem hj)).2
/-- A struct's fields, from field offset o on. -/
def OpensF {α : Type} (P : Program) (fs : List Go.Field) (o : Nat) (d : Kd α) (good : α → Prop) : Prop :=
  ∀ {H : Type} {enc : TypeId × Value → H} {w : World} {base : Nat} {sp : Nat → Bool} {hd : Bool} {fuel : Nat} {cs : List Value} {xs : List (DataW H × List MemPlace)},
    (fs.mapM fun f => DataW.trod enc P w base sp hd fuel f.type ((cs.drop f.offset).take (P.cellsOf f.type))) = some xs → cs.length = o + d.sz → ∃ y, d.K w y (cs.drop o) ∧ good y
theorem opensF_one {α : Type} {P : Program} {f : Go.Field} {o : Nat} {d : Kd α} {good : α → Prop} (ho : f.offset = o) (h : Opens P f.type d good) : OpensF P [f] o d good := by
  intro H enc w base sp hd fuel cs xs hm hl
  obtain ⟨_, h2⟩ := mapM_get hm
  have h3 := h2 0 f rfl
  have hx : (cs.drop f.offset).take (P.cellsOf f.type) = cs.drop o := by
    rw [ho, h.size, List.take_of_length_le (by rw [List.length_drop]; omega)]
  rw [hx] at h3
  cases hx0 : xs[0]? with
  | none =>
    have := (mapM_get hm).1
    rw [List.getElem?_eq_none_iff] at hx0
    simp at this
    omega
  | some x =>
    rw [hx0] at h3
    exact h.get h3
theorem opensF_cons {α β : Type} {P : Program} {f : Go.Field} {fs : List Go.Field} {o : Nat} {a : Kd α} {b : Kd β} {ga : α → Prop} {gb : β → Prop} (ho : f.offset = o) (h : Opens P f.type a ga) (hs : OpensF P fs (o + a.sz) b gb) :
    OpensF P (f :: fs) o (Kd.pair a b) (fun p => ga p.1 ∧ gb p.2) := by
  intro H enc w base sp hd fuel cs xs hm hl
  have hl' : cs.length = o + (a.sz + b.sz) := hl
  rw [List.mapM_cons] at hm
  obtain ⟨x, h1, h2⟩ := Option.bind_eq_some_iff.1 hm
  obtain ⟨xs', h3, h4⟩ := Option.bind_eq_some_iff.1 h2
  obtain ⟨y, hy, gy⟩ := h.get h1
  obtain ⟨z, hz, gz⟩ := hs h3 (by omega)
  refine ⟨(y, z), ⟨_, _, ?_, hy, hz⟩, gy, gz⟩
  rw [ho, h.size, ← List.drop_drop, List.take_append_drop]
theorem opens_struct {α : Type} {P : Program} {t : TypeId} {fs : Array Go.Field} {d : Kd α} {good : α → Prop} (ht : P.underlying t = some (.struct fs)) (hs : P.cellsOf t = d.sz) (h : OpensF P fs.toList 0 d good) : Opens P t d good := by
  refine ⟨hs, fun {H enc w base sp hd fuel cs x} hx => ?_⟩
  cases fuel with
  | zero => simp [DataW.trod] at hx
  | succ n =>
    have key : cs.length = P.cellsOf t ∧ ∃ xs, (fs.toList.mapM fun f => DataW.trod enc P w base sp hd n f.type ((cs.drop f.offset).take (P.cellsOf f.type))) = some xs := by
      unfold DataW.trod at hx
      rw [ht] at hx
      split at hx
      case h_9 =>
        rename_i fs' e
        injection e with e
        injection e with e
        subst e
        split at hx
        · rename_i hc
          refine ⟨hc, ?_⟩
          obtain ⟨xs, h1, _⟩ := Option.map_eq_some_iff.1 hx
          exact ⟨xs, h1⟩
        · exact absurd hx (by simp)
      all_goals first | (exfalso; simp at hx; done) | (exfalso; simp_all; done)
    obtain ⟨hc, xs, hm⟩ := key
    obtain ⟨y, hy, gy⟩ := h hm (by rw [hc, hs]; omega)
    exact ⟨y, by simpa using hy, gy⟩
theorem opens_iso {α β : Type} {P : Program} {t : TypeId} {d : Kd α} {good : α → Prop} (h : Opens P t d good) (f : β → α) (g : α → β) (hfg : ∀ x, f (g x) = x) : Opens P t (Kd.iso d f) (fun y => good (f y)) := by
  refine ⟨h.size, fun {H enc w base sp hd fuel cs x} hx => ?_⟩
  obtain ⟨y, hy, gy⟩ := h.get hx
  exact ⟨g y, by show d.K w (f (g y)) cs; rw [hfg]; exact hy, by show good (f (g y)); rw [hfg]; exact gy⟩
/-- An argument as the row hands it over. -/
theorem Opens.arg {α : Type} {P : Program} {t : TypeId} {d : Kd α} {good : α → Prop} (h : Opens P t d good) {H : Type} {enc : TypeId × Value → H} {w : World} {base : Nat} {sp : Nat → Bool} {hd : Bool} {v : Value} {x : DataW H} {ps : List MemPlace}
    (hx : DataW.Trod enc P w base sp hd t v x ps) : ∃ y, d.K w y v.cells.toList ∧ good y := by
  obtain ⟨fuel, hx⟩ := hx
  exact h.get hx
end Go.Proofs.Ytjeojnjkmhnepaa.Lift
