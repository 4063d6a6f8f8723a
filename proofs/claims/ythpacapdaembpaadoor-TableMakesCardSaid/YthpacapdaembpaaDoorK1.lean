import Derived.WalkKit
import Derived.KernelRfl
import Derived.Orders
import Derived.Laws.AppendOwn
import Derived.Laws.OwnMore
open Go Go.RowKit
set_option linter.unusedVariables false
set_option linter.unusedSimpArgs false
namespace Go.Proofs.YthpacapdaembpaaDoor.K

/-- What is known of a block that the call owns: a row's first cells and its whole size; or an object. -/
inductive Chunk where
  | cells (e : TypeId) (cs : List Value) (tot : Nat)
  | obj (o : Obj)

/-- What is known of memory: rows that nobody turns any more; blocks of the call's own; and a number above all of them. -/
structure Hp where
  F : Nat → Option (List Value)
  M : Nat → Option Chunk
  nx : Nat

def Obj.noCells : Obj → Prop
  | .cells .. => False
  | _ => True

structure Rep (w0 : World) (h : Hp) (w : World) : Prop where
  below : Below w0.heap.size w0 w
  dr : w0.drawn ≤ w.drawn
  nx : h.nx ≤ w.heap.size
  base : w0.heap.size ≤ h.nx
  fr : ∀ b cs, h.F b = some cs → b < h.nx ∧ ∃ arr e z, w.heap[b]? = some (.cells arr e z) ∧ cs <+: arr.toList
  cl : ∀ b e cs tot, h.M b = some (.cells e cs tot) → b < h.nx ∧ w0.heap.size ≤ b ∧ h.F b = none ∧ ∃ arr, w.heap[b]? = some (.cells arr e (0, 0)) ∧ arr.size = tot ∧ cs <+: arr.toList
  ob : ∀ b o, h.M b = some (.obj o) → b < h.nx ∧ w0.heap.size ≤ b ∧ h.F b = none ∧ w.heap[b]? = some o ∧ Obj.noCells o

/-- These cells are known of a block. -/
def Hp.row (h : Hp) (b : Nat) (cs : List Value) : Prop := h.F b = some cs ∨ ∃ e tot, h.M b = some (.cells e cs tot)

def upd {α : Type} (f : Nat → Option α) (b : Nat) (v : Option α) : Nat → Option α := fun k => if k = b then v else f k
theorem upd_same {α : Type} (f : Nat → Option α) (b : Nat) (v : Option α) : upd f b v b = v := by simp [upd]
theorem upd_ne {α : Type} (f : Nat → Option α) {b k : Nat} (v : Option α) (h : k ≠ b) : upd f b v k = f k := by simp [upd, h]

theorem Rep.cell {w0 w : World} {h : Hp} (r : Rep w0 h w) {b : Nat} {cs : List Value} (hb : h.row b cs) {o : Nat} {v : Value} (hv : cs[o]? = some v) : w.cell? ⟨b, o, none⟩ = some v := by
  have pre : ∀ (arr : Array Value) e z, w.heap[b]? = some (.cells arr e z) → cs <+: arr.toList → w.cell? ⟨b, o, none⟩ = some v := by
    intro arr e z ha hp
    obtain ⟨t, ht⟩ := hp
    have : arr[o]? = some v := by
      rw [← Array.getElem?_toList, ← ht, List.getElem?_append_left (List.getElem?_eq_some_iff.1 hv).1]; exact hv
    simp [World.cell?, ha, this]
  rcases hb with hb | ⟨e, tot, hM⟩
  · obtain ⟨_, arr, e, z, ha, hp⟩ := r.fr b cs hb
    exact pre arr e z ha hp
  · obtain ⟨_, _, _, arr, ha, _, hp⟩ := r.cl b e _ tot hM
    exact pre arr e (0, 0) ha hp

/-- Block b is now as chunk c says. -/
def Hp.set (h : Hp) (b : Nat) (c : Chunk) : Hp := { h with M := upd h.M b (some c) }
/-- A new block. -/
def Hp.new (h : Hp) (b : Nat) (c : Chunk) : Hp := { h with M := upd h.M b (some c), nx := b + 1 }
/-- Nothing is known of block b any more. -/
def Hp.del (h : Hp) (b : Nat) : Hp := { h with M := upd h.M b none }

theorem Rep.drew {w0 w : World} {h : Hp} (r : Rep w0 h w) : Rep w0 h w.drew := ⟨r.below.drew, Nat.le_succ_of_le r.dr, r.nx, r.base, r.fr, r.cl, r.ob⟩

theorem heap_setCell_same {w : World} {b : Nat} {arr : Array Value} {e : TypeId} {z : Nat × Nat} (h : w.heap[b]? = some (.cells arr e z)) (o : Nat) (u : Value) :
    (w.setCell ⟨b, o, none⟩ u).heap[b]? = some (.cells (arr.setIfInBounds o u) e z) := by
  simp [World.setCell, Array.getElem?_modify, h]

/-- Blocks other than b are as they were, b is as told: what is known of memory now. -/
theorem Rep.turn {w0 w w' : World} {h : Hp} (r : Rep w0 h w) {b : Nat} (hb : w0.heap.size ≤ b) (hF : h.F b = none) (hos : w'.os = w.os) (htape : w'.tape = w.tape) (hout : w'.output = w.output)
    (hsz : w.heap.size ≤ w'.heap.size) (hlt : b < w'.heap.size) (hother : ∀ k, k ≠ b → k < w.heap.size → w'.heap[k]? = w.heap[k]?) (c : Option Chunk) (nx : Nat) (hnx : h.nx ≤ nx) (hnx' : nx ≤ w'.heap.size) (hbn : b < nx)
    (hc : match c with
      | some (.cells e cs tot) => ∃ arr, w'.heap[b]? = some (.cells arr e (0, 0)) ∧ arr.size = tot ∧ cs <+: arr.toList
      | some (.obj o) => w'.heap[b]? = some o ∧ Obj.noCells o
      | none => True) (hdr : w.drawn ≤ w'.drawn := by exact Nat.le_refl _) : Rep w0 ⟨h.F, upd h.M b c, nx⟩ w' := by
  have lt : ∀ k, k < h.nx → k < w.heap.size := fun k hk => Nat.lt_of_lt_of_le hk r.nx
  refine ⟨?_, Nat.le_trans r.dr hdr, hnx', Nat.le_trans r.base hnx, ?_, ?_, ?_⟩
  · exact r.below.trans ⟨hos, htape, hout, hsz, fun k hk => hother k (by omega) (Nat.lt_of_lt_of_le hk r.below.size)⟩
  · intro k cs hk
    obtain ⟨h1, arr, e, z, h2, h3⟩ := r.fr k cs hk
    refine ⟨Nat.lt_of_lt_of_le h1 hnx, arr, e, z, ?_, h3⟩
    rw [hother k (fun he => by subst he; simp only at hk; rw [hF] at hk; cases hk) (lt k h1)]; exact h2
  · intro k e cs tot hk
    simp only [upd] at hk
    split at hk
    · rename_i he
      subst he
      rw [hk] at hc
      exact ⟨hbn, hb, hF, hc⟩
    · rename_i he
      obtain ⟨h1, h2, h3, arr, h4, h5⟩ := r.cl k e cs tot hk
      exact ⟨Nat.lt_of_lt_of_le h1 hnx, h2, h3, arr, by rw [hother k he (lt k h1)]; exact h4, h5⟩
  · intro k o hk
    simp only [upd] at hk
    split at hk
    · rename_i he
      subst he
      rw [hk] at hc
      exact ⟨hbn, hb, hF, hc⟩
    · rename_i he
      obtain ⟨h1, h2, h3, h4, h5⟩ := r.ob k o hk
      exact ⟨Nat.lt_of_lt_of_le h1 hnx, h2, h3, by rw [hother k he (lt k h1)]; exact h4, h5⟩

theorem Rep.alloc {w0 w : World} {h : Hp} (r : Rep w0 h w) (o : Obj) (c : Option Chunk)
    (hc : match c with
      | some (.cells e cs tot) => ∃ arr, o = .cells arr e (0, 0) ∧ arr.size = tot ∧ cs <+: arr.toList
      | some (.obj o') => o = o' ∧ Obj.noCells o
      | none => True) : Rep w0 ⟨h.F, upd h.M w.heap.size c, w.heap.size + 1⟩ (w.alloc o) := by
  refine r.turn (w' := w.alloc o) (b := w.heap.size) (Nat.le_trans r.base r.nx) ?_ rfl rfl rfl (by simp) (by simp) (fun k _ hk => Below.heap_alloc w o k hk) c _ (Nat.le_succ_of_le r.nx) (by simp) (by omega) ?_
  · cases hF : h.F w.heap.size with
    | none => rfl
    | some cs => obtain ⟨h1, _⟩ := r.fr _ cs hF; have := r.nx; omega
  · have hn := heap_alloc_new w o
    split at hc
    · obtain ⟨arr, rfl, h2⟩ := hc
      exact ⟨arr, hn, h2⟩
    · obtain ⟨rfl, h2⟩ := hc
      exact ⟨hn, h2⟩
    · trivial

/-- The chunk's cells from o on are now vs. -/
def splice (cs : List Value) (o : Nat) (vs : List Value) : List Value := cs.take o ++ vs ++ cs.drop (o + vs.length)
theorem splice_nil (cs : List Value) (o : Nat) : splice cs o [] = cs := by simp [splice]
theorem length_splice {cs : List Value} {o : Nat} {vs : List Value} (h : o + vs.length ≤ cs.length) : (splice cs o vs).length = cs.length := by
  simp [splice]; omega
theorem splice_get {cs : List Value} {o : Nat} {vs : List Value} (h : o + vs.length ≤ cs.length) (k : Nat) :
    (splice cs o vs)[k]? = if o ≤ k ∧ k < o + vs.length then vs[k - o]? else cs[k]? := by
  unfold splice
  by_cases h1 : k < o
  · rw [List.getElem?_append_left (by simp; omega), List.getElem?_append_left (by simp; omega), if_neg (by omega), List.getElem?_take, if_pos h1]
  · by_cases h2 : k < o + vs.length
    · rw [List.getElem?_append_left (by simp; omega), List.getElem?_append_right (by simp; omega), if_pos (by omega)]
      simp [Nat.min_eq_left (by omega : o ≤ cs.length)]
    · rw [List.getElem?_append_right (by simp; omega), if_neg (by omega), List.getElem?_drop]
      congr 1
      simp [Nat.min_eq_left (by omega : o ≤ cs.length)]; omega
theorem splice_cons {cs : List Value} {o : Nat} {v : Value} {vs : List Value} (h : o + (v :: vs).length ≤ cs.length) : splice cs o (v :: vs) = splice (cs.set o v) (o + 1) vs := by
  apply List.ext_getElem?
  intro k
  have h' : o + 1 + vs.length ≤ (cs.set o v).length := by simp at h ⊢; omega
  rw [splice_get h, splice_get h', List.getElem?_set]
  simp only [List.length_cons]
  by_cases h1 : k = o
  · subst h1
    rw [if_pos (by omega), if_neg (by omega), if_pos rfl, if_pos (by simp at h; omega)]
    simp
  · by_cases h2 : o ≤ k ∧ k < o + (vs.length + 1)
    · rw [if_pos h2, if_pos (by omega)]
      obtain ⟨j, rfl⟩ : ∃ j, k = o + 1 + j := ⟨k - (o + 1), by omega⟩
      rw [show o + 1 + j - o = j + 1 by omega, List.getElem?_cons_succ]
      congr 1; omega
    · rw [if_neg h2, if_neg (by omega), if_neg (fun e => h1 e.symm)]

theorem prefix_set {cs : List Value} {arr : Array Value} (h : cs <+: arr.toList) {o : Nat} (ho : o < cs.length) (v : Value) : cs.set o v <+: (arr.setIfInBounds o v).toList := by
  obtain ⟨t, ht⟩ := h
  refine ⟨t, ?_⟩
  rw [Array.toList_setIfInBounds, ← ht, List.set_append_left _ _ ho]

theorem Rep.setCell {w0 w : World} {h : Hp} (r : Rep w0 h w) {b : Nat} {e : TypeId} {cs : List Value} {tot : Nat} (hM : h.M b = some (.cells e cs tot)) {o : Nat} (ho : o < cs.length) (v : Value) :
    Rep w0 (h.set b (.cells e (cs.set o v) tot)) (w.setCell ⟨b, o, none⟩ v) := by
  obtain ⟨h1, h2, h3, arr, h4, h5, h6⟩ := r.cl b e cs tot hM
  refine r.turn (w' := w.setCell ⟨b, o, none⟩ v) h2 h3 rfl rfl rfl (by simp) (by simp; have := r.nx; omega) (fun k hk _ => Below.heap_setCell _ _ _ _ hk) (some _) h.nx (Nat.le_refl _) (by simpa using r.nx) h1 ?_
  exact ⟨_, heap_setCell_same h4 o v, by simpa using h5, prefix_set h6 ho v⟩

theorem Addr.add_plain (b o n : Nat) : (⟨b, o, none⟩ : Addr).add n = ⟨b, o + n, none⟩ := by unfold Addr.add; split <;> simp_all

theorem Hp.set_set (h : Hp) (b : Nat) (c c' : Chunk) : (h.set b c).set b c' = h.set b c' := by
  simp only [Hp.set]; congr 1; funext k; simp only [upd]; split <;> rfl

theorem Rep.storeCells {P : Program} {w0 : World} {b : Nat} {e : TypeId} {tot : Nat} : ∀ (vs : List Value) (h : Hp) (w : World) (cs : List Value) (o i : Nat), Rep w0 h w → h.M b = some (.cells e cs tot) →
    o + i + vs.length ≤ cs.length → (∀ v ∈ vs, v.oneCell' = true) →
    ∃ w', (Go.storeCells ⟨b, o, none⟩ vs i).run P w = .ok () w' ∧ Rep w0 (h.set b (.cells e (splice cs (o + i) vs) tot)) w'
  | [], h, w, cs, o, i, r, hM, hl, _ => ⟨w, by simp [Go.storeCells], by
      rw [splice_nil]
      have : h.set b (.cells e cs tot) = h := by
        simp only [Hp.set]
        have : upd h.M b (some (.cells e cs tot)) = h.M := by funext k; simp only [upd]; split <;> simp_all
        rw [this]
      rw [this]; exact r⟩
  | v :: vs, h, w, cs, o, i, r, hM, hl, hv => by
    have ho : o + i < cs.length := by simp at hl; omega
    obtain ⟨h1, h2, h3, arr, h4, h5, h6⟩ := r.cl b e cs tot hM
    have hc : w.cell? ⟨b, o + i, none⟩ = some (cs[o + i]'ho) := r.cell (cs := cs) (.inr ⟨e, tot, hM⟩) (by simp [ho])
    have hz : w.frozen? ⟨b, o + i, none⟩ = false := by simp [World.frozen?, h4]
    have r' := r.setCell hM ho v
    obtain ⟨w', hw', hr'⟩ := Rep.storeCells (P := P) vs _ _ (cs.set (o + i) v) o (i + 1) r' (upd_same _ _ _) (by simp at hl ⊢; omega) (fun u hu => hv u (by simp [hu]))
    refine ⟨w', ?_, ?_⟩
    · simp only [Go.storeCells, Addr.add_plain, Sem.run_bind]
      rw [run_store P w _ v _ (hv v (by simp)), hc]
      simp only [hz, Bool.false_eq_true, if_false, Result.andThen_ok]
      exact hw'
    · rw [Hp.set_set] at hr'
      rw [splice_cons (by simp at hl ⊢; omega)]
      exact hr'

/-! ### Less is known -/

def subM (A M : Nat → Option Chunk) : Prop := ∀ k c, A k = some c → M k = some c
/-- What is known in h' is known in h, but that rows of the call's own may have become such that nobody turns. -/
structure Hp.wk (h h' : Hp) : Prop where
  nx : h'.nx = h.nx
  M : subM h'.M h.M
  F : ∀ b cs, h'.F b = some cs → h.F b = some cs ∨ (h'.M b = none ∧ ∃ e cs' tot, h.M b = some (.cells e cs' tot) ∧ cs <+: cs')
  d : ∀ b cs, h'.F b = some cs → h'.M b = none
theorem Rep.wk {w0 w : World} {h h' : Hp} (r : Rep w0 h w) (k : h.wk h') : Rep w0 h' w := by
  refine ⟨r.below, r.dr, by rw [k.nx]; exact r.nx, by rw [k.nx]; exact r.base, ?_, ?_, ?_⟩
  · intro b cs hb
    rcases k.F b cs hb with h1 | ⟨_, e, cs', tot, h1, h2⟩
    · rw [k.nx]; exact r.fr b cs h1
    · obtain ⟨a1, a2, a3, arr, a4, a5, a6⟩ := r.cl b e cs' tot h1
      exact ⟨by rw [k.nx]; exact a1, arr, e, _, a4, h2.trans a6⟩
  · intro b e cs tot hb
    obtain ⟨a1, a2, a3, a4⟩ := r.cl b e cs tot (k.M _ _ hb)
    refine ⟨by rw [k.nx]; exact a1, a2, ?_, a4⟩
    cases hF : h'.F b with
    | none => rfl
    | some cs' => rw [k.d b cs' hF] at hb; cases hb
  · intro b o hb
    obtain ⟨a1, a2, a3, a4⟩ := r.ob b o (k.M _ _ hb)
    refine ⟨by rw [k.nx]; exact a1, a2, ?_, a4⟩
    cases hF : h'.F b with
    | none => rfl
    | some cs' => rw [k.d b cs' hF] at hb; cases hb
/-- Nothing is known of blocks that are not yet; no block is of both kinds. -/
structure Hp.wf (h : Hp) : Prop where
  M : ∀ k, h.nx ≤ k → h.M k = none
  F : ∀ k, h.nx ≤ k → h.F k = none
  d : ∀ k cs, h.F k = some cs → h.M k = none
theorem Rep.wf {w0 w : World} {h : Hp} (r : Rep w0 h w) : h.wf := by
  refine ⟨fun k hk => ?_, fun k hk => ?_, fun k cs hk => ?_⟩
  · cases hM : h.M k with
    | none => rfl
    | some c =>
      cases c with
      | cells e cs tot => have := (r.cl k e cs tot hM).1; omega
      | obj o => have := (r.ob k o hM).1; omega
  · cases hF : h.F k with
    | none => rfl
    | some cs => have := (r.fr k cs hF).1; omega
  · cases hM : h.M k with
    | none => rfl
    | some c =>
      cases c with
      | cells e cs' tot => have := (r.cl k e cs' tot hM).2.2.1; rw [hk] at this; cases this
      | obj o => have := (r.ob k o hM).2.2.1; rw [hk] at this; cases this
theorem subM_refl (M : Nat → Option Chunk) : subM M M := fun _ _ h => h
theorem subM_drop {A M : Nat → Option Chunk} {b : Nat} {x : Option Chunk} (h : subM A M) (hb : A b = none) : subM A (upd M b x) := fun k c hk => by
  simp only [upd]; split
  · rename_i e; subst e; rw [hb] at hk; cases hk
  · exact h k c hk
theorem subM_keep {A M : Nat → Option Chunk} {b : Nat} {x : Option Chunk} (h : subM A M) : subM (upd A b x) (upd M b x) := fun k c hk => by
  simp only [upd] at hk ⊢; split
  · rename_i e; rw [if_pos e] at hk; exact hk
  · rename_i e; rw [if_neg e] at hk; exact h k c hk
end Go.Proofs.YthpacapdaembpaaDoor.K
