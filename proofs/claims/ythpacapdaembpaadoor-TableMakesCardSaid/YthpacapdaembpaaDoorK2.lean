import Derived.Test.YthpacapdaembpaaDoorK1
open Go Go.RowKit
set_option linter.unusedVariables false
set_option linter.unusedSimpArgs false
namespace Go.Proofs.YthpacapdaembpaaDoor.K

/-! ### A region that draws its order: some operations are taken ahead of their time -/

/-- In this state and world operation o yields v, and turns nothing. -/
def YieldsAt (P : Program) (ops : Array Oper) (o : Oper) (v : Value) (a : Act) (w : World) : Prop :=
  (Region.wanted o (yielded ops a.tmps) = true ∧ (execOp a.eval o).run P w = .ok (.value v) w) ∨ (Region.wanted o (yielded ops a.tmps) = false ∧ v = undef)

/-- What j waits for. -/
def preds (ops : Array Oper) (j : Nat) : List Nat := match ops[j]? with
  | none => []
  | some o => (o.after.toList.filter (Region.binds .any)).map (·.on)
/-- All that these wait for, so many steps far. -/
def reach (ops : Array Oper) : Nat → List Nat → List Nat
  | 0, s => s
  | n + 1, s => reach ops n ((s ++ s.flatMap (preds ops)).eraseDups)
/-- Is i surely ahead of j? (If it says no it may be so all the same.) -/
def ahead (ops : Array Oper) (i j : Nat) : Bool := (reach ops 5 (preds ops j)).contains i

/-- All that a listed one waits for is listed. -/
def closedL (ops : Array Oper) (listed : Array Bool) : Prop :=
  ∀ j o, listed.getD j false = true → ops[j]? = some o → ∀ e ∈ o.after, Region.binds .any e = true → listed.getD e.on false = true

theorem closed_preds {ops : Array Oper} {listed : Array Bool} (hc : closedL ops listed) {k : Nat} (hk : listed.getD k false = true) : ∀ i ∈ preds ops k, listed.getD i false = true := by
  intro i hi
  unfold preds at hi
  cases ho : ops[k]? with
  | none => simp [ho] at hi
  | some o =>
    simp only [ho, List.mem_map, List.mem_filter] at hi
    obtain ⟨e, ⟨he, hb⟩, rfl⟩ := hi
    exact hc k o hk ho e (by simpa using he) hb
theorem closed_reach {ops : Array Oper} {listed : Array Bool} (hc : closedL ops listed) : ∀ (n : Nat) (s : List Nat), (∀ i ∈ s, listed.getD i false = true) → ∀ i ∈ reach ops n s, listed.getD i false = true
  | 0, _, h, i, hi => h i hi
  | n + 1, s, h, i, hi => by
    refine closed_reach hc n _ (fun k hk => ?_) i hi
    rw [List.mem_eraseDups, List.mem_append, List.mem_flatMap] at hk
    rcases hk with hk | ⟨m, hm, hk⟩
    · exact h k hk
    · exact closed_preds hc (h m hm) k hk
theorem closed_ahead {ops : Array Oper} {listed : Array Bool} (hc : closedL ops listed) {i j : Nat}
    (hj : ∀ o, ops[j]? = some o → ∀ e ∈ o.after, Region.binds .any e = true → listed.getD e.on false = true) (h : ahead ops i j = true) : listed.getD i false = true := by
  refine closed_reach hc 5 (preds ops j) (fun k hk => ?_) i (by simpa [ahead] using h)
  unfold preds at hk
  cases ho : ops[j]? with
  | none => simp [ho] at hk
  | some o =>
    simp only [ho, List.mem_map, List.mem_filter] at hk
    obtain ⟨e, ⟨he, hb⟩, rfl⟩ := hk
    exact hj o ho e (by simpa using he) hb

theorem closed_set {ops : Array Oper} {listed : Array Bool} (hc : closedL ops listed) {j : Nat} (hj : j ∈ Region.ready .any ops listed) : closedL ops (listed.setIfInBounds j true) := by
  intro k o hk ho e he hb
  by_cases hjk : j = k
  · subst hjk
    obtain ⟨_, o', ho', hall⟩ := mem_ready.1 hj
    rw [ho] at ho'
    cases ho'
    exact getD_set_true (hall e he hb)
  · rw [getD_set_ne false hjk] at hk
    exact getD_set_true (hc k o hk ho e he hb)

theorem closed_none (ops : Array Oper) (n : Nat) : closedL ops (Array.replicate n false) := by
  intro j o hj ho
  by_cases h : j < n <;> simp [h] at hj

/-- What was taken ahead: which operation, and in which worlds it yields the same. -/
abbrev Taken := List (Nat × (World → Prop))

/-- Those that may still come behind j. -/
def later (ops : Array Oper) (T : Taken) (j : Nat) : Taken := T.filter fun p => !ahead ops p.1 j

/-- 'wpAny', and behind each operation that is carried out all that was taken, and may come behind it, yields the same. -/
def wpAnyT (P : Program) (ops : Array Oper) (Q : Exit → Act → World → Prop) : Nat → Array Bool → Taken → Act → World → Prop
  | 0, listed, T, a, w => Region.ready .any ops listed = [] ∧ Q .normal a w
  | fuel + 1, listed, T, a, w =>
    (Region.ready .any ops listed = [] → Q .normal a w) ∧
    ∀ i ∈ Region.ready .any ops listed, wpOp P ops Q i (fun a' w' => (∀ p ∈ later ops T i, p.2 w') ∧ wpAnyT P ops Q fuel (listed.setIfInBounds i true) (later ops T i) a' w') a w

theorem wpAny_of_T {P : Program} {ops : Array Oper} {Q : Exit → Act → World → Prop} : ∀ (fuel : Nat) (listed : Array Bool) (T : Taken) (a : Act) (w : World), wpAnyT P ops Q fuel listed T a w → wpAny P .any ops Q fuel listed a w
  | 0, _, _, _, _, h => h
  | fuel + 1, _, _, _, _, h => ⟨h.1, fun i hi => wpOp_mono (fun a' w' h' => wpAny_of_T fuel _ _ a' w' h'.2) (h.2 i hi)⟩

theorem later_sub {ops : Array Oper} {T T' : Taken} {j : Nat} (hs : ∀ p ∈ T', p ∈ T) : ∀ p ∈ later ops T' j, p ∈ later ops T j := fun p hp => by
  simp only [later, List.mem_filter] at *
  exact ⟨hs p hp.1, hp.2⟩

theorem wpAnyT_weak {P : Program} {ops : Array Oper} {Q : Exit → Act → World → Prop} : ∀ (fuel : Nat) (listed : Array Bool) (T T' : Taken) (a : Act) (w : World), (∀ p ∈ T', p ∈ T) → wpAnyT P ops Q fuel listed T a w → wpAnyT P ops Q fuel listed T' a w
  | 0, _, _, _, _, _, _, h => h
  | fuel + 1, _, _, _, _, _, hs, h => ⟨h.1, fun i hi => wpOp_mono (fun a' w' h' => ⟨fun p hp => h'.1 p (later_sub hs p hp), wpAnyT_weak fuel _ _ _ a' w' (later_sub hs) h'.2⟩) (h.2 i hi)⟩

section
variable {P : Program} {ops : Array Oper} {Q : Exit → Act → World → Prop}

theorem YieldsAt.of_same {o : Oper} {v : Value} {a a' : Act} {w : World} (hy : YieldsAt P ops o v a w) (he : execOp a'.eval o = execOp a.eval o)
    (hw : Region.wanted o (yielded ops a'.tmps) = Region.wanted o (yielded ops a.tmps)) : YieldsAt P ops o v a' w := by
  unfold YieldsAt at *
  rw [he, hw]
  exact hy

/-- o yields v in all worlds of S. -/
def YieldsS (P : Program) (ops : Array Oper) (S : World → Prop) (o : Oper) (v : Value) (a : Act) : Prop := ∀ w, S w → YieldsAt P ops o v a w

theorem YieldsS.of_same {S : World → Prop} {o : Oper} {v : Value} {a a' : Act} (hy : YieldsS P ops S o v a) (he : execOp a'.eval o = execOp a.eval o)
    (hw : Region.wanted o (yielded ops a'.tmps) = Region.wanted o (yielded ops a.tmps)) : YieldsS P ops S o v a' := fun w hs => (hy w hs).of_same he hw

theorem YieldsS.wpOp {S : World → Prop} {i : Nat} {o : Oper} {v : Value} {a : Act} (hi : ops[i]? = some o) (hy : YieldsS P ops S o v a)
    {K : Act → World → Prop} {w : World} (hS : S w) (h : K (a.put o.dst v) w) : wpOp P ops Q i K a w := by
  unfold Go.wpOp
  simp only [hi]
  rcases hy w hS with ⟨hw, hv⟩ | ⟨hw, rfl⟩
  · simp only [hw, if_true, Oper.wp, hv, Oper.upon]; exact .inl h
  · simp only [hw, Bool.false_eq_true, if_false]; exact h

theorem wpOp_putS {S : World → Prop} {j : Nat} {oi oj : Oper} {v : Value} (hj : ops[j]? = some oj) (hap : oi.apart ops oj = true)
    (hsi : ∀ cs b, oi.op ≠ .select cs b) (hsj : ∀ cs b, oj.op ≠ .select cs b)
    (hQ : ∀ c a w, Q (.panic c) (a.put oi.dst v) w → Q (.panic c) a w) {K : Act → World → Prop} {a : Act} {w : World}
    (hy : YieldsS P ops S oi v a) (h : wpOp P ops Q j K (a.put oi.dst v) w) :
    wpOp P ops Q j (fun a' w' => YieldsS P ops S oi v a' ∧ K (a'.put oi.dst v) w') a w := by
  obtain ⟨h1, h2, h3⟩ := Oper.apart_spec hap
  have keep : ∀ (a : Act), YieldsS P ops S oi v a → ∀ u, YieldsS P ops S oi v (a.put oj.dst u) := fun a hy u =>
    hy.of_same (execOp_put oi hsi a oj.dst u h3) (wanted_put oi a oj.dst u h3)
  have keepD : ∀ d, YieldsS P ops S oi v { a with defers := d :: a.defers } := fun d => hy.of_same rfl rfl
  unfold wpOp at *
  simp only [hj] at *
  rw [wanted_put oj a oi.dst v h1] at h
  split
  · rename_i hw
    simp only [hw, if_true] at h
    rcases h with h | ⟨hasks, hlets⟩
    case inr => exact .inr ⟨by unfold Oper.asks at *; rw [execOp_put oj hsj a oi.dst v h1] at hasks; exact hasks, hlets⟩
    refine .inl ?_
    unfold Oper.wp at *
    rw [execOp_put oj hsj a oi.dst v h1] at h
    generalize (execOp a.eval oj).run P w = r at *
    cases r with
    | ok n w' =>
      cases n <;> simp only [Oper.upon] at h ⊢
      case value u => exact ⟨keep a hy u, by rw [← Act.put_comm a v u h2]; exact h⟩
      case skip => exact ⟨keep a hy _, by rw [← Act.put_comm a v undef h2]; exact h⟩
      case defer d =>
        refine ⟨keep _ (keepD d) _, ?_⟩
        rw [← Act.put_comm _ v undef h2, ← Act.put_defers]
        exact h
      case enter f args =>
        refine Calls.mono h fun e w'' he => ?_
        cases e with
        | returned u => exact ⟨keep a hy u, by rw [← Act.put_comm a v u h2]; exact he⟩
        | panicked c => exact hQ _ _ _ he
        | outgrown => exact he
      case row row args => exact Rows.mono h fun u w'' he => ⟨keep a hy u, by rw [← Act.put_comm a v u h2]; exact he⟩
    | halt x w' =>
      cases x <;> simp only [Oper.upon] at h ⊢
      case panic u => exact hQ _ _ _ h
  · rename_i hw
    simp only [hw] at h
    exact ⟨keep a hy _, by rw [← Act.put_comm a v undef h2]; exact h⟩

/-- **An operation that may come up now may be taken first**, if in this state it yields its value in all worlds of S, this world is one, and behind each operation that may come ahead of it the world is one of S again. -/
theorem wpAnyT_first {S : World → Prop} {i : Nat} {oi : Oper} {v : Value} (hi : ops[i]? = some oi) (hsel : ∀ (j : Nat) (o : Oper) cs b, ops[j]? = some o → o.op ≠ .select cs b)
    (hQ : ∀ c a w, Q (.panic c) (a.put oi.dst v) w → Q (.panic c) a w) :
    ∀ (fuel : Nat) (listed : Array Bool) (T : Taken) (a : Act) (w : World), closedL ops listed →
      (∀ j oj, ops[j]? = some oj → j ≠ i → listed.getD j true = false → (∀ e ∈ oj.after, Region.binds .any e = true → e.on ≠ i) → oi.apart ops oj = true) →
      i ∈ Region.ready .any ops listed → YieldsS P ops S oi v a → S w → (∀ p ∈ T, p.2 w) →
      wpAnyT P ops Q fuel (listed.setIfInBounds i true) ((i, S) :: T) (a.put oi.dst v) w → wpAnyT P ops Q (fuel + 1) listed T a w := by
  intro fuel
  induction fuel with
  | zero =>
    intro listed T a w hcl _ hr hy hS hT H
    refine ⟨fun h => (by rw [h] at hr; cases hr), fun j hj => ?_⟩
    by_cases hji : j = i
    · subst hji; exact hy.wpOp hi hS ⟨fun p hp => hT p (List.mem_filter.1 hp).1, wpAnyT_weak _ _ _ _ _ _ (fun p hp => List.mem_cons_of_mem _ (List.mem_filter.1 hp).1) H⟩
    · have := ready_mono hj hji
      rw [H.1] at this
      cases this
  | succ fuel ih =>
    intro listed T a w hcl hfree hr hy hS hT H
    refine ⟨fun h => (by rw [h] at hr; cases hr), fun j hj => ?_⟩
    by_cases hji : j = i
    · subst hji; exact hy.wpOp hi hS ⟨fun p hp => hT p (List.mem_filter.1 hp).1, wpAnyT_weak _ _ _ _ _ _ (fun p hp => List.mem_cons_of_mem _ (List.mem_filter.1 hp).1) H⟩
    · have h1 := H.2 j (ready_mono hj hji)
      obtain ⟨hjun, oj, hoj, hall⟩ := mem_ready.1 hj
      have hnot : ∀ e ∈ oj.after, Region.binds .any e = true → e.on ≠ i := fun e he hb heq => by
        have h1 := hall e he hb
        have h0 := (mem_ready.1 hr).1
        rw [heq] at h1
        rcases Nat.lt_or_ge i listed.size with h' | h'
        · simp [h'] at h0 h1; rw [h0] at h1; cases h1
        · simp [Array.getElem?_eq_none h'] at h1
      have hah : ahead ops i j = false := by
        cases hb : ahead ops i j with
        | false => rfl
        | true =>
          have := closed_ahead hcl (fun o ho e he hb => by rw [hoj] at ho; cases ho; exact hall e he hb) hb
          have h0 := (mem_ready.1 hr).1
          rcases Nat.lt_or_ge i listed.size with h' | h'
          · simp [h'] at h0 this; rw [h0] at this; cases this
          · simp [Array.getElem?_eq_none h'] at this
      have h2 := wpOp_putS hoj (hfree j oj hoj hji hjun hnot) (fun cs b => hsel i oi cs b hi) (fun cs b => hsel j oj cs b hoj) hQ hy h1
      have hfree' : ∀ k ok, ops[k]? = some ok → k ≠ i → (listed.setIfInBounds j true).getD k true = false →
          (∀ e ∈ ok.after, Region.binds .any e = true → e.on ≠ i) → oi.apart ops ok = true := fun k ok hk hki hun hno => by
        refine hfree k ok hk hki ?_ hno
        by_cases hjk : j = k
        · subst hjk; exact hjun
        · rw [getD_set_ne true hjk] at hun; exact hun
      have hl : later ops ((i, S) :: T) j = (i, S) :: later ops T j := by simp [later, List.filter_cons, hah]
      refine wpOp_mono (fun a' w' h3 => ?_) h2
      obtain ⟨h4, h5, h6⟩ := h3
      rw [hl] at h5 h6
      refine ⟨fun p hp => h5 p (List.mem_cons_of_mem _ hp), ih (listed.setIfInBounds j true) _ a' w' (closed_set hcl hj) hfree' (ready_mono hr (Ne.symm hji)) h4 (h5 _ (List.mem_cons_self ..)) (fun p hp => h5 p (List.mem_cons_of_mem _ hp)) ?_⟩
      rw [Array.setIfInBounds_comm _ _ hji]
      exact h6

/-- Whichever of those that may come up comes up. -/
theorem wpAnyT_all {rs : List Nat} {fuel : Nat} {listed : Array Bool} {T : Taken} {a : Act} {w : World} (hr : Region.ready .any ops listed = rs) (hne : rs ≠ [])
    (h : ∀ i ∈ rs, wpOp P ops Q i (fun a' w' => (∀ p ∈ later ops T i, p.2 w') ∧ wpAnyT P ops Q fuel (listed.setIfInBounds i true) (later ops T i) a' w') a w) : wpAnyT P ops Q (fuel + 1) listed T a w :=
  ⟨fun h0 => absurd (hr ▸ h0) hne, hr ▸ h⟩

theorem wpAnyT_done {listed : Array Bool} {T : Taken} {a : Act} {w : World} (hr : Region.ready .any ops listed = []) (h : Q .normal a w) :
    ∀ fuel, wpAnyT P ops Q fuel listed T a w
  | 0 => ⟨hr, h⟩
  | _ + 1 => ⟨fun _ => h, by rw [hr]; simp⟩

theorem wp_region_T {id : Nat} {a : Act} {w : World} (hm : P.follows .mixedOrders = true)
    (h : wpAnyT P ops Q ops.size (Array.replicate ops.size false) [] a { w with drawn := w.drawn + 1 }) : (Code.region id ops true).wp P Q a w :=
  wp_region_any hm (wpAny_of_T _ _ _ _ _ h)
end
end Go.Proofs.YthpacapdaembpaaDoor.K
