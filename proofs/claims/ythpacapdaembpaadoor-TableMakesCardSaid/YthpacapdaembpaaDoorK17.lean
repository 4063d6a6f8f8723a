import Derived.Test.YthpacapdaembpaaDoorK16
import Derived.ChangeArms
import Derived.SizedLaws
open Go Go.RowKit
set_option linter.unusedVariables false
set_option linter.unusedSimpArgs false
namespace Go.Proofs.YthpacapdaembpaaDoor.K

/-! ### Arguments, opened into rows that nobody turns -/
/-- The rows of a world. -/
def F0 (w : World) : Nat → Option (List Value) := fun b => match w.heap[b]? with
  | some (.cells arr _ _) => some arr.toList
  | _ => none
def h0 (w : World) : Hp := ⟨F0 w, fun _ => none, w.heap.size⟩
theorem F0_some {w : World} {b : Nat} {cs : List Value} (h : F0 w b = some cs) : b < w.heap.size ∧ ∃ arr e z, w.heap[b]? = some (.cells arr e z) ∧ arr.toList = cs := by
  unfold F0 at h
  split at h
  · rename_i arr e z hb
    injection h with h
    exact ⟨(Array.getElem?_eq_some_iff.1 hb).1, arr, e, z, hb, h⟩
  · cases h
theorem rep0 (w : World) : Rep w (h0 w) w := by
  refine ⟨Below.refl _ _, Nat.le_refl _, Nat.le_refl _, Nat.le_refl _, fun b cs hb => ?_, fun b e cs tot hb => ?_, fun b o hb => ?_⟩
  · obtain ⟨h1, arr, e, z, h2, h3⟩ := F0_some hb
    exact ⟨h1, arr, e, z, h2, by rw [h3]; exact List.prefix_refl _⟩
  · cases hb
  · cases hb
/-- What a call comes to is shown from the rows alone. -/
theorem calls0 {P : Program} {f : FuncId} {args : Array Value} {K : Value → Prop} {w : World} (hd : call P f args (fun v _ => K v) (fun _ _ => False) (h0 w)) :
    Calls P f args w fun e w' => (∃ v, e = .returned v ∧ K v) ∧ Below w.heap.size w w' :=
  (hd w w (rep0 w)).mono fun e w' ⟨h', r', he⟩ => by
    cases e with
    | returned v => exact ⟨⟨v, rfl, he⟩, r'.below⟩
    | panicked c => exact he.elim
    | outgrown => exact he.elim

/-- .. and no number is drawn back. -/
theorem calls1 {P : Program} {f : FuncId} {args : Array Value} {K : Value → Prop} {w : World} (hd : call P f args (fun v _ => K v) (fun _ _ => False) (h0 w)) :
    Calls P f args w fun e w' => (∃ v, e = .returned v ∧ K v) ∧ Below w.heap.size w w' ∧ w.drawn ≤ w'.drawn :=
  (hd w w (rep0 w)).mono fun e w' ⟨h', r', he⟩ => by
    cases e with
    | returned v => exact ⟨⟨v, rfl, he⟩, r'.below, r'.dr⟩
    | panicked c => exact he.elim
    | outgrown => exact he.elim

/-- What reads as data of type t is of this kind. -/
structure OpensK {α : Type} (P : Program) (t : TypeId) (sz : Nat) (R : (Nat → Option (List Value)) → List Value → α → Prop) : Prop where
  size : P.cellsOf t = sz
  get : ∀ {H : Type} {enc : TypeId × Value → H} {w : World} {base : Nat} {sp : Nat → Bool} {hd : Bool} {fuel : Nat} {cs : List Value} {x : DataW H × List MemPlace},
    DataW.trod enc P w base sp hd fuel t cs = some x → (∀ n ∈ x.1.weights P t, n ≤ reachBytes) → ∃ y, R (F0 w) cs y
  one : ∀ {F : Nat → Option (List Value)} {cs : List Value} {y : α}, R F cs y → cs.length = sz ∧ ∀ c ∈ cs, c.oneCell' = true
def rI (k : IntKind) (F : Nat → Option (List Value)) (cs : List Value) (n : Int) : Prop := cs = [.int k n] ∧ (Lit.int k n).wf = true
theorem opensK_int {P : Program} {t : TypeId} {k : IntKind} (ht : P.underlying t = some (.int k)) (hs : P.cellsOf t = 1) : OpensK P t 1 (rI k) := by
  refine ⟨hs, fun {H enc w base sp hd fuel cs x} h hwt => ?_, fun {F cs y} h => by obtain ⟨rfl, _⟩ := h; exact ⟨rfl, List.all_eq_true.1 rfl⟩⟩
  cases fuel with
  | zero => simp [DataW.trod] at h
  | succ n =>
    unfold DataW.trod at h
    rw [ht] at h
    split at h <;> simp_all
    exact ⟨_, rfl, h.1.2⟩
def rB (F : Nat → Option (List Value)) (cs : List Value) (b : Bool) : Prop := cs = [.bool b]
theorem opensK_bool {P : Program} {t : TypeId} (ht : P.underlying t = some .bool) (hs : P.cellsOf t = 1) : OpensK P t 1 rB := by
  refine ⟨hs, fun {H enc w base sp hd fuel cs x} h hwt => ?_, fun {F cs y} h => by obtain rfl := h; exact ⟨rfl, List.all_eq_true.1 rfl⟩⟩
  cases fuel with
  | zero => simp [DataW.trod] at h
  | succ n =>
    unfold DataW.trod at h
    rw [ht] at h
    split at h
    all_goals first | (simp at h; done) | skip
    all_goals first | (cases ‹some TypeDesc.bool = _›; done) | exact ⟨_, rfl⟩
def rT (F : Nat → Option (List Value)) (cs : List Value) (s : ByteArray) : Prop := cs = [.string s] ∧ s.size ≤ maxLen
theorem opensK_string {P : Program} {t : TypeId} (ht : P.underlying t = some .string) (hs : P.cellsOf t = 1) : OpensK P t 1 rT := by
  refine ⟨hs, fun {H enc w base sp hd fuel cs x} h hwt => ?_, fun {F cs y} h => by obtain ⟨rfl, _⟩ := h; exact ⟨rfl, List.all_eq_true.1 rfl⟩⟩
  cases fuel with
  | zero => simp [DataW.trod] at h
  | succ n =>
    unfold DataW.trod at h
    rw [ht] at h
    split at h <;> simp_all
    exact ⟨_, rfl, h.1⟩
theorem mapM_get {α β : Type} {f : α → Option β} : ∀ {l : List α} {r : List β}, l.mapM f = some r → r.length = l.length ∧ ∀ (i : Nat) (a : α), l[i]? = some a → f a = r[i]?
  | [], r, h => by simp at h; subst h; simp
  | a :: l, r, h => by
    rw [List.mapM_cons] at h
    cases hf : f a with
    | none => simp [hf] at h
    | some b =>
      cases hm : l.mapM f with
      | none => simp [hf, hm] at h
      | some r' =>
        simp [hf, hm] at h
        subst h
        obtain ⟨h1, h2⟩ := mapM_get hm
        refine ⟨by simp [h1], fun i x hx => ?_⟩
        cases i with
        | zero => simp at hx; subst hx; simpa using hf
        | succ i => simpa using h2 i x (by simpa using hx)
theorem cells_get {w : World} {base : Nat} {a : Addr} {n : Nat} {cs : List Value} (h : w.cells? base a n = some cs) : cs.length = n ∧ ∀ (i : Nat) (u : Value), cs[i]? = some u → w.cell? (a.add i) = some u := by
  unfold World.cells? at h
  split at h
  · obtain ⟨h1, h2⟩ := mapM_get h
    refine ⟨by simpa using h1, fun i u hu => ?_⟩
    have hi : i < n := by
      have := (List.getElem?_eq_some_iff.1 hu).1
      rw [h1] at this
      simpa using this
    rw [← hu]
    exact h2 i i (by simp [hi])
  · simp at h
/-- A slice of rows. -/
def rS {α : Type} (sz : Nat) (R : (Nat → Option (List Value)) → List Value → α → Prop) (F : Nat → Option (List Value)) (cs : List Value) (ys : List α) : Prop :=
  ∃ v rows, cs = [v] ∧ sF F sz v ys.length rows.flatten ∧ rowsF (R F) sz rows ys ∧ ys.length ≤ 140737488351232
theorem cell_F0 {w : World} {a : Addr} {u : Value} (h : w.cell? a = some u) : a.spot = none ∧ ∃ cs, F0 w a.block = some cs ∧ cs[a.off]? = some u := by
  unfold World.cell? at h
  split at h
  · rename_i arr e z hb
    split at h
    · cases h
    · rename_i hsp
      refine ⟨by cases hs : a.spot <;> simp_all, arr.toList, by simp [F0, hb], by simpa using h⟩
  · cases h
theorem weights_mem_all {H : Type} {P : Program} {e : TypeId} : ∀ {l : List (DataW H)} {d : DataW H}, d ∈ l → ∀ n ∈ d.weights P e, n ∈ DataW.weightsAll P e l
  | a :: l, d, h, n, hn => by
    simp only [DataW.weightsAll, List.mem_append]
    rcases List.mem_cons.1 h with h | h
    · exact .inl (h ▸ hn)
    · exact .inr (weights_mem_all h n hn)
theorem opensK_slice {α : Type} {P : Program} {t e : TypeId} {sz : Nat} {R : (Nat → Option (List Value)) → List Value → α → Prop} (ht : P.underlying t = some (.slice e)) (hs : P.cellsOf t = 1) (hby : Nat.blt 0 (P.bytesOf e) = true) (hz : 0 < sz) (he : OpensK P e sz R) :
    OpensK P t 1 (rS sz R) := by
  refine ⟨hs, fun {H enc w base sp hd fuel cs x} h hwt => ?_, fun {F cs y} h => by
    obtain ⟨v, rows, rfl, hv, _⟩ := h
    obtain ⟨a, c, rfl, _⟩ := hv.form
    exact ⟨rfl, List.all_eq_true.1 rfl⟩⟩
  rcases DataW.trod_slice ht h with ⟨rfl, rfl⟩ | ⟨a, len, cap, elems, rest, n, _, rfl, rfl, hb, hl, hm, hlen, hel, hsp, hns⟩
  · exact ⟨[], _, [], rfl, sF.nil _ _ _, rowsF.nil _ _, Nat.zero_le _⟩
  · have hwt1 : len ≤ 140737488351232 ∧ ∀ d ∈ elems, ∀ n ∈ d.1.weights P e, n ≤ reachBytes := by
      simp only [DataW.weights, ht] at hwt
      refine ⟨?_, fun d hd n hn => hwt n (List.mem_cons_of_mem _ (List.mem_append.2 (.inl (weights_mem_all (List.mem_map_of_mem hd) n hn))))⟩
      have h1 := hwt _ List.mem_cons_self
      simp only [List.length_map, hlen] at h1
      have h2 : 0 < P.bytesOf e := Nat.le_of_ble_eq_true hby
      have h3 : len + rest.length ≤ (len + rest.length) * P.bytesOf e := Nat.le_mul_of_pos_right _ h2
      have h4 : reachBytes = 140737488351232 := by decide
      omega
    have hex : ∀ m, m ≤ len → ∃ (ys : List α) (rows : List (List Value)), ys.length = m ∧ rowsF (R (F0 w)) sz rows ys ∧ ∀ (i : Nat) (u : Value), rows.flatten[i]? = some u → w.cell? (a.add i) = some u := by
      intro m
      induction m with
      | zero => exact fun _ => ⟨[], [], rfl, rowsF.nil _ _, fun i y h => by simp at h⟩
      | succ m ih =>
        intro hm'
        obtain ⟨ys, rows, h1, h2, h2'⟩ := ih (by omega)
        have h3 := hel m (by omega)
        rw [List.getElem?_eq_getElem (by omega)] at h3
        obtain ⟨c, hc, h4⟩ := Option.bind_eq_some_iff.1 h3
        obtain ⟨y, hy⟩ := he.get h4 (hwt1.2 _ (List.getElem_mem _))
        obtain ⟨ho1, ho2⟩ := he.one hy
        refine ⟨ys ++ [y], rows ++ [c], by simp [h1], h2.snoc ho1 ho2 hy, fun i u hu => ?_⟩
        have hfl := h2.flen
        rw [h1] at hfl
        rw [List.flatten_append] at hu
        rcases Nat.lt_or_ge i (m * sz) with h5 | h5
        · rw [List.getElem?_append_left (by omega)] at hu
          exact h2' i u hu
        · rw [List.getElem?_append_right (by omega)] at hu
          obtain ⟨_, h7⟩ := cells_get hc
          have h8 := h7 (i - m * sz) u (by rw [hfl] at hu; simpa using hu)
          rw [he.size, Addr.add_add] at h8
          rwa [show m * sz + (i - m * sz) = i by omega] at h8
    obtain ⟨ys, rows, h1, h2, h3⟩ := hex len (Nat.le_refl _)
    subst h1
    refine ⟨ys, _, rows, rfl, ⟨h2.flen, ?_⟩, h2, hwt1.1⟩
    cases hy : ys with
    | nil => exact .inl ⟨_, _, rfl, rfl⟩
    | cons y0 ys0 =>
      rw [← hy]
      have hpos : 0 < ys.length := by rw [hy]; simp
      have hfl := h2.flen
      have hpz : 0 < ys.length * sz := Nat.mul_pos hpos hz
      have hsp0 : a.spot = none := (cell_F0 (by simpa [Addr.add] using h3 0 _ (List.getElem?_eq_getElem (by omega)))).1
      obtain ⟨ab, ao, asp⟩ := a
      simp only at hsp0
      subst hsp0
      have key : ∀ i, i < ys.length * sz → ∃ cs, F0 w ab = some cs ∧ cs[ao + i]? = rows.flatten[i]? := by
        intro i hi
        have h4 := h3 i _ (List.getElem?_eq_getElem (by omega))
        rw [Addr.add_plain] at h4
        obtain ⟨_, cs, h6, h7⟩ := cell_F0 h4
        exact ⟨cs, h6, by rw [List.getElem?_eq_getElem (l := rows.flatten) (by omega)]; exact h7⟩
      obtain ⟨cs, h6, _⟩ := key 0 hpz
      refine .inr ⟨ab, ao, cap, cs, rfl, hl, h6, ?_⟩
      have key2 : ∀ i, i < ys.length * sz → cs[ao + i]? = rows.flatten[i]? := fun i hi => by
        obtain ⟨cs', h7, h8⟩ := key i hi
        rw [h6] at h7
        injection h7 with h7
        rw [h7]; exact h8
      apply List.ext_getElem?
      intro i
      rw [List.getElem?_take]
      split
      · rename_i hi
        rw [List.getElem?_drop, key2 i hi]
      · exact (List.getElem?_eq_none (l := rows.flatten) (by omega)).symm
/-- A struct's fields, from field offset o on. -/
def OpensFK {α : Type} (P : Program) (fs : List Go.Field) (o sz : Nat) (R : (Nat → Option (List Value)) → List Value → α → Prop) : Prop :=
  (∀ {H : Type} {enc : TypeId × Value → H} {w : World} {base : Nat} {sp : Nat → Bool} {hd : Bool} {fuel : Nat} {cs : List Value} {xs : List (DataW H × List MemPlace)},
    (fs.mapM fun f => DataW.trod enc P w base sp hd fuel f.type ((cs.drop f.offset).take (P.cellsOf f.type))) = some xs → (∀ n ∈ DataW.weightsEach P (fs.map (·.type)) (xs.map (·.1)), n ≤ reachBytes) → cs.length = o + sz → ∃ y, R (F0 w) (cs.drop o) y) ∧
  ∀ {F : Nat → Option (List Value)} {cs : List Value} {y : α}, R F cs y → cs.length = sz ∧ ∀ c ∈ cs, c.oneCell' = true
/-- One behind the other. -/
def rP {α β : Type} (A : (Nat → Option (List Value)) → List Value → α → Prop) (B : (Nat → Option (List Value)) → List Value → β → Prop) (F : Nat → Option (List Value)) (cs : List Value) (p : α × β) : Prop := ∃ c1 c2, cs = c1 ++ c2 ∧ A F c1 p.1 ∧ B F c2 p.2
theorem opensFK_one {α : Type} {P : Program} {f : Go.Field} {o sz : Nat} {R : (Nat → Option (List Value)) → List Value → α → Prop} (ho : f.offset = o) (h : OpensK P f.type sz R) : OpensFK P [f] o sz R := by
  refine ⟨fun {H enc w base sp hd fuel cs xs} hm hwt hl => ?_, h.one⟩
  obtain ⟨_, h2⟩ := mapM_get hm
  have h3 := h2 0 f rfl
  have hx : (cs.drop f.offset).take (P.cellsOf f.type) = cs.drop o := by
    rw [ho, h.size, List.take_of_length_le (by rw [List.length_drop]; omega)]
  rw [hx] at h3
  cases hx0 : xs[0]? with
  | none =>
    have := (mapM_get hm).1
    rw [List.getElem?_eq_none_iff] at hx0
    simp at this
    omega
  | some x =>
    rw [hx0] at h3
    refine h.get h3 fun n hn => hwt n ?_
    refine DataW.weights_mem_each (j := 0) rfl ?_ n hn
    rw [List.getElem?_map, hx0]; rfl
theorem opensFK_cons {α β : Type} {P : Program} {f : Go.Field} {fs : List Go.Field} {o sa sb : Nat} {A : (Nat → Option (List Value)) → List Value → α → Prop} {B : (Nat → Option (List Value)) → List Value → β → Prop} (ho : f.offset = o) (h : OpensK P f.type sa A) (hs : OpensFK P fs (o + sa) sb B) :
    OpensFK P (f :: fs) o (sa + sb) (rP A B) := by
  refine ⟨fun {H enc w base sp hd fuel cs xs} hm hwt hl => ?_, fun {F cs y} hr => ?_⟩
  · rw [List.mapM_cons] at hm
    obtain ⟨x, h1, h2⟩ := Option.bind_eq_some_iff.1 hm
    obtain ⟨xs', h3, h4⟩ := Option.bind_eq_some_iff.1 h2
    obtain rfl : x :: xs' = xs := by simpa using h4
    simp only [List.map_cons, DataW.weightsEach, List.mem_append] at hwt
    obtain ⟨y, hy⟩ := h.get h1 (fun n hn => hwt n (.inl hn))
    obtain ⟨z, hz⟩ := hs.1 h3 (fun n hn => hwt n (.inr hn)) (by omega)
    refine ⟨(y, z), _, _, ?_, hy, hz⟩
    rw [ho, h.size, ← List.drop_drop, List.take_append_drop]
  · obtain ⟨c1, c2, rfl, h1, h2⟩ := hr
    obtain ⟨a1, a2⟩ := h.one h1
    obtain ⟨b1, b2⟩ := hs.2 h2
    refine ⟨by simp; omega, fun c hc => ?_⟩
    rcases List.mem_append.1 hc with hc | hc
    · exact a2 c hc
    · exact b2 c hc
theorem opensK_struct {α : Type} {P : Program} {t : TypeId} {fs : Array Go.Field} {sz : Nat} {R : (Nat → Option (List Value)) → List Value → α → Prop} (ht : P.underlying t = some (.struct fs)) (hs : P.cellsOf t = sz) (h : OpensFK P fs.toList 0 sz R) : OpensK P t sz R := by
  refine ⟨hs, fun {H enc w base sp hd fuel cs x} hx hwt => ?_, h.2⟩
  cases fuel with
  | zero => simp [DataW.trod] at hx
  | succ n =>
    have key : cs.length = P.cellsOf t ∧ ∃ xs, (fs.toList.mapM fun f => DataW.trod enc P w base sp hd n f.type ((cs.drop f.offset).take (P.cellsOf f.type))) = some xs ∧ x.1 = .agg (xs.map (·.1)) := by
      unfold DataW.trod at hx
      rw [ht] at hx
      split at hx
      case h_9 =>
        rename_i fs' e
        injection e with e
        injection e with e
        subst e
        split at hx
        · rename_i hc
          refine ⟨hc, ?_⟩
          obtain ⟨xs, h1, h2⟩ := Option.map_eq_some_iff.1 hx
          exact ⟨xs, h1, by rw [← h2]⟩
        · exact absurd hx (by simp)
      all_goals first | (exfalso; simp at hx; done) | (exfalso; simp_all; done)
    obtain ⟨hc, xs, hm, hx1⟩ := key
    rw [hx1] at hwt
    simp only [DataW.weights, ht] at hwt
    obtain ⟨y, hy⟩ := h.1 hm hwt (by rw [hc, hs]; omega)
    exact ⟨y, by simpa using hy⟩
/-- An argument as the row hands it over. -/
theorem OpensK.arg {α : Type} {P : Program} {t : TypeId} {sz : Nat} {R : (Nat → Option (List Value)) → List Value → α → Prop} (h : OpensK P t sz R) {H : Type} {enc : TypeId × Value → H} {w : World} {base : Nat} {sp : Nat → Bool} {hd : Bool} {v : Value} {x : DataW H} {ps : List MemPlace}
    (hx : DataW.Trod enc P w base sp hd t v x ps) {ts : List TypeId} {ds : List (DataW H)} (hsz : (DataW.weightsEach P ts ds).all (· ≤ reachBytes) = true) (j : Nat) (ht : ts[j]? = some t) (hd' : ds[j]? = some x) : ∃ y, R (F0 w) v.cells.toList y := by
  obtain ⟨fuel, hx⟩ := hx
  exact h.get hx fun n hn => by simpa using List.all_eq_true.1 hsz n (DataW.weights_mem_each ht hd' n hn)
/-- A slice of whole numbers. -/
theorem rS_ints {k : IntKind} {F : Nat → Option (List Value)} {v : Value} {ys : List Int} (h : rS 1 (rI k) F [v] ys) : sF F 1 v ys.length (ys.map (.int k)) ∧ (∀ y ∈ ys, (Lit.int k y).wf = true) ∧ ys.length ≤ 140737488351232 := by
  obtain ⟨v', rows, e, hv, hr, hm⟩ := h
  injection e with e _
  subst e
  have : rows.flatten = ys.map (.int k) := by
    have h1 : ∀ (rows : List (List Value)) (ys : List Int), all2 (rI k F) rows ys → rows.flatten = ys.map (.int k) := by
      intro rows
      induction rows with
      | nil => intro ys h; have := h.1; cases ys with | nil => rfl | cons _ _ => simp at this
      | cons r rows ih =>
        intro ys h
        cases ys with
        | nil => have := h.1; simp at this
        | cons y ys =>
          obtain ⟨h2, _⟩ := h.2 0 r y rfl rfl
          rw [List.flatten_cons, h2, ih ys ⟨by have := h.1; simp at this; omega, fun i a b ha hb => h.2 (i + 1) a b (by simpa using ha) (by simpa using hb)⟩]
          rfl
    exact h1 _ _ hr.all
  rw [this] at hv
  refine ⟨hv, fun y hy => ?_, hm⟩
  obtain ⟨j, hj, rfl⟩ := List.mem_iff_getElem.1 hy
  obtain ⟨r, _, h2⟩ := hr.all.get (List.getElem?_eq_getElem hj)
  exact h2.2
end Go.Proofs.YthpacapdaembpaaDoor.K
