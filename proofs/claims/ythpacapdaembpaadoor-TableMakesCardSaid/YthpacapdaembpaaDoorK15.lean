import Derived.Test.YthpacapdaembpaaDoorK14
open Go Go.RowKit
set_option linter.unusedVariables false
set_option linter.unusedSimpArgs false
namespace Go.Proofs.YthpacapdaembpaaDoor.K

theorem thenD_n {k : Env → Hp → Prop} {Q : QD} {env : Env} {h : Hp} (x : k env h) : thenD k Q .normal env h := x
/-- A round's end: the slots are those of the next state. -/
theorem leafJ {mk : (Nat → Value) → Env} {k : Env → Hp → Prop} {env : Env} {h : Hp} (H : ∀ j', k (mk j') h) (he : env = mk (fun i => env.getD i undef)) : k env h := by rw [he]; exact H _

/-- The slots that do not matter. -/
def jf (env : Env) : Nat → Value := fun i => env.getD i undef

/-! ### Data in rows that nobody turns -/

def subF (F F' : Nat → Option (List Value)) : Prop := ∀ b cs, F b = some cs → F' b = some cs
theorem subF.refl (F : Nat → Option (List Value)) : subF F F := fun _ _ h => h
theorem subF.trans {F F' F'' : Nat → Option (List Value)} (h : subF F F') (k : subF F' F'') : subF F F'' := fun b cs hb => k b cs (h b cs hb)
theorem subF.upd {F : Nat → Option (List Value)} {b : Nat} {x : Option (List Value)} (h : F b = none) : subF F (upd F b x) := fun k cs hk => by
  simp only [K.upd]; split
  · rename_i e; subst e; rw [h] at hk; cases hk
  · exact hk

/-- An operation of which nothing is known: it must not be reached. -/
def nope (_K : Kont) (_h : Hp) : Prop := False
/-- The code panics. -/
def pnc (x : Value) (E : PanK) (_K : Kont) (h : Hp) : Prop := match x with
  | .iface t v => E [{ v := .iface t v, recovered := false }] h
  | _ => False
/-- A slice of m elements, of sz cells each, that reads as these cells. -/
def sF (F : Nat → Option (List Value)) (sz : Nat) (v : Value) (m : Nat) (cells : List Value) : Prop :=
  cells.length = m * sz ∧ ((∃ a c, v = .slice a 0 c ∧ m = 0) ∨ ∃ b o c cs, v = .slice (some ⟨b, o, none⟩) m c ∧ m ≤ c ∧ F b = some cs ∧ (cs.drop o).take (m * sz) = cells)
theorem sF.mono {F F' : Nat → Option (List Value)} {sz m : Nat} {v : Value} {cells : List Value} (h : sF F sz v m cells) (hs : subF F F') : sF F' sz v m cells := by
  refine ⟨h.1, ?_⟩
  rcases h.2 with h | ⟨b, o, c, cs, h1, h2, h3, h4⟩
  · exact .inl h
  · exact .inr ⟨b, o, c, cs, h1, h2, hs _ _ h3, h4⟩
theorem sF.read {F : Nat → Option (List Value)} {M : Nat → Option Chunk} {N sz m : Nat} {v : Value} {cells : List Value} (h : sF F sz v m cells) : sRead ⟨F, M, N⟩ sz v m cells := by
  refine ⟨h.1, ?_⟩
  rcases h.2 with ⟨a, c, h1, h2⟩ | ⟨b, o, c, cs, h1, h2, h3, h4⟩
  · subst h2; exact .inl ⟨a, c, h1, rfl⟩
  · exact .inr ⟨b, o, c, cs, h1, .inr ⟨.inl h3, h4⟩⟩
theorem sF.form {F : Nat → Option (List Value)} {sz m : Nat} {v : Value} {cells : List Value} (h : sF F sz v m cells) : ∃ a c, v = .slice a m c ∧ m ≤ c := by
  rcases h.2 with ⟨a, c, h1, h2⟩ | ⟨b, o, c, cs, h1, h2, h3, h4⟩
  · subst h2; exact ⟨a, c, h1, Nat.zero_le _⟩
  · exact ⟨_, c, h1, h2⟩
theorem sF.nil (F : Nat → Option (List Value)) (sz c : Nat) : sF F sz (.slice none 0 c) 0 [] := ⟨by simp, .inl ⟨none, c, rfl, rfl⟩⟩
/-- An element's place, and what it reads. -/
theorem sF.at {F : Nat → Option (List Value)} {sz m : Nat} {v : Value} {cells : List Value} (h : sF F sz v m cells) (hz : 0 < sz) {i : Nat} (hi : i < m) :
    ∃ b o c, v = .slice (some ⟨b, o, none⟩) m c ∧ ∃ cs, F b = some cs ∧ o + m * sz ≤ cs.length ∧ ∀ k, k < m * sz → cs[o + k]? = cells[k]? := by
  rcases h.2 with ⟨a, c, h1, h2⟩ | ⟨b, o, c, cs, h1, h2, h3, h4⟩
  · omega
  · refine ⟨b, o, c, h1, cs, h3, ?_, fun k hk => ?_⟩
    · have := congrArg List.length h4
      rw [h.1] at this
      simp at this
      have hp : 0 < m * sz := Nat.mul_pos (by omega) hz
      omega
    · rw [← h4, List.getElem?_take, if_pos hk, List.getElem?_drop]

/-- Each with its own. -/
def all2 {α β : Type} (R : α → β → Prop) (xs : List α) (ys : List β) : Prop := xs.length = ys.length ∧ ∀ (i : Nat) (x : α) (y : β), xs[i]? = some x → ys[i]? = some y → R x y
theorem all2.nil {α β : Type} (R : α → β → Prop) : all2 R [] [] := ⟨rfl, fun i x y h => by simp at h⟩
theorem all2.snoc {α β : Type} {R : α → β → Prop} {xs : List α} {ys : List β} {x : α} {y : β} (h : all2 R xs ys) (hr : R x y) : all2 R (xs ++ [x]) (ys ++ [y]) := by
  refine ⟨by simp [h.1], fun i u v hu hv => ?_⟩
  rcases Nat.lt_or_ge i xs.length with hi | hi
  · rw [List.getElem?_append_left hi] at hu
    rw [List.getElem?_append_left (by rw [← h.1]; exact hi)] at hv
    exact h.2 i u v hu hv
  · rw [List.getElem?_append_right hi] at hu
    rw [List.getElem?_append_right (by rw [← h.1]; exact hi)] at hv
    have : i - xs.length = 0 := by
      have := (List.getElem?_eq_some_iff.1 hu).1
      simp at this; omega
    rw [this] at hu
    rw [← h.1, this] at hv
    simp at hu hv
    subst hu; subst hv; exact hr
theorem all2.mono {α β : Type} {R R' : α → β → Prop} {xs : List α} {ys : List β} (h : all2 R xs ys) (hr : ∀ x y, R x y → R' x y) : all2 R' xs ys := ⟨h.1, fun i x y hx hy => hr _ _ (h.2 i x y hx hy)⟩
theorem all2.get {α β : Type} {R : α → β → Prop} {xs : List α} {ys : List β} (h : all2 R xs ys) {i : Nat} {y : β} (hy : ys[i]? = some y) : ∃ x, xs[i]? = some x ∧ R x y := by
  have hi : i < xs.length := by rw [h.1]; exact (List.getElem?_eq_some_iff.1 hy).1
  exact ⟨xs[i], by simp [hi], h.2 i _ y (by simp [hi]) hy⟩
theorem all2.eraseIdx {α β : Type} {R : α → β → Prop} {xs : List α} {ys : List β} (h : all2 R xs ys) (k : Nat) : all2 R (xs.eraseIdx k) (ys.eraseIdx k) := by
  refine ⟨by rw [List.length_eraseIdx, List.length_eraseIdx, h.1], fun i x y hx hy => ?_⟩
  rw [List.getElem?_eraseIdx] at hx hy
  split at hx
  · rename_i hi; rw [if_pos hi] at hy; exact h.2 _ _ _ hx hy
  · rename_i hi; rw [if_neg hi] at hy; exact h.2 _ _ _ hx hy

theorem flatten_len {sz : Nat} : ∀ (rows : List (List Value)), (∀ r ∈ rows, r.length = sz) → rows.flatten.length = rows.length * sz
  | [], _ => by simp
  | x :: rows, h => by
    rw [List.flatten_cons, List.length_append, h x (by simp), flatten_len rows (fun r hr => h r (by simp [hr])), List.length_cons, Nat.succ_mul]; omega
theorem flatten_take {sz : Nat} : ∀ (rows : List (List Value)) (i : Nat) (r : List Value), (∀ r ∈ rows, r.length = sz) → rows[i]? = some r → (rows.flatten.drop (i * sz)).take sz = r
  | [], i, r, _, h => by simp at h
  | x :: rows, 0, r, hl, h => by
    simp at h
    subst h
    have := hl x (by simp)
    simp [List.flatten_cons, ← this]
  | x :: rows, i + 1, r, hl, h => by
    have hx := hl x (by simp)
    have h1 := flatten_take rows i r (fun r hr => hl r (by simp [hr])) (by simpa using h)
    rw [List.flatten_cons, Nat.succ_mul]
    rw [show i * sz + sz = x.length + i * sz by omega, List.drop_append, ← h1]
    have : List.drop (x.length + i * sz) x = [] := List.drop_eq_nil_of_le (by omega)
    rw [this, show x.length + i * sz - x.length = i * sz by omega, List.nil_append]

/-- Rows of sz cells that read as xs. -/
structure rowsF {α : Type} (R : List Value → α → Prop) (sz : Nat) (rows : List (List Value)) (xs : List α) : Prop where
  len : ∀ r ∈ rows, r.length = sz
  one : ∀ r ∈ rows, ∀ c ∈ r, c.oneCell' = true
  all : all2 R rows xs
theorem rowsF.nil {α : Type} (R : List Value → α → Prop) (sz : Nat) : rowsF R sz [] [] := ⟨by simp, by simp, all2.nil R⟩
theorem rowsF.snoc {α : Type} {R : List Value → α → Prop} {sz : Nat} {rows : List (List Value)} {xs : List α} (h : rowsF R sz rows xs) {r : List Value} {x : α} (hl : r.length = sz) (h1 : ∀ c ∈ r, c.oneCell' = true) (hr : R r x) : rowsF R sz (rows ++ [r]) (xs ++ [x]) :=
  ⟨fun q hq => by rcases List.mem_append.1 hq with hq | hq; exact h.len q hq; rw [List.mem_singleton.1 hq]; exact hl, fun q hq => by rcases List.mem_append.1 hq with hq | hq; exact h.one q hq; rw [List.mem_singleton.1 hq]; exact h1, h.all.snoc hr⟩
theorem rowsF.mono {α : Type} {R R' : List Value → α → Prop} {sz : Nat} {rows : List (List Value)} {xs : List α} (h : rowsF R sz rows xs) (hr : ∀ r x, R r x → R' r x) : rowsF R' sz rows xs := ⟨h.len, h.one, h.all.mono hr⟩
theorem rowsF.flen {α : Type} {R : List Value → α → Prop} {sz : Nat} {rows : List (List Value)} {xs : List α} (h : rowsF R sz rows xs) : rows.flatten.length = xs.length * sz := by rw [flatten_len rows h.len, h.all.1]
theorem rowsF.f1 {α : Type} {R : List Value → α → Prop} {sz : Nat} {rows : List (List Value)} {xs : List α} (h : rowsF R sz rows xs) : ∀ c ∈ rows.flatten, c.oneCell' = true := fun c hc => by
  obtain ⟨r, hr, hc⟩ := List.mem_flatten.1 hc
  exact h.one r hr c hc
theorem rowsF.get {α : Type} {R : List Value → α → Prop} {sz : Nat} {rows : List (List Value)} {xs : List α} (h : rowsF R sz rows xs) {i : Nat} {x : α} (hx : xs[i]? = some x) :
    ∃ r, rows[i]? = some r ∧ R r x ∧ (rows.flatten.drop (i * sz)).take sz = r ∧ i * sz + sz ≤ rows.flatten.length ∧ r.length = sz := by
  obtain ⟨r, hr, hR⟩ := h.all.get hx
  refine ⟨r, hr, hR, flatten_take rows i r h.len hr, ?_, h.len r (List.mem_of_getElem? hr)⟩
  have hi : i < rows.length := (List.getElem?_eq_some_iff.1 hr).1
  rw [flatten_len rows h.len, ← Nat.succ_mul]
  exact Nat.mul_le_mul_right _ hi

/-! ### Appending to a slice of one's own -/
section
variable {F : Nat → Option (List Value)} {M : Nat → Option Chunk} {N : Nat} {K : Kont}
/-- The slice v, of n elements, whose row (if any) M has. -/
structure ownS (M : Nat → Option Chunk) (e : TypeId) (sz : Nat) (v : Value) (n : Nat) (cs : List Value) : Prop where
  len : cs.length = n * sz
  form : (v = .slice none 0 0 ∧ n = 0) ∨ ∃ b c, v = .slice (some ⟨b, 0, none⟩) n c ∧ n ≤ c ∧ c ≤ maxLen ∧ ∃ rest, M b = some (.cells e (cs ++ rest) (c * sz))
theorem app_r {e : TypeId} {sz bytes n m : Nat} {s x : Value} {cs news : List Value} (hs : ownS M e sz s n cs) (hx : sRead ⟨F, M, N⟩ sz x m news) (h1 : ∀ c ∈ news, c.oneCell' = true) (hb : (n + m) * bytes ≤ 140737488355328) (hm : n + m ≤ maxLen) (hm0 : 0 < m)
    (k : ∀ b c, (N ≤ b ∨ s.ownBlock = some b) → n + m ≤ c → c ≤ maxLen → K (.slice (some ⟨b, 0, none⟩) (n + m) c) ⟨F, upd (forget M s) b (some (.cells e (cs ++ news) (c * sz))), max N (b + 1)⟩) : appX e sz bytes s x K ⟨F, M, N⟩ :=
  .inl ⟨n, cs, m, news, ⟨hs.len, hs.form⟩, hx, h1, hb, hm, fun _ h => by omega, fun _ b c hb hc hcm => k b c hb hc hcm⟩
theorem app_r0 {e : TypeId} {sz bytes n m : Nat} {s x : Value} {cs news : List Value} (hs : ownS M e sz s n cs) (hx : sRead ⟨F, M, N⟩ sz x m news) (h1 : ∀ c ∈ news, c.oneCell' = true) (hb : (n + m) * bytes ≤ 140737488355328) (hm : n + m ≤ maxLen) (h0 : s = .slice none 0 0 → m = 0 → K (.slice none 0 0) ⟨F, M, N⟩)
    (k : (s ≠ .slice none 0 0 ∨ m ≠ 0) → ∀ b c, (N ≤ b ∨ s.ownBlock = some b) → n + m ≤ c → c ≤ maxLen → K (.slice (some ⟨b, 0, none⟩) (n + m) c) ⟨F, upd (forget M s) b (some (.cells e (cs ++ news) (c * sz))), max N (b + 1)⟩) : appX e sz bytes s x K ⟨F, M, N⟩ :=
  .inl ⟨n, cs, m, news, ⟨hs.len, hs.form⟩, hx, h1, hb, hm, h0, fun h b c hb hc hcm => k h b c hb hc hcm⟩
end
end Go.Proofs.YthpacapdaembpaaDoor.K
