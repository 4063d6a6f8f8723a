import Derived.Test.YthpacapdaembpaaDoorC1
open Go Go.RowKit Go.Proofs.YthpacapdaembpaaDoor.K Go.Proofs.YthpacapdaembpaaDoor.T
set_option linter.unusedVariables false
set_option linter.unusedSimpArgs false
namespace Go.Proofs.YthpacapdaembpaaDoor.A
variable {F F' : Nat → Option (List Value)} {M M' : Nat → Option Chunk} {N N' : Nat} {K : Kont} {E : PanK}
/-- A digit's letter. -/
def dig (d : Nat) : Int := if d < 10 then 48 + d else 87 + d
/-- A number's letters at base 36. -/
def num (u : Nat) : List Int := if h : u < 36 then [dig u] else num (u / 36) ++ [dig (u % 36)]
termination_by u
decreasing_by omega
def txt (i : Int) : List Int := if i < 0 then 45 :: num i.natAbs else num i.natAbs
def text (l : List Int) : List Int := l.flatMap (fun v => txt v ++ [32])
def undig (c : Int) : Nat := if c < 58 then (c - 48).toNat else (c - 87).toNat
def val (l : List Int) : Nat := l.foldl (fun a c => a * 36 + undig c) 0
theorem undig_dig (d : Nat) : undig (dig d) = d := by unfold undig dig; split <;> split <;> omega
theorem dig_ne (d : Nat) : dig d ≠ 32 ∧ dig d ≠ 45 := by unfold dig; split <;> omega
theorem val_num (u : Nat) : val (num u) = u := by
  induction u using Nat.strongRecOn with
  | _ u ih =>
    rw [num]
    split
    · simp [val, undig_dig]
    · rename_i h
      have hi := ih (u / 36) (by omega)
      unfold val at hi ⊢
      rw [List.foldl_append, hi]
      simp [undig_dig]
      omega
theorem num_ne (u : Nat) : ∀ c ∈ num u, c ≠ 32 ∧ c ≠ 45 := by
  induction u using Nat.strongRecOn with
  | _ u ih =>
    rw [num]
    split
    · intro c hc; simp at hc; subst hc; exact dig_ne u
    · rename_i h
      intro c hc
      rcases List.mem_append.1 hc with h1 | h1
      · exact ih _ (by omega) c h1
      · simp at h1; subst h1; exact dig_ne _
theorem num_inj {u v : Nat} (h : num u = num v) : u = v := by rw [← val_num u, h, val_num]
theorem txt_ne (i : Int) : ∀ c ∈ txt i, c ≠ 32 := by
  intro c hc
  unfold txt at hc
  split at hc
  · rcases List.mem_cons.1 hc with rfl | h
    · omega
    · exact (num_ne _ c h).1
  · exact (num_ne _ c hc).1
theorem txt_inj {i j : Int} (h : txt i = txt j) : i = j := by
  unfold txt at h
  split at h <;> split at h
  · injection h with _ h; have := num_inj h; omega
  · have := (num_ne j.natAbs 45 (by rw [← h]; simp)).2; simp at this
  · have := (num_ne i.natAbs 45 (by rw [h]; simp)).2; simp at this
  · have := num_inj h; omega
theorem cut_inj {a b s t : List Int} (ha : ∀ c ∈ a, c ≠ 32) (hb : ∀ c ∈ b, c ≠ 32) (h : a ++ 32 :: s = b ++ 32 :: t) : a = b ∧ s = t := by
  induction a generalizing b with
  | nil =>
    cases b with
    | nil => exact ⟨rfl, by simpa using h⟩
    | cons y b => simp at h; exact absurd h.1.symm (hb y (by simp))
  | cons x a ih =>
    cases b with
    | nil => simp at h; exact absurd h.1 (ha x (by simp))
    | cons y b =>
      simp at h
      obtain ⟨h1, h2⟩ := ih (fun c hc => ha c (by simp [hc])) (fun c hc => hb c (by simp [hc])) h.2
      exact ⟨by rw [h.1, h1], h2⟩
theorem text_inj : ∀ {a b : List Int}, text a = text b → a = b
  | [], [], _ => rfl
  | [], y :: b, h => by simp [text] at h
  | x :: a, [], h => by simp [text] at h
  | x :: a, y :: b, h => by
    have h' : txt x ++ 32 :: text a = txt y ++ 32 :: text b := by simpa [text] using h
    obtain ⟨h1, h2⟩ := cut_inj (txt_ne x) (txt_ne y) h'
    rw [txt_inj h1, text_inj h2]
theorem num_len (k : Nat) : ∀ u, u < 36 ^ (k + 1) → (num u).length ≤ k + 1 := by
  induction k with
  | zero => intro u h; rw [num, dif_pos (by simpa using h)]; simp
  | succ k ih =>
    intro u h
    rw [num]
    split
    · simp
    · have := ih (u / 36) (by rw [Nat.div_lt_iff_lt_mul (by decide)]; rw [Nat.pow_succ] at h; exact h)
      simp; omega
theorem num_pos (u : Nat) : 0 < (num u).length := by
  rw [num]; split <;> simp
/-- A list's bytes. -/
def bts (l : List Int) : List Value := l.map (.int .u8)
theorem digs_at : ∀ d : Fin 36, ((#[48, 49, 50, 51, 52, 53, 54, 55, 56, 57, 97, 98, 99, 100, 101, 102, 103, 104, 105, 106, 107, 108, 109, 110, 111, 112, 113, 114, 115, 116, 117, 118, 119, 120, 121, 122] : Array UInt8)[d.val]?).map (fun b => (b.toNat : Int)) = some (dig d.val) := by decide
theorem ix_dig {d : Nat} (hd : d < 36) {k : IntKind} : ixV (.string ⟨#[48, 49, 50, 51, 52, 53, 54, 55, 56, 57, 97, 98, 99, 100, 101, 102, 103, 104, 105, 106, 107, 108, 109, 110, 111, 112, 113, 114, 115, 116, 117, 118, 119, 120, 121, 122]⟩) (.int k (d : Nat)) = some (.int .u8 (dig d)) := by
  have h := digs_at ⟨d, hd⟩
  simp only [ixV]
  rw [if_pos (by omega)]
  simp only [Int.toNat_natCast]
  have e : ∀ (a : Array UInt8) (i : Nat), (ByteArray.mk a)[i]? = a[i]? := fun a i => by
    simp only [getElem?_def]; rfl
  rw [e]
  simp only at h
  rw [Option.map_eq_some_iff] at h
  obtain ⟨b, h1, h2⟩ := h
  rw [h1, ← h2]; rfl
theorem drop_set {l : List Value} {i : Nat} (h : i < l.length) (x : Value) : (l.set i x).drop i = x :: l.drop (i + 1) := by
  induction l generalizing i with
  | nil => simp at h
  | cons a l ih =>
    cases i with
    | zero => simp
    | succ i => simpa using ih (by simpa using h)
theorem splice_one {l : List Value} {i : Nat} (h : i < l.length) (x : Value) : splice l i [x] = l.set i x := by
  rw [splice_cons (by simp; omega), splice_nil]
/-- The loop's state: what is left of the number, the letters that stand. -/
structure fbS (u : Nat) (s : Nat × List Int) (l : List Value) : Prop where
  len : l.length = 65
  num : num u = A.num s.1 ++ s.2
  tail : l.drop (65 - s.2.length) = bts s.2
  room : u < 18446744073709551616
  lt : s.1 < 18446744073709551616
theorem fbS.short {u : Nat} {s : Nat × List Int} {l : List Value} (h : fbS u s l) : s.2.length ≤ 12 := by
  have h1 := num_len 12 u (by have := h.room; omega)
  have h2 := congrArg List.length h.num
  have h3 := num_pos s.1
  simp at h2; omega
end Go.Proofs.YthpacapdaembpaaDoor.A
