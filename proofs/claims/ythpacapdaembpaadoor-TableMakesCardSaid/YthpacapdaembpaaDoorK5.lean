import Derived.Test.YthpacapdaembpaaDoorK4
open Go Go.RowKit
set_option linter.unusedVariables false
set_option linter.unusedSimpArgs false
namespace Go.Proofs.YthpacapdaembpaaDoor.K

theorem put_eq (env : Env) (d : Option Tmp) (v : Value) : (Act.mk env []).put d v = ⟨putE env d v, []⟩ := by cases d <;> rfl
theorem info_of_underlying {P : Program} {t : TypeId} {d : TypeDesc} (h : P.underlying t = some d) : ∃ i, P.info? t = some i := by
  unfold Program.underlying at h
  cases hi : P.info? t with
  | none => simp [hi] at h
  | some i => exact ⟨i, rfl⟩
theorem run_sizeOf' {P : Program} {t : TypeId} {i : TypeInfo} (h : P.info? t = some i) (w : World) : (sizeOf t).run P w = .ok i.size w := by simp [sizeOf, typeInfo, h]
theorem run_isAgg' {P : Program} {t : TypeId} {g : Bool} (h : aggB P t = some g) (w : World) : (isAgg t).run P w = .ok g w := by
  unfold aggB at h
  cases hu : P.underlying t with
  | none => simp [hu] at h
  | some d =>
    simp only [hu, Option.map_some, Option.some.injEq] at h
    simp only [isAgg, Sem.run_bind, run_underlying hu, Result.andThen_ok]
    cases d <;> simp_all

theorem run_loadVar' {P : Program} {w0 w : World} {h : Hp} (r : Rep w0 h w) {t : TypeId} {g : Bool} {i : TypeInfo} (hg : aggB P t = some g) (hi : P.info? t = some i) {p v : Value} (hv : ldV h g i.size p v) :
    (Instr.loadAt t p).run P w = .ok v w := by
  unfold ldV at hv
  split at hv
  case h_2 => cases hv
  rename_i b o
  simp only [Instr.loadAt, Instr.sureAddr, Sem.run_bind, Sem.run_pure, Result.andThen_ok, loadVar, run_isAgg' hg]
  obtain ⟨cs, hr, hv⟩ := hv
  cases g with
  | false =>
    simp only [Bool.false_eq_true, if_false] at hv ⊢
    have := r.cell hr hv
    simp [this]
  | true =>
    simp only [if_true] at hv ⊢
    obtain ⟨hl, rfl⟩ := hv
    simp only [Sem.run_bind, run_sizeOf' hi, Result.andThen_ok]
    have := run_loadCells_list (P := P) w ⟨b, o, none⟩ ((cs.drop o).take i.size) (fun j u hu => by
      rw [Addr.add_plain]
      refine r.cell hr ?_
      rw [List.getElem?_take] at hu
      split at hu
      · rwa [List.getElem?_drop] at hu
      · cases hu)
    have hlen : ((cs.drop o).take i.size).length = i.size := by simp; omega
    rw [hlen] at this
    rw [this]
    rfl

theorem run_fieldAt' {P : Program} {s : TypeId} {fs : Array Field} {f : Nat} {fd : Field} {i : TypeInfo} (hs : P.underlying s = some (.struct fs)) (hf : fs[f]? = some fd) (hi : P.info? fd.type = some i) (hz : i.size ≠ 0) {p v : Value}
    (hv : faV fd.offset p = some v) (w : World) : (Instr.fieldAt s p f).run P w = .ok v w := by
  unfold faV at hv
  split at hv
  · cases hv
    simp [Instr.fieldAt, run_underlying hs, hf, Instr.sureAddr, fieldPlace, run_sizeOf' hi, hz, Addr.add_plain]
  · cases hv

theorem run_part {P : Program} {t : TypeId} {g : Bool} {i : TypeInfo} (hg : aggB P t = some g) (hi : P.info? t = some i) {off : Nat} {cs : Array Value} {v : Value} (hv : fdV g off i.size (.agg cs) = some v) (w : World) :
    (part t cs off).run P w = .ok v w := by
  simp only [part, Sem.run_bind, run_isAgg' hg, Result.andThen_ok]
  unfold fdV at hv
  cases g with
  | true =>
    simp only [if_true, Option.some.injEq] at hv
    subst hv
    simp [run_sizeOf' hi]
  | false =>
    simp only [Bool.false_eq_true, if_false] at hv ⊢
    rw [hv]; rfl

theorem run_indexAt_slice' {P : Program} {t e : TypeId} {i : TypeInfo} (ht : P.underlying t = some (.slice e)) (hi : P.info? e = some i) {x ix v : Value} (hv : iaV none i.size x ix = some v) (w : World) :
    (Instr.indexAt t x ix).run P w = .ok v w := by
  unfold iaV at hv
  split at hv
  · rename_i b o n c k q
    split at hv
    · rename_i hc
      cases hv
      simp [Instr.indexAt, run_underlying ht, asIntOf, run_sizeOf' hi, hc.2.1, hc.2.2, Addr.add_plain]
    · cases hv
  · cases hv
  · cases hv

theorem run_indexAt_array' {P : Program} {t e : TypeId} {n : Nat} {i : TypeInfo} (ht : P.underlying t = some (.array n e)) (hi : P.info? e = some i) {x ix v : Value} (hv : iaV (some n) i.size x ix = some v) (w : World) :
    (Instr.indexAt t x ix).run P w = .ok v w := by
  unfold iaV at hv
  split at hv
  · simp at hv
  · rename_i b o k q
    simp only at hv
    split at hv
    · rename_i hc
      cases hv
      simp [Instr.indexAt, run_underlying ht, asIntOf, Instr.sureAddr, run_sizeOf' hi, hc.1, hc.2, Addr.add_plain]
    · cases hv
  · cases hv

theorem run_index_string' {P : Program} {t : TypeId} (ht : P.underlying t = some .string) {x ix v : Value} (hv : ixV x ix = some v) (w : World) : (Instr.index t x ix).run P w = .ok v w := by
  unfold ixV at hv
  split at hv
  · rename_i s k q
    split at hv
    · rename_i hc
      obtain ⟨b, hb, rfl⟩ := Option.map_eq_some_iff.1 hv
      simp [Instr.index, asIntOf, run_underlying ht, hc, hb]
    · cases hv
  · cases hv

theorem run_sliceBound' {P : Program} (w : World) {v : Value} {n : Int} (hn : idxOf v = some n) {y : Nat} (code : BoundsCode) (h0 : 0 ≤ n) (h1 : n ≤ y) : (Instr.sliceBound v y code).run P w = .ok n.toNat w := by
  cases v <;> simp [idxOf] at hn
  subst hn
  simp [Instr.sliceBound, asIntOf, h0, h1]

theorem run_slice' {P : Program} {t e : TypeId} {i : TypeInfo} (ht : P.underlying t = some (.slice e)) (hi : P.info? e = some i) {a : Option Addr} {len cap : Nat} {lo hi' mx : Option Value} {v : Value} (hv : slV i.size (.slice a len cap) lo hi' mx = some v) (w : World) :
    (Instr.sliceAt t (.slice a len cap) lo hi' mx).run P w = .ok v w := by
  unfold slV at hv
  simp only at hv
  split at hv
  case h_2 => cases hv
  rename_i m h l hm hh hl
  split at hv
  case isFalse => cases hv
  rename_i hc
  cases hv
  obtain ⟨h0, h1, h2, h3, h4⟩ := hc
  obtain ⟨l', rfl⟩ : ∃ l' : Nat, l = l' := ⟨l.toNat, by omega⟩
  obtain ⟨h', rfl⟩ : ∃ h' : Nat, h = h' := ⟨h.toNat, by omega⟩
  obtain ⟨m', rfl⟩ : ∃ m' : Nat, m = m' := ⟨m.toNat, by omega⟩
  have e1 : ((h' : Int) - (l' : Int)).toNat = h' - l' := by omega
  have e2 : ((m' : Int) - (l' : Int)).toNat = m' - l' := by omega
  rw [e1, e2]
  simp only [Instr.sliceAt, Instr.slice, Sem.run_bind, run_underlying ht, Result.andThen_ok, Instr.sliceBounds]
  have fin : ∀ (x y : Nat), (((x : Int) = (y : Int)) ↔ x = y) := fun x y => by omega
  cases mx with
  | none =>
    simp [bnd] at hm
    have hm' : cap = m' := by omega
    subst hm'
    cases hi' with
    | none =>
      simp [bnd] at hh
      have : len = h' := by omega
      subst this
      cases lo with
      | none =>
        simp [bnd] at hl
        have : l' = 0 := by omega
        subst this
        simp [run_sizeOf' hi]
      | some lv =>
        simp [bnd] at hl
        simp [run_sliceBound' (P := P) w hl (y := len) .sliceB h0 h1, run_sizeOf' hi]
        all_goals (split <;> split <;> first | rfl | (exfalso; omega))
    | some hv2 =>
      simp [bnd] at hh
      have hhi := run_sliceBound' (P := P) w hh (y := cap) .sliceAcap (by omega) (by omega)
      cases lo with
      | none =>
        simp [bnd] at hl
        have : l' = 0 := by omega
        subst this
        simp [hhi, run_sizeOf' hi]
      | some lv =>
        simp [bnd] at hl
        simp [hhi, run_sliceBound' (P := P) w hl (y := h') .sliceB h0 h1, run_sizeOf' hi]
        all_goals (split <;> split <;> first | rfl | (exfalso; omega))
  | some mv =>
    simp [bnd] at hm
    have hmx := run_sliceBound' (P := P) w hm (y := cap) .slice3Acap (by omega) (by omega)
    cases hi' with
    | none => exact absurd (h4 rfl).1 (by simp)
    | some hv2 =>
      simp [bnd] at hh
      have hhi := run_sliceBound' (P := P) w hh (y := m') .slice3B (by omega) (by omega)
      cases lo with
      | none =>
        simp [bnd] at hl
        have : l' = 0 := by omega
        subst this
        simp [hmx, hhi, run_sizeOf' hi]
      | some lv =>
        simp [bnd] at hl
        simp [hmx, hhi, run_sliceBound' (P := P) w hl (y := h') .slice3C h0 h1, run_sizeOf' hi]
        all_goals (split <;> split <;> first | rfl | (exfalso; omega))

theorem run_slice_str' {P : Program} {t : TypeId} (ht : P.underlying t = some .string) {s : ByteArray} {lo hi' mx : Option Value} {v : Value} (hv : slT (.string s) lo hi' mx = some v) (w : World) :
    (Instr.sliceAt t (.string s) lo hi' mx).run P w = .ok v w := by
  unfold slT at hv
  simp only at hv
  split at hv
  case h_2 => cases hv
  rename_i h l hh hl
  split at hv
  case isFalse => cases hv
  rename_i hc
  cases hv
  obtain ⟨h0, h1, h2⟩ := hc
  obtain ⟨l', rfl⟩ : ∃ l' : Nat, l = l' := ⟨l.toNat, by omega⟩
  obtain ⟨h', rfl⟩ : ∃ h' : Nat, h = h' := ⟨h.toNat, by omega⟩
  simp only [Instr.sliceAt, Instr.slice, Sem.run_bind, run_underlying ht, Result.andThen_ok, Instr.sliceBounds, Option.isSome_none, Bool.false_eq_true, if_false]
  cases hi' with
  | none =>
    simp [bnd] at hh
    have : s.size = h' := by omega
    subst this
    cases lo with
    | none =>
      simp [bnd] at hl
      have : l' = 0 := by omega
      subst this
      simp
    | some lv =>
      simp [bnd] at hl
      simp [run_sliceBound' (P := P) w hl (y := s.size) .sliceB h0 h1]
  | some hv2 =>
    simp [bnd] at hh
    have hhi := run_sliceBound' (P := P) w hh (y := s.size) .sliceAlen (by omega) (by omega)
    cases lo with
    | none =>
      simp [bnd] at hl
      have : l' = 0 := by omega
      subst this
      simp [hhi]
    | some lv =>
      simp [bnd] at hl
      simp [hhi, run_sliceBound' (P := P) w hl (y := h') .sliceB h0 h1]
theorem run_slice_arr' {P : Program} {t e : TypeId} {n : Nat} {i : TypeInfo} (ht : P.underlying t = some (.array n e)) (hi : P.info? e = some i) {a : Addr} {lo hi' : Option Value} {v : Value} (hv : slV i.size (.slice (some a) n n) lo hi' none = some v) (w : World) :
    (Instr.sliceAt t (.pointer (some a)) lo hi' none).run P w = .ok v w := by
  unfold slV at hv
  simp only at hv
  split at hv
  case h_2 => cases hv
  rename_i m h l hm hh hl
  split at hv
  case isFalse => cases hv
  rename_i hc
  cases hv
  obtain ⟨h0, h1, h2, h3, h4⟩ := hc
  obtain ⟨l', rfl⟩ : ∃ l' : Nat, l = l' := ⟨l.toNat, by omega⟩
  obtain ⟨h', rfl⟩ : ∃ h' : Nat, h = h' := ⟨h.toNat, by omega⟩
  obtain ⟨m', rfl⟩ : ∃ m' : Nat, m = m' := ⟨m.toNat, by omega⟩
  have e1 : ((h' : Int) - (l' : Int)).toNat = h' - l' := by omega
  have e2 : ((m' : Int) - (l' : Int)).toNat = m' - l' := by omega
  rw [e1, e2]
  simp [bnd] at hm
  have hm' : n = m' := by omega
  subst hm'
  simp only [Instr.sliceAt, Instr.sureAddr, Sem.run_bind, run_underlying ht, Result.andThen_ok, Instr.sliceBounds]
  cases hi' with
  | none =>
    simp [bnd] at hh
    have : n = h' := by omega
    subst this
    cases lo with
    | none =>
      simp [bnd] at hl
      have : l' = 0 := by omega
      subst this
      simp [run_sizeOf' hi]
      all_goals (split <;> rfl)
    | some lv =>
      simp [bnd] at hl
      simp [run_sliceBound' (P := P) w hl (y := n) .sliceB h0 h1, run_sizeOf' hi]
      all_goals (split <;> split <;> first | rfl | (exfalso; omega))
  | some hv2 =>
    simp [bnd] at hh
    have hhi := run_sliceBound' (P := P) w hh (y := n) .sliceAlen (by omega) (by omega)
    cases lo with
    | none =>
      simp [bnd] at hl
      have : l' = 0 := by omega
      subst this
      simp [hhi, run_sizeOf' hi]
      all_goals (split <;> rfl)
    | some lv =>
      simp [bnd] at hl
      simp [hhi, run_sliceBound' (P := P) w hl (y := h') .sliceB h0 (by omega), run_sizeOf' hi]
      all_goals (split <;> split <;> first | rfl | (exfalso; omega))
end Go.Proofs.YthpacapdaembpaaDoor.K
