import Derived.Test.YthpacapdaembpaaDoorK15
open Go Go.RowKit
set_option linter.unusedVariables false
set_option linter.unusedSimpArgs false
namespace Go.Proofs.YthpacapdaembpaaDoor.K
variable {F : Nat → Option (List Value)} {M M0 : Nat → Option Chunk} {N N0 : Nat}

theorem Hp.wf.m (hw : (Hp.mk F M N).wf) : ∀ k, N ≤ k → M k = none := hw.M
theorem Hp.wf.f (hw : (Hp.mk F M N).wf) : ∀ k, N ≤ k → F k = none := hw.F
theorem sub_none (hs : subM M0 M) {b : Nat} (h : M b = none) : M0 b = none := by
  cases h0 : M0 b with
  | none => rfl
  | some c => rw [hs b c h0] at h; cases h
theorem wk_drop (hc : (Hp.mk F M N).wf) (hs : subM M0 M) : (Hp.mk F M N).wk ⟨F, M0, N⟩ := ⟨rfl, hs, fun _ _ h => .inl h, fun b cs h => sub_none hs (hc.d b cs h)⟩
/-- What was made becomes such that nobody turns it. -/
theorem wk_frz (hc : (Hp.mk F M N).wf) (hs : subM M0 M) {b : Nat} (hb : M0 b = none) {e : TypeId} {cs : List Value} {tot : Nat} (hM : M b = some (.cells e cs tot)) : (Hp.mk F M N).wk ⟨upd F b (some cs), M0, N⟩ := by
  refine ⟨rfl, hs, fun k cs' hk => ?_, fun k cs' hk => ?_⟩
  · simp only [upd] at hk
    split at hk
    · rename_i he; subst he; cases hk
      exact .inr ⟨hb, e, cs, tot, hM, List.prefix_refl _⟩
    · exact .inl hk
  · simp only [upd] at hk
    split at hk
    · rename_i he; subst he; exact hb
    · exact sub_none hs (hc.d k cs' hk)
/-- All that was made is forgotten ('hm', in the context: no block of M from N on). -/
theorem wk_end (hc : (Hp.mk F M N).wf) (hs : subM M0 M := by repeat (first | exact subM_refl _ | refine subM_drop ?_ (hm _ (by first | assumption | omega)) | refine subM_keep ?_ | simp only [forget, Value.ownBlock])) : (Hp.mk F M N).wk ⟨F, M0, N⟩ := wk_drop hc hs
theorem subF_fresh (hw : (Hp.mk F M0 N0).wf) {b : Nat} (hb : N0 ≤ b) (x : Option (List Value)) : subF F (upd F b x) := subF.upd (hw.F b hb)
theorem ownS_new {e : TypeId} {sz b : Nat} {tot : Nat} (hM : M b = some (.cells e [] tot)) (ht : tot = 0) : ownS M e sz (.slice (some ⟨b, 0, none⟩) 0 0) 0 [] :=
  ⟨by simp, .inr ⟨b, 0, rfl, Nat.le_refl _, by simp [maxLen], [], by rw [hM, ht]; simp⟩⟩
theorem ownS_nil {e : TypeId} {sz : Nat} : ownS M e sz (.slice none 0 0) 0 [] := ⟨by simp, .inl ⟨rfl, rfl⟩⟩
theorem sF_fresh {sz m b c : Nat} {cells : List Value} (hl : cells.length = m * sz) (hc : m ≤ c) : sF (upd F b (some cells)) sz (.slice (some ⟨b, 0, none⟩) m c) m cells :=
  ⟨hl, .inr ⟨b, 0, c, cells, rfl, hc, upd_same _ _ _, by rw [List.drop_zero, ← hl, List.take_length]⟩⟩
theorem ints_one {k : IntKind} (l : List Int) : ∀ c ∈ l.map (Value.int k), c.oneCell' = true := fun c hc => by
  obtain ⟨x, _, rfl⟩ := List.mem_map.1 hc; rfl

/-! ### Steps that find what they need -/
section
variable {K : Kont} {sz b o : Nat} {e : TypeId} {cs : List Value} {tot : Nat}
theorem ldM {v : Value} (k : K v ⟨F, M, N⟩) (hM : M b = some (.cells e cs tot) := by repeat (first | exact upd_same _ _ _ | assumption | refine (upd_ne _ _ (by omega)).trans ?_)) (hv : cs[o]? = some v := by rfl) : ld false sz (.pointer (some ⟨b, o, none⟩)) K ⟨F, M, N⟩ :=
  ld_r (ldV_c (row_M hM) hv) k
theorem ldMa {vs : List Value} (k : K (.agg vs.toArray) ⟨F, M, N⟩) (hM : M b = some (.cells e cs tot) := by repeat (first | exact upd_same _ _ _ | assumption | refine (upd_ne _ _ (by omega)).trans ?_)) (hv : (cs.drop o).take sz = vs := by rfl) (hl : o + sz ≤ cs.length := by exact Nat.le_of_ble_eq_true rfl) : ld true sz (.pointer (some ⟨b, o, none⟩)) K ⟨F, M, N⟩ :=
  ld_r (ldV_a (row_M hM) hl hv) k
theorem stM {v : Value} {cs' : List Value} (k : K undef ⟨F, upd M b (some (.cells e cs' tot)), N⟩) (hM : M b = some (.cells e cs tot) := by repeat (first | exact upd_same _ _ _ | assumption | refine (upd_ne _ _ (by omega)).trans ?_)) (hc : splice cs o v.cells.toList = cs' := by rfl) (hs : v.cells.size = sz := by rfl)
    (h1 : ∀ c ∈ v.cells.toList, c.oneCell' = true := by exact List.all_eq_true.1 rfl) (hl : o + sz ≤ cs.length := by exact Nat.le_of_ble_eq_true rfl) : st sz (.pointer (some ⟨b, o, none⟩)) v K ⟨F, M, N⟩ :=
  st_r hM hs h1 hl hc k
theorem sl_r {a : Option Addr} {len cap : Nat} {lo hi mx : Option Value} {h : Hp} (l u m : Nat) (h1 : l ≤ u) (h2 : u ≤ m) (h3 : m ≤ cap) (k : K (.slice (if m = l then a else a.map (·.add (l * sz))) (u - l) (m - l)) h)
    (hl : bnd (some 0) lo = some (l : Int) := by rfl) (hh : bnd (some len) hi = some (u : Int) := by rfl) (hm : bnd (some cap) mx = some (m : Int) := by rfl) (h4 : hi = none → mx = none ∧ len ≤ cap := by (intro h; cases h)) : pv (slV sz (.slice a len cap) lo hi mx) K h := by
  refine ⟨_, ?_, k⟩
  simp only [slV, hl, hh, hm]
  rw [if_pos ⟨by omega, by omega, by omega, by omega, fun hn => by have := h4 hn; exact ⟨this.1, by omega⟩⟩]
  have e1 : ((u : Int) - (l : Int)).toNat = u - l := by omega
  have e2 : ((m : Int) - (l : Int)).toNat = m - l := by omega
  rw [e1, e2, Int.toNat_natCast]
  congr 2
  by_cases hml : m = l
  · rw [if_pos hml, if_pos (by omega)]
  · rw [if_neg hml, if_neg (by omega)]
/-- s[:u] -/
theorem sl_pre {len cap : Nat} {h : Hp} {ki : IntKind} (u : Nat) (h2 : u ≤ cap) (k : K (.slice (some ⟨b, o, none⟩) u cap) h) : pv (slV sz (.slice (some ⟨b, o, none⟩) len cap) none (some (.int ki (u : Nat))) none) K h := by
  refine sl_r 0 u cap (Nat.zero_le _) h2 (Nat.le_refl _) ?_
  have : (if cap = 0 then (some ⟨b, o, none⟩ : Option Addr) else (some (⟨b, o, none⟩ : Addr)).map (·.add (0 * sz))) = some ⟨b, o, none⟩ := by
    split <;> simp [Addr.add]
  rw [this]; exact k
/-- s[l:] -/
theorem sl_suf {len cap : Nat} {h : Hp} {ki : IntKind} (l : Nat) (h1 : l ≤ len) (h2 : len ≤ cap) (k : K (.slice (some (if cap = l then ⟨b, o, none⟩ else ⟨b, o + l * sz, none⟩)) (len - l) (cap - l)) h) : pv (slV sz (.slice (some ⟨b, o, none⟩) len cap) (some (.int ki (l : Nat))) none none) K h := by
  refine sl_r l len cap h1 h2 (Nat.le_refl _) ?_ (h4 := fun _ => ⟨rfl, h2⟩)
  have : (if cap = l then (some ⟨b, o, none⟩ : Option Addr) else (some (⟨b, o, none⟩ : Addr)).map (·.add (l * sz))) = some (if cap = l then ⟨b, o, none⟩ else ⟨b, o + l * sz, none⟩) := by
    split
    · rfl
    · simp [Addr.add_plain]
  rw [this]; exact k
/-- s[l:u], l below the capacity -/
theorem sl_mid {len cap : Nat} {h : Hp} {ki ku : IntKind} (l u : Nat) (h1 : l ≤ u) (h2 : u ≤ cap) (h3 : l < cap) (k : K (.slice (some ⟨b, o + l * sz, none⟩) (u - l) (cap - l)) h) : pv (slV sz (.slice (some ⟨b, o, none⟩) len cap) (some (.int ki (l : Nat))) (some (.int ku (u : Nat))) none) K h := by
  refine sl_r l u cap h1 h2 (Nat.le_refl _) ?_
  rw [if_neg (by omega)]
  simpa [Addr.add_plain] using k
end
/-- A slice that reads as these cells, in rows of either kind. -/
def sR (F : Nat → Option (List Value)) (M : Nat → Option Chunk) (sz : Nat) (v : Value) (m : Nat) (cells : List Value) : Prop :=
  cells.length = m * sz ∧ ((∃ a c, v = .slice a 0 c ∧ m = 0) ∨ ∃ b o c cs, v = .slice (some ⟨b, o, none⟩) m c ∧ m ≤ c ∧ (F b = some cs ∨ ∃ e tot, M b = some (.cells e cs tot)) ∧ (cs.drop o).take (m * sz) = cells)
theorem sF.sR {sz m : Nat} {v : Value} {cells : List Value} (h : sF F sz v m cells) : sR F M sz v m cells :=
  ⟨h.1, h.2.imp id fun ⟨b, o, c, cs, h1, h2, h3, h4⟩ => ⟨b, o, c, cs, h1, h2, .inl h3, h4⟩⟩
theorem sR.read {sz m : Nat} {v : Value} {cells : List Value} (h : sR F M sz v m cells) : sRead ⟨F, M, N⟩ sz v m cells := by
  refine ⟨h.1, ?_⟩
  rcases h.2 with ⟨a, c, h1, h2⟩ | ⟨b, o, c, cs, h1, h2, h3, h4⟩
  · subst h2; exact .inl ⟨a, c, h1, rfl⟩
  · exact .inr ⟨b, o, c, cs, h1, .inr ⟨h3, h4⟩⟩
theorem sR.form {sz m : Nat} {v : Value} {cells : List Value} (h : sR F M sz v m cells) : ∃ a c, v = .slice a m c ∧ m ≤ c := by
  rcases h.2 with ⟨a, c, h1, h2⟩ | ⟨b, o, c, cs, h1, h2, h3, h4⟩
  · subst h2; exact ⟨a, c, h1, Nat.zero_le _⟩
  · exact ⟨_, c, h1, h2⟩
/-- It stays where the rows of one's own stay. -/
theorem sR.keep {F' : Nat → Option (List Value)} {M' : Nat → Option Chunk} {sz m : Nat} {v : Value} {cells : List Value} (h : sR F M sz v m cells) (hF : subF F F') (hM : ∀ b c, v.ownBlock = some b → M b = some c → M' b = some c) : sR F' M' sz v m cells :=
  ⟨h.1, h.2.imp id fun ⟨b, o, c, cs, h1, h2, h3, h4⟩ => ⟨b, o, c, cs, h1, h2, h3.imp (hF _ _) (fun ⟨e, tot, he⟩ => ⟨e, tot, hM _ _ (by rw [h1]; rfl) he⟩), h4⟩⟩
theorem sR.new (hm : ∀ k, N ≤ k → M k = none) {sz m b : Nat} {x : Option Chunk} {v : Value} {cells : List Value} (h : sR F M sz v m cells) (hb : N ≤ b) : sR F (upd M b x) sz v m cells :=
  h.keep (subF.refl _) fun k c _ hk => (upd_ne _ _ (fun e => by subst e; rw [hm _ hb] at hk; cases hk)).trans hk
theorem sR.mono {F' : Nat → Option (List Value)} {sz m : Nat} {v : Value} {cells : List Value} (h : sR F M sz v m cells) (hF : subF F F') : sR F' M sz v m cells := h.keep hF fun _ _ _ h => h
/-- All rows from N on become such that nobody turns them. -/
def frzAll (F : Nat → Option (List Value)) (M : Nat → Option Chunk) (N : Nat) : Nat → Option (List Value) := fun b => if N ≤ b then (match M b with | some (.cells _ cs _) => some cs | _ => F b) else F b
theorem wk_all {M' : Nat → Option Chunk} {N' : Nat} (hm : ∀ k, N ≤ k → M k = none) (hk : ∀ k, k < N → M' k = M k) (hc : (Hp.mk F M' N').wf) : (Hp.mk F M' N').wk ⟨frzAll F M' N, M, N'⟩ := by
  have hs : subM M M' := fun k c h => by
    rcases Nat.lt_or_ge k N with hl | hl
    · rw [hk k hl]; exact h
    · rw [hm k hl] at h; cases h
  refine ⟨rfl, hs, fun b cs hb => ?_, fun b cs hb => ?_⟩
  · simp only [frzAll] at hb
    split at hb
    · rename_i hl
      split at hb
      · rename_i e cs' tot he; cases hb; exact .inr ⟨hm b hl, e, cs, tot, he, List.prefix_refl _⟩
      · exact .inl hb
    · exact .inl hb
  · simp only [frzAll] at hb
    split at hb
    · rename_i hl; exact hm b hl
    · exact sub_none hs (hc.d b cs hb)
theorem subF_frzAll {M' : Nat → Option Chunk} {N' : Nat} (hc : (Hp.mk F M' N').wf) : subF F (frzAll F M' N) := fun b cs hb => by
  simp only [frzAll]
  split
  · have : M' b = none := hc.d b cs hb
    rw [this]; exact hb
  · exact hb
theorem sR.frz {M' : Nat → Option Chunk} {N' : Nat} (hc : (Hp.mk F M' N').wf) {sz m : Nat} {v : Value} {cells : List Value} (h : sR F M' sz v m cells) (hb : ∀ b, v.ownBlock = some b → N ≤ b ∨ M' b = none) : sF (frzAll F M' N) sz v m cells := by
  refine ⟨h.1, h.2.imp id fun ⟨b, o, c, cs, h1, h2, h3, h4⟩ => ⟨b, o, c, cs, h1, h2, ?_, h4⟩⟩
  rcases h3 with h3 | ⟨e, tot, he⟩
  · exact subF_frzAll hc b cs h3
  · rcases hb b (by rw [h1]; rfl) with hl | hl
    · simp only [frzAll, if_pos hl, he]
    · rw [hl] at he; cases he
theorem forget_ne (M : Nat → Option Chunk) {v : Value} {k : Nat} (h : v.ownBlock ≠ some k) : forget M v k = M k := by
  unfold forget
  cases ho : v.ownBlock with
  | none => rfl
  | some q => exact upd_ne _ _ (fun e => h (by rw [ho, e]))
/-- What is cut out of a row. -/
theorem splice_at (A B C D : List Value) (h : B.length = C.length) : splice (A ++ B ++ D) A.length C = A ++ C ++ D := by
  unfold splice
  have e1 : List.take A.length (A ++ B ++ D) = A := by rw [List.append_assoc]; exact List.take_left
  have e2 : List.drop (A.length + C.length) (A ++ B ++ D) = D := by rw [← h, ← List.length_append]; exact List.drop_left
  rw [e1, e2]
end Go.Proofs.YthpacapdaembpaaDoor.K
