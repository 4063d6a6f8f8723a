import Derived.Test.YthpacapdaembpaaDoorZ4
import Derived.Test.YthpacapdaembpaaDoorProg
import Derived.Test.YthpacapdaembpaaDoorZ1
import Derived.Test.YthpacapdaembpaaDoorZ3
open Go Go.RowKit Go.Proofs.YthpacapdaembpaaDoor.K Go.Proofs.YthpacapdaembpaaDoor.T
set_option linter.unusedVariables false
set_option linter.unusedSimpArgs false
namespace Go.Proofs.YthpacapdaembpaaDoor.A
variable {F F' : Nat → Option (List Value)} {M M' : Nat → Option Chunk} {N N' : Nat} {K : Kont} {E : PanK}
/-- May it go from a level to another one? -/
def lvs : List Dm → List Int → List Int → Bool
  | d :: l, a :: x, b :: y => decide (¬ (a < 0 ∨ b < a ∨ b ≥ d.2.length + 2)) && lvs l x y
  | _, _, _ => true
def levF (l : List Dm) (a b : List Int) : Bool := decide (a.length = l.length ∧ b.length = l.length) && lvs l a b
theorem lvs_at {l : List Dm} {a b : List Int} {i : Nat} (h : i < l.length) (ha : i < a.length) (hb : i < b.length) : lvs (l.drop i) (a.drop i) (b.drop i) = (decide (¬ (a[i] < 0 ∨ b[i] < a[i] ∨ b[i] ≥ l[i].2.length + 2)) && lvs (l.drop (i + 1)) (a.drop (i + 1)) (b.drop (i + 1))) := by
  rw [List.drop_eq_getElem_cons h, List.drop_eq_getElem_cons ha, List.drop_eq_getElem_cons hb]
  rfl
/-- table.goes -/
theorem goes_c {u va vb : Value} {l : List Dm} {a b : List Int} (hu : dimsD F u l) (hl : l.length ≤ 140737488351232) (ha : sF F 1 va a.length (ic a)) (hb : sF F 1 vb b.length (ic b)) (k : ∀ N', N ≤ N' → (Hp.mk F M N').wf → K (.bool (levF l a b)) ⟨F, M, N'⟩) :
    callv Tryd.prog (.func (.func 58) #[] #[]) #[u, va, vb] K E ⟨F, M, N⟩ := by
  refine callv_of_text mixed Tryd.func58 (by kernel_rfl) (t58 _ E _ _ _) (fun hw => ?_)
  have hm : clean M N := hw.m
  have hlu : lenV u = some (.int .i64 (l.length : Nat)) := by obtain ⟨a, c, rfl⟩ := hu.form; rfl
  have hla : lenV va = some (.int .i64 (a.length : Nat)) := by obtain ⟨a, c, rfl, _⟩ := ha.form; rfl
  have hlb : lenV vb = some (.int .i64 (b.length : Nat)) := by obtain ⟨a, c, rfl, _⟩ := hb.form; rfl
  have fin0 : ∀ v', v' = levF l a b → ∀ N', N ≤ N' → ∀ h', h' = (⟨F, M, N'⟩ : Hp) → h'.wf → ∃ h'', h'.wk h'' ∧ (h''.wf → K (.bool v') h'') := fun v' e N' hN h' e' hc => by
    subst e; subst e'
    exact ⟨_, wk_refl hc, fun hw' => k _ hN hw'⟩
  unfold levF at fin0
  try simp only [hla, hlu]
  try simp only [gdTT, gdFF, gdTF, gdFT, pvS, pickT, pickF, faP, lenS, capS, nilP, exA, exB, exC, notB, cndT, cndF, Bool.not_true, Bool.not_false, Nat.zero_add, Nat.add_zero]
  refine neq_r (fun h1 => ?_) (fun h1 => ?_)
  · try simp only [gdTT, gdFF, gdTF, gdFT, pvS, pickT, pickF, faP, lenS, capS, nilP, exA, exB, exC, notB, cndT, cndF, Bool.not_true, Bool.not_false, Nat.zero_add, Nat.add_zero]
    exact fin0 _ (by rw [decide_eq_false (by omega)]; rfl) _ (Nat.le_refl _) _ rfl
  try simp only [gdTT, gdFF, gdTF, gdFT, pvS, pickT, pickF, faP, lenS, capS, nilP, exA, exB, exC, notB, cndT, cndF, Bool.not_true, Bool.not_false, Nat.zero_add, Nat.add_zero]
  try simp only [hlb, hlu]
  try simp only [gdTT, gdFF, gdTF, gdFT, pvS, pickT, pickF, faP, lenS, capS, nilP, exA, exB, exC, notB, cndT, cndF, Bool.not_true, Bool.not_false, Nat.zero_add, Nat.add_zero]
  refine neq_r (fun h2 => ?_) (fun h2 => ?_)
  · try simp only [gdTT, gdFF, gdTF, gdFT, pvS, pickT, pickF, faP, lenS, capS, nilP, exA, exB, exC, notB, cndT, cndF, Bool.not_true, Bool.not_false, Nat.zero_add, Nat.add_zero]
    exact fin0 _ (by rw [decide_eq_false (by omega)]; rfl) _ (Nat.le_refl _) _ rfl
  have e3 : levF l a b = lvs l a b := by unfold levF; rw [decide_eq_true ⟨by omega, by omega⟩, Bool.true_and]
  rw [e3] at k
  clear fin0
  try simp only [gdTT, gdFF, gdTF, gdFT, pvS, pickT, pickF, faP, lenS, capS, nilP, exA, exB, exC, notB, cndT, cndF, Bool.not_true, Bool.not_false, Nat.zero_add, Nat.add_zero]
  obtain ⟨rows, hu1, hu2⟩ := hu
  try simp only [hlu]
  try simp only [gdTT, gdFF, gdTF, gdFT, pvS, pickT, pickF, faP, lenS, capS, nilP, exA, exB, exC, notB, cndT, cndF, Bool.not_true, Bool.not_false, Nat.zero_add, Nat.add_zero]
  refine l58_1_1_0_1_0_0 (σ := Nat) (fun i => .int .i64 (i : Nat)) (fun i h => ∃ N', h = ⟨F, M, N'⟩ ∧ N ≤ N' ∧ i ≤ l.length ∧ lvs l a b = lvs (l.drop i) (a.drop i) (b.drop i)) (fun i => l.length - i) 0 rfl
    (fun hw1 => ⟨_, wk_refl hw1, N, rfl, Nat.le_refl _, Nat.zero_le _, rfl⟩) (fun k1 i j h1' hI hw1 next => ?_)
  obtain ⟨N1, rfl, hN1, hi, he⟩ := hI
  refine lss_r (fun hlt => ?_) (fun hge => ?_)
  · have h3 : i < l.length := by omega
    have h4 : i < a.length := by omega
    have h5 : i < b.length := by omega
    rw [lvs_at h3 h4 h5] at he
    try simp only [gdTT, gdFF, gdTF, gdFT, pvS, pickT, pickF, faP, lenS, capS, nilP, exA, exB, exC, notB, cndT, cndF, Bool.not_true, Bool.not_false, Nat.zero_add, Nat.add_zero]
    refine row_r hu1 hu2 (by decide) h3 fun p r _ hR hr2 hr1 => ?_
    have hR' := hR
    obtain ⟨kv, rfl, hkv, hkl⟩ := hR
    refine nw_r (fun b1 hb1 => ?_)
    refine stM (cs' := [.int .i64 l[i].1, kv]) ?_ (upd_same _ _ _) rfl rfl hr1
    rw [upd_upd]
    have fin : ∀ v', v' = lvs l a b → ∀ N', b1 + 1 ≤ N' → ∀ h', h' = (⟨F, upd M b1 (some (.cells 51 [.int .i64 l[i].1, kv] 2)), N'⟩ : Hp) → h'.wf → ∃ h'', h'.wk h'' ∧ (h''.wf → K (.bool v') h'') := fun v' e N' hN h' e' hc => by
      subst e; subst e'
      exact ⟨⟨F, M, N'⟩, wk_drop hc (subM_drop (subM_refl _) (hm _ (by omega))), fun hw' => k _ (by omega) hw'⟩
    refine ixn_r ha h4 fun p => ?_
    refine lss_r (fun h6 => ?_) (fun h6 => ?_)
    · try simp only [gdTT, gdFF, gdTF, gdFT, pvS, pickT, pickF, faP, lenS, capS, nilP, exA, exB, exC, notB, cndT, cndF, Bool.not_true, Bool.not_false, Nat.zero_add, Nat.add_zero]
      refine ⟨fun h => by simp [isB] at h, ?_⟩
      exact fin _ (by rw [he, decide_eq_false (by omega)]; rfl) _ (Nat.le_refl _) _ rfl
    try simp only [gdTT, gdFF, gdTF, gdFT, pvS, pickT, pickF, faP, lenS, capS, nilP, exA, exB, exC, notB, cndT, cndF, Bool.not_true, Bool.not_false, Nat.zero_add, Nat.add_zero]
    refine ixn_r hb h5 fun p => ixn_r ha h4 fun p => ?_
    refine lss_r (fun h7 => ?_) (fun h7 => ?_)
    · try simp only [gdTT, gdFF, gdTF, gdFT, pvS, pickT, pickF, faP, lenS, capS, nilP, exA, exB, exC, notB, cndT, cndF, Bool.not_true, Bool.not_false, Nat.zero_add, Nat.add_zero]
      refine ⟨fun h => by simp [isB] at h, ?_⟩
      exact fin _ (by rw [he, decide_eq_false (by omega)]; rfl) _ (Nat.le_refl _) _ rfl
    try simp only [gdTT, gdFF, gdTF, gdFT, pvS, pickT, pickF, faP, lenS, capS, nilP, exA, exB, exC, notB, cndT, cndF, Bool.not_true, Bool.not_false, Nat.zero_add, Nat.add_zero]
    obtain ⟨bb, bo, bc, bcs, hvb, hbF, hbx⟩ := ints_at hb h5
    subst hvb
    refine iaN_r h5 (ld_r (ldV_c (row_F hbF) hbx) ?_)
    refine ldMa (vs := [.int .i64 l[i].1, kv]) ?_ (upd_same _ _ _)
    refine levels_c hR' (fun N2 hN2 hw2 => ?_)
    refine ⟨fun _ => ldV_c (row_F hbF) hbx, ?_⟩
    refine geq_r (fun h8 => ?_) (fun h8 => ?_)
    · try simp only [gdTT, gdFF, gdTF, gdFT, pvS, pickT, pickF, faP, lenS, capS, nilP, exA, exB, exC, notB, cndT, cndF, Bool.not_true, Bool.not_false, Nat.zero_add, Nat.add_zero]
      exact fin _ (by rw [he, decide_eq_false (by omega)]; rfl) _ hN2 _ rfl
    try simp only [gdTT, gdFF, gdTF, gdFT, pvS, pickT, pickF, faP, lenS, capS, nilP, exA, exB, exC, notB, cndT, cndF, Bool.not_true, Bool.not_false, Nat.zero_add, Nat.add_zero]
    refine inc_r (by omega) ?_
    exact next (i + 1) _ _ (by omega) (fun hw3 => ⟨_, wk_drop hw3 (subM_drop (subM_refl M) (hm _ (by omega))), N2, rfl, by omega, h3, by rw [he, decide_eq_true (by omega)]; rfl⟩)
  · try simp only [gdTT, gdFF, gdTF, gdFT, pvS, pickT, pickF, faP, lenS, capS, nilP, exA, exB, exC, notB, cndT, cndF, Bool.not_true, Bool.not_false, Nat.zero_add, Nat.add_zero]
    rw [t58_1_1_1]
    rw [show lvs l a b = true by rw [he, List.drop_eq_nil_of_le (show l.length ≤ i by omega)]; rfl] at k
    exact fun hc => ⟨_, wk_refl hc, fun hw' => k _ hN1 hw'⟩
/-- levels, of the reference -/
theorem rgoes_c {u va vb : Value} {l : List Dm} {a b : List Int} (hu : dimsD F u l) (hl : l.length ≤ 140737488351232) (ha : sF F 1 va a.length (ic a)) (hb : sF F 1 vb b.length (ic b)) (k : ∀ N', N ≤ N' → (Hp.mk F M N').wf → K (.bool (levF l a b)) ⟨F, M, N'⟩) :
    callv Tryd.prog (.func (.func 62) #[] #[]) #[u, va, vb] K E ⟨F, M, N⟩ := by
  refine callv_of_text mixed Tryd.func62 (by kernel_rfl) (t62 _ E _ _ _) (fun hw => ?_)
  have hm : clean M N := hw.m
  have hlu : lenV u = some (.int .i64 (l.length : Nat)) := by obtain ⟨a, c, rfl⟩ := hu.form; rfl
  have hla : lenV va = some (.int .i64 (a.length : Nat)) := by obtain ⟨a, c, rfl, _⟩ := ha.form; rfl
  have hlb : lenV vb = some (.int .i64 (b.length : Nat)) := by obtain ⟨a, c, rfl, _⟩ := hb.form; rfl
  have fin : ∀ v', v' = levF l a b → ∀ N', N ≤ N' → ∀ h', h' = (⟨F, M, N'⟩ : Hp) → h'.wf → ∃ h'', h'.wk h'' ∧ (h''.wf → K (.bool v') h'') := fun v' e N' hN h' e' hc => by
    subst e; subst e'
    exact ⟨_, wk_refl hc, fun hw' => k _ hN hw'⟩
  unfold levF at fin
  try simp only [hla, hlu]
  try simp only [gdTT, gdFF, gdTF, gdFT, pvS, pickT, pickF, faP, lenS, capS, nilP, exA, exB, exC, notB, cndT, cndF, Bool.not_true, Bool.not_false, Nat.zero_add, Nat.add_zero]
  refine neq_r (fun h1 => ?_) (fun h1 => ?_)
  · try simp only [gdTT, gdFF, gdTF, gdFT, pvS, pickT, pickF, faP, lenS, capS, nilP, exA, exB, exC, notB, cndT, cndF, Bool.not_true, Bool.not_false, Nat.zero_add, Nat.add_zero]
    exact fin _ (by rw [decide_eq_false (by omega)]; rfl) _ (Nat.le_refl _) _ rfl
  try simp only [gdTT, gdFF, gdTF, gdFT, pvS, pickT, pickF, faP, lenS, capS, nilP, exA, exB, exC, notB, cndT, cndF, Bool.not_true, Bool.not_false, Nat.zero_add, Nat.add_zero]
  try simp only [hlb, hlu]
  try simp only [gdTT, gdFF, gdTF, gdFT, pvS, pickT, pickF, faP, lenS, capS, nilP, exA, exB, exC, notB, cndT, cndF, Bool.not_true, Bool.not_false, Nat.zero_add, Nat.add_zero]
  refine neq_r (fun h2 => ?_) (fun h2 => ?_)
  · try simp only [gdTT, gdFF, gdTF, gdFT, pvS, pickT, pickF, faP, lenS, capS, nilP, exA, exB, exC, notB, cndT, cndF, Bool.not_true, Bool.not_false, Nat.zero_add, Nat.add_zero]
    exact fin _ (by rw [decide_eq_false (by omega)]; rfl) _ (Nat.le_refl _) _ rfl
  rw [decide_eq_true ⟨by omega, by omega⟩, Bool.true_and] at fin
  try simp only [gdTT, gdFF, gdTF, gdFT, pvS, pickT, pickF, faP, lenS, capS, nilP, exA, exB, exC, notB, cndT, cndF, Bool.not_true, Bool.not_false, Nat.zero_add, Nat.add_zero]
  obtain ⟨rows, hu1, hu2⟩ := hu
  refine l62_1_1_0_1_0_0 (σ := Nat) (fun i => .int .i64 (i : Nat)) (fun i h => ∃ N', h = ⟨F, M, N'⟩ ∧ N ≤ N' ∧ i ≤ l.length ∧ lvs l a b = lvs (l.drop i) (a.drop i) (b.drop i)) (fun i => l.length - i) 0 rfl
    (fun hw1 => ⟨_, wk_refl hw1, N, rfl, Nat.le_refl _, Nat.zero_le _, rfl⟩) (fun k1 i j h1' hI hw1 next => ?_)
  obtain ⟨N1, rfl, hN1, hi, he⟩ := hI
  try simp only [hlu]
  try simp only [gdTT, gdFF, gdTF, gdFT, pvS, pickT, pickF, faP, lenS, capS, nilP, exA, exB, exC, notB, cndT, cndF, Bool.not_true, Bool.not_false, Nat.zero_add, Nat.add_zero]
  refine lss_r (fun hlt => ?_) (fun hge => ?_)
  · have h3 : i < l.length := by omega
    have h4 : i < a.length := by omega
    have h5 : i < b.length := by omega
    rw [lvs_at h3 h4 h5] at he
    try simp only [gdTT, gdFF, gdTF, gdFT, pvS, pickT, pickF, faP, lenS, capS, nilP, exA, exB, exC, notB, cndT, cndF, Bool.not_true, Bool.not_false, Nat.zero_add, Nat.add_zero]
    refine ixn_r ha h4 fun p => ?_
    refine lss_r (fun h6 => ?_) (fun h6 => ?_)
    · try simp only [gdTT, gdFF, gdTF, gdFT, pvS, pickT, pickF, faP, lenS, capS, nilP, exA, exB, exC, notB, cndT, cndF, Bool.not_true, Bool.not_false, Nat.zero_add, Nat.add_zero]
      refine ⟨fun h => by simp [isB] at h, ?_⟩
      exact fin _ (by rw [he, decide_eq_false (by omega)]; rfl) _ hN1 _ rfl
    try simp only [gdTT, gdFF, gdTF, gdFT, pvS, pickT, pickF, faP, lenS, capS, nilP, exA, exB, exC, notB, cndT, cndF, Bool.not_true, Bool.not_false, Nat.zero_add, Nat.add_zero]
    refine ixn_r hb h5 fun p => ixn_r ha h4 fun p => ?_
    refine lss_r (fun h7 => ?_) (fun h7 => ?_)
    · try simp only [gdTT, gdFF, gdTF, gdFT, pvS, pickT, pickF, faP, lenS, capS, nilP, exA, exB, exC, notB, cndT, cndF, Bool.not_true, Bool.not_false, Nat.zero_add, Nat.add_zero]
      refine ⟨fun h => by simp [isB] at h, ?_⟩
      exact fin _ (by rw [he, decide_eq_false (by omega)]; rfl) _ hN1 _ rfl
    try simp only [gdTT, gdFF, gdTF, gdFT, pvS, pickT, pickF, faP, lenS, capS, nilP, exA, exB, exC, notB, cndT, cndF, Bool.not_true, Bool.not_false, Nat.zero_add, Nat.add_zero]
    obtain ⟨bb, bo, bc, bcs, hvb, hbF, hbx⟩ := ints_at hb h5
    subst hvb
    refine iaN_r h5 (ld_r (ldV_c (row_F hbF) hbx) ?_)
    refine row_r hu1 hu2 (by decide) h3 fun p r _ hR hr2 hr1 => ?_
    refine rlevels_c hR (fun N2 hN2 hw2 => ?_)
    refine ⟨fun _ => ldV_c (row_F hbF) hbx, ?_⟩
    refine geq_r (fun h8 => ?_) (fun h8 => ?_)
    · try simp only [gdTT, gdFF, gdTF, gdFT, pvS, pickT, pickF, faP, lenS, capS, nilP, exA, exB, exC, notB, cndT, cndF, Bool.not_true, Bool.not_false, Nat.zero_add, Nat.add_zero]
      exact fin _ (by rw [he, decide_eq_false (by omega)]; rfl) _ (by omega) _ rfl
    try simp only [gdTT, gdFF, gdTF, gdFT, pvS, pickT, pickF, faP, lenS, capS, nilP, exA, exB, exC, notB, cndT, cndF, Bool.not_true, Bool.not_false, Nat.zero_add, Nat.add_zero]
    refine inc_r (by omega) ?_
    exact next (i + 1) _ _ (by omega) (fun hw3 => ⟨_, wk_refl hw3, N2, rfl, by omega, h3, by rw [he, decide_eq_true (by omega)]; rfl⟩)
  · try simp only [gdTT, gdFF, gdTF, gdFT, pvS, pickT, pickF, faP, lenS, capS, nilP, exA, exB, exC, notB, cndT, cndF, Bool.not_true, Bool.not_false, Nat.zero_add, Nat.add_zero]
    rw [t62_1_1_1]
    exact fin _ (by rw [he, List.drop_eq_nil_of_le (show l.length ≤ i by omega)]; rfl) _ hN1 _ rfl
end Go.Proofs.YthpacapdaembpaaDoor.A
open Go Go.RowKit Go.Proofs.YthpacapdaembpaaDoor.K Go.Proofs.YthpacapdaembpaaDoor.T
set_option linter.unusedVariables false
set_option linter.unusedSimpArgs false
namespace Go.Proofs.YthpacapdaembpaaDoor.A
variable {F F' : Nat → Option (List Value)} {M M' : Nat → Option Chunk} {N N' : Nat} {K : Kont} {E : PanK}
/-- Why a table may not be rolled. -/
def rollE (l : List Dm) (t : List Rw) (a b : List Int) : Nat := if okDims l = false then 30 else if levF l a b = false then 40 else if soundT l.length t = false then 1 else 0
def rollRows (l : List Dm) (t : List Rw) (a b : List Int) : List Rw := t.map fun r => (atF l a b r.1, r.2)
def rollT (l : List Dm) (t : List Rw) (a b : List Int) : List Rw := if rollE l t a b = 0 then tab (rollRows l t a b) else []
theorem atF_len (l : List Dm) (a b c : List Int) : (atF l a b c).length ≤ l.length := by unfold atF; split; rw [atL_len]; omega; simp
theorem atF_rng {l : List Dm} {a b c : List Int} (hc : ∀ x ∈ c, i64 x) : ∀ x ∈ atF l a b c, i64 x := by
  unfold atF
  split
  · intro x hx
    obtain ⟨i, hi, rfl⟩ := List.mem_iff_getElem.1 hx
    simp only [atL, List.getElem_mapIdx]
    refine upF_rng ?_
    rw [List.getD_eq_getElem?_getD]
    cases h : c[i]? with
    | none => exact ⟨by simp, by simp⟩
    | some x => exact hc _ (List.mem_of_getElem? h)
  · intro x hx; cases hx
theorem okDims_len {l : List Dm} (h : okDims l = true) : l.length ≤ 4 := by unfold okDims at h; rw [Bool.and_eq_true] at h; exact (of_decide_eq_true h.1).2
/-- table.Roll$1 -/
theorem rollk_c {b1 b2 b3 : Nat} {u va vb kv : Value} {l : List Dm} {a b c : List Int} {e1 e2 e3 : TypeId} (h1 : M b1 = some (.cells e1 [u] 1)) (h2 : M b2 = some (.cells e2 [va] 1)) (h3 : M b3 = some (.cells e3 [vb] 1)) (hu : dimsD F u l) (hl : l.length ≤ 140737488351232) (ha : sF F 1 va a.length (ic a)) (hb : sF F 1 vb b.length (ic b)) (hc : sF F 1 kv c.length (ic c)) (hbi : ∀ x ∈ b, i64 x) (hci : ∀ x ∈ c, i64 x)
    (k : ∀ v' F' N', (Hp.mk F' M N').wf → subF F F' → N ≤ N' → sF F' 1 v' (atF l a b c).length (ic (atF l a b c)) → K v' ⟨F', M, N'⟩) :
    callv Tryd.prog (.func (.func 59) #[] #[.pointer (some ⟨b1, 0, none⟩), .pointer (some ⟨b2, 0, none⟩), .pointer (some ⟨b3, 0, none⟩)]) #[kv] K E ⟨F, M, N⟩ := by
  refine callv_of_text mixed Tryd.func59 (by kernel_rfl) (t59 _ E _ _ _ _) (fun hw => ?_)
  refine ldM (v := u) (ldM (v := va) (ldM (v := vb) ?_))
  refine at_c hu hl ha hb hc hbi hci (fun v' F' N' hw' hF hN h4 hc' => ⟨_, wk_refl hc', fun hw'' => k v' F' N' hw'' hF hN h4⟩)
/-- table.Roll -/
theorem troll_c {u vt va vb : Value} {l : List Dm} {t : List Rw} {a b : List Int} (hu : dimsD F u l) (hl : l.length ≤ 140737488351232) (ht : tblD F vt t) (htl : t.length ≤ 1000000000) (ha : sF F 1 va a.length (ic a)) (hb : sF F 1 vb b.length (ic b)) (hbi : ∀ x ∈ b, i64 x) (hti : ∀ r ∈ t, ∀ x ∈ r.1, i64 x)
    (k : ∀ v' F' N', (Hp.mk F' M N').wf → subF F F' → N ≤ N' → tblD F' v' (rollT l t a b) → K (.tuple #[v', .int .u16 ((rollE l t a b : Nat) : Int)]) ⟨F', M, N'⟩) :
    callv Tryd.prog (.func (.func 31) #[] #[]) #[u, vt, va, vb] K E ⟨F, M, N⟩ := by
  refine callv_of_text mixed Tryd.func31 (by kernel_rfl) (t31 _ E _ _ _ _) (fun hw => ?_)
  have hm : clean M N := hw.m
  have hlu : lenV u = some (.int .i64 (l.length : Nat)) := by obtain ⟨a, c, rfl⟩ := hu.form; rfl
  obtain ⟨ua, uc, hup⟩ := hu.form
  obtain ⟨aa, ac, hap, _⟩ := ha.form
  obtain ⟨ba, bc, hbp, _⟩ := hb.form
  refine nw_r (cs := [u]) (fun b1 hb1 => ?_) (by rw [hup]; rfl)
  refine nw_r (cs := [va]) (fun b2 hb2 => ?_) (by rw [hap]; rfl)
  refine nw_r (cs := [vb]) (fun b3 hb3 => ?_) (by rw [hbp]; rfl)
  generalize hM3 : upd (upd (upd M b1 _) b2 _) b3 _ = M3
  have g1 : M3 b1 = some (.cells 28 [u] 1) := by rw [← hM3]; exact (upd_ne _ _ (by omega)).trans ((upd_ne _ _ (by omega)).trans (upd_same _ _ _))
  have g2 : M3 b2 = some (.cells 37 [va] 1) := by rw [← hM3]; exact (upd_ne _ _ (by omega)).trans (upd_same _ _ _)
  have g3 : M3 b3 = some (.cells 37 [vb] 1) := by rw [← hM3]; exact upd_same _ _ _
  have hMM : ∀ q, q < N → M3 q = M q := fun q hq => by rw [← hM3]; exact (upd_ne _ _ (by omega)).trans ((upd_ne _ _ (by omega)).trans (upd_ne _ _ (by omega)))
  have bad : ∀ e, rollE l t a b = e → e ≠ 0 → ∀ N', N ≤ N' → ∀ h', h' = (⟨F, M3, N'⟩ : Hp) → h'.wf → ∃ h'', h'.wk h'' ∧ (h''.wf → K (.tuple #[.slice none 0 0, .int .u16 (e : Nat)]) h'') := fun e h1 h2 N' hN h' e' hc => by
    subst e'
    refine ⟨_, frz_wf hm hMM hc, fun hw' => ?_⟩
    have e2 : rollT l t a b = [] := by unfold rollT; rw [if_neg (by rw [h1]; exact h2)]
    have := k (.slice none 0 0) _ N' hw' (subF_frzAll hc) hN (by rw [e2]; exact tblD.nil)
    rw [h1] at this; exact this
  refine ldM (v := u) ?_ g1
  refine dsound_c hu hl (fun N1 hN1 hw1 => ?_)
  cases hok : okDims l
  · try simp only [gdTT, gdFF, gdTF, gdFT, pvS, pickT, pickF, faP, lenS, capS, nilP, exA, exB, exC, notB, cndT, cndF, Bool.not_true, Bool.not_false, Nat.zero_add, Nat.add_zero]
    exact bad 30 (by unfold rollE; rw [hok]; rfl) (by decide) _ (by omega) _ rfl
  try simp only [gdTT, gdFF, gdTF, gdFT, pvS, pickT, pickF, faP, lenS, capS, nilP, exA, exB, exC, notB, cndT, cndF, Bool.not_true, Bool.not_false, Nat.zero_add, Nat.add_zero]
  refine ldM (v := u) (ldM (v := va) (ldM (v := vb) ?_ g3) g2) g1
  refine goes_c hu hl ha hb (fun N2 hN2 hw2 => ?_)
  cases hlv : levF l a b
  · try simp only [gdTT, gdFF, gdTF, gdFT, pvS, pickT, pickF, faP, lenS, capS, nilP, exA, exB, exC, notB, cndT, cndF, Bool.not_true, Bool.not_false, Nat.zero_add, Nat.add_zero]
    exact bad 40 (by unfold rollE; rw [hok, hlv]; rfl) (by decide) _ (by omega) _ rfl
  try simp only [gdTT, gdFF, gdTF, gdFT, pvS, pickT, pickF, faP, lenS, capS, nilP, exA, exB, exC, notB, cndT, cndF, Bool.not_true, Bool.not_false, Nat.zero_add, Nat.add_zero]
  refine ldM (v := u) ?_ g1
  simp only [hlu]
  try simp only [gdTT, gdFF, gdTF, gdFT, pvS, pickT, pickF, faP, lenS, capS, nilP, exA, exB, exC, notB, cndT, cndF, Bool.not_true, Bool.not_false, Nat.zero_add, Nat.add_zero]
  refine tsound_c ht (by omega) (fun N3 hN3 hw3 => ?_)
  cases hst : soundT l.length t
  · try simp only [gdTT, gdFF, gdTF, gdFT, pvS, pickT, pickF, faP, lenS, capS, nilP, exA, exB, exC, notB, cndT, cndF, Bool.not_true, Bool.not_false, Nat.zero_add, Nat.add_zero]
    exact bad 1 (by unfold rollE; rw [hok, hlv, hst]; rfl) (by decide) _ (by omega) _ rfl
  try simp only [gdTT, gdFF, gdTF, gdFT, pvS, pickT, pickF, faP, lenS, capS, nilP, exA, exB, exC, notB, cndT, cndF, Bool.not_true, Bool.not_false, Nat.zero_add, Nat.add_zero]
  have e0 : rollE l t a b = 0 := by unfold rollE; rw [hok, hlv, hst]; rfl
  have e1 : rollT l t a b = tab (rollRows l t a b) := by unfold rollT; rw [if_pos e0]
  rw [e0, e1] at k
  have hl4 := okDims_len hok
  refine tof_c (f := fun q => atF l a b q) ht htl (fun r hr => ⟨by have := atF_len l a b r.1; omega, atF_rng (hti r hr)⟩) (fun F1 M1 N1' r kv hr hF1 hM1 hN1' hm1 hkv hkl hK => ?_) (fun v' F' N' hw' hF hN ht' => ?_)
  · exact rollk_c ((hM1 b1 (by omega)).trans g1) ((hM1 b2 (by omega)).trans g2) ((hM1 b3 (by omega)).trans g3) (hu.mono hF1) hl (ha.mono hF1) (hb.mono hF1) hkv hbi (hti r hr) hK
  · refine fun hc => ⟨_, frz_wf hm hMM hc, fun hw'' => k v' _ N' hw'' (hF.trans (subF_frzAll hc)) (by omega) (ht'.mono (subF_frzAll hc))⟩
/-- Roll, of the reference -/
theorem rroll_c {u vt va vb : Value} {l : List Dm} {t : List Rw} {a b : List Int} (hu : dimsD F u l) (hl : l.length ≤ 140737488351232) (ht : tblD F vt t) (htl : t.length ≤ 1000000000) (ha : sF F 1 va a.length (ic a)) (hb : sF F 1 vb b.length (ic b)) (hbi : ∀ x ∈ b, i64 x) (hti : ∀ r ∈ t, ∀ x ∈ r.1, i64 x)
    (k : ∀ v' F' N', (Hp.mk F' M N').wf → subF F F' → N ≤ N' → tblD F' v' (rollT l t a b) → K (.tuple #[v', .int .i64 ((rollE l t a b : Nat) : Int)]) ⟨F', M, N'⟩) :
    callv Tryd.prog (.func (.func 32) #[] #[]) #[u, vt, va, vb] K E ⟨F, M, N⟩ := by
  refine callv_of_text mixed Tryd.func32 (by kernel_rfl) (t32 _ E _ _ _ _) (fun hw => ?_)
  have hm : clean M N := hw.m
  have hlu : lenV u = some (.int .i64 (l.length : Nat)) := by obtain ⟨a, c, rfl⟩ := hu.form; rfl
  have bad : ∀ e, rollE l t a b = e → e ≠ 0 → ∀ N', N ≤ N' → ∀ h', h' = (⟨F, M, N'⟩ : Hp) → h'.wf → ∃ h'', h'.wk h'' ∧ (h''.wf → K (.tuple #[.slice none 0 0, .int .i64 (e : Nat)]) h'') := fun e h1 h2 N' hN h' e' hc => by
    subst e'
    refine ⟨_, wk_refl hc, fun hw' => ?_⟩
    have e2 : rollT l t a b = [] := by unfold rollT; rw [if_neg (by rw [h1]; exact h2)]
    have := k (.slice none 0 0) _ N' hw' (subF.refl _) hN (by rw [e2]; exact tblD.nil)
    rw [h1] at this; exact this
  refine rdsound_c hu hl (fun N1 hN1 hw1 => ?_)
  cases hok : okDims l
  · try simp only [gdTT, gdFF, gdTF, gdFT, pvS, pickT, pickF, faP, lenS, capS, nilP, exA, exB, exC, notB, cndT, cndF, Bool.not_true, Bool.not_false, Nat.zero_add, Nat.add_zero]
    exact bad 30 (by unfold rollE; rw [hok]; rfl) (by decide) _ (by omega) _ rfl
  try simp only [gdTT, gdFF, gdTF, gdFT, pvS, pickT, pickF, faP, lenS, capS, nilP, exA, exB, exC, notB, cndT, cndF, Bool.not_true, Bool.not_false, Nat.zero_add, Nat.add_zero]
  refine rgoes_c hu hl ha hb (fun N2 hN2 hw2 => ?_)
  cases hlv : levF l a b
  · try simp only [gdTT, gdFF, gdTF, gdFT, pvS, pickT, pickF, faP, lenS, capS, nilP, exA, exB, exC, notB, cndT, cndF, Bool.not_true, Bool.not_false, Nat.zero_add, Nat.add_zero]
    exact bad 40 (by unfold rollE; rw [hok, hlv]; rfl) (by decide) _ (by omega) _ rfl
  try simp only [gdTT, gdFF, gdTF, gdFT, pvS, pickT, pickF, faP, lenS, capS, nilP, exA, exB, exC, notB, cndT, cndF, Bool.not_true, Bool.not_false, Nat.zero_add, Nat.add_zero]
  simp only [hlu]
  try simp only [gdTT, gdFF, gdTF, gdFT, pvS, pickT, pickF, faP, lenS, capS, nilP, exA, exB, exC, notB, cndT, cndF, Bool.not_true, Bool.not_false, Nat.zero_add, Nat.add_zero]
  refine rtsound_c ht (by omega) (fun N3 hN3 hw3 => ?_)
  cases hst : soundT l.length t
  · try simp only [gdTT, gdFF, gdTF, gdFT, pvS, pickT, pickF, faP, lenS, capS, nilP, exA, exB, exC, notB, cndT, cndF, Bool.not_true, Bool.not_false, Nat.zero_add, Nat.add_zero]
    exact bad 1 (by unfold rollE; rw [hok, hlv, hst]; rfl) (by decide) _ (by omega) _ rfl
  try simp only [gdTT, gdFF, gdTF, gdFT, pvS, pickT, pickF, faP, lenS, capS, nilP, exA, exB, exC, notB, cndT, cndF, Bool.not_true, Bool.not_false, Nat.zero_add, Nat.add_zero]
  have e0 : rollE l t a b = 0 := by unfold rollE; rw [hok, hlv, hst]; rfl
  have e1 : rollT l t a b = tab (rollRows l t a b) := by unfold rollT; rw [if_pos e0]
  rw [e0, e1] at k
  have hl4 := okDims_len hok
  obtain ⟨rows, ht1, ht2⟩ := ht
  have hlt : lenV vt = some (.int .i64 (t.length : Nat)) := by obtain ⟨a, c, rfl, _⟩ := ht1.form; rfl
  refine l32_1_1_1_1_1_0_1_0_0 (σ := Nat × Value) (fun s => s.2) (fun s => .int .i64 (s.1 : Nat)) (fun s h => ∃ F' N', h = ⟨F', M, N'⟩ ∧ subF F F' ∧ N ≤ N' ∧ s.1 ≤ t.length ∧ tblD F' s.2 (tab (rollRows l (t.take s.1) a b))) (fun s => t.length - s.1) (0, .slice none 0 0) rfl rfl
    (fun hw1 => ⟨_, wk_refl hw1, F, N3, rfl, subF.refl _, by omega, Nat.zero_le _, tblD.nil⟩) (fun k1 s j h1' hI hw1 next => ?_)
  obtain ⟨F1, N4, rfl, hF, hN, hi, hts⟩ := hI
  simp only [hlt]
  try simp only [gdTT, gdFF, gdTF, gdFT, pvS, pickT, pickF, faP, lenS, capS, nilP, exA, exB, exC, notB, cndT, cndF, Bool.not_true, Bool.not_false, Nat.zero_add, Nat.add_zero]
  refine lss_r (fun hlt' => ?_) (fun hge => ?_)
  · have h1 : s.1 < t.length := by omega
    try simp only [gdTT, gdFF, gdTF, gdFT, pvS, pickT, pickF, faP, lenS, capS, nilP, exA, exB, exC, notB, cndT, cndF, Bool.not_true, Bool.not_false, Nat.zero_add, Nat.add_zero]
    obtain ⟨bq, o, c, cs, r, rfl, hFb, hrr, ⟨kv, hr, hkv, hkl⟩, hrl, hr1, hle, htk, hj⟩ := row_at (ht1.mono hF) (ht2.mono fun _ _ h => h.mono hF) (by decide) h1
    subst hr
    refine iaN_r h1 ?_
    try simp only [gdTT, gdFF, gdTF, gdFT, pvS, pickT, pickF, faP, lenS, capS, nilP, exA, exB, exC, notB, cndT, cndF, Bool.not_true, Bool.not_false, Nat.zero_add, Nat.add_zero]
    refine ld_r (ldV_c (row_F hFb) (hj 0 (by decide))) ?_
    refine iaN_r h1 ?_
    try simp only [gdTT, gdFF, gdTF, gdFT, pvS, pickT, pickF, faP, lenS, capS, nilP, exA, exB, exC, notB, cndT, cndF, Bool.not_true, Bool.not_false, Nat.zero_add, Nat.add_zero]
    have hcell : (cs.drop (o + s.1 * 5 + 1)).take 4 = t[s.1].2.cs := by
      have e5 := congrArg (List.drop 1) htk
      rw [List.drop_take, List.drop_drop] at e5
      simpa using e5
    refine ld_r (ldV_a (row_F hFb) (by omega) hcell) ?_
    refine rat_c (hu.mono hF) hl (ha.mono hF) (hb.mono hF) hkv hbi (hti _ (List.getElem_mem _)) (fun v2 F2 N5 hw5 hF2 hN5 hv2 => ?_)
    refine ⟨ldV_a (row_F (hF2 _ _ hFb)) (by omega) hcell, ?_⟩
    obtain ⟨va2, vc2, hvf2, _⟩ := hv2.form
    refine pv_r (v := .agg (v2 :: t[s.1].2.cs).toArray) (by rw [hvf2]; kernel_rfl) ?_
    have hln := tab_len (rollRows l (t.take s.1) a b)
    rw [rollRows, List.length_map, List.length_take] at hln
    refine rlay_c (hts.mono hF2) hv2 (by have := atF_len l a b t[s.1].1; omega) (by unfold rollRows; omega) (fun v' F3 N6 hw6 hF3 hN6 ht' => ?_)
    refine inc_r (by omega) ?_
    refine next (s.1 + 1, v') _ _ (by simp only; omega) (fun hw7 => ⟨_, wk_refl hw7, F3, N6, rfl, (hF.trans hF2).trans hF3, by omega, h1, ?_⟩)
    simp only
    have e6 := tab_take (fun r : Rw => (atF l a b r.1, r.2)) t h1
    unfold rollRows at ht' ⊢
    rw [e6]
    exact ht'
  · try simp only [gdTT, gdFF, gdTF, gdFT, pvS, pickT, pickF, faP, lenS, capS, nilP, exA, exB, exC, notB, cndT, cndF, Bool.not_true, Bool.not_false, Nat.zero_add, Nat.add_zero]
    rw [t32_1_1_1_1_1_1]
    rw [List.take_of_length_le (by omega)] at hts
    exact fun hc => ⟨_, wk_refl hc, fun hw' => k _ _ _ hw' hF hN hts⟩
end Go.Proofs.YthpacapdaembpaaDoor.A
open Go Go.RowKit Go.Proofs.YthpacapdaembpaaDoor.K
set_option linter.unusedVariables false
set_option maxRecDepth 100000
namespace Go.Proofs.YthpacapdaembpaaDoor.T
theorem t8 (K : Kont) (E : PanK) (x0 x1 x2 x3 : Value)  : den Tryd.prog (sel (bodyOf Tryd.f8) []) (bodyQ Tryd.prog Tryd.f8.results.toList K E) #[x0, x1, x2, x3, undef, undef, undef, undef, undef, undef, undef, undef, undef, undef, undef, undef, undef, undef, undef, undef, undef, undef, undef, undef, undef, undef, undef, undef, undef, undef, undef, undef, undef, undef, undef, undef, undef, undef, undef, undef, undef, undef, undef, undef, undef, undef, undef, undef, undef, undef, undef, undef, undef, undef, undef, undef, undef, undef, undef, undef, undef, undef, undef, undef, undef, undef, undef, undef, undef, undef, undef, undef, undef, undef] =
  callv Tryd.prog (.func (.func 17) #[] #[]) #[x1, (.slice none 0 0)] (fun t1 =>
  gdK t1 false (fun k => k x0) fun t2 =>
  gdK t1 false (fun k => pv (lenV t2) k) fun t3 =>
  gdK t1 false (fun k => pv (binV .none .gtr t3 (.int .i64 20)) k) fun t4 =>
  pv (pickV t1 (.bool true) t4) fun t5 =>
  gdK t5 false (fun k => k x2) fun t6 =>
  gdK t5 false (fun k => pv (lenV t6) k) fun t7 =>
  gdK t5 false (fun k => pv (binV .none .gtr t7 (.int .i64 20)) k) fun t8 =>
  pv (pickV t5 (.bool true) t8) fun t9 =>
  gdK t9 false (fun k => k x3) fun t10 =>
  gdK t9 false (fun k => pv (lenV t10) k) fun t11 =>
  gdK t9 false (fun k => pv (binV .none .gtr t11 (.int .i64 20)) k) fun t12 =>
  pv (pickV t9 (.bool true) t12) fun t13 =>
  gdK t13 false (fun k => callv Tryd.prog (.func (.func 18) #[] #[]) #[] k E) fun t14 =>
  gdK t13 false (fun k => pv (unV .not t14) k) fun t15 =>
  pv (pickV t13 (.bool true) t15) fun t16 =>
  cnd t16 (
    callv Tryd.prog (.func (.func 18) #[] #[]) #[] (fun t17 =>
    K t17) E) (
    lp (fun k1 => den Tryd.prog (sel (bodyOf Tryd.f8) [1, 1, 0, 1, 0, 0]) (thenD k1 (blk 0 (thenD (den Tryd.prog (sel (bodyOf Tryd.f8) [1, 1, 1]) (bodyQ Tryd.prog Tryd.f8.results.toList K E)) (bodyQ Tryd.prog Tryd.f8.results.toList K E))))) #[x0, x1, x2, x3, undef, undef, undef, undef, (.bool false), (.int .i64 0), undef, undef, undef, undef, x1, t1, t1, t2, t3, t4, t5, t5, t6, t7, t8, t9, t9, t10, t11, t12, t13, t13, t14, t15, t16, undef, undef, undef, undef, undef, undef, undef, undef, undef, undef, undef, undef, undef, undef, undef, undef, undef, undef, undef, undef, undef, undef, undef, undef, undef, undef, undef, undef, undef, undef, undef, undef, undef, undef, undef, undef, undef, undef, undef])) E := by kernel_rfl
def m8_1_1_0_1_0_0 (x0 x1 x2 x3 x4 x5 x6 x7 x10 x11 x12 x13 x14 x15 x16 x17 x18 x19 x20 x21 x22 x23 x24 x25 x26 x27 x28 x29 x30 x31 x32 x33 x34 x35 x49 x50 x51 x52 x53 x54 x55 x56 x57 x58 x59 x60 x61 x62 x63 x64 x65 x66 x67 x68 x69 x70 x71 x72 x73 : Value) (v9 : Value) (j : Nat → Value) : Env := #[x0, x1, x2, x3, x4, x5, x6, x7, (j 8), v9, x10, x11, x12, x13, x14, x15, x16, x17, x18, x19, x20, x21, x22, x23, x24, x25, x26, x27, x28, x29, x30, x31, x32, x33, x34, x35, (j 36), (j 37), (j 38), (j 39), (j 40), (j 41), (j 42), (j 43), (j 44), (j 45), (j 46), (j 47), (j 48), x49, x50, x51, x52, x53, x54, x55, x56, x57, x58, x59, x60, x61, x62, x63, x64, x65, x66, x67, x68, x69, x70, x71, x72, x73]
theorem t8_1_1_0_1_0_0 (K : Kont) (E : PanK) (k1 : Env → Hp → Prop) (x0 x1 x2 x3 x4 x5 x6 x7 x10 x11 x12 x13 x14 x15 x16 x17 x18 x19 x20 x21 x22 x23 x24 x25 x26 x27 x28 x29 x30 x31 x32 x33 x34 x35 x49 x50 x51 x52 x53 x54 x55 x56 x57 x58 x59 x60 x61 x62 x63 x64 x65 x66 x67 x68 x69 x70 x71 x72 x73 v9 : Value) (j : Nat → Value) : den Tryd.prog (sel (bodyOf Tryd.f8) [1, 1, 0, 1, 0, 0]) (thenD k1 (blk 0 (thenD (den Tryd.prog (sel (bodyOf Tryd.f8) [1, 1, 1]) (bodyQ Tryd.prog Tryd.f8.results.toList K E)) (bodyQ Tryd.prog Tryd.f8.results.toList K E)))) (m8_1_1_0_1_0_0 x0 x1 x2 x3 x4 x5 x6 x7 x10 x11 x12 x13 x14 x15 x16 x17 x18 x19 x20 x21 x22 x23 x24 x25 x26 x27 x28 x29 x30 x31 x32 x33 x34 x35 x49 x50 x51 x52 x53 x54 x55 x56 x57 x58 x59 x60 x61 x62 x63 x64 x65 x66 x67 x68 x69 x70 x71 x72 x73 v9 j) =
  pv (lenV x0) fun t1 =>
  pv (binV .none .lss v9 t1) fun t2 =>
  cnd t2 (
    pv (iaV none 2 x0 v9) fun t3 =>
    pv (faV 1 t3) fun t4 =>
    ld false 1 t4 fun t5 =>
    pv (lenV t5) fun t6 =>
    pv (binV .none .gtr t6 (.int .i64 20)) fun t7 =>
    cnd t7 (
      K (.bool true)) (
      pv (binV .none .add v9 (.int .i64 1)) fun t8 =>
      k1 (m8_1_1_0_1_0_0 x0 x1 x2 x3 x4 x5 x6 x7 x10 x11 x12 x13 x14 x15 x16 x17 x18 x19 x20 x21 x22 x23 x24 x25 x26 x27 x28 x29 x30 x31 x32 x33 x34 x35 x49 x50 x51 x52 x53 x54 x55 x56 x57 x58 x59 x60 x61 x62 x63 x64 x65 x66 x67 x68 x69 x70 x71 x72 x73 t8 (jf #[x0, x1, x2, x3, x4, x5, x6, x7, (j 8), t8, x10, x11, x12, x13, x14, x15, x16, x17, x18, x19, x20, x21, x22, x23, x24, x25, x26, x27, x28, x29, x30, x31, x32, x33, x34, x35, v9, x0, t1, t2, v9, t8, x0, v9, t3, t4, t5, t6, t7, x49, x50, x51, x52, x53, x54, x55, x56, x57, x58, x59, x60, x61, x62, x63, x64, x65, x66, x67, x68, x69, x70, x71, x72, x73])))) (
    den Tryd.prog (sel (bodyOf Tryd.f8) [1, 1, 1]) (bodyQ Tryd.prog Tryd.f8.results.toList K E) #[x0, x1, x2, x3, x4, x5, x6, x7, (j 8), v9, x10, x11, x12, x13, x14, x15, x16, x17, x18, x19, x20, x21, x22, x23, x24, x25, x26, x27, x28, x29, x30, x31, x32, x33, x34, x35, v9, x0, t1, t2, (j 40), (j 41), (j 42), (j 43), (j 44), (j 45), (j 46), (j 47), (j 48), x49, x50, x51, x52, x53, x54, x55, x56, x57, x58, x59, x60, x61, x62, x63, x64, x65, x66, x67, x68, x69, x70, x71, x72, x73]) := by kernel_rfl
theorem t8_1_1_1 (K : Kont) (E : PanK) (x0 x1 x2 x3 x4 x5 x6 x7 x8 x9 x10 x11 x12 x13 x14 x15 x16 x17 x18 x19 x20 x21 x22 x23 x24 x25 x26 x27 x28 x29 x30 x31 x32 x33 x34 x35 x36 x37 x38 x39 x40 x41 x42 x43 x44 x45 x46 x47 x48 x49 x50 x51 x52 x53 x54 x55 x56 x57 x58 x59 x60 x61 x62 x63 x64 x65 x66 x67 x68 x69 x70 x71 x72 x73 : Value)  : den Tryd.prog (sel (bodyOf Tryd.f8) [1, 1, 1]) (bodyQ Tryd.prog Tryd.f8.results.toList K E) #[x0, x1, x2, x3, x4, x5, x6, x7, x8, x9, x10, x11, x12, x13, x14, x15, x16, x17, x18, x19, x20, x21, x22, x23, x24, x25, x26, x27, x28, x29, x30, x31, x32, x33, x34, x35, x36, x37, x38, x39, x40, x41, x42, x43, x44, x45, x46, x47, x48, x49, x50, x51, x52, x53, x54, x55, x56, x57, x58, x59, x60, x61, x62, x63, x64, x65, x66, x67, x68, x69, x70, x71, x72, x73] =
  callv Tryd.prog (.func (.func 31) #[] #[]) #[x0, x1, x2, x3] (fun t1 =>
  pv (exV 0 t1) fun t2 =>
  pv (exV 1 t1) fun t3 =>
  callv Tryd.prog (.func (.func 32) #[] #[]) #[x0, x1, x2, x3] (fun t4 =>
  pv (exV 0 t4) fun t5 =>
  pv (exV 1 t4) fun t6 =>
  callv Tryd.prog (.func (.func 24) #[] #[]) #[t2, t5] (fun t7 =>
  gdK t7 true (fun k => k t3) fun t8 =>
  gdK t7 true (fun k => pv (cvV .i64 t8) k) fun t9 =>
  gdK t7 true (fun k => k t6) fun t10 =>
  gdK t7 true (fun k => pv (binV .none .eql t9 t10) k) fun t11 =>
  pv (pickV t7 t11 (.bool false)) fun t12 =>
  K t12) E) E) E := by kernel_rfl
theorem l8_1_1_0_1_0_0 {K : Kont} {E : PanK} {σ : Type} {x0 x1 x2 x3 x4 x5 x6 x7 x10 x11 x12 x13 x14 x15 x16 x17 x18 x19 x20 x21 x22 x23 x24 x25 x26 x27 x28 x29 x30 x31 x32 x33 x34 x35 x49 x50 x51 x52 x53 x54 x55 x56 x57 x58 x59 x60 x61 x62 x63 x64 x65 x66 x67 x68 x69 x70 x71 x72 x73 v9 y8 y36 y37 y38 y39 y40 y41 y42 y43 y44 y45 y46 y47 y48 : Value} {h : Hp} (f9 : σ → Value) (I : σ → Hp → Prop) (μ : σ → Nat) (s0 : σ) (e9 : v9 = f9 s0) (h0 : h.wf → ∃ h', h.wk h' ∧ I s0 h')
  (round : ∀ (k1 : Env → Hp → Prop) (s : σ) (j : Nat → Value) (h : Hp), I s h → h.wf → (∀ s' j' h', μ s' < μ s → (h'.wf → ∃ h'', h'.wk h'' ∧ I s' h'') → k1 (m8_1_1_0_1_0_0 x0 x1 x2 x3 x4 x5 x6 x7 x10 x11 x12 x13 x14 x15 x16 x17 x18 x19 x20 x21 x22 x23 x24 x25 x26 x27 x28 x29 x30 x31 x32 x33 x34 x35 x49 x50 x51 x52 x53 x54 x55 x56 x57 x58 x59 x60 x61 x62 x63 x64 x65 x66 x67 x68 x69 x70 x71 x72 x73 (f9 s') j') h') → (
  pv (lenV x0) fun t1 =>
  pv (binV .none .lss (f9 s) t1) fun t2 =>
  cnd t2 (
    pv (iaV none 2 x0 (f9 s)) fun t3 =>
    pv (faV 1 t3) fun t4 =>
    ld false 1 t4 fun t5 =>
    pv (lenV t5) fun t6 =>
    pv (binV .none .gtr t6 (.int .i64 20)) fun t7 =>
    cnd t7 (
      K (.bool true)) (
      pv (binV .none .add (f9 s) (.int .i64 1)) fun t8 =>
      k1 (m8_1_1_0_1_0_0 x0 x1 x2 x3 x4 x5 x6 x7 x10 x11 x12 x13 x14 x15 x16 x17 x18 x19 x20 x21 x22 x23 x24 x25 x26 x27 x28 x29 x30 x31 x32 x33 x34 x35 x49 x50 x51 x52 x53 x54 x55 x56 x57 x58 x59 x60 x61 x62 x63 x64 x65 x66 x67 x68 x69 x70 x71 x72 x73 t8 (jf #[x0, x1, x2, x3, x4, x5, x6, x7, (j 8), t8, x10, x11, x12, x13, x14, x15, x16, x17, x18, x19, x20, x21, x22, x23, x24, x25, x26, x27, x28, x29, x30, x31, x32, x33, x34, x35, (f9 s), x0, t1, t2, (f9 s), t8, x0, (f9 s), t3, t4, t5, t6, t7, x49, x50, x51, x52, x53, x54, x55, x56, x57, x58, x59, x60, x61, x62, x63, x64, x65, x66, x67, x68, x69, x70, x71, x72, x73])))) (
    den Tryd.prog (sel (bodyOf Tryd.f8) [1, 1, 1]) (bodyQ Tryd.prog Tryd.f8.results.toList K E) #[x0, x1, x2, x3, x4, x5, x6, x7, (j 8), (f9 s), x10, x11, x12, x13, x14, x15, x16, x17, x18, x19, x20, x21, x22, x23, x24, x25, x26, x27, x28, x29, x30, x31, x32, x33, x34, x35, (f9 s), x0, t1, t2, (j 40), (j 41), (j 42), (j 43), (j 44), (j 45), (j 46), (j 47), (j 48), x49, x50, x51, x52, x53, x54, x55, x56, x57, x58, x59, x60, x61, x62, x63, x64, x65, x66, x67, x68, x69, x70, x71, x72, x73])) h) :
  lp (fun k1 => den Tryd.prog (sel (bodyOf Tryd.f8) [1, 1, 0, 1, 0, 0]) (thenD k1 (blk 0 (thenD (den Tryd.prog (sel (bodyOf Tryd.f8) [1, 1, 1]) (bodyQ Tryd.prog Tryd.f8.results.toList K E)) (bodyQ Tryd.prog Tryd.f8.results.toList K E))))) #[x0, x1, x2, x3, x4, x5, x6, x7, y8, v9, x10, x11, x12, x13, x14, x15, x16, x17, x18, x19, x20, x21, x22, x23, x24, x25, x26, x27, x28, x29, x30, x31, x32, x33, x34, x35, y36, y37, y38, y39, y40, y41, y42, y43, y44, y45, y46, y47, y48, x49, x50, x51, x52, x53, x54, x55, x56, x57, x58, x59, x60, x61, x62, x63, x64, x65, x66, x67, x68, x69, x70, x71, x72, x73] h := by
  subst e9
  have e : (#[x0, x1, x2, x3, x4, x5, x6, x7, y8, (f9 s0), x10, x11, x12, x13, x14, x15, x16, x17, x18, x19, x20, x21, x22, x23, x24, x25, x26, x27, x28, x29, x30, x31, x32, x33, x34, x35, y36, y37, y38, y39, y40, y41, y42, y43, y44, y45, y46, y47, y48, x49, x50, x51, x52, x53, x54, x55, x56, x57, x58, x59, x60, x61, x62, x63, x64, x65, x66, x67, x68, x69, x70, x71, x72, x73] : Env) = m8_1_1_0_1_0_0 x0 x1 x2 x3 x4 x5 x6 x7 x10 x11 x12 x13 x14 x15 x16 x17 x18 x19 x20 x21 x22 x23 x24 x25 x26 x27 x28 x29 x30 x31 x32 x33 x34 x35 x49 x50 x51 x52 x53 x54 x55 x56 x57 x58 x59 x60 x61 x62 x63 x64 x65 x66 x67 x68 x69 x70 x71 x72 x73 (f9 s0) (jf #[x0, x1, x2, x3, x4, x5, x6, x7, y8, (f9 s0), x10, x11, x12, x13, x14, x15, x16, x17, x18, x19, x20, x21, x22, x23, x24, x25, x26, x27, x28, x29, x30, x31, x32, x33, x34, x35, y36, y37, y38, y39, y40, y41, y42, y43, y44, y45, y46, y47, y48, x49, x50, x51, x52, x53, x54, x55, x56, x57, x58, x59, x60, x61, x62, x63, x64, x65, x66, x67, x68, x69, x70, x71, x72, x73]) := by kernel_rfl
  rw [e]
  exact loop_r (fun s j => m8_1_1_0_1_0_0 x0 x1 x2 x3 x4 x5 x6 x7 x10 x11 x12 x13 x14 x15 x16 x17 x18 x19 x20 x21 x22 x23 x24 x25 x26 x27 x28 x29 x30 x31 x32 x33 x34 x35 x49 x50 x51 x52 x53 x54 x55 x56 x57 x58 x59 x60 x61 x62 x63 x64 x65 x66 x67 x68 x69 x70 x71 x72 x73 (f9 s) j) I μ (fun k s j h hI hw next => by rw [t8_1_1_0_1_0_0]; exact round k s j h hI hw next) s0 (jf #[x0, x1, x2, x3, x4, x5, x6, x7, y8, (f9 s0), x10, x11, x12, x13, x14, x15, x16, x17, x18, x19, x20, x21, x22, x23, x24, x25, x26, x27, x28, x29, x30, x31, x32, x33, x34, x35, y36, y37, y38, y39, y40, y41, y42, y43, y44, y45, y46, y47, y48, x49, x50, x51, x52, x53, x54, x55, x56, x57, x58, x59, x60, x61, x62, x63, x64, x65, x66, x67, x68, x69, x70, x71, x72, x73]) h0

theorem t9 (K : Kont) (E : PanK) (x0 x1 x2 x3 : Value)  : den Tryd.prog (sel (bodyOf Tryd.f9) []) (bodyQ Tryd.prog Tryd.f9.results.toList K E) #[x0, x1, x2, x3, undef, undef, undef, undef, undef, undef, undef, undef, undef, undef, undef, undef, undef, undef, undef, undef, undef, undef, undef, undef, undef, undef, undef, undef, undef, undef, undef, undef, undef, undef, undef, undef, undef, undef, undef, undef, undef, undef, undef, undef, undef, undef, undef, undef, undef, undef, undef, undef, undef, undef, undef, undef, undef, undef, undef, undef, undef, undef, undef, undef, undef, undef, undef, undef, undef, undef, undef] =
  pv (lenV x1) fun t1 =>
  pv (binV .none .gtr t1 (.int .i64 200)) fun t2 =>
  gdK t2 false (fun k => callv Tryd.prog (.func (.func 18) #[] #[]) #[] k E) fun t3 =>
  gdK t2 false (fun k => pv (unV .not t3) k) fun t4 =>
  pv (pickV t2 (.bool true) t4) fun t5 =>
  cnd t5 (
    callv Tryd.prog (.func (.func 18) #[] #[]) #[] (fun t6 =>
    K t6) E) (
    callv Tryd.prog (.func (.func 19) #[] #[]) #[x0] (fun t7 =>
    callv Tryd.prog (.func (.func 21) #[] #[]) #[t7, x1, x2] (fun t8 =>
    callv Tryd.prog (.func (.func 25) #[] #[]) #[t8] (fun t9 =>
    pv (lenV t7) fun t10 =>
    mks 3 [(.int .i64 0)] 1 8 t10 t10 fun t11 =>
    callv Tryd.prog (.func (.func 33) #[] #[]) #[t7, x3, (.slice none 0 0)] (fun t12 =>
    callv Tryd.prog (.func (.func 31) #[] #[]) #[t7, t9, t11, t12] (fun t13 =>
    pv (exV 0 t13) fun t14 =>
    pv (exV 1 t13) fun t15 =>
    callv Tryd.prog (.func (.func 32) #[] #[]) #[t7, t9, t11, t12] (fun t16 =>
    pv (exV 0 t16) fun t17 =>
    pv (exV 1 t16) fun t18 =>
    pv (binV .none .eql t15 (.int .u16 0)) fun t19 =>
    gdK t19 true (fun k => k t18) fun t20 =>
    gdK t19 true (fun k => pv (binV .none .eql t20 (.int .i64 0)) k) fun t21 =>
    pv (pickV t19 t21 (.bool false)) fun t22 =>
    gdK t22 true (fun k => k t14) fun t23 =>
    gdK t22 true (fun k => k t17) fun t24 =>
    gdK t22 true (fun k => callv Tryd.prog (.func (.func 24) #[] #[]) #[t23, t24] k E) fun t25 =>
    pv (pickV t22 t25 (.bool false)) fun t26 =>
    gdK t26 true (fun k => k t14) fun t27 =>
    gdK t26 true (fun k => k t7) fun t28 =>
    gdK t26 true (fun k => pv (lenV t28) k) fun t29 =>
    gdK t26 true (fun k => callv Tryd.prog (.func (.func 23) #[] #[]) #[t27, t29] k E) fun t30 =>
    pv (pickV t26 t30 (.bool false)) fun t31 =>
    K t31) E) E) E) E) E) E) := by kernel_rfl

theorem t10 (K : Kont) (E : PanK) (x0 x1 x2 x3 x4 x5 : Value)  : den Tryd.prog (sel (bodyOf Tryd.f10) []) (bodyQ Tryd.prog Tryd.f10.results.toList K E) #[x0, x1, x2, x3, x4, x5, undef, undef, undef, undef, undef, undef, undef, undef, undef, undef, undef, undef, undef, undef, undef, undef, undef, undef, undef, undef, undef, undef, undef, undef, undef, undef, undef, undef, undef, undef, undef, undef, undef, undef, undef, undef, undef, undef, undef, undef, undef, undef, undef, undef, undef, undef, undef, undef, undef, undef, undef, undef, undef, undef, undef, undef, undef, undef, undef, undef, undef, undef, undef, undef, undef, undef, undef, undef, undef, undef, undef, undef, undef, undef, undef, undef, undef, undef, undef, undef, undef, undef, undef, undef, undef, undef, undef, undef, undef, undef, undef, undef, undef, undef, undef, undef, undef, undef, undef, undef, undef, undef, undef, undef, undef, undef, undef, undef, undef, undef, undef, undef, undef, undef, undef, undef, undef, undef, undef, undef, undef, undef, undef, undef, undef, undef, undef, undef, undef, undef, undef, undef] =
  pv (lenV x1) fun t1 =>
  pv (binV .none .gtr t1 (.int .i64 200)) fun t2 =>
  gdK t2 false (fun k => k x2) fun t3 =>
  gdK t2 false (fun k => pv (lenV t3) k) fun t4 =>
  gdK t2 false (fun k => pv (binV .none .gtr t4 (.int .i64 200)) k) fun t5 =>
  pv (pickV t2 (.bool true) t5) fun t6 =>
  gdK t6 false (fun k => callv Tryd.prog (.func (.func 18) #[] #[]) #[] k E) fun t7 =>
  gdK t6 false (fun k => pv (unV .not t7) k) fun t8 =>
  pv (pickV t6 (.bool true) t8) fun t9 =>
  cnd t9 (
    callv Tryd.prog (.func (.func 18) #[] #[]) #[] (fun t10 =>
    K t10) E) (
    callv Tryd.prog (.func (.func 19) #[] #[]) #[x0] (fun t11 =>
    pv (lenV t11) fun t12 =>
    mks 3 [(.int .i64 0)] 1 8 t12 t12 fun t13 =>
    callv Tryd.prog (.func (.func 33) #[] #[]) #[t11, x4, (.slice none 0 0)] (fun t14 =>
    callv Tryd.prog (.func (.func 33) #[] #[]) #[t11, x5, t14] (fun t15 =>
    callv Tryd.prog (.func (.func 21) #[] #[]) #[t11, x1, x3] (fun t16 =>
    callv Tryd.prog (.func (.func 20) #[] #[]) #[t16] (fun t17 =>
    callv Tryd.prog (.func (.func 21) #[] #[]) #[t11, x2, x3] (fun t18 =>
    callv Tryd.prog (.func (.func 20) #[] #[]) #[t18] (fun t19 =>
    callv Tryd.prog (.func (.func 31) #[] #[]) #[t11, t17, t13, t14] (fun t20 =>
    pv (exV 0 t20) fun t21 =>
    pv (exV 1 t20) fun t22 =>
    callv Tryd.prog (.func (.func 31) #[] #[]) #[t11, t21, t14, t15] (fun t23 =>
    pv (exV 0 t23) fun t24 =>
    pv (exV 1 t23) fun t25 =>
    callv Tryd.prog (.func (.func 31) #[] #[]) #[t11, t17, t13, t15] (fun t26 =>
    pv (exV 0 t26) fun t27 =>
    pv (exV 1 t26) fun t28 =>
    callv Tryd.prog (.func (.func 27) #[] #[]) #[t17, t19] (fun t29 =>
    callv Tryd.prog (.func (.func 31) #[] #[]) #[t11, t29, t13, t15] (fun t30 =>
    pv (exV 0 t30) fun t31 =>
    pv (exV 1 t30) fun t32 =>
    callv Tryd.prog (.func (.func 31) #[] #[]) #[t11, t19, t13, t15] (fun t33 =>
    pv (exV 0 t33) fun t34 =>
    pv (exV 1 t33) fun t35 =>
    pv (binV .none .eql t22 (.int .u16 0)) fun t36 =>
    gdK t36 true (fun k => k t25) fun t37 =>
    gdK t36 true (fun k => pv (binV .none .eql t37 (.int .u16 0)) k) fun t38 =>
    pv (pickV t36 t38 (.bool false)) fun t39 =>
    gdK t39 true (fun k => k t28) fun t40 =>
    gdK t39 true (fun k => pv (binV .none .eql t40 (.int .u16 0)) k) fun t41 =>
    pv (pickV t39 t41 (.bool false)) fun t42 =>
    gdK t42 true (fun k => k t32) fun t43 =>
    gdK t42 true (fun k => pv (binV .none .eql t43 (.int .u16 0)) k) fun t44 =>
    pv (pickV t42 t44 (.bool false)) fun t45 =>
    gdK t45 true (fun k => k t35) fun t46 =>
    gdK t45 true (fun k => pv (binV .none .eql t46 (.int .u16 0)) k) fun t47 =>
    pv (pickV t45 t47 (.bool false)) fun t48 =>
    gdK t48 true (fun k => k t24) fun t49 =>
    gdK t48 true (fun k => k t27) fun t50 =>
    gdK t48 true (fun k => callv Tryd.prog (.func (.func 24) #[] #[]) #[t49, t50] k E) fun t51 =>
    pv (pickV t48 t51 (.bool false)) fun t52 =>
    gdK t52 true (fun k => k t31) fun t53 =>
    gdK t52 true (fun k => k t27) fun t54 =>
    gdK t52 true (fun k => k t34) fun t55 =>
    gdK t52 true (fun k => callv Tryd.prog (.func (.func 27) #[] #[]) #[t54, t55] k E) fun t56 =>
    gdK t52 true (fun k => callv Tryd.prog (.func (.func 24) #[] #[]) #[t53, t56] k E) fun t57 =>
    pv (pickV t52 t57 (.bool false)) fun t58 =>
    K t58) E) E) E) E) E) E) E) E) E) E) E) E) E) := by kernel_rfl

end Go.Proofs.YthpacapdaembpaaDoor.T
open Go Go.RowKit Go.Proofs.YthpacapdaembpaaDoor.K Go.Proofs.YthpacapdaembpaaDoor.T
set_option linter.unusedVariables false
set_option linter.unusedSimpArgs false
namespace Go.Proofs.YthpacapdaembpaaDoor.A
variable {F F' : Nat → Option (List Value)} {M M' : Nat → Option Chunk} {N N' : Nat} {K : Kont} {E : PanK}
theorem rollE_le (l : List Dm) (t : List Rw) (a b : List Int) : rollE l t a b ≤ 40 := by
  unfold rollE; split; omega; split; omega; split <;> omega
theorem rollT_len (l : List Dm) (t : List Rw) (a b : List Int) : (rollT l t a b).length ≤ t.length := by
  unfold rollT
  split
  · have := tab_len (rollRows l t a b); simp only [rollRows, List.length_map] at this ⊢; exact this
  · simp
/-- TableRolls -/
theorem tableRolls_c {u vt va vb : Value} {l : List Dm} {t : List Rw} {a b : List Int} (hu : dimsD F u l) (hl : l.length ≤ 140737488351232) (ht : tblD F vt t) (htl : t.length ≤ 140737488351232) (ha : sF F 1 va a.length (ic a)) (hb : sF F 1 vb b.length (ic b)) (hal : a.length ≤ 140737488351232) (hbl : b.length ≤ 140737488351232) (hbi : ∀ x ∈ b, i64 x) (hti : ∀ r ∈ t, ∀ x ∈ r.1, i64 x) (k : ∀ h, K (.bool true) h) :
    call Tryd.prog 8 #[u, vt, va, vb] K E ⟨F, M, N⟩ := by
  refine call_text mixed Tryd.func8 (by kernel_rfl) (t8 _ E _ _ _ _) (fun hw => ?_)
  have kn : ∀ {M : Nat → Option Chunk} {F : Nat → Option (List Value)} {N : Nat}, callv Tryd.prog (.func (.func 18) #[] #[]) #[] (fun v h => h.wf → ∃ h', h.wk h' ∧ (h'.wf → K v h')) E ⟨F, M, N⟩ := known_c (fun F' N' _ _ _ hc => ⟨_, wk_refl hc, fun _ => k _⟩)
  have fcn : fctsD F (.slice none 0 0) [] := ⟨[], sF.nil _ _ _, rowsF.nil _ _⟩
  have hlu : lenV u = some (.int .i64 (l.length : Nat)) := by obtain ⟨a, c, rfl⟩ := hu.form; rfl
  have hla : lenV va = some (.int .i64 (a.length : Nat)) := by obtain ⟨a, c, rfl, _⟩ := ha.form; rfl
  have hlb : lenV vb = some (.int .i64 (b.length : Nat)) := by obtain ⟨a, c, rfl, _⟩ := hb.form; rfl
  refine heavy_c ht fcn htl (by decide) (fun r1 hr1 => ?_)
  cases r1 with
  | true => try simp only [gdTT, gdFF, gdTF, gdFT, pvS, pickT, pickF, faP, lenS, capS, nilP, exA, exB, exC, notB, cndT, cndF, Bool.not_true, Bool.not_false, Nat.zero_add, Nat.add_zero]; exact kn
  | false =>
  obtain ⟨htl3, _, _⟩ := hr1 rfl
  try simp only [gdTT, gdFF, gdTF, gdFT, pvS, pickT, pickF, faP, lenS, capS, nilP, exA, exB, exC, notB, cndT, cndF, Bool.not_true, Bool.not_false, Nat.zero_add, Nat.add_zero]
  try simp only [hlu]
  try simp only [gdTT, gdFF, gdTF, gdFT, pvS, pickT, pickF, faP, lenS, capS, nilP, exA, exB, exC, notB, cndT, cndF, Bool.not_true, Bool.not_false, Nat.zero_add, Nat.add_zero]
  refine gtr_r (fun h1 => ?_) (fun h1 => ?_)
  · try simp only [gdTT, gdFF, gdTF, gdFT, pvS, pickT, pickF, faP, lenS, capS, nilP, exA, exB, exC, notB, cndT, cndF, Bool.not_true, Bool.not_false, Nat.zero_add, Nat.add_zero]; exact kn
  try simp only [gdTT, gdFF, gdTF, gdFT, pvS, pickT, pickF, faP, lenS, capS, nilP, exA, exB, exC, notB, cndT, cndF, Bool.not_true, Bool.not_false, Nat.zero_add, Nat.add_zero]
  try simp only [hla]
  try simp only [gdTT, gdFF, gdTF, gdFT, pvS, pickT, pickF, faP, lenS, capS, nilP, exA, exB, exC, notB, cndT, cndF, Bool.not_true, Bool.not_false, Nat.zero_add, Nat.add_zero]
  refine gtr_r (fun h2 => ?_) (fun h2 => ?_)
  · try simp only [gdTT, gdFF, gdTF, gdFT, pvS, pickT, pickF, faP, lenS, capS, nilP, exA, exB, exC, notB, cndT, cndF, Bool.not_true, Bool.not_false, Nat.zero_add, Nat.add_zero]; exact kn
  try simp only [gdTT, gdFF, gdTF, gdFT, pvS, pickT, pickF, faP, lenS, capS, nilP, exA, exB, exC, notB, cndT, cndF, Bool.not_true, Bool.not_false, Nat.zero_add, Nat.add_zero]
  try simp only [hlb]
  try simp only [gdTT, gdFF, gdTF, gdFT, pvS, pickT, pickF, faP, lenS, capS, nilP, exA, exB, exC, notB, cndT, cndF, Bool.not_true, Bool.not_false, Nat.zero_add, Nat.add_zero]
  refine gtr_r (fun h3 => ?_) (fun h3 => ?_)
  · try simp only [gdTT, gdFF, gdTF, gdFT, pvS, pickT, pickF, faP, lenS, capS, nilP, exA, exB, exC, notB, cndT, cndF, Bool.not_true, Bool.not_false, Nat.zero_add, Nat.add_zero]; exact kn
  try simp only [gdTT, gdFF, gdTF, gdFT, pvS, pickT, pickF, faP, lenS, capS, nilP, exA, exB, exC, notB, cndT, cndF, Bool.not_true, Bool.not_false, Nat.zero_add, Nat.add_zero]
  refine known_c (fun F1 N1 hF1 hN1 hw1 => ?_)
  try simp only [gdTT, gdFF, gdTF, gdFT, pvS, pickT, pickF, faP, lenS, capS, nilP, exA, exB, exC, notB, cndT, cndF, Bool.not_true, Bool.not_false, Nat.zero_add, Nat.add_zero]
  have hu' := hu.mono hF1
  obtain ⟨rows, hu1, hu2⟩ := hu'
  refine l8_1_1_0_1_0_0 (σ := Nat) (fun i => .int .i64 (i : Nat)) (fun i h => h = ⟨F1, M, N1⟩ ∧ i ≤ l.length) (fun i => l.length - i) 0 rfl
    (fun hw1 => ⟨_, wk_refl hw1, rfl, Nat.zero_le _⟩) (fun k1 i j h1' hI hw1 next => ?_)
  obtain ⟨rfl, hi⟩ := hI
  try simp only [hlu]
  try simp only [gdTT, gdFF, gdTF, gdFT, pvS, pickT, pickF, faP, lenS, capS, nilP, exA, exB, exC, notB, cndT, cndF, Bool.not_true, Bool.not_false, Nat.zero_add, Nat.add_zero]
  refine lss_r (fun hlt => ?_) (fun hge => ?_)
  · have h4 : i < l.length := by omega
    try simp only [gdTT, gdFF, gdTF, gdFT, pvS, pickT, pickF, faP, lenS, capS, nilP, exA, exB, exC, notB, cndT, cndF, Bool.not_true, Bool.not_false, Nat.zero_add, Nat.add_zero]
    refine fld_r hu1 hu2 (by decide) h4 (off := 1) (by decide) fun p q r x hR _ hx => ?_
    obtain ⟨kv, rfl, hkv, hkl⟩ := hR
    simp at hx
    subst hx
    refine lenF_r hkv ?_
    refine gtr_r (fun h5 => ?_) (fun h5 => ?_)
    · try simp only [gdTT, gdFF, gdTF, gdFT, pvS, pickT, pickF, faP, lenS, capS, nilP, exA, exB, exC, notB, cndT, cndF, Bool.not_true, Bool.not_false, Nat.zero_add, Nat.add_zero]
      exact fun hc => ⟨_, wk_refl hc, fun _ => k _⟩
    · try simp only [gdTT, gdFF, gdTF, gdFT, pvS, pickT, pickF, faP, lenS, capS, nilP, exA, exB, exC, notB, cndT, cndF, Bool.not_true, Bool.not_false, Nat.zero_add, Nat.add_zero]
      refine inc_r (by omega) ?_
      exact next (i + 1) _ _ (by omega) (fun hw2 => ⟨_, wk_refl hw2, rfl, h4⟩)
  · try simp only [gdTT, gdFF, gdTF, gdFT, pvS, pickT, pickF, faP, lenS, capS, nilP, exA, exB, exC, notB, cndT, cndF, Bool.not_true, Bool.not_false, Nat.zero_add, Nat.add_zero]
    rw [t8_1_1_1]
    refine troll_c (hu.mono hF1) hl (ht.mono hF1) (by omega) (ha.mono hF1) (hb.mono hF1) hbi hti (fun v2 F2 N2 hw2 hF2 hN2 h2' => ?_)
    try simp only [gdTT, gdFF, gdTF, gdFT, pvS, pickT, pickF, faP, lenS, capS, nilP, exA, exB, exC, notB, cndT, cndF, Bool.not_true, Bool.not_false, Nat.zero_add, Nat.add_zero]
    refine rroll_c ((hu.mono hF1).mono hF2) hl ((ht.mono hF1).mono hF2) (by omega) ((ha.mono hF1).mono hF2) ((hb.mono hF1).mono hF2) hbi hti (fun v3 F3 N3 hw3 hF3 hN3 h3' => ?_)
    try simp only [gdTT, gdFF, gdTF, gdFT, pvS, pickT, pickF, faP, lenS, capS, nilP, exA, exB, exC, notB, cndT, cndF, Bool.not_true, Bool.not_false, Nat.zero_add, Nat.add_zero]
    have hle := rollT_len l t a b
    refine same_c (h2'.mono hF3) h3' (by omega) ?_
    rw [decide_eq_true rfl]
    try simp only [gdTT, gdFF, gdTF, gdFT, pvS, pickT, pickF, faP, lenS, capS, nilP, exA, exB, exC, notB, cndT, cndF, Bool.not_true, Bool.not_false, Nat.zero_add, Nat.add_zero]
    have := rollE_le l t a b
    refine cv_i64 (by omega) (eql_t rfl ?_)
    try simp only [gdTT, gdFF, gdTF, gdFT, pvS, pickT, pickF, faP, lenS, capS, nilP, exA, exB, exC, notB, cndT, cndF, Bool.not_true, Bool.not_false, Nat.zero_add, Nat.add_zero]
    exact fun hc => ⟨_, wk_refl hc, fun _ => k _⟩
/-- Levels, as choices say, not below others. -/
def levOf (l : List Dm) (c least : List Int) : List Int := l.mapIdx fun i d => least.getD i 0 + (c.getD i 0) % (d.2.length + 2 - least.getD i 0)
theorem levOf_len (l : List Dm) (c m : List Int) : (levOf l c m).length = l.length := by simp [levOf]
theorem levOf_take (l : List Dm) (c m : List Int) {i : Nat} (h : i < l.length) : levOf (l.take (i + 1)) c m = levOf (l.take i) c m ++ [m.getD i 0 + (c.getD i 0) % (l[i].2.length + 2 - m.getD i 0)] := by
  unfold levOf
  rw [List.take_add_one, List.getElem?_eq_getElem h, Option.toList_some, List.mapIdx_concat, List.length_take, Nat.min_eq_left (by omega)]
/-- Levels that may be. -/
def okLev (l : List Dm) (m : List Int) : Prop := ∀ (i : Nat) (h : i < l.length), 0 ≤ m.getD i 0 ∧ m.getD i 0 < l[i].2.length + 2
theorem levOf_ok {l : List Dm} {c m : List Int} (hm : okLev l m) : okLev l (levOf l c m) ∧ ∀ (i : Nat) (h : i < l.length), m.getD i 0 ≤ (levOf l c m).getD i 0 := by
  have key : ∀ (i : Nat) (h : i < l.length), (levOf l c m).getD i 0 = m.getD i 0 + (c.getD i 0) % (l[i].2.length + 2 - m.getD i 0) := fun i h => by
    rw [List.getD_eq_getElem?_getD (l := levOf l c m), List.getElem?_eq_getElem (by rw [levOf_len]; exact h)]
    simp [levOf]
  refine ⟨fun i h => ?_, fun i h => ?_⟩
  · obtain ⟨a, b⟩ := hm i h
    rw [key i h]
    have x := Int.emod_nonneg (c.getD i 0) (show (l[i].2.length + 2 - m.getD i 0 : Int) ≠ 0 by omega)
    have y := Int.emod_lt_of_pos (c.getD i 0) (show (0 : Int) < l[i].2.length + 2 - m.getD i 0 by omega)
    omega
  · obtain ⟨a, b⟩ := hm i h
    rw [key i h]
    have x := Int.emod_nonneg (c.getD i 0) (show (l[i].2.length + 2 - m.getD i 0 : Int) ≠ 0 by omega)
    omega
end Go.Proofs.YthpacapdaembpaaDoor.A
open Go Go.RowKit Go.Proofs.YthpacapdaembpaaDoor.K Go.Proofs.YthpacapdaembpaaDoor.T
set_option linter.unusedVariables false
set_option linter.unusedSimpArgs false
namespace Go.Proofs.YthpacapdaembpaaDoor.A
variable {F F' : Nat → Option (List Value)} {M M' : Nat → Option Chunk} {N N' : Nat} {K : Kont} {E : PanK}
/-- What ends a round of Levels. -/
theorem lgen_fin {B s len : Nat} {n lo g h : Int} {v : Value} {pre : List Int} {X : Value → Value → Value → Value → Value → Kont} (ho : own M B 3 1 v s (ic pre)) (hm : clean M N) (hB : B ≤ N) (hs : s ≤ 1000000) (hlen : len ≤ 1000000) (hn : g = n) (hlo : h = lo) (g0 : 0 ≤ g) (g1 : g < 65536) (h0 : 0 ≤ h) (h1 : h < len + 2)
    (k : ∀ a b c d e v' M' N', own M' B 3 1 v' (s + 1) (ic (pre ++ [h + g % (len + 2 - h)])) → (∀ q, q < B → M' q = M q) → N ≤ N' → clean M' N' → X a b c d e v' ⟨F, M', N'⟩) :
    pv (binV .none .add (.int .i64 (len : Nat)) (.int .i64 2)) (fun t5 => pv (binV .none .sub t5 (.int .i64 lo)) fun t6 => pv (binV .none .rem (.int .i64 n) t6) fun t7 => pv (binV .none .add (.int .i64 lo) t7) fun t8 =>
      nws 3 1 (bsC #[(.int .i64 0)] 1 1 #[(0, t8)]) fun t9 => appX 3 1 8 v t9 fun t10 => X t5 t6 t7 t8 t9 t10) ⟨F, M, N⟩ := by
  subst hn; subst hlo
  refine add_n (b := 2) (by omega) (sub_r (by omega) (by omega) ?_)
  have y0 := Int.emod_nonneg g (show ((len + 2 : Nat) : Int) - h ≠ 0 by omega)
  have y1 := Int.emod_lt_of_pos g (show 0 < ((len + 2 : Nat) : Int) - h by omega)
  refine rem_i (by omega) (by omega) (add_r (by omega) (by omega) ?_)
  refine push_r (new := [.int .i64 (h + g % (((len + 2 : Nat) : Int) - h))]) ho hm hB (by kernel_rfl) rfl (List.all_eq_true.1 rfl) (by omega) (by unfold maxLen; omega) (fun p v' M3 N3 h4 h5 h6 h7 => ?_)
  refine k _ _ _ _ _ v' M3 N3 (by simpa [ic] using h4) (fun q hq => (h5 q (fun e => by have := (ho.ge q e).1; omega) (by omega)).1) h6 h7
set_option maxRecDepth 10000 in
/-- Levels, of stratumlaw03 -/
theorem lgen_c {u v w : Value} {l : List Dm} {c m : List Int} (hu : dimsD F u l) (hv : sF F 1 v c.length (ick .u8 c)) (hw' : sF F 1 w m.length (ic m)) (hl : l.length ≤ 1000000) (hdv : ∀ d ∈ l, d.2.length ≤ 1000000) (hc : ∀ x ∈ c, 0 ≤ x ∧ x < 256) (hm' : okLev l m) (hcl : c.length ≤ 140737488351232) (hml : m.length ≤ 140737488351232)
    (k : ∀ v' F' N', (Hp.mk F' M N').wf → subF F F' → N ≤ N' → sF F' 1 v' (levOf l c m).length (ic (levOf l c m)) → K v' ⟨F', M, N'⟩) :
    callv Tryd.prog (.func (.func 33) #[] #[]) #[u, v, w] K E ⟨F, M, N⟩ := by
  refine callv_of_text mixed Tryd.func33 (by kernel_rfl) (t33 _ E _ _ _) (fun hw => ?_)
  have hm : clean M N := hw.m
  obtain ⟨rows, hu1, hu2⟩ := hu
  have hlu : lenV u = some (.int .i64 (l.length : Nat)) := by obtain ⟨a, c, rfl, _⟩ := hu1.form; rfl
  have hlv : lenV v = some (.int .i64 (c.length : Nat)) := by obtain ⟨a, c, rfl, _⟩ := hv.form; rfl
  have hlw : lenV w = some (.int .i64 (m.length : Nat)) := by obtain ⟨a, c, rfl, _⟩ := hw'.form; rfl
  refine l33_1_1_0_1_0_0 (σ := Nat × Value) (fun s => s.2) (fun s => .int .i64 (s.1 : Nat))
    (fun s h => ∃ M' N', h = ⟨F, M', N'⟩ ∧ N ≤ N' ∧ (∀ q, q < N → M' q = M q) ∧ clean M' N' ∧ s.1 ≤ l.length ∧ own M' N 3 1 s.2 s.1 (ic (levOf (l.take s.1) c m))) (fun s => l.length - s.1) (0, .slice none 0 0) rfl rfl
    (fun hw2 => ⟨_, wk_refl hw2, M, N, rfl, Nat.le_refl _, fun _ _ => rfl, hm, Nat.zero_le _, own.nil⟩) (fun k1 s j h1 hI hw2 next => ?_)
  obtain ⟨M2, N2, rfl, hN2, hM2, hm2, hi, ho2⟩ := hI
  simp only [hlu, hlv]
  try simp only [gdTT, gdFF, gdTF, gdFT, pvS, pickT, pickF, faP, lenS, capS, nilP, exA, exB, exC, notB, cndT, cndF, Bool.not_true, Bool.not_false, Nat.zero_add, Nat.add_zero]
  refine lss_r (fun hlt => ?_) (fun hge => ?_)
  · have h1 : s.1 < l.length := by omega
    obtain ⟨l0, l1⟩ := hm' s.1 h1
    have hdl := hdv l[s.1] (List.getElem_mem _)
    have hg : 0 ≤ c.getD s.1 0 ∧ c.getD s.1 0 < 65536 := by
      rw [List.getD_eq_getElem?_getD]
      cases h : c[s.1]? with
      | none => simp
      | some x => have := hc x (List.mem_of_getElem? h); simp only [Option.getD_some]; omega
    try simp only [gdTT, gdFF, gdTF, gdFT, pvS, pickT, pickF, faP, lenS, capS, nilP, exA, exB, exC, notB, cndT, cndF, Bool.not_true, Bool.not_false, Nat.zero_add, Nat.add_zero]
    refine lss_r (fun hlt2 => ?_) (fun hge2 => ?_)
    have h2 : s.1 < c.length := by omega
    try simp only [gdTT, gdFF, gdTF, gdFT, pvS, pickT, pickF, faP, lenS, capS, nilP, exA, exB, exC, notB, cndT, cndF, Bool.not_true, Bool.not_false, Nat.zero_add, Nat.add_zero]
    refine ixk_r hv h2 fun p => ?_
    obtain ⟨x0, x1⟩ := hc c[s.1] (List.getElem_mem _)
    obtain ⟨n, hn, hnc⟩ : ∃ n : Nat, c[s.1] = (n : Int) ∧ c.getD s.1 0 = (n : Int) := ⟨c[s.1].toNat, by omega, by rw [List.getD_eq_getElem?_getD, List.getElem?_eq_getElem h2, Option.getD_some]; omega⟩
    rw [hn]
    refine cv_i64 (a := n) (by omega) ?_
    rotate_left
    try simp only [gdTT, gdFF, gdTF, gdFT, pvS, pickT, pickF, faP, lenS, capS, nilP, exA, exB, exC, notB, cndT, cndF, Bool.not_true, Bool.not_false, Nat.zero_add, Nat.add_zero]
    have hnc : c.getD s.1 0 = (0 : Int) := by rw [List.getD_eq_getElem?_getD, List.getElem?_eq_none (by omega)]; rfl
    all_goals
      rw [t33_1_1_0_1_0_0_1_0_0_1_1_1]
      simp only [hlw]
      try simp only [gdTT, gdFF, gdTF, gdFT, pvS, pickT, pickF, faP, lenS, capS, nilP, exA, exB, exC, notB, cndT, cndF, Bool.not_true, Bool.not_false, Nat.zero_add, Nat.add_zero]
      refine lss_r (fun hlt3 => ?_) (fun hge3 => ?_)
      have h3 : s.1 < m.length := by omega
      try simp only [gdTT, gdFF, gdTF, gdFT, pvS, pickT, pickF, faP, lenS, capS, nilP, exA, exB, exC, notB, cndT, cndF, Bool.not_true, Bool.not_false, Nat.zero_add, Nat.add_zero]
      refine ixn_r hw' h3 fun p => ?_
      have hlo2 : m.getD s.1 0 = m[s.1] := by rw [List.getD_eq_getElem?_getD, List.getElem?_eq_getElem h3, Option.getD_some]
      rotate_left
      try simp only [gdTT, gdFF, gdTF, gdFT, pvS, pickT, pickF, faP, lenS, capS, nilP, exA, exB, exC, notB, cndT, cndF, Bool.not_true, Bool.not_false, Nat.zero_add, Nat.add_zero]
      have hlo2 : m.getD s.1 0 = (0 : Int) := by rw [List.getD_eq_getElem?_getD, List.getElem?_eq_none (by omega)]; rfl
      all_goals
        rw [t33_1_1_0_1_0_0_1_0_0_1_1_1_1]
        refine fld_r hu1 hu2 (by decide) h1 (off := 1) (by decide) fun p q r x hR _ hx => ?_
        obtain ⟨kv, rfl, hkv', hkl⟩ := hR
        simp at hx
        subst hx
        refine lenF_r hkv' ?_
        refine lgen_fin ho2 hm2 hN2 (by omega) hdl hnc hlo2 hg.1 hg.2 l0 l1 (fun _ _ _ _ _ v' M3 N3 h4 h5 h6 h7 => ?_)
        rw [t33_1_1_0_1_0_0_1_1]
        refine inc_r (by omega) ?_
        refine next (s.1 + 1, v') _ _ (by simp only; omega) (fun hw3 => ⟨_, wk_refl hw3, M3, N3, rfl, by omega, fun q hq => (h5 q hq).trans (hM2 q hq), h7, h1, ?_⟩)
        simp only
        rw [levOf_take l c m h1]
        exact h4
  · try simp only [gdTT, gdFF, gdTF, gdFT, pvS, pickT, pickF, faP, lenS, capS, nilP, exA, exB, exC, notB, cndT, cndF, Bool.not_true, Bool.not_false, Nat.zero_add, Nat.add_zero]
    rw [t33_1_1_1]
    rw [List.take_of_length_le (by omega)] at ho2
    refine fun hc' => ⟨_, frz_wf hm hM2 hc', fun hw' => k _ _ _ hw' (subF_frzAll hc') hN2 ?_⟩
    have := ho2.rd.frz hc' (fun b hb => .inl (ho2.ge b hb).1)
    rw [levOf_len]
    rw [show s.1 = l.length by omega] at this
    exact this
end Go.Proofs.YthpacapdaembpaaDoor.A
open Go
set_option linter.unusedVariables false
set_option linter.unusedSimpArgs false
namespace Go.Proofs.YthpacapdaembpaaDoor.A
theorem hasAt.congr {t : List Rw} {ls ms : List KV} (h : hasAt t ls) (e : ∀ k, valsAt ls k = valsAt ms k) : hasAt t ms := fun k => by rw [← e k]; exact h k
theorem valsAt_map (g : List Int → List Int) : ∀ {t : List Rw}, nodup t → ∀ k, valsAt (t.map fun r => (r.1, g r.1)) k = (look t k).elim [] (fun _ => g k)
  | [], _, k => by simp [valsAt, look]
  | (k1, c1) :: t, h, k => by
    have h' := List.pairwise_cons.1 h
    have ih := valsAt_map g h'.2 k
    rw [List.map_cons, valsAt_cons, ih]
    by_cases e : k1 = k
    · subst e
      have hn : look t k1 = none := look_none.2 fun x hx e => h'.1 x hx e.symm
      simp [look, hn]
    · simp [look, e]
/-- The numbers that a table tells. -/
def toldBy (t : List Rw) (ls : List KV) : List KV := t.map fun r => (r.1, valsAt ls r.1)
theorem toldBy_vals {t : List Rw} {ls : List KV} (h : hasAt t ls) (hs : srt t) (k : List Int) : valsAt (toldBy t ls) k = valsAt ls k := by
  unfold toldBy
  rw [valsAt_map (fun q => valsAt ls q) hs.nodup k]
  have := h k
  cases hl : look t k with
  | none => rw [hl] at this; simp only at this; rw [this]; rfl
  | some c => rfl
theorem toldBy_size (t : List Rw) (ls : List KV) : sizeL (toldBy t ls) ≤ t.length * sizeL ls := by
  induction t with
  | nil => simp [toldBy, sizeL]
  | cons r t ih =>
    have h1 := valsAt_len ls r.1
    simp only [toldBy, List.map_cons, sizeL, List.sum_cons, List.length_cons, Nat.succ_mul] at ih h1 ⊢
    omega
/-- Tables, one behind the other, as one. -/
theorem merge_hasAt {t u : List Rw} {ls ms : List KV} (h : hasAt t ls) (k : hasAt u ms) (ht : srt t) (hu : srt u) (hn : t.length * sizeL ls + u.length * sizeL ms < 9223372036854775808) : hasAt (tab (t ++ u)) (ls ++ ms) := by
  have h1 := h.tells ht
  have h2 := k.tells hu
  have h3 := tab_hasAt (h1.app h2) (by
    rw [sizeL_app]
    have := toldBy_size t ls
    have := toldBy_size u ms
    unfold toldBy at *
    omega)
  refine h3.congr fun q => ?_
  have a := toldBy_vals h ht q
  have b := toldBy_vals k hu q
  unfold toldBy at a b
  rw [valsAt_app, valsAt_app, a, b]
/-- How many numbers a table has. -/
def total (t : List Rw) : Int := (t.map fun r => r.2.n).sum
theorem total_app (a b : List Rw) : total (a ++ b) = total a + total b := by unfold total; rw [List.map_append, List.sum_append]
theorem merge_n {a b : CE} (ha : 0 < a.n) (hb : 0 < b.n) (hl : a.n + b.n ≤ 9223372036854775807) : (a.merge b).n = a.n + b.n := by
  unfold CE.merge CE.add
  rw [if_neg (by omega), if_neg (by omega), if_neg (fun e => by rw [e] at hb; simp at hb), if_neg (fun e => by rw [e] at ha; simp at ha)]
  simp only
  rw [IntKind.wrap_i64]; omega
theorem total_nonneg : ∀ {t : List Rw}, (∀ r ∈ t, 0 < r.2.n) → 0 ≤ total t
  | [], _ => by simp [total]
  | r :: t, h => by
    have h1 := h r (by simp)
    have h2 := total_nonneg (t := t) (fun x hx => h x (by simp [hx]))
    simp only [total, List.map_cons, List.sum_cons] at h2 ⊢
    omega
theorem layR_total : ∀ {t : List Rw} {k : List Int} {c : CE}, (∀ r ∈ t, 0 < r.2.n) → 0 < c.n → total t + c.n ≤ 9223372036854775807 → total (layR t k c) = total t + c.n ∧ ∀ r ∈ layR t k c, 0 < r.2.n
  | [], k, c, _, hc, _ => by simp [layR, total]; exact hc
  | (k1, c1) :: t, k, c, h, hc, hl => by
    have h1 : 0 < c1.n := h (k1, c1) (by simp)
    have h2 := total_nonneg (t := t) (fun x hx => h x (by simp [hx]))
    have hl' : c1.n + total t + c.n ≤ 9223372036854775807 := by simpa [total] using hl
    simp only [layR]
    split
    · obtain ⟨a, b⟩ := layR_total (t := t) (k := k) (fun x hx => h x (by simp [hx])) hc (by omega)
      refine ⟨by simp only [total, List.map_cons, List.sum_cons] at a ⊢; omega, fun r hr => ?_⟩
      rcases List.mem_cons.1 hr with rfl | hr
      · exact h1
      · exact b r hr
    · split
      · have e := merge_n h1 hc (by omega)
        refine ⟨by simp only [total, List.map_cons, List.sum_cons]; rw [e]; omega, fun r hr => ?_⟩
        rcases List.mem_cons.1 hr with rfl | hr
        · simp only; rw [e]; omega
        · exact h r (by simp [hr])
      · refine ⟨by simp only [total, List.map_cons, List.sum_cons]; omega, fun r hr => ?_⟩
        rcases List.mem_cons.1 hr with rfl | hr
        · exact hc
        · exact h r hr
theorem fold_total : ∀ (l : List Rw) (t : List Rw), (∀ r ∈ t, 0 < r.2.n) → (∀ r ∈ l, 0 < r.2.n) → total t + total l ≤ 9223372036854775807 → total (l.foldl (fun t r => layR t r.1 r.2) t) = total t + total l ∧ ∀ r ∈ l.foldl (fun t r => layR t r.1 r.2) t, 0 < r.2.n
  | [], t, h, _, _ => ⟨by simp [total], h⟩
  | r :: l, t, h, hl, hn => by
    have h1 := hl r (by simp)
    have h2 := total_nonneg (t := l) (fun x hx => hl x (by simp [hx]))
    have h3 : total t + (r.2.n + total l) ≤ 9223372036854775807 := by simpa [total] using hn
    obtain ⟨a, b⟩ := layR_total (t := t) (k := r.1) h h1 (by omega)
    obtain ⟨c, d⟩ := fold_total l _ b (fun x hx => hl x (by simp [hx])) (by rw [a]; omega)
    refine ⟨by simp only [List.foldl_cons]; rw [c, a]; simp only [total, List.map_cons, List.sum_cons]; omega, d⟩
theorem total_facts (l : List (List Int × Int)) : total (l.map fun f => (f.1, (⟨1, f.2, f.2, f.2⟩ : CE))) = l.length := by
  induction l with
  | nil => rfl
  | cons f l ih => simp only [total, List.map_cons, List.sum_cons, List.length_cons] at ih ⊢; omega
theorem tab_total {l : List (List Int × Int)} (hl : l.length ≤ 1000000) : total (tab (l.map fun f => (f.1, (⟨1, f.2, f.2, f.2⟩ : CE)))) = l.length := by
  have h := fold_total (l.map fun f => (f.1, (⟨1, f.2, f.2, f.2⟩ : CE))) [] (by simp) (fun r hr => by obtain ⟨f, _, rfl⟩ := List.mem_map.1 hr; exact Int.zero_lt_one) (by rw [total_facts]; simp [total]; omega)
  have := h.1
  rw [total_facts] at this
  simpa [tab, total] using this
theorem total_take_le {t : List Rw} (h : ∀ r ∈ t, 0 < r.2.n) (i : Nat) : total (t.take i) ≤ total t := by
  have e := congrArg total (List.take_append_drop i t)
  have e2 := total_app (t.take i) (t.drop i)
  have := total_nonneg (t := t.drop i) (fun r hr => h r (List.mem_of_mem_drop hr))
  omega
theorem total_snoc {t : List Rw} {i : Nat} (h : i < t.length) : total (t.take (i + 1)) = total (t.take i) + t[i].2.n := by
  rw [List.take_add_one, List.getElem?_eq_getElem h, Option.toList_some, total_app]
  unfold total
  simp only [List.map_cons, List.map_nil, List.sum_cons, List.sum_nil, Int.add_zero]
end Go.Proofs.YthpacapdaembpaaDoor.A
open Go Go.RowKit Go.Proofs.YthpacapdaembpaaDoor.K Go.Proofs.YthpacapdaembpaaDoor.T
set_option linter.unusedVariables false
set_option linter.unusedSimpArgs false
namespace Go.Proofs.YthpacapdaembpaaDoor.A
variable {F F' : Nat → Option (List Value)} {M M' : Nat → Option Chunk} {N N' : Nat} {K : Kont} {E : PanK}
theorem isMin.perm {m : Int} {l l' : List Int} (h : isMin m l) (p : l.Perm l') : isMin m l' := ⟨p.mem_iff.1 h.1, fun x hx => h.2 x (p.mem_iff.2 hx)⟩
theorem isMax.perm {m : Int} {l l' : List Int} (h : isMax m l) (p : l.Perm l') : isMax m l' := ⟨p.mem_iff.1 h.1, fun x hx => h.2 x (p.mem_iff.2 hx)⟩
theorem isCell.swap {c : CE} {l m : List Int} (h : isCell c l) (p : l.Perm m) : isCell c m :=
  ⟨by rw [h.n, p.length_eq], by rw [h.s]; congr 1; exact p.foldr_eq' (fun x _ y _ z => by omega) 0, h.lo.perm p, h.hi.perm p⟩
theorem hasAt.perm {t : List Rw} {ls ms : List KV} (h : hasAt t ls) (e : ∀ k, (valsAt ls k).Perm (valsAt ms k)) : hasAt t ms := fun k => by
  have h1 := h k
  have h2 := e k
  cases hl : look t k with
  | none => rw [hl] at h1; simp only at h1; simp only; rw [h1] at h2; exact h2.symm.eq_nil
  | some c => rw [hl] at h1; exact h1.swap h2
/-- Numbers at other keys. -/
def reK (f : List Int → List Int) (ls : List KV) : List KV := ls.map fun x => (f x.1, x.2)
theorem reK_size (f : List Int → List Int) (ls : List KV) : sizeL (reK f ls) = sizeL ls := by
  induction ls with
  | nil => rfl
  | cons x ls ih => simp only [sizeL, reK, List.map_cons, List.sum_cons] at ih ⊢; rw [ih]
theorem reK_app (f : List Int → List Int) (a b : List KV) : reK f (a ++ b) = reK f a ++ reK f b := by simp [reK]
/-- A table's numbers, each key's together, are the numbers. -/
theorem regroup (f : List Int → List Int) (ls : List KV) (k : List Int) : ∀ (t : List Rw), nodup t →
    (valsAt (reK f (t.map fun r => (r.1, valsAt ls r.1))) k).Perm (valsAt (reK f (ls.filter fun x => decide (∃ r ∈ t, r.1 = x.1))) k)
  | [], _ => by
    have : ls.filter (fun x => decide (∃ r ∈ ([] : List Rw), r.1 = x.1)) = [] := by simp
    rw [this]; exact List.Perm.refl _
  | r :: t, h => by
    have h' := List.pairwise_cons.1 h
    have ih := regroup f ls k t h'.2
    rw [List.map_cons]
    have e1 : reK f ((r.1, valsAt ls r.1) :: t.map fun r => (r.1, valsAt ls r.1)) = (f r.1, valsAt ls r.1) :: reK f (t.map fun r => (r.1, valsAt ls r.1)) := rfl
    rw [e1, valsAt_cons]
    have key : ∀ (ls : List KV), (valsAt (reK f (ls.filter fun x => decide (∃ q ∈ r :: t, q.1 = x.1))) k).Perm ((if f r.1 = k then valsAt ls r.1 else []) ++ valsAt (reK f (ls.filter fun x => decide (∃ q ∈ t, q.1 = x.1))) k) := by
      intro ls
      induction ls with
      | nil => simp [reK, valsAt]
      | cons x ls ih2 =>
        rw [List.filter_cons, List.filter_cons, valsAt_cons]
        by_cases hx : x.1 = r.1
        · have a1 : (∃ q ∈ r :: t, q.1 = x.1) := ⟨r, by simp, hx.symm⟩
          have a2 : ¬ ∃ q ∈ t, q.1 = x.1 := fun ⟨q, hq, e⟩ => h'.1 q hq (by rw [e, hx])
          simp only [decide_eq_true a1, decide_eq_false a2, if_true, Bool.false_eq_true, if_false]
          rw [if_pos hx]
          have e2 : reK f (x :: ls.filter fun x => decide (∃ q ∈ r :: t, q.1 = x.1)) = (f x.1, x.2) :: reK f (ls.filter fun x => decide (∃ q ∈ r :: t, q.1 = x.1)) := rfl
          rw [e2, valsAt_cons]
          simp only [hx]
          by_cases hk : f r.1 = k
          · rw [if_pos hk, if_pos hk] at *
            rw [List.append_assoc]
            exact List.Perm.append_left _ ih2
          · rw [if_neg hk, if_neg hk] at *
            exact ih2
        · rw [if_neg hx, List.nil_append]
          by_cases h2 : ∃ q ∈ t, q.1 = x.1
          · have a1 : (∃ q ∈ r :: t, q.1 = x.1) := by obtain ⟨q, hq, e⟩ := h2; exact ⟨q, by simp [hq], e⟩
            simp only [decide_eq_true a1, decide_eq_true h2, if_true]
            have e2 : ∀ (l : List KV), reK f (x :: l) = (f x.1, x.2) :: reK f l := fun _ => rfl
            rw [e2, e2, valsAt_cons, valsAt_cons]
            refine (List.Perm.append_left _ ih2).trans ?_
            rw [← List.append_assoc, ← List.append_assoc]
            exact List.Perm.append_right _ List.perm_append_comm
          · have a1 : ¬ (∃ q ∈ r :: t, q.1 = x.1) := fun ⟨q, hq, e⟩ => by
              rcases List.mem_cons.1 hq with rfl | hq
              · exact hx e.symm
              · exact h2 ⟨q, hq, e⟩
            simp only [decide_eq_false a1, decide_eq_false h2, Bool.false_eq_true, if_false]
            exact ih2
    exact (List.Perm.append_left _ ih).trans (key ls).symm
theorem valsAt_empties (f : List Int → List Int) (p : KV → Bool) (k : List Int) : ∀ (ls : List KV), (∀ x ∈ ls, p x = false → x.2 = []) → valsAt (reK f (ls.filter p)) k = valsAt (reK f ls) k
  | [], _ => rfl
  | x :: ls, h => by
    have ih := valsAt_empties f p k ls (fun y hy => h y (by simp [hy]))
    have e2 : ∀ (l : List KV), reK f (x :: l) = (f x.1, x.2) :: reK f l := fun _ => rfl
    rw [List.filter_cons, e2, valsAt_cons]
    cases hp : p x
    · rw [h x (by simp) hp]
      simpa using ih
    · simp only [if_true]
      rw [e2, valsAt_cons, ih]
theorem hasAt.regroup {t : List Rw} {ls : List KV} (h : hasAt t ls) (hs : srt t) (f : List Int → List Int) (k : List Int) : (valsAt (reK f (toldBy t ls)) k).Perm (valsAt (reK f ls) k) := by
  have h1 := A.regroup f ls k t hs.nodup
  rw [valsAt_empties f _ k ls] at h1
  · exact h1
  · intro x hx hp
    have hn : ¬ ∃ r ∈ t, r.1 = x.1 := of_decide_eq_false hp
    have h2 := h x.1
    rw [look_none.2 (fun r hr e => hn ⟨r, hr, e⟩)] at h2
    simp only at h2
    cases hx2 : x.2 with
    | nil => rfl
    | cons v vs =>
      have : v ∈ valsAt ls x.1 := by
        unfold valsAt
        exact List.mem_flatMap.2 ⟨x, List.mem_filter.2 ⟨hx, by simp⟩, by rw [hx2]; simp⟩
      rw [h2] at this; cases this
/-- A table rolled. -/
theorem roll_hasAt {t : List Rw} {ls : List KV} (h : hasAt t ls) (hs : srt t) (f : List Int → List Int) (hn : t.length * sizeL ls < 9223372036854775808) : hasAt (tab (t.map fun r => (f r.1, r.2))) (reK f ls) := by
  have h1 := h.tells hs
  have h2 : tells (t.map fun r => (f r.1, r.2)) (reK f (toldBy t ls)) := by
    refine ⟨by simp [reK, toldBy], fun i r l hr hl => ?_⟩
    rw [List.getElem?_map] at hr
    unfold reK at hl
    rw [List.getElem?_map] at hl
    cases ht : t[i]? with
    | none => rw [ht] at hr; cases hr
    | some x =>
      cases ho : (toldBy t ls)[i]? with
      | none => rw [ho] at hl; cases hl
      | some y =>
        rw [ht] at hr; rw [ho] at hl
        simp at hr hl
        subst hr; subst hl
        obtain ⟨a, b⟩ := h1.2 i x y ht ho
        exact ⟨by simp only; rw [a], b⟩
  have h3 := tab_hasAt h2 (by
    rw [reK_size]
    have := toldBy_size t ls
    omega)
  exact h3.perm (fun k => h.regroup hs f k)
/-- Keys of dimensions. -/
def goodKey (l : List Dm) (k : List Int) : Prop := k.length = l.length ∧ ∀ x ∈ k, 0 ≤ x ∧ x ≤ 1000000
/-- A table that tells numbers at keys of dimensions. -/
structure goodT (l : List Dm) (t : List Rw) (ls : List KV) : Prop where
  has : hasAt t ls
  srt : srt t
  key : ∀ x ∈ ls, goodKey l x.1
  val : ∀ x ∈ ls, ∀ v ∈ x.2, i64 v
theorem goodT.row {l : List Dm} {t : List Rw} {ls : List KV} (h : goodT l t ls) {r : Rw} (hr : r ∈ t) : goodKey l r.1 ∧ isCell r.2 (valsAt ls r.1) ∧ ∀ v ∈ valsAt ls r.1, i64 v := by
  obtain ⟨⟨x, hx, e⟩, h2⟩ := mem_keys h.has h.srt hr
  refine ⟨e ▸ h.key x hx, h2, fun v hv => ?_⟩
  obtain ⟨y, hy, _, hv'⟩ := valsAt_mem hv
  exact h.val y hy v hv'
theorem goodT.sound {l : List Dm} {t : List Rw} {ls : List KV} (h : goodT l t ls) : soundT l.length t = true := by
  refine soundT_of (fun r hr => ?_) h.srt
  obtain ⟨a, b, c⟩ := h.row hr
  exact okRow_of (by rw [a.1]) (fun x hx => (a.2 x hx).1) b c
theorem goodT.i64 {l : List Dm} {t : List Rw} {ls : List KV} (h : goodT l t ls) : ∀ r ∈ t, ∀ x ∈ r.1, A.i64 x := fun r hr x hx => by
  have := (h.row hr).1.2 x hx
  exact ⟨by omega, by omega⟩
theorem goodT.okK {l : List Dm} (hl : l.length ≤ 1000) {t : List Rw} {ls : List KV} (h : goodT l t ls) : ∀ r ∈ t, A.okK r.1 := fun r hr =>
  ⟨by rw [(h.row hr).1.1]; omega, h.i64 r hr⟩
theorem goodT.ext {l : List Dm} {t u : List Rw} {ls ms : List KV} (h : goodT l t ls) (k : goodT l u ms) (hp : ∀ q, (valsAt ls q).Perm (valsAt ms q)) : t = u := h.has.ext k.has h.srt k.srt hp
theorem goodT.facts {l : List Dm} (hl : goodDims l) {ks : List (List Int)} {v : List Int} (hv : ∀ x ∈ v, A.i64 x) : goodT l (tab ((factsOf l ks v).map fr1)) ((factsOf l ks v).map kvF) := by
  refine ⟨tabF_hasAt (facts_i64 hv) (by rw [factsOf_len]; omega), tab_srt _, fun x hx => ?_, fun x hx y hy => ?_⟩
  · obtain ⟨f, hf, rfl⟩ := List.mem_map.1 hx
    obtain ⟨c, hc⟩ := (factsOf_mem hf).1
    simp only [kvF]
    rw [hc]
    exact ⟨keyOf_len l c, fun x hx => by have := keyOf_ok hl c x hx; omega⟩
  · obtain ⟨f, hf, rfl⟩ := List.mem_map.1 hx
    simp [kvF] at hy
    rw [hy]; exact facts_i64 hv f hf
theorem goodT.merge {l : List Dm} {t u : List Rw} {ls ms : List KV} (h : goodT l t ls) (k : goodT l u ms) (hn : t.length * sizeL ls + u.length * sizeL ms < 9223372036854775808) : goodT l (tab (t ++ u)) (ls ++ ms) :=
  ⟨merge_hasAt h.has k.has h.srt k.srt hn, tab_srt _, fun x hx => (List.mem_append.1 hx).elim (h.key x) (k.key x), fun x hx => (List.mem_append.1 hx).elim (h.val x) (k.val x)⟩
theorem goodT.roll {l : List Dm} {t : List Rw} {ls : List KV} (h : goodT l t ls) (f : List Int → List Int) (hf : ∀ k, goodKey l k → goodKey l (f k)) (hn : t.length * sizeL ls < 9223372036854775808) : goodT l (tab (t.map fun r => (f r.1, r.2))) (reK f ls) :=
  ⟨roll_hasAt h.has h.srt f hn, tab_srt _, fun x hx => by obtain ⟨y, hy, rfl⟩ := List.mem_map.1 hx; exact hf _ (h.key y hy), fun x hx => by obtain ⟨y, hy, rfl⟩ := List.mem_map.1 hx; exact h.val y hy⟩
end Go.Proofs.YthpacapdaembpaaDoor.A
open Go Go.RowKit Go.Proofs.YthpacapdaembpaaDoor.K Go.Proofs.YthpacapdaembpaaDoor.T
set_option linter.unusedVariables false
set_option linter.unusedSimpArgs false
namespace Go.Proofs.YthpacapdaembpaaDoor.A
variable {F F' : Nat → Option (List Value)} {M M' : Nat → Option Chunk} {N N' : Nat} {K : Kont} {E : PanK}
theorem divL_chk : ∀ (l : List Nat) (a : Nat), 1 ≤ a → a * 5 ^ l.length ≤ 10000 → chk a ((divL a l).map (fun n : Nat => (n : Int))) = true
  | [], a, _, _ => rfl
  | b :: l, a, h, hn => by
    have h1 : a * (2 + b % 4) ≤ a * 5 := Nat.mul_le_mul_left _ (by omega)
    have h2 : a * 2 ≤ a * (2 + b % 4) := Nat.mul_le_mul_left _ (by omega)
    have h5 : 1 ≤ 5 ^ l.length := Nat.one_le_pow _ _ (by decide)
    have h3 : a * 5 * 5 ^ l.length ≤ 10000 := by rw [List.length_cons, Nat.pow_succ, Nat.mul_comm (5 ^ l.length) 5, ← Nat.mul_assoc] at hn; exact hn
    have h4 : a * (2 + b % 4) * 5 ^ l.length ≤ 10000 := Nat.le_trans (Nat.mul_le_mul_right _ h1) h3
    have h6 : a * 5 * 1 ≤ 10000 := Nat.le_trans (Nat.mul_le_mul_left _ h5) h3
    simp only [divL, List.map_cons, chk]
    rw [divL_chk l (a * (2 + b % 4)) (by omega) h4, Bool.and_true]
    refine decide_eq_true ?_
    have h7 : ((a * (2 + b % 4) : Nat) : Int) % (a : Int) = 0 := by rw [← Int.natCast_emod, Nat.mul_mod_right]; rfl
    omega
theorem dimOf_ok {c : Int × List Int} (hc : 0 ≤ c.1 ∧ c.1 < 65536) : okDim (dimOf c) = true := by
  unfold okDim
  have hl : ((c.2.take 4).map Int.toNat).length ≤ 4 := by simp; omega
  have h1 : chk 1 (dimOf c).2 = true := by
    refine divL_chk _ 1 (Nat.le_refl _) ?_
    rw [Nat.one_mul]
    exact Nat.le_trans (Nat.pow_le_pow_right (by decide) hl) (by decide)
  have h2 : (dimOf c).2.length ≤ 4 := by simp only [dimOf, List.length_map, divL_len]; simp; omega
  have h3 : 1 ≤ (dimOf c).1 ∧ (dimOf c).1 ≤ 10000 := by simp only [dimOf]; omega
  rw [h1, decide_eq_true ⟨h3.1, h3.2, h2⟩]; rfl
theorem dimsOf_ok {m : List (Int × List Int)} (hc : ∀ c ∈ m, 0 ≤ c.1 ∧ c.1 < 65536) : okDims (dimsOf m) = true := by
  have hg := dimsOf_good m hc
  unfold okDims
  rw [decide_eq_true ⟨hg.1, hg.2.1⟩, Bool.true_and, List.all_eq_true]
  intro d hd
  unfold dimsOf at hd
  split at hd
  · simp at hd; subst hd; decide +kernel
  · obtain ⟨c, hc', rfl⟩ := List.mem_map.1 hd
    exact dimOf_ok (hc c (List.mem_of_mem_take hc'))
/-- Levels from which one may go to others. -/
def upLev (l : List Dm) (a b : List Int) : Prop := a.length = l.length ∧ b.length = l.length ∧ ∀ (i : Nat) (h : i < l.length), 0 ≤ a.getD i 0 ∧ a.getD i 0 ≤ b.getD i 0 ∧ b.getD i 0 < l[i].2.length + 2
theorem lvs_of : ∀ {l : List Dm} {a b : List Int}, upLev l a b → lvs l a b = true
  | [], _, _, _ => by simp [lvs]
  | d :: l, [], _, h => by have := h.1; simp at this
  | d :: l, _ :: _, [], h => by have := h.2.1; simp at this
  | d :: l, x :: a, y :: b, h => by
    simp only [lvs]
    have h0 := h.2.2 0 (by simp)
    simp at h0
    rw [lvs_of (l := l) (a := a) (b := b) ⟨by have := h.1; simp at this; exact this, by have := h.2.1; simp at this; exact this, fun i hi => by
      have := h.2.2 (i + 1) (by simp; exact hi)
      simpa using this⟩, Bool.and_true]
    exact decide_eq_true (by omega)
theorem levF_of {l : List Dm} {a b : List Int} (h : upLev l a b) : levF l a b = true := by
  unfold levF
  rw [lvs_of h, decide_eq_true ⟨h.1, h.2.1⟩]; rfl
def zeros (n : Nat) : List Int := List.replicate n 0
theorem zeros_get (n i : Nat) : (zeros n).getD i 0 = 0 := by
  unfold zeros
  rw [List.getD_eq_getElem?_getD, List.getElem?_replicate]
  split <;> rfl
theorem zeros_up {l : List Dm} {m : List Int} (hl : m.length = l.length) (h : okLev l m) : upLev l (zeros l.length) m :=
  ⟨by simp [zeros], hl, fun i hi => by rw [zeros_get]; have := h i hi; omega⟩
theorem zeros_ok (l : List Dm) (n : Nat) : okLev l (zeros n) := fun i h => by rw [zeros_get]; omega
theorem nil_ok (l : List Dm) : okLev l [] := fun i h => by simp; omega
theorem okDims_all {l : List Dm} (h : okDims l = true) : ∀ d ∈ l, okDim d = true := by
  unfold okDims at h
  rw [Bool.and_eq_true] at h
  exact List.all_eq_true.1 h.2
theorem upF_of {d : Dm} (hd : okDim d = true) {a b v : Int} (h0 : 0 ≤ a) (h1 : a ≤ b) (h2 : b < d.2.length + 2) (hv : 0 ≤ v) : upF d a b v = if a = b then v else if byF d b = 0 then 0 else v / (byF d b / byF d a) := by
  unfold upF
  rw [if_neg (by rw [hd]; simp; omega)]
theorem byF_zero {d : Dm} (hd : okDim d = true) {b : Int} (h0 : 0 ≤ b) : byF d b = 0 ↔ b > d.2.length := by
  constructor
  · intro h
    by_cases hb : b ≤ d.2.length
    · have := (byF_pos hd h0 hb).1; omega
    · omega
  · intro h
    unfold byF
    rw [if_neg (by omega), if_pos h]
theorem upF_good {d : Dm} (hd : okDim d = true) {a b v : Int} (h0 : 0 ≤ a) (h1 : a ≤ b) (h2 : b < d.2.length + 2) (hv : 0 ≤ v) : 0 ≤ upF d a b v ∧ upF d a b v ≤ v := by
  rw [upF_of hd h0 h1 h2 hv]
  split
  · exact ⟨hv, Int.le_refl _⟩
  · split
    · exact ⟨Int.le_refl _, hv⟩
    · rename_i h3 h4
      have hb : b ≤ d.2.length := by
        by_cases h : b ≤ d.2.length
        · exact h
        · exact absurd ((byF_zero hd (by omega)).2 (by omega)) h4
      obtain ⟨r, s⟩ := byF_div hd (a := a) (b := b) h0 (by omega) hb
      exact ⟨Int.ediv_nonneg hv (by omega), Int.ediv_le_self _ hv⟩
theorem upF_comp {d : Dm} (hd : okDim d = true) {a b c v : Int} (h0 : 0 ≤ a) (h1 : a ≤ b) (h2 : b ≤ c) (h3 : c < d.2.length + 2) (hv : 0 ≤ v) : upF d b c (upF d a b v) = upF d a c v := by
  have hg := upF_good hd h0 h1 (by omega) hv
  rw [upF_of hd (by omega) h2 h3 hg.1, upF_of hd h0 (by omega) h3 hv]
  by_cases hbc : b = c
  · subst hbc
    rw [if_pos rfl, upF_of hd h0 h1 (by omega) hv]
  · have hac : ¬ a = c := by omega
    rw [if_neg hbc, if_neg hac]
    have hb : b ≤ d.2.length := by omega
    by_cases hz : byF d c = 0
    · rw [if_pos hz, if_pos hz]
    · rw [if_neg hz, if_neg hz]
      have hc : c ≤ d.2.length := by
        by_cases h : c ≤ d.2.length
        · exact h
        · exact absurd ((byF_zero hd (by omega)).2 (by omega)) hz
      rw [upF_of hd h0 h1 (by omega) hv]
      by_cases hab : a = b
      · subst hab; rw [if_pos rfl]
      · have hnz : byF d b ≠ 0 := fun e => by have := (byF_zero hd (by omega)).1 e; omega
        rw [if_neg hab, if_neg hnz]
        obtain ⟨x, hx⟩ := (byF_lt hd h0 (by omega : a < b) hb).2
        obtain ⟨y, hy⟩ := (byF_lt hd (by omega : 0 ≤ b) (by omega : b < c) hc).2
        have pa := (byF_pos hd h0 (by omega : a ≤ d.2.length)).1
        have pb := (byF_pos hd (by omega) hb).1
        have pc := (byF_pos hd (by omega) hc).1
        rw [hy, Int.mul_ediv_cancel_left _ (by omega), hx, Int.mul_ediv_cancel_left _ (by omega), Int.mul_assoc, Int.mul_ediv_cancel_left _ (by omega)]
        rw [hx] at pb
        have px : 0 < x := Int.pos_of_mul_pos_right pb (by omega)
        rw [Int.ediv_ediv_of_nonneg (by omega)]
theorem atF_eq {l : List Dm} (hl : okDims l = true) {a b k : List Int} (h : upLev l a b) (hk : k.length = l.length) : atF l a b k = atL l a b k := by
  unfold atF atOK
  rw [hl, decide_eq_true ⟨h.1, h.2.1, hk⟩]; rfl
theorem atL_get {l : List Dm} {a b k : List Int} {i : Nat} (h : i < l.length) : (atL l a b k)[i]? = some (upF l[i] (a.getD i 0) (b.getD i 0) (k.getD i 0)) := by
  simp [atL, h]
theorem atF_good {l : List Dm} (hl : okDims l = true) {a b : List Int} (h : upLev l a b) (k : List Int) (hk : goodKey l k) : goodKey l (atF l a b k) := by
  rw [atF_eq hl h hk.1]
  refine ⟨atL_len l a b k, fun x hx => ?_⟩
  obtain ⟨i, hi, rfl⟩ := List.mem_iff_getElem.1 hx
  rw [atL_len] at hi
  have e := atL_get (a := a) (b := b) (k := k) hi
  rw [List.getElem?_eq_getElem (by rw [atL_len]; exact hi)] at e
  injection e with e
  rw [e]
  obtain ⟨h1, h2, h3⟩ := h.2.2 i hi
  have hki := hk.2 (k[i]'(by rw [hk.1]; exact hi)) (List.getElem_mem _)
  have e2 : k.getD i 0 = k[i]'(by rw [hk.1]; exact hi) := by rw [List.getD_eq_getElem?_getD, List.getElem?_eq_getElem (by rw [hk.1]; exact hi)]; rfl
  rw [e2]
  have := upF_good (okDims_all hl l[i] (List.getElem_mem _)) h1 h2 h3 hki.1
  omega
theorem atF_comp {l : List Dm} (hl : okDims l = true) {a b c : List Int} (h1 : upLev l a b) (h2 : upLev l b c) (h3 : upLev l a c) {k : List Int} (hk : goodKey l k) : atF l b c (atF l a b k) = atF l a c k := by
  have hg := atF_good hl h1 k hk
  rw [atF_eq hl h2 hg.1, atF_eq hl h3 hk.1, atF_eq hl h1 hk.1]
  apply List.ext_getElem?
  intro i
  rcases Nat.lt_or_ge i l.length with hi | hi
  · rw [atL_get hi, atL_get hi]
    have e2 : (atL l a b k).getD i 0 = upF l[i] (a.getD i 0) (b.getD i 0) (k.getD i 0) := by rw [List.getD_eq_getElem?_getD, atL_get hi]; rfl
    rw [e2]
    obtain ⟨x1, x2, x3⟩ := h1.2.2 i hi
    obtain ⟨y1, y2, y3⟩ := h2.2.2 i hi
    have hki := hk.2 (k[i]'(by rw [hk.1]; exact hi)) (List.getElem_mem _)
    have e3 : k.getD i 0 = k[i]'(by rw [hk.1]; exact hi) := by rw [List.getD_eq_getElem?_getD, List.getElem?_eq_getElem (by rw [hk.1]; exact hi)]; rfl
    rw [upF_comp (okDims_all hl l[i] (List.getElem_mem _)) x1 x2 y2 y3 (by rw [e3]; exact hki.1)]
  · rw [List.getElem?_eq_none (by rw [atL_len]; exact hi), List.getElem?_eq_none (by rw [atL_len]; exact hi)]
theorem reK_comp {l : List Dm} (hl : okDims l = true) {a b c : List Int} (h1 : upLev l a b) (h2 : upLev l b c) (h3 : upLev l a c) {ls : List KV} (hk : ∀ x ∈ ls, goodKey l x.1) : reK (atF l b c) (reK (atF l a b) ls) = reK (atF l a c) ls := by
  unfold reK
  rw [List.map_map]
  refine List.map_congr_left fun x hx => ?_
  simp only [Function.comp]
  rw [atF_comp hl h1 h2 h3 (hk x hx)]
/-- A table of such may be rolled. -/
theorem goodT.rolled {l : List Dm} (hl : okDims l = true) {t : List Rw} {ls : List KV} (h : goodT l t ls) {a b : List Int} (hab : upLev l a b) (hn : t.length * sizeL ls < 9223372036854775808) : rollE l t a b = 0 ∧ goodT l (rollT l t a b) (reK (atF l a b) ls) := by
  have e0 : rollE l t a b = 0 := by unfold rollE; rw [hl, levF_of hab, h.sound]; rfl
  refine ⟨e0, ?_⟩
  unfold rollT
  rw [if_pos e0]
  exact h.roll (atF l a b) (fun k hk => atF_good hl hab k hk) hn
end Go.Proofs.YthpacapdaembpaaDoor.A
open Go Go.RowKit Go.Proofs.YthpacapdaembpaaDoor.K Go.Proofs.YthpacapdaembpaaDoor.T
set_option linter.unusedVariables false
set_option linter.unusedSimpArgs false
namespace Go.Proofs.YthpacapdaembpaaDoor.A
variable {F F' : Nat → Option (List Value)} {M M' : Nat → Option Chunk} {N N' : Nat} {K : Kont} {E : PanK}
theorem mkz_r {n : Nat} (hn : n ≤ 1000000) (k : ∀ b, N ≤ b → K (.slice (some ⟨b, 0, none⟩) n n) ⟨F, upd M b (some (.cells 3 (ic (zeros n)) n)), b + 1⟩) : mks 3 [(.int .i64 0)] 1 8 (.int .i64 (n : Nat)) (.int .i64 (n : Nat)) K ⟨F, M, N⟩ := by
  refine ⟨_, n, _, n, rfl, rfl, Nat.le_refl _, by omega, by unfold maxLen; omega, fun b hb => ?_⟩
  have hflat : ∀ n : Nat, (List.replicate n [(Value.int .i64 0)]).flatten = ic (zeros n) := fun n => by
    induction n with
    | zero => rfl
    | succ n ih => rw [List.replicate_succ, List.flatten_cons, ih]; rfl
  rw [hflat, Nat.mul_one]
  exact k b hb
theorem small4 {a b c d : Nat} (h1 : a ≤ 1000) (h2 : b ≤ 1000) (h3 : c ≤ 1000) (h4 : d ≤ 1000) : a * b + c * d < 9223372036854775808 := by
  have := Nat.mul_le_mul h1 h2
  have := Nat.mul_le_mul h3 h4
  omega
theorem small2 {a b : Nat} (h1 : a ≤ 1000) (h2 : b ≤ 1000) : a * b < 9223372036854775808 := by
  have := Nat.mul_le_mul h1 h2
  omega
theorem zeros_len (n : Nat) : (zeros n).length = n := by simp [zeros]
theorem zeros_i64 (n : Nat) : ∀ x ∈ zeros n, i64 x := fun x hx => by
  unfold zeros at hx
  rw [(List.mem_replicate.1 hx).2]; exact ⟨by omega, by omega⟩
theorem okLev_i64 {l : List Dm} {m : List Int} (hl : m.length = l.length) (h : okLev l m) (hd : ∀ d ∈ l, d.2.length ≤ 1000000) : ∀ x ∈ m, i64 x := fun x hx => by
  obtain ⟨i, hi, rfl⟩ := List.mem_iff_getElem.1 hx
  have h1 := h i (by omega)
  have h2 := hd (l[i]'(by omega)) (List.getElem_mem _)
  rw [List.getD_eq_getElem?_getD, List.getElem?_eq_getElem hi] at h1
  simp only [Option.getD_some] at h1
  exact ⟨by omega, by omega⟩
theorem okDim_div {d : Dm} (h : okDim d = true) : d.2.length ≤ 4 := by unfold okDim at h; rw [Bool.and_eq_true] at h; exact (of_decide_eq_true h.1).2.2
/-- TableGoes -/
theorem tableGoes_c {um uk uv uc : Value} {m : List (Int × List Int)} {ks : List (List Int)} {v c : List Int} (hm : cutsD F um m) (hml : m.length ≤ 140737488351232) (hmc : ∀ c ∈ m, (0 ≤ c.1 ∧ c.1 < 65536) ∧ ∀ x ∈ c.2, 0 ≤ x ∧ x < 256)
    (hk : kksD .u16 F uk ks) (hkl : ks.length ≤ 140737488351232) (hkc : ∀ k ∈ ks, ∀ x ∈ k, 0 ≤ x ∧ x < 65536) (hv : sF F 1 uv v.length (ic v)) (hvl : v.length ≤ 140737488351232) (hvc : ∀ x ∈ v, i64 x)
    (hc : sF F 1 uc c.length (ick .u8 c)) (hcl : c.length ≤ 140737488351232) (hcc : ∀ x ∈ c, 0 ≤ x ∧ x < 256) (k : ∀ h, K (.bool true) h) :
    call Tryd.prog 9 #[um, uk, uv, uc] K E ⟨F, M, N⟩ := by
  refine call_text mixed Tryd.func9 (by kernel_rfl) (t9 _ E _ _ _ _) (fun hw => ?_)
  have kn : ∀ {M : Nat → Option Chunk} {F : Nat → Option (List Value)} {N : Nat}, callv Tryd.prog (.func (.func 18) #[] #[]) #[] (fun v h => h.wf → ∃ h', h.wk h' ∧ (h'.wf → K v h')) E ⟨F, M, N⟩ := known_c (fun F' N' _ _ _ hc => ⟨_, wk_refl hc, fun _ => k _⟩)
  have hlk : lenV uk = some (.int .i64 (ks.length : Nat)) := by obtain ⟨rows, h1, _⟩ := hk; obtain ⟨a, c, rfl, _⟩ := h1.form; rfl
  simp only [hlk]
  try simp only [gdTT, gdFF, gdTF, gdFT, pvS, pickT, pickF, faP, lenS, capS, nilP, exA, exB, exC, notB, cndT, cndF, Bool.not_true, Bool.not_false, Nat.zero_add, Nat.add_zero]
  refine gtr_r (fun h1 => ?_) (fun h1 => ?_)
  · try simp only [gdTT, gdFF, gdTF, gdFT, pvS, pickT, pickF, faP, lenS, capS, nilP, exA, exB, exC, notB, cndT, cndF, Bool.not_true, Bool.not_false, Nat.zero_add, Nat.add_zero]; exact kn
  try simp only [gdTT, gdFF, gdTF, gdFT, pvS, pickT, pickF, faP, lenS, capS, nilP, exA, exB, exC, notB, cndT, cndF, Bool.not_true, Bool.not_false, Nat.zero_add, Nat.add_zero]
  refine known_c (fun F1 N1 hF1 hN1 hw1 => ?_)
  try simp only [gdTT, gdFF, gdTF, gdFT, pvS, pickT, pickF, faP, lenS, capS, nilP, exA, exB, exC, notB, cndT, cndF, Bool.not_true, Bool.not_false, Nat.zero_add, Nat.add_zero]
  have hgd := dimsOf_good m (fun c hc => (hmc c hc).1)
  have hok := dimsOf_ok (m := m) (fun c hc => (hmc c hc).1)
  refine dof_c (hm.mono hF1) hml hmc (fun ul F2 N2 hw2 hF2 hN2 hd => ?_)
  refine facts_c hd ((hk.mono hF1).mono hF2) ((hv.mono hF1).mono hF2) (by have := hgd.2.1; omega) (fun d hd => by have := hgd.2.2 d hd; omega) hkc hkl hvl (fun uf F3 N3 hw3 hF3 hN3 hf => ?_)
  have hgt := goodT.facts (ks := ks) hgd hvc
  have hlt := tab_len ((factsOf (dimsOf m) ks v).map fr1)
  rw [List.length_map, factsOf_len] at hlt
  have hsz := sizeL_facts (factsOf (dimsOf m) ks v)
  rw [factsOf_len] at hsz
  refine rmake_c hf (by rw [factsOf_len]; omega) (fun f hf => (facts_okK hgd f hf).1) (fun ut F4 N4 hw4 hF4 hN4 ht => ?_)
  generalize hT : tab ((factsOf (dimsOf m) ks v).map fr1) = T at *
  generalize hL : (factsOf (dimsOf m) ks v).map kvF = L at *
  have hd4 := (hd.mono hF3).mono hF4
  generalize dimsOf m = l at *
  have hll : lenV ul = some (.int .i64 (l.length : Nat)) := by obtain ⟨a, c, h⟩ := hd.form; rw [h]; rfl
  have hl4 := hgd.2.1
  have hdv : ∀ d ∈ l, d.2.length ≤ 1000000 := fun d hd => by have := okDim_div (okDims_all hok d hd); omega
  simp only [hll]
  try simp only [gdTT, gdFF, gdTF, gdFT, pvS, pickT, pickF, faP, lenS, capS, nilP, exA, exB, exC, notB, cndT, cndF, Bool.not_true, Bool.not_false, Nat.zero_add, Nat.add_zero]
  refine mkz_r (by omega) (fun b0 hb0 => ?_)
  refine callv_go (fun hc' => ⟨_, frz_wf hw4.m (fun q hq => upd_ne _ _ (by omega)) hc', ?_⟩)
  have hs4 := subF_frzAll (N := N4) hc'
  have hz : sF (frzAll F4 (upd M b0 (some (.cells 3 (ic (zeros l.length)) l.length))) N4) 1 (.slice (some ⟨b0, 0, none⟩) l.length l.length) (zeros l.length).length (ic (zeros l.length)) := by
    rw [zeros_len]; exact sF_lit (frz_at hb0 (upd_same _ _ _)) (by simp [ic, zeros]) (Nat.le_refl _)
  generalize frzAll F4 (upd M b0 (some (.cells 3 (ic (zeros l.length)) l.length))) N4 = F5 at *
  have FF := (((hF1.trans hF2).trans hF3).trans hF4).trans hs4
  refine lgen_c (m := []) (hd4.mono hs4) (hc.mono FF) (sF.nil _ _ _) (by omega) hdv hcc (nil_ok l) hcl (by simp) (fun utop F6 N6 hw6 hF6 hN6 htop => ?_)
  have htok := (levOf_ok (c := c) (nil_ok l)).1
  have htl := levOf_len l c []
  have hup := zeros_up htl htok
  obtain ⟨he, hgr⟩ := hgt.rolled hok hup (small2 (by omega) (by omega))
  have hti := okLev_i64 htl htok hdv
  have hrl := rollT_len l T (zeros l.length) (levOf l c [])
  refine troll_c ((hd4.mono hs4).mono hF6) (by omega) ((ht.mono hs4).mono hF6) (by omega) (hz.mono hF6) htop hti hgt.i64 (fun va F7 N7 hw7 hF7 hN7 ha => ?_)
  rw [he]
  try simp only [gdTT, gdFF, gdTF, gdFT, pvS, pickT, pickF, faP, lenS, capS, nilP, exA, exB, exC, notB, cndT, cndF, Bool.not_true, Bool.not_false, Nat.zero_add, Nat.add_zero]
  refine rroll_c (((hd4.mono hs4).mono hF6).mono hF7) (by omega) (((ht.mono hs4).mono hF6).mono hF7) (by omega) ((hz.mono hF6).mono hF7) (htop.mono hF7) hti hgt.i64 (fun vb F8 N8 hw8 hF8 hN8 hb => ?_)
  rw [he]
  try simp only [gdTT, gdFF, gdTF, gdFT, pvS, pickT, pickF, faP, lenS, capS, nilP, exA, exB, exC, notB, cndT, cndF, Bool.not_true, Bool.not_false, Nat.zero_add, Nat.add_zero]
  refine eql_t rfl ?_
  try simp only [gdTT, gdFF, gdTF, gdFT, pvS, pickT, pickF, faP, lenS, capS, nilP, exA, exB, exC, notB, cndT, cndF, Bool.not_true, Bool.not_false, Nat.zero_add, Nat.add_zero]
  refine eql_t rfl ?_
  try simp only [gdTT, gdFF, gdTF, gdFT, pvS, pickT, pickF, faP, lenS, capS, nilP, exA, exB, exC, notB, cndT, cndF, Bool.not_true, Bool.not_false, Nat.zero_add, Nat.add_zero]
  refine same_c (ha.mono hF8) hb (by omega) ?_
  rw [decide_eq_true rfl]
  try simp only [gdTT, gdFF, gdTF, gdFT, pvS, pickT, pickF, faP, lenS, capS, nilP, exA, exB, exC, notB, cndT, cndF, Bool.not_true, Bool.not_false, Nat.zero_add, Nat.add_zero]
  try simp only [hll]
  try simp only [gdTT, gdFF, gdTF, gdFT, pvS, pickT, pickF, faP, lenS, capS, nilP, exA, exB, exC, notB, cndT, cndF, Bool.not_true, Bool.not_false, Nat.zero_add, Nat.add_zero]
  refine rtsound_c (ha.mono hF8) (by omega) (fun N9 hN9 hw9 => ?_)
  rw [hgr.sound]
  try simp only [gdTT, gdFF, gdTF, gdFT, pvS, pickT, pickF, faP, lenS, capS, nilP, exA, exB, exC, notB, cndT, cndF, Bool.not_true, Bool.not_false, Nat.zero_add, Nat.add_zero]
  exact fun hc => ⟨_, wk_refl hc, fun _ => k _⟩
end Go.Proofs.YthpacapdaembpaaDoor.A
open Go Go.RowKit Go.Proofs.YthpacapdaembpaaDoor.K Go.Proofs.YthpacapdaembpaaDoor.T
set_option linter.unusedVariables false
set_option linter.unusedSimpArgs false
namespace Go.Proofs.YthpacapdaembpaaDoor.A
variable {F F' : Nat → Option (List Value)} {M M' : Nat → Option Chunk} {N N' : Nat} {K : Kont} {E : PanK}
theorem upLev_trans {l : List Dm} {a b c : List Int} (h1 : upLev l a b) (h2 : upLev l b c) : upLev l a c := ⟨h1.1, h2.2.1, fun i hi => by have := h1.2.2 i hi; have := h2.2.2 i hi; omega⟩
theorem levOf_up {l : List Dm} {c m : List Int} (hl : m.length = l.length) (hm : okLev l m) : upLev l m (levOf l c m) := by
  obtain ⟨h1, h2⟩ := levOf_ok (c := c) hm
  exact ⟨hl, levOf_len l c m, fun i hi => ⟨(hm i hi).1, h2 i hi, (h1 i hi).2⟩⟩
/-- TableSteps -/
theorem tableSteps_c {um uk uk2 uv ua ub : Value} {m : List (Int × List Int)} {ks ks2 : List (List Int)} {v ca cb : List Int} (hm : cutsD F um m) (hml : m.length ≤ 140737488351232) (hmc : ∀ c ∈ m, (0 ≤ c.1 ∧ c.1 < 65536) ∧ ∀ x ∈ c.2, 0 ≤ x ∧ x < 256)
    (hk : kksD .u16 F uk ks) (hkl : ks.length ≤ 140737488351232) (hkc : ∀ k ∈ ks, ∀ x ∈ k, 0 ≤ x ∧ x < 65536) (hk2 : kksD .u16 F uk2 ks2) (hkl2 : ks2.length ≤ 140737488351232) (hkc2 : ∀ k ∈ ks2, ∀ x ∈ k, 0 ≤ x ∧ x < 65536) (hv : sF F 1 uv v.length (ic v)) (hvl : v.length ≤ 140737488351232) (hvc : ∀ x ∈ v, i64 x)
    (ha : sF F 1 ua ca.length (ick .u8 ca)) (hal : ca.length ≤ 140737488351232) (hac : ∀ x ∈ ca, 0 ≤ x ∧ x < 256) (hb : sF F 1 ub cb.length (ick .u8 cb)) (hbl : cb.length ≤ 140737488351232) (hbc : ∀ x ∈ cb, 0 ≤ x ∧ x < 256) (k : ∀ h, K (.bool true) h) :
    call Tryd.prog 10 #[um, uk, uk2, uv, ua, ub] K E ⟨F, M, N⟩ := by
  refine call_text mixed Tryd.func10 (by kernel_rfl) (t10 _ E _ _ _ _ _ _) (fun hw => ?_)
  have kn : ∀ {M : Nat → Option Chunk} {F : Nat → Option (List Value)} {N : Nat}, callv Tryd.prog (.func (.func 18) #[] #[]) #[] (fun v h => h.wf → ∃ h', h.wk h' ∧ (h'.wf → K v h')) E ⟨F, M, N⟩ := known_c (fun F' N' _ _ _ hc => ⟨_, wk_refl hc, fun _ => k _⟩)
  have hlk : lenV uk = some (.int .i64 (ks.length : Nat)) := by obtain ⟨rows, h1, _⟩ := hk; obtain ⟨a, c, rfl, _⟩ := h1.form; rfl
  have hlk2 : lenV uk2 = some (.int .i64 (ks2.length : Nat)) := by obtain ⟨rows, h1, _⟩ := hk2; obtain ⟨a, c, rfl, _⟩ := h1.form; rfl
  simp only [hlk]
  try simp only [gdTT, gdFF, gdTF, gdFT, pvS, pickT, pickF, faP, lenS, capS, nilP, exA, exB, exC, notB, cndT, cndF, Bool.not_true, Bool.not_false, Nat.zero_add, Nat.add_zero]
  refine gtr_r (fun h1 => ?_) (fun h1 => ?_)
  · try simp only [gdTT, gdFF, gdTF, gdFT, pvS, pickT, pickF, faP, lenS, capS, nilP, exA, exB, exC, notB, cndT, cndF, Bool.not_true, Bool.not_false, Nat.zero_add, Nat.add_zero]; exact kn
  try simp only [gdTT, gdFF, gdTF, gdFT, pvS, pickT, pickF, faP, lenS, capS, nilP, exA, exB, exC, notB, cndT, cndF, Bool.not_true, Bool.not_false, Nat.zero_add, Nat.add_zero]
  simp only [hlk2]
  try simp only [gdTT, gdFF, gdTF, gdFT, pvS, pickT, pickF, faP, lenS, capS, nilP, exA, exB, exC, notB, cndT, cndF, Bool.not_true, Bool.not_false, Nat.zero_add, Nat.add_zero]
  refine gtr_r (fun h2 => ?_) (fun h2 => ?_)
  · try simp only [gdTT, gdFF, gdTF, gdFT, pvS, pickT, pickF, faP, lenS, capS, nilP, exA, exB, exC, notB, cndT, cndF, Bool.not_true, Bool.not_false, Nat.zero_add, Nat.add_zero]; exact kn
  try simp only [gdTT, gdFF, gdTF, gdFT, pvS, pickT, pickF, faP, lenS, capS, nilP, exA, exB, exC, notB, cndT, cndF, Bool.not_true, Bool.not_false, Nat.zero_add, Nat.add_zero]
  refine known_c (fun F1 N1 hF1 hN1 hw1 => ?_)
  try simp only [gdTT, gdFF, gdTF, gdFT, pvS, pickT, pickF, faP, lenS, capS, nilP, exA, exB, exC, notB, cndT, cndF, Bool.not_true, Bool.not_false, Nat.zero_add, Nat.add_zero]
  have hgd := dimsOf_good m (fun c hc => (hmc c hc).1)
  have hok := dimsOf_ok (m := m) (fun c hc => (hmc c hc).1)
  refine dof_c (hm.mono hF1) hml hmc (fun ul F2 N2 hw2 hF2 hN2 hd => ?_)
  generalize dimsOf m = l at *
  have hll : lenV ul = some (.int .i64 (l.length : Nat)) := by obtain ⟨a, c, h⟩ := hd.form; rw [h]; rfl
  have hl4 := hgd.2.1
  have hdv : ∀ d ∈ l, d.2.length ≤ 1000000 := fun d hd => by have := okDim_div (okDims_all hok d hd); omega
  have hds : ∀ d ∈ l, 0 < d.1 ∧ d.1 ≤ 1000000 := fun d hd => by have := hgd.2.2 d hd; omega
  simp only [hll]
  try simp only [gdTT, gdFF, gdTF, gdFT, pvS, pickT, pickF, faP, lenS, capS, nilP, exA, exB, exC, notB, cndT, cndF, Bool.not_true, Bool.not_false, Nat.zero_add, Nat.add_zero]
  refine mkz_r (by omega) (fun b0 hb0 => ?_)
  refine callv_go (fun hc' => ⟨_, frz_wf hw2.m (fun q hq => upd_ne _ _ (by omega)) hc', ?_⟩)
  have hs2 := subF_frzAll (N := N2) hc'
  have hz : sF (frzAll F2 (upd M b0 (some (.cells 3 (ic (zeros l.length)) l.length))) N2) 1 (.slice (some ⟨b0, 0, none⟩) l.length l.length) (zeros l.length).length (ic (zeros l.length)) := by
    rw [zeros_len]; exact sF_lit (frz_at hb0 (upd_same _ _ _)) (by simp [ic, zeros]) (Nat.le_refl _)
  have hF2' := hF2.trans hs2
  have hd2 := hd.mono hs2
  generalize frzAll F2 (upd M b0 (some (.cells 3 (ic (zeros l.length)) l.length))) N2 = F3 at *
  refine lgen_c (m := []) hd2 ((ha.mono hF1).mono hF2') (sF.nil _ _ _) (by omega) hdv hac (nil_ok l) hal (by simp) (fun umid F4 N4 hw4 hF4 hN4 hmid => ?_)
  have hmok := (levOf_ok (c := ca) (nil_ok l)).1
  have hmidl := levOf_len l ca []
  have hup1 := zeros_up hmidl hmok
  have hmi := okLev_i64 hmidl hmok hdv
  generalize levOf l ca [] = mid at *
  refine lgen_c (m := mid) (hd2.mono hF4) (((hb.mono hF1).mono hF2').mono hF4) hmid (by omega) hdv hbc hmok hbl (by omega) (fun utop F5 N5 hw5 hF5 hN5 htop => ?_)
  have htok := (levOf_ok (c := cb) hmok).1
  have htl := levOf_len l cb mid
  have hup2 := levOf_up (c := cb) hmidl hmok
  have hup3 := upLev_trans hup1 hup2
  have hti := okLev_i64 htl htok hdv
  generalize levOf l cb mid = top at *
  have hd5 := (hd2.mono hF4).mono hF5
  have F15 : subF F1 F5 := (hF2'.trans hF4).trans hF5
  -- the facts and their tables
  refine facts_c hd5 ((hk.mono hF1).mono F15) ((hv.mono hF1).mono F15) (by omega) hds hkc hkl hvl (fun uf F6 N6 hw6 hF6 hN6 hf => ?_)
  have hgs := goodT.facts (ks := ks) hgd hvc
  have hls := tab_len ((factsOf l ks v).map fr1)
  rw [List.length_map, factsOf_len] at hls
  have hzs := sizeL_facts (factsOf l ks v)
  rw [factsOf_len] at hzs
  refine make_c hf (by rw [factsOf_len]; omega) (facts_okK hgd) (fun us F7 N7 hw7 hF7 hN7 hs => ?_)
  have F57 := hF6.trans hF7
  refine facts_c (hd5.mono F57) (((hk2.mono hF1).mono F15).mono F57) (((hv.mono hF1).mono F15).mono F57) (by omega) hds hkc2 hkl2 hvl (fun uf2 F8 N8 hw8 hF8 hN8 hf2 => ?_)
  have hgt := goodT.facts (ks := ks2) hgd hvc
  have hlt := tab_len ((factsOf l ks2 v).map fr1)
  rw [List.length_map, factsOf_len] at hlt
  have hzt := sizeL_facts (factsOf l ks2 v)
  rw [factsOf_len] at hzt
  refine make_c hf2 (by rw [factsOf_len]; omega) (facts_okK hgd) (fun ut F9 N9 hw9 hF9 hN9 ht => ?_)
  have F79 := hF8.trans hF9
  generalize tab ((factsOf l ks v).map fr1) = S at *
  generalize (factsOf l ks v).map kvF = LS at *
  generalize tab ((factsOf l ks2 v).map fr1) = T at *
  generalize (factsOf l ks2 v).map kvF = LT at *
  have hz9 := (((hz.mono hF4).mono hF5).mono F57).mono F79
  have hm9 := ((hmid.mono hF5).mono F57).mono F79
  have ht9 := (htop.mono F57).mono F79
  have hd9 := (hd5.mono F57).mono F79
  have hS9 := hs.mono F79
  -- x, y, z
  obtain ⟨ex, hgx⟩ := hgs.rolled hok hup1 (small2 (by omega) (by omega))
  have hlx := rollT_len l S (zeros l.length) mid
  refine troll_c hd9 (by omega) hS9 (by omega) hz9 hm9 hmi hgs.i64 (fun ux F10 N10 hw10 hF10 hN10 hx => ?_)
  rw [ex]
  try simp only [gdTT, gdFF, gdTF, gdFT, pvS, pickT, pickF, faP, lenS, capS, nilP, exA, exB, exC, notB, cndT, cndF, Bool.not_true, Bool.not_false, Nat.zero_add, Nat.add_zero]
  obtain ⟨ey, hgy⟩ := hgx.rolled hok hup2 (small2 (by omega) (by rw [reK_size]; omega))
  have hly := rollT_len l (rollT l S (zeros l.length) mid) mid top
  refine troll_c (hd9.mono hF10) (by omega) hx (by omega) (hm9.mono hF10) (ht9.mono hF10) hti hgx.i64 (fun uy F11 N11 hw11 hF11 hN11 hy => ?_)
  rw [ey]
  try simp only [gdTT, gdFF, gdTF, gdFT, pvS, pickT, pickF, faP, lenS, capS, nilP, exA, exB, exC, notB, cndT, cndF, Bool.not_true, Bool.not_false, Nat.zero_add, Nat.add_zero]
  have FA := hF10.trans hF11
  obtain ⟨ez, hgz⟩ := hgs.rolled hok hup3 (small2 (by omega) (by omega))
  have hlz := rollT_len l S (zeros l.length) top
  refine troll_c (hd9.mono FA) (by omega) (hS9.mono FA) (by omega) (hz9.mono FA) (ht9.mono FA) hti hgs.i64 (fun uz F12 N12 hw12 hF12 hN12 hzz => ?_)
  rw [ez]
  try simp only [gdTT, gdFF, gdTF, gdFT, pvS, pickT, pickF, faP, lenS, capS, nilP, exA, exB, exC, notB, cndT, cndF, Bool.not_true, Bool.not_false, Nat.zero_add, Nat.add_zero]
  have FB := FA.trans hF12
  have hokS : ∀ r ∈ S ++ T, okK r.1 := fun r hr => (List.mem_append.1 hr).elim (hgs.okK (by omega) r) (hgt.okK (by omega) r)
  refine tmerge_c (hS9.mono FB) (ht.mono FB) (by omega) hokS (fun um2 F13 N13 hw13 hF13 hN13 hmm => ?_)
  have hgm := hgs.merge hgt (small4 (by omega) (by omega) (by omega) (by omega))
  have hlm := tab_len (S ++ T)
  rw [List.length_append] at hlm
  have FC := FB.trans hF13
  obtain ⟨ep, hgp⟩ := hgm.rolled hok hup3 (small2 (by omega) (by rw [sizeL_app]; omega))
  have hlp := rollT_len l (tab (S ++ T)) (zeros l.length) top
  refine troll_c (hd9.mono FC) (by omega) hmm (by omega) (hz9.mono FC) (ht9.mono FC) hti hgm.i64 (fun up F14 N14 hw14 hF14 hN14 hp => ?_)
  rw [ep]
  try simp only [gdTT, gdFF, gdTF, gdFT, pvS, pickT, pickF, faP, lenS, capS, nilP, exA, exB, exC, notB, cndT, cndF, Bool.not_true, Bool.not_false, Nat.zero_add, Nat.add_zero]
  have FD := FC.trans hF14
  obtain ⟨eq, hgq⟩ := hgt.rolled hok hup3 (small2 (by omega) (by omega))
  have hlq := rollT_len l T (zeros l.length) top
  refine troll_c (hd9.mono FD) (by omega) (ht.mono FD) (by omega) (hz9.mono FD) (ht9.mono FD) hti hgt.i64 (fun uq F15' N15 hw15 hF15 hN15 hq => ?_)
  rw [eq]
  try simp only [gdTT, gdFF, gdTF, gdFT, pvS, pickT, pickF, faP, lenS, capS, nilP, exA, exB, exC, notB, cndT, cndF, Bool.not_true, Bool.not_false, Nat.zero_add, Nat.add_zero]
  refine eql_t rfl ?_
  try simp only [gdTT, gdFF, gdTF, gdFT, pvS, pickT, pickF, faP, lenS, capS, nilP, exA, exB, exC, notB, cndT, cndF, Bool.not_true, Bool.not_false, Nat.zero_add, Nat.add_zero]
  refine eql_t rfl ?_
  try simp only [gdTT, gdFF, gdTF, gdFT, pvS, pickT, pickF, faP, lenS, capS, nilP, exA, exB, exC, notB, cndT, cndF, Bool.not_true, Bool.not_false, Nat.zero_add, Nat.add_zero]
  refine eql_t rfl ?_
  try simp only [gdTT, gdFF, gdTF, gdFT, pvS, pickT, pickF, faP, lenS, capS, nilP, exA, exB, exC, notB, cndT, cndF, Bool.not_true, Bool.not_false, Nat.zero_add, Nat.add_zero]
  refine eql_t rfl ?_
  try simp only [gdTT, gdFF, gdTF, gdFT, pvS, pickT, pickF, faP, lenS, capS, nilP, exA, exB, exC, notB, cndT, cndF, Bool.not_true, Bool.not_false, Nat.zero_add, Nat.add_zero]
  refine eql_t rfl ?_
  try simp only [gdTT, gdFF, gdTF, gdFT, pvS, pickT, pickF, faP, lenS, capS, nilP, exA, exB, exC, notB, cndT, cndF, Bool.not_true, Bool.not_false, Nat.zero_add, Nat.add_zero]
  have FE : subF F12 F15' := (hF13.trans hF14).trans hF15
  have e1 : rollT l (rollT l S (zeros l.length) mid) mid top = rollT l S (zeros l.length) top := hgy.ext hgz (fun q => by rw [reK_comp hok hup1 hup2 hup3 hgs.key])
  refine same_c ((hy.mono hF12).mono FE) (hzz.mono FE) (by omega) ?_
  rw [decide_eq_true e1]
  try simp only [gdTT, gdFF, gdTF, gdFT, pvS, pickT, pickF, faP, lenS, capS, nilP, exA, exB, exC, notB, cndT, cndF, Bool.not_true, Bool.not_false, Nat.zero_add, Nat.add_zero]
  have hokZ : ∀ r ∈ rollT l S (zeros l.length) top ++ rollT l T (zeros l.length) top, okK r.1 := fun r hr => (List.mem_append.1 hr).elim (hgz.okK (by omega) r) (hgq.okK (by omega) r)
  refine tmerge_c (hzz.mono FE) hq (by omega) hokZ (fun uw F16 N16 hw16 hF16 hN16 hw' => ?_)
  have hgw := hgz.merge hgq (small4 (by omega) (by rw [reK_size]; omega) (by omega) (by rw [reK_size]; omega))
  have e2 : rollT l (tab (S ++ T)) (zeros l.length) top = tab (rollT l S (zeros l.length) top ++ rollT l T (zeros l.length) top) := hgp.ext hgw (fun q => by rw [reK_app])
  refine same_c ((hp.mono hF15).mono hF16) hw' (by omega) ?_
  rw [decide_eq_true e2]
  try simp only [gdTT, gdFF, gdTF, gdFT, pvS, pickT, pickF, faP, lenS, capS, nilP, exA, exB, exC, notB, cndT, cndF, Bool.not_true, Bool.not_false, Nat.zero_add, Nat.add_zero]
  exact fun hc => ⟨_, wk_refl hc, fun _ => k _⟩
end Go.Proofs.YthpacapdaembpaaDoor.A
open Go Go.RowKit Go.Proofs.YthpacapdaembpaaDoor.K Go.Proofs.YthpacapdaembpaaDoor.T
set_option linter.unusedVariables false
set_option linter.unusedSimpArgs false
namespace Go.Proofs.YthpacapdaembpaaDoor.A
variable {F F' : Nat → Option (List Value)} {M M' : Nat → Option Chunk} {N N' : Nat} {K : Kont} {E : PanK}
theorem wf_i64 {x : Int} (h : (Lit.int .i64 x).wf = true) : i64 x := by
  have h' : -9223372036854775808 ≤ x ∧ x ≤ 9223372036854775807 := by simpa [Lit.wf, IntKind.min, IntKind.max, IntKind.signed, IntKind.bits] using h
  exact h'
theorem rowsF_all {α : Type} {R : List Value → α → Prop} {sz : Nat} {rows : List (List Value)} {xs : List α} (h : rowsF R sz rows xs) : ∀ x ∈ xs, ∃ r, R r x := fun x hx => by
  obtain ⟨i, hi, rfl⟩ := List.mem_iff_getElem.1 hx
  obtain ⟨r, _, h2, _⟩ := h.get (List.getElem?_eq_getElem hi)
  exact ⟨r, h2⟩
theorem keyI {cs : List Value} {l : List Int} (h : rS 1 (rI .i64) F cs l) : ∃ v, cs = [v] ∧ sF F 1 v l.length (ic l) ∧ (∀ x ∈ l, i64 x) ∧ l.length ≤ 140737488351232 := by
  obtain ⟨v, rows, rfl, h2⟩ := h
  obtain ⟨h3, h4, h5⟩ := rS_ints ⟨v, rows, rfl, h2⟩
  exact ⟨v, rfl, h3, fun x hx => wf_i64 (h4 x hx), h5⟩
/-- Facts that come in. -/
theorem facts_of {v : Value} {y : List (List Int × Int)} (h : rS 2 (rP (rS 1 (rI .i64)) (rI .i64)) F [v] y) : fctsD F v y ∧ y.length ≤ 140737488351232 ∧ ∀ f ∈ y, (∀ x ∈ f.1, i64 x) ∧ i64 f.2 := by
  obtain ⟨v', rows, e, hv, hr, hl⟩ := h
  injection e with e _
  subst e
  have hr' : rowsF (fun r f => fctD F r f ∧ (∀ x ∈ f.1, i64 x) ∧ i64 f.2) 2 rows y := hr.mono fun r f ⟨c1, c2, e, ha, hb⟩ => by
    obtain ⟨u, rfl, h1, h2, h3⟩ := keyI ha
    obtain ⟨rfl, h4⟩ := hb
    exact ⟨⟨u, by rw [e]; rfl, h1, h3⟩, h2, wf_i64 h4⟩
  exact ⟨⟨rows, hv, hr'.mono fun _ _ h => h.1⟩, hl, fun f hf => by obtain ⟨r, h⟩ := rowsF_all hr' f hf; exact h.2⟩
theorem TableMakes_true (v : Value) {y : List (List Int × Int)} (W : World) (hv : rS 2 (rP (rS 1 (rI .i64)) (rI .i64)) (F0 W) [v] y) :
    Calls Tryd.prog 4 #[v] W fun e w' => e = .returned (.bool true) ∧ Below W.heap.size W w' :=
  have h := facts_of hv
  (calls0 (K := fun v => v = .bool true) (tableMakes_c h.1 h.2.1 (fun f hf => (h.2.2 f hf).1) fun _ => rfl)).mono fun e w' ⟨⟨v, he, hv⟩, hb⟩ => ⟨by rw [he, hv], hb⟩
end Go.Proofs.YthpacapdaembpaaDoor.A
open Go Go.RowKit Go.Proofs.YthpacapdaembpaaDoor.K Go.Proofs.YthpacapdaembpaaDoor.T
set_option linter.unusedVariables false
set_option linter.unusedSimpArgs false
namespace Go.Proofs.YthpacapdaembpaaDoor.A
variable {F F' : Nat → Option (List Value)} {M M' : Nat → Option Chunk} {N N' : Nat} {K : Kont} {E : PanK}
/-- A table as it comes in. -/
abbrev rCell : (Nat → Option (List Value)) → List Value → Int × Int × Int × Int → Prop := rP (rI .i64) (rP (rI .i64) (rP (rI .i64) (rI .i64)))
abbrev rRow : (Nat → Option (List Value)) → List Value → List Int × Int × Int × Int × Int → Prop := rP (rS 1 (rI .i64)) rCell
def toRw (y : List Int × Int × Int × Int × Int) : Rw := (y.1, ⟨y.2.1, y.2.2.1, y.2.2.2.1, y.2.2.2.2⟩)
theorem row_of {cs : List Value} {y : List Int × Int × Int × Int × Int} (h : rRow F cs y) : rowD F cs (toRw y) ∧ ∀ x ∈ y.1, i64 x := by
  obtain ⟨c1, c2, e, ha, c3, c4, e2, ⟨rfl, _⟩, c5, c6, e3, ⟨rfl, _⟩, c7, c8, e4, ⟨rfl, _⟩, ⟨rfl, _⟩⟩ := h
  obtain ⟨u, rfl, h1, h2, h3⟩ := keyI ha
  exact ⟨⟨u, by rw [e, e2, e3, e4]; rfl, h1, h3⟩, h2⟩
theorem all2_map {α β γ : Type} {R : α → γ → Prop} (f : β → γ) {xs : List α} {ys : List β} (h : all2 (fun a b => R a (f b)) xs ys) : all2 R xs (ys.map f) :=
  ⟨by simp [h.1], fun i x y hx hy => by
    rw [List.getElem?_map] at hy
    cases hb : ys[i]? with
    | none => rw [hb] at hy; cases hy
    | some b => rw [hb] at hy; simp at hy; subst hy; exact h.2 i x b hx hb⟩
theorem rowsF_map {α β : Type} {R : List Value → β → Prop} {sz : Nat} (f : α → β) {rows : List (List Value)} {xs : List α} (h : rowsF (fun r x => R r (f x)) sz rows xs) : rowsF R sz rows (xs.map f) := ⟨h.len, h.one, all2_map f h.all⟩
theorem table_of {v : Value} {y : List (List Int × Int × Int × Int × Int)} (h : rS 5 rRow F [v] y) : tblD F v (y.map toRw) ∧ (y.map toRw).length ≤ 140737488351232 ∧ ∀ r ∈ y.map toRw, ∀ x ∈ r.1, i64 x := by
  obtain ⟨v', rows, e, hv, hr, hl⟩ := h
  injection e with e _
  subst e
  have hr' : rowsF (fun r x => rowD F r (toRw x) ∧ ∀ z ∈ x.1, i64 z) 5 rows y := hr.mono fun r f h => row_of h
  refine ⟨⟨rows, by rw [List.length_map]; exact hv, rowsF_map toRw (hr'.mono fun _ _ h => h.1)⟩, by rw [List.length_map]; exact hl, fun r hr2 => ?_⟩
  obtain ⟨x, hx, rfl⟩ := List.mem_map.1 hr2
  obtain ⟨c, hc⟩ := rowsF_all hr' x hx
  exact hc.2
theorem fin_true {f : FuncId} {args : Array Value} {W : World} (h : call Tryd.prog f args (fun v _ => v = .bool true) (fun _ _ => False) (h0 W)) : Calls Tryd.prog f args W fun e w' => e = .returned (.bool true) ∧ Below W.heap.size W w' :=
  (calls0 (K := fun v => v = .bool true) h).mono fun e w' ⟨⟨v, he, hv⟩, hb⟩ => ⟨by rw [he, hv], hb⟩
theorem TableMerges_true (v0 v1 : Value) {y0 y1 : List (List Int × Int × Int × Int × Int)} (W : World) (h0 : rS 5 rRow (F0 W) [v0] y0) (h1 : rS 5 rRow (F0 W) [v1] y1) :
    Calls Tryd.prog 6 #[v0, v1] W fun e w' => e = .returned (.bool true) ∧ Below W.heap.size W w' :=
  have a := table_of h0
  have b := table_of h1
  fin_true (tableMerges_c a.1 b.1 a.2.1 b.2.1 a.2.2 b.2.2 fun _ => rfl)
theorem TableOne_true (v0 v1 : Value) {y0 y1 : List Int} (W : World) (h0 : rS 1 (rI .i64) (F0 W) [v0] y0) (h1 : rS 1 (rI .i64) (F0 W) [v1] y1) :
    Calls Tryd.prog 5 #[v0, v1] W fun e w' => e = .returned (.bool true) ∧ Below W.heap.size W w' := by
  obtain ⟨u, e0, a1, a2, a3⟩ := keyI h0
  obtain ⟨w, e1, b1, b2, b3⟩ := keyI h1
  injection e0 with e0 _; injection e1 with e1 _
  subst e0; subst e1
  exact fin_true (tableOne_c a1 b1 a3 b3 a2 fun _ => rfl)
end Go.Proofs.YthpacapdaembpaaDoor.A
open Go Go.RowKit Go.Proofs.YthpacapdaembpaaDoor.K Go.Proofs.YthpacapdaembpaaDoor.T
set_option linter.unusedVariables false
set_option linter.unusedSimpArgs false
namespace Go.Proofs.YthpacapdaembpaaDoor.A
variable {F F' : Nat → Option (List Value)} {M M' : Nat → Option Chunk} {N N' : Nat} {K : Kont} {E : PanK}
theorem wf_u16 {x : Int} (h : (Lit.int .u16 x).wf = true) : 0 ≤ x ∧ x < 65536 := by
  have h' : 0 ≤ x ∧ x ≤ 65535 := by simpa [Lit.wf, IntKind.min, IntKind.max, IntKind.signed, IntKind.bits] using h
  omega
theorem wf_u8 {x : Int} (h : (Lit.int .u8 x).wf = true) : 0 ≤ x ∧ x < 256 := by
  have h' : 0 ≤ x ∧ x ≤ 255 := by simpa [Lit.wf, IntKind.min, IntKind.max, IntKind.signed, IntKind.bits] using h
  omega
theorem listK {kk : IntKind} {cs : List Value} {l : List Int} (h : rS 1 (rI kk) F cs l) : ∃ v, cs = [v] ∧ sF F 1 v l.length (ick kk l) ∧ (∀ x ∈ l, (Lit.int kk x).wf = true) ∧ l.length ≤ 140737488351232 := by
  obtain ⟨v, rows, rfl, h2⟩ := h
  obtain ⟨h3, h4, h5⟩ := rS_ints ⟨v, rows, rfl, h2⟩
  exact ⟨v, rfl, h3, h4, h5⟩
theorem list_of {kk : IntKind} {v : Value} {l : List Int} (h : rS 1 (rI kk) F [v] l) : sF F 1 v l.length (ick kk l) ∧ (∀ x ∈ l, (Lit.int kk x).wf = true) ∧ l.length ≤ 140737488351232 := by
  obtain ⟨u, e, h⟩ := listK h
  injection e with e _
  subst e; exact h
theorem lists_of {kk : IntKind} {v : Value} {ls : List (List Int)} (h : rS 1 (rS 1 (rI kk)) F [v] ls) : kksD kk F v ls ∧ ls.length ≤ 140737488351232 ∧ ∀ l ∈ ls, ∀ x ∈ l, (Lit.int kk x).wf = true := by
  obtain ⟨v', rows, e, hv, hr, hl⟩ := h
  injection e with e _
  subst e
  have hr' : rowsF (fun r c => (∃ u, r = [u] ∧ sF F 1 u c.length (ick kk c) ∧ c.length ≤ 140737488351232) ∧ ∀ x ∈ c, (Lit.int kk x).wf = true) 1 rows ls := hr.mono fun r c h => by
    obtain ⟨u, rfl, h1, h2, h3⟩ := listK h
    exact ⟨⟨u, rfl, h1, h3⟩, h2⟩
  exact ⟨⟨rows, hv, hr'.mono fun _ _ h => h.1⟩, hl, fun l hl => by obtain ⟨r, h⟩ := rowsF_all hr' l hl; exact h.2⟩
abbrev rCut : (Nat → Option (List Value)) → List Value → Int × List Int → Prop := rP (rI .u16) (rS 1 (rI .u8))
theorem cuts_of {v : Value} {y : List (Int × List Int)} (h : rS 2 rCut F [v] y) : cutsD F v y ∧ y.length ≤ 140737488351232 ∧ ∀ c ∈ y, (0 ≤ c.1 ∧ c.1 < 65536) ∧ ∀ x ∈ c.2, 0 ≤ x ∧ x < 256 := by
  obtain ⟨v', rows, e, hv, hr, hl⟩ := h
  injection e with e _
  subst e
  have hr' : rowsF (fun r f => cutD F r f ∧ (0 ≤ f.1 ∧ f.1 < 65536) ∧ ∀ x ∈ f.2, 0 ≤ x ∧ x < 256) 2 rows y := hr.mono fun r f ⟨c1, c2, e, ⟨ha, hb⟩, hc⟩ => by
    obtain ⟨u, rfl, h1, h2, h3⟩ := listK hc
    exact ⟨⟨u, by rw [e, ha]; rfl, h1, h3⟩, wf_u16 hb, fun x hx => wf_u8 (h2 x hx)⟩
  exact ⟨⟨rows, hv, hr'.mono fun _ _ h => h.1⟩, hl, fun c hc => by obtain ⟨r, h⟩ := rowsF_all hr' c hc; exact h.2⟩
theorem TableSounds_true (v0 : Value) (a1 : Int) (v2 v3 v4 : Value) {y0 : List (List Int × Int × Int × Int × Int)} {y2 : List (Int × List Int)} {y3 : List (List Int)} {y4 : List Int} (W : World) (h0 : rS 5 rRow (F0 W) [v0] y0) (w1 : (Lit.int .i64 a1).wf = true) (h2 : rS 2 rCut (F0 W) [v2] y2) (h3 : rS 1 (rS 1 (rI .u16)) (F0 W) [v3] y3) (h4 : rS 1 (rI .i64) (F0 W) [v4] y4) :
    Calls Tryd.prog 3 #[v0, .int .i64 a1, v2, v3, v4] W fun e w' => e = .returned (.bool true) ∧ Below W.heap.size W w' :=
  have a := table_of h0
  have b := cuts_of h2
  have c := lists_of h3
  have d := list_of h4
  fin_true (tableSounds_c a.1 a.2.1 b.1 b.2.1 b.2.2 c.1 c.2.1 (fun l hl x hx => wf_u16 (c.2.2 l hl x hx)) d.1 d.2.2 (fun x hx => wf_i64 (d.2.1 x hx)) fun _ => rfl)
end Go.Proofs.YthpacapdaembpaaDoor.A
open Go Go.RowKit Go.Proofs.YthpacapdaembpaaDoor.K Go.Proofs.YthpacapdaembpaaDoor.T
set_option linter.unusedVariables false
set_option linter.unusedSimpArgs false
namespace Go.Proofs.YthpacapdaembpaaDoor.A
variable {F F' : Nat → Option (List Value)} {M M' : Nat → Option Chunk} {N N' : Nat} {K : Kont} {E : PanK}
abbrev rDim : (Nat → Option (List Value)) → List Value → Int × List Int → Prop := rP (rI .i64) (rS 1 (rI .i64))
theorem dims_of {v : Value} {y : List (Int × List Int)} (h : rS 2 rDim F [v] y) : dimsD F v y ∧ y.length ≤ 140737488351232 ∧ (∀ d ∈ y, d.2.length ≤ 140737488351232) := by
  obtain ⟨v', rows, e, hv, hr, hl⟩ := h
  injection e with e _
  subst e
  have hr' : rowsF (fun r f => dimD F r f) 2 rows y := hr.mono fun r f ⟨c1, c2, e, ⟨ha, hb⟩, hc⟩ => by
    obtain ⟨u, rfl, h1, h2, h3⟩ := listK hc
    exact ⟨u, by rw [e, ha]; rfl, h1, h3⟩
  exact ⟨⟨rows, hv, hr'⟩, hl, fun d hd => by obtain ⟨r, ⟨_, _, _, h⟩⟩ := rowsF_all hr' d hd; exact h⟩
theorem TableRolls_true (v0 v1 v2 v3 : Value) {y0 : List (Int × List Int)} {y1 : List (List Int × Int × Int × Int × Int)} {y2 y3 : List Int} (W : World) (h0 : rS 2 rDim (F0 W) [v0] y0) (h1 : rS 5 rRow (F0 W) [v1] y1) (h2 : rS 1 (rI .i64) (F0 W) [v2] y2) (h3 : rS 1 (rI .i64) (F0 W) [v3] y3) :
    Calls Tryd.prog 8 #[v0, v1, v2, v3] W fun e w' => e = .returned (.bool true) ∧ Below W.heap.size W w' :=
  have a := dims_of h0
  have b := table_of h1
  have c := list_of h2
  have d := list_of h3
  fin_true (tableRolls_c a.1 a.2.1 b.1 b.2.1 c.1 d.1 c.2.2 d.2.2 (fun x hx => wf_i64 (d.2.1 x hx)) b.2.2 fun _ => rfl)
theorem TableGoes_true (v0 v1 v2 v3 : Value) {y0 : List (Int × List Int)} {y1 : List (List Int)} {y2 y3 : List Int} (W : World) (h0 : rS 2 rCut (F0 W) [v0] y0) (h1 : rS 1 (rS 1 (rI .u16)) (F0 W) [v1] y1) (h2 : rS 1 (rI .i64) (F0 W) [v2] y2) (h3 : rS 1 (rI .u8) (F0 W) [v3] y3) :
    Calls Tryd.prog 9 #[v0, v1, v2, v3] W fun e w' => e = .returned (.bool true) ∧ Below W.heap.size W w' :=
  have b := cuts_of h0
  have c := lists_of h1
  have d := list_of h2
  have e := list_of h3
  fin_true (tableGoes_c b.1 b.2.1 b.2.2 c.1 c.2.1 (fun l hl x hx => wf_u16 (c.2.2 l hl x hx)) d.1 d.2.2 (fun x hx => wf_i64 (d.2.1 x hx)) e.1 e.2.2 (fun x hx => wf_u8 (e.2.1 x hx)) fun _ => rfl)
theorem TableSteps_true (v0 v1 v2 v3 v4 v5 : Value) {y0 : List (Int × List Int)} {y1 y2 : List (List Int)} {y3 y4 y5 : List Int} (W : World) (h0 : rS 2 rCut (F0 W) [v0] y0) (h1 : rS 1 (rS 1 (rI .u16)) (F0 W) [v1] y1) (h2 : rS 1 (rS 1 (rI .u16)) (F0 W) [v2] y2) (h3 : rS 1 (rI .i64) (F0 W) [v3] y3) (h4 : rS 1 (rI .u8) (F0 W) [v4] y4) (h5 : rS 1 (rI .u8) (F0 W) [v5] y5) :
    Calls Tryd.prog 10 #[v0, v1, v2, v3, v4, v5] W fun e w' => e = .returned (.bool true) ∧ Below W.heap.size W w' :=
  have b := cuts_of h0
  have c := lists_of h1
  have c' := lists_of h2
  have d := list_of h3
  have e := list_of h4
  have f := list_of h5
  fin_true (tableSteps_c b.1 b.2.1 b.2.2 c.1 c.2.1 (fun l hl x hx => wf_u16 (c.2.2 l hl x hx)) c'.1 c'.2.1 (fun l hl x hx => wf_u16 (c'.2.2 l hl x hx)) d.1 d.2.2 (fun x hx => wf_i64 (d.2.1 x hx)) e.1 e.2.2 (fun x hx => wf_u8 (e.2.1 x hx)) f.1 f.2.2 (fun x hx => wf_u8 (f.2.1 x hx)) fun _ => rfl)
end Go.Proofs.YthpacapdaembpaaDoor.A
