import Derived.Test.YthpacapdaembpaaDoorA1
open Go Go.RowKit Go.Proofs.YthpacapdaembpaaDoor.K Go.Proofs.YthpacapdaembpaaDoor.T
set_option linter.unusedVariables false
set_option linter.unusedSimpArgs false
namespace Go.Proofs.YthpacapdaembpaaDoor.A
variable {F F' : Nat → Option (List Value)} {M M' : Nat → Option Chunk} {N N' : Nat} {K : Kont} {E : PanK}
/-- A cell's numbers. -/
structure CE where
  n : Int
  s : Int
  lo : Int
  hi : Int
  deriving DecidableEq
def CE.cs (c : CE) : List Value := [.int .i64 c.n, .int .i64 c.s, .int .i64 c.lo, .int .i64 c.hi]
/-- cell.Of -/
theorem of_c {v : Int} (k : ∀ N', N ≤ N' → (Hp.mk F M N').wf → K (.agg (CE.mk 1 v v v).cs.toArray) ⟨F, M, N'⟩) : callv Tryd.prog (.func (.func 46) #[] #[]) #[.int .i64 v] K E ⟨F, M, N⟩ := by
  refine callv_of_text mixed Tryd.func46 (by kernel_rfl) (t46 _ E _) (fun hw => ?_)
  have hm := hw.m
  refine nw_r (fun b hb => ?_)
  refine pv_r (v := .agg #[.int .i64 1, .int .i64 v, .int .i64 v, .int .i64 v]) (by kernel_rfl) ?_
  refine stM ?_
  refine ldMa fun hc => ?_
  exact ⟨⟨F, M, b + 1⟩, wk_end hc, fun hw' => k _ (by omega) hw'⟩
/-- What two cells come to. -/
def CE.add (a b : CE) : CE :=
  if b = ⟨0, 0, 0, 0⟩ then a else if a = ⟨0, 0, 0, 0⟩ then b else
    ⟨IntKind.i64.wrap (a.n + b.n), IntKind.i64.wrap (a.s + b.s), if b.lo < a.lo then b.lo else a.lo, if b.hi > a.hi then b.hi else a.hi⟩
theorem eqc_r {a b : CE} {h : Hp} (k : K (.bool (decide (a = b))) h) : pv (eqCells .eql [0, 0, 0, 0] (.agg a.cs.toArray) (.agg b.cs.toArray)) K h := by
  refine ⟨_, ?_, k⟩
  obtain ⟨a1, a2, a3, a4⟩ := a
  obtain ⟨b1, b2, b3, b4⟩ := b
  simp only [eqCells, CE.cs]
  have hd : ∀ x y : Int, (x == y) = decide (x = y) := fun _ _ => rfl
  by_cases h1 : a1 = b1 <;> by_cases h2 : a2 = b2 <;> by_cases h3 : a3 = b3 <;> by_cases h4 : a4 = b4 <;> simp [flatVs, flatV, hd, h1, h2, h3, h4]
/-- (*total).add -/
theorem add_c {g : Nat} {ty : TypeId} {a b : CE} (hM : M g = some (.cells ty a.cs 4)) (k : ∀ N', N ≤ N' → (Hp.mk F (upd M g (some (.cells ty (a.add b).cs 4))) N').wf → K (.tuple #[]) ⟨F, upd M g (some (.cells ty (a.add b).cs 4)), N'⟩) :
    callv Tryd.prog (.func (.func 95) #[] #[]) #[.pointer (some ⟨g, 0, none⟩), .agg b.cs.toArray] K E ⟨F, M, N⟩ := by
  refine callv_of_text mixed Tryd.func95 (by kernel_rfl) (t95 _ E _ _) (fun hw => ?_)
  have hm := hw.m
  have hg : g < N := by
    rcases Nat.lt_or_ge g N with h | h
    · exact h
    · rw [hm g h] at hM; cases hM
  refine nw_r (cs := b.cs) (fun b1 hb1 => ?_)
  refine pv_r (v := .agg #[.int .i64 0, .int .i64 0, .int .i64 0, .int .i64 0]) (by kernel_rfl) ?_
  refine nw_r (fun b2 hb2 => ?_)
  refine stM ?_
  refine ldMa (vs := b.cs) ?_
  refine ldMa (vs := (CE.mk 0 0 0 0).cs) ?_
  refine eqc_r ?_
  by_cases hb0 : b = ⟨0, 0, 0, 0⟩
  · rw [decide_eq_true hb0]
    refine cnd_t fun hc => ?_
    have e : a.add b = a := by unfold CE.add; rw [if_pos hb0]
    rw [e] at k
    have e2 : upd M g (some (.cells ty a.cs 4)) = M := by
      funext q
      by_cases hq : q = g
      · rw [hq, upd_same, hM]
      · rw [upd_ne _ _ hq]
    rw [e2] at k
    exact ⟨⟨F, M, b2 + 1⟩, wk_end hc, fun hw' => k _ (by omega) hw'⟩
  rw [decide_eq_false hb0]
  refine cnd_f (pv_r rfl (pv_r rfl ?_))
  refine ldMa (vs := a.cs) ?_
  refine ldMa (vs := (CE.mk 0 0 0 0).cs) ?_
  refine eqc_r ?_
  by_cases ha0 : a = ⟨0, 0, 0, 0⟩
  · rw [decide_eq_true ha0]
    refine cnd_t ?_
    refine ldMa (vs := b.cs) ?_
    refine pv_r rfl (pv_r rfl (stM (cs' := b.cs) ?_))
    have e : a.add b = b := by unfold CE.add; rw [if_neg hb0, if_pos ha0]
    rw [e] at k
    refine fun hc => ⟨⟨F, upd M g (some (.cells ty b.cs 4)), b2 + 1⟩, wk_drop hc (subM_keep ?_), fun hw' => k _ (by omega) hw'⟩
    exact subM_drop (subM_drop (subM_drop (subM_refl _) (hm _ (by omega))) (hm _ (by omega))) (hm _ (by omega))
  rw [decide_eq_false ha0]
  have e : a.add b = ⟨IntKind.i64.wrap (a.n + b.n), IntKind.i64.wrap (a.s + b.s), if b.lo < a.lo then b.lo else a.lo, if b.hi > a.hi then b.hi else a.hi⟩ := by unfold CE.add; rw [if_neg hb0, if_neg ha0]
  rw [e] at k
  refine cnd_f (pv_r rfl (pv_r rfl (pv_r rfl ?_)))
  refine ldM (v := .int .i64 a.n) ?_
  refine pv_r rfl (ldM (v := .int .i64 b.n) ?_)
  refine pv_r (v := .int .i64 (IntKind.i64.wrap (a.n + b.n))) (by simp [binV, intV]) ?_
  refine pv_r rfl (pv_r rfl (pv_r rfl ?_))
  refine stM (cs' := [.int .i64 (IntKind.i64.wrap (a.n + b.n)), .int .i64 a.s, .int .i64 a.lo, .int .i64 a.hi]) ?_
  refine pv_r rfl (pv_r rfl (pv_r rfl ?_))
  refine ldM (v := .int .i64 a.s) ?_
  refine pv_r rfl (ldM (v := .int .i64 b.s) ?_)
  refine pv_r (v := .int .i64 (IntKind.i64.wrap (a.s + b.s))) (by simp [binV, intV]) ?_
  refine pv_r rfl (pv_r rfl (pv_r rfl ?_))
  refine stM (cs' := [.int .i64 (IntKind.i64.wrap (a.n + b.n)), .int .i64 (IntKind.i64.wrap (a.s + b.s)), .int .i64 a.lo, .int .i64 a.hi]) ?_
  refine pv_r rfl (pv_r rfl (pv_r rfl ?_))
  refine ldM (v := .int .i64 a.lo) ?_
  refine pv_r rfl (ldM (v := .int .i64 b.lo) ?_)
  refine pv_r (v := .int .i64 (if b.lo < a.lo then b.lo else a.lo)) (by simp [mm]) ?_
  refine pv_r rfl (pv_r rfl (pv_r rfl ?_))
  refine stM (cs' := [.int .i64 (IntKind.i64.wrap (a.n + b.n)), .int .i64 (IntKind.i64.wrap (a.s + b.s)), .int .i64 (if b.lo < a.lo then b.lo else a.lo), .int .i64 a.hi]) ?_
  refine pv_r rfl (pv_r rfl (pv_r rfl ?_))
  refine ldM (v := .int .i64 a.hi) ?_
  refine pv_r rfl (ldM (v := .int .i64 b.hi) ?_)
  refine pv_r (v := .int .i64 (if b.hi > a.hi then b.hi else a.hi)) (by simp [mm]) ?_
  refine pv_r rfl (pv_r rfl (pv_r rfl ?_))
  refine stM (cs' := [.int .i64 (IntKind.i64.wrap (a.n + b.n)), .int .i64 (IntKind.i64.wrap (a.s + b.s)), .int .i64 (if b.lo < a.lo then b.lo else a.lo), .int .i64 (if b.hi > a.hi then b.hi else a.hi)]) ?_
  intro hc
  refine ⟨⟨F, upd M g (some (.cells ty (CE.mk (IntKind.i64.wrap (a.n + b.n)) (IntKind.i64.wrap (a.s + b.s)) (if b.lo < a.lo then b.lo else a.lo) (if b.hi > a.hi then b.hi else a.hi)).cs 4)), b2 + 1⟩, wk_drop hc fun q c hq => ?_, fun hw' => k _ (by omega) hw'⟩
  by_cases hqg : q = g
  · subst hqg; rw [upd_same] at hq ⊢; exact hq
  · rw [upd_ne _ _ hqg] at hq
    have : q < N := by
      rcases Nat.lt_or_ge q N with h | h
      · exact h
      · rw [hm q h] at hq; cases hq
    rw [upd_ne _ _ hqg, upd_ne _ _ hqg, upd_ne _ _ hqg, upd_ne _ _ hqg, upd_ne _ _ (by omega), upd_ne _ _ (by omega), upd_ne _ _ (by omega)]
    exact hq
end Go.Proofs.YthpacapdaembpaaDoor.A
