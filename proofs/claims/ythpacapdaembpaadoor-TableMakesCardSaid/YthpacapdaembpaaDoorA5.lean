import Derived.Test.YthpacapdaembpaaDoorA4
import Derived.Test.YthpacapdaembpaaDoorU4
open Go Go.RowKit Go.Proofs.YthpacapdaembpaaDoor.K Go.Proofs.YthpacapdaembpaaDoor.T
set_option linter.unusedVariables false
set_option linter.unusedSimpArgs false
namespace Go.Proofs.YthpacapdaembpaaDoor.A
variable {F F' : Nat → Option (List Value)} {M M' : Nat → Option Chunk} {N N' : Nat} {K : Kont} {E : PanK}
/-- Of, of the reference -/
theorem rof_c {v : Int} (k : ∀ N', N ≤ N' → (Hp.mk F M N').wf → K (.agg (CE.mk 1 v v v).cs.toArray) ⟨F, M, N'⟩) : callv Tryd.prog (.func (.func 52) #[] #[]) #[.int .i64 v] K E ⟨F, M, N⟩ := by
  refine callv_of_text mixed Tryd.func52 (by kernel_rfl) (t52 _ E _) (fun hw => ?_)
  have hm := hw.m
  refine nw_r (fun b hb => ?_)
  refine pv_r (v := .agg #[.int .i64 1, .int .i64 v, .int .i64 v, .int .i64 v]) (by kernel_rfl) ?_
  refine stM ?_
  refine ldMa fun hc => ?_
  exact ⟨⟨F, M, b + 1⟩, wk_end hc, fun hw' => k _ (by omega) hw'⟩
def CE.sum (a b : CE) : CE := ⟨IntKind.i64.wrap (a.n + b.n), IntKind.i64.wrap (a.s + b.s), if b.lo < a.lo then b.lo else a.lo, if b.hi > a.hi then b.hi else a.hi⟩
def CE.rmerge (a b : CE) : CE := if a.n = 0 then b else if b.n = 0 then a else a.sum b
/-- Merge, of the reference -/
theorem rmerge_c {a b : CE} (k : ∀ N', N ≤ N' → (Hp.mk F M N').wf → K (.agg (a.rmerge b).cs.toArray) ⟨F, M, N'⟩) : callv Tryd.prog (.func (.func 53) #[] #[]) #[.agg a.cs.toArray, .agg b.cs.toArray] K E ⟨F, M, N⟩ := by
  refine callv_of_text mixed Tryd.func53 (by kernel_rfl) (t53 _ E _ _) (fun hw => ?_)
  have hm := hw.m
  refine nw_r (cs := a.cs) (fun b1 hb1 => ?_)
  refine nw_r (cs := b.cs) (fun b2 hb2 => ?_)
  refine nw_r (fun b3 hb3 => ?_)
  refine pv_r rfl (ldM (v := .int .i64 a.n) ?_)
  refine eql_r (fun ha => ?_) (fun ha => ?_)
  · have e : a.rmerge b = b := by unfold CE.rmerge; rw [if_pos ha]
    rw [e] at k
    refine cnd_t (ldMa (vs := b.cs) ?_)
    refine stM (cs' := b.cs) ?_
    refine ldMa (vs := b.cs) fun hc => ?_
    exact ⟨⟨F, M, b3 + 1⟩, wk_end hc, fun hw' => k _ (by omega) hw'⟩
  refine cnd_f (pv_r rfl (ldM (v := .int .i64 b.n) ?_))
  refine eql_r (fun hb => ?_) (fun hb => ?_)
  · have e : a.rmerge b = a := by unfold CE.rmerge; rw [if_neg ha, if_pos hb]
    rw [e] at k
    refine cnd_t (ldMa (vs := a.cs) ?_)
    refine stM (cs' := a.cs) ?_
    refine ldMa (vs := a.cs) fun hc => ?_
    exact ⟨⟨F, M, b3 + 1⟩, wk_end hc, fun hw' => k _ (by omega) hw'⟩
  have e : a.rmerge b = a.sum b := by unfold CE.rmerge; rw [if_neg ha, if_neg hb]
  rw [e] at k
  refine cnd_f (pv_r rfl (ldM (v := .int .i64 a.n) ?_))
  refine pv_r rfl (ldM (v := .int .i64 b.n) ?_)
  refine pv_r (v := .int .i64 (IntKind.i64.wrap (a.n + b.n))) (by simp [binV, intV]) ?_
  refine pv_r rfl (ldM (v := .int .i64 a.s) ?_)
  refine pv_r rfl (ldM (v := .int .i64 b.s) ?_)
  refine pv_r (v := .int .i64 (IntKind.i64.wrap (a.s + b.s))) (by simp [binV, intV]) ?_
  refine pv_r rfl (ldM (v := .int .i64 a.lo) ?_)
  refine pv_r rfl (ldM (v := .int .i64 b.lo) ?_)
  refine pv_r (v := .int .i64 (if b.lo < a.lo then b.lo else a.lo)) (by simp [mm]) ?_
  refine pv_r rfl (ldM (v := .int .i64 a.hi) ?_)
  refine pv_r rfl (ldM (v := .int .i64 b.hi) ?_)
  refine pv_r (v := .int .i64 (if b.hi > a.hi then b.hi else a.hi)) (by simp [mm]) ?_
  refine pv_r (v := .agg (a.sum b).cs.toArray) (by kernel_rfl) ?_
  refine stM (cs' := (a.sum b).cs) ?_
  refine ldMa (vs := (a.sum b).cs) fun hc => ?_
  exact ⟨⟨F, M, b3 + 1⟩, wk_end hc, fun hw' => k _ (by omega) hw'⟩
end Go.Proofs.YthpacapdaembpaaDoor.A
