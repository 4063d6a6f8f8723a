import Derived.Test.YthpacapdaembpaaDoorA2
open Go Go.RowKit Go.Proofs.YthpacapdaembpaaDoor.K Go.Proofs.YthpacapdaembpaaDoor.T
set_option linter.unusedVariables false
set_option linter.unusedSimpArgs false
namespace Go.Proofs.YthpacapdaembpaaDoor.A
variable {F F' : Nat → Option (List Value)} {M M' : Nat → Option Chunk} {N N' : Nat} {K : Kont} {E : PanK}
def CE.merge (a b : CE) : CE := if 0 = a.n then b else if 0 = b.n then a else a.add b
/-- cell.Merge -/
theorem merge_c {a b : CE} (k : ∀ N', N ≤ N' → (Hp.mk F M N').wf → K (.agg (a.merge b).cs.toArray) ⟨F, M, N'⟩) : callv Tryd.prog (.func (.func 75) #[] #[]) #[.agg a.cs.toArray, .agg b.cs.toArray] K E ⟨F, M, N⟩ := by
  refine callv_of_text mixed Tryd.func75 (by kernel_rfl) (t75 _ E _ _) (fun hw => ?_)
  have hm := hw.m
  refine nw_r (cs := a.cs) (fun b1 hb1 => ?_)
  refine nw_r (cs := b.cs) (fun b2 hb2 => ?_)
  refine nw_r (fun b3 hb3 => ?_)
  refine pv_r rfl (ldM (v := .int .i64 a.n) ?_)
  refine eql_r (fun ha => ?_) (fun ha => ?_)
  · have e : a.merge b = b := by unfold CE.merge; rw [if_pos ha]
    rw [e] at k
    refine cnd_t (ldMa (vs := b.cs) ?_)
    refine stM (cs' := b.cs) ?_
    refine ldMa (vs := b.cs) fun hc => ?_
    exact ⟨⟨F, M, b3 + 1⟩, wk_end hc, fun hw' => k _ (by omega) hw'⟩
  refine cnd_f (pv_r rfl (ldM (v := .int .i64 b.n) ?_))
  refine eql_r (fun hb => ?_) (fun hb => ?_)
  · have e : a.merge b = a := by unfold CE.merge; rw [if_neg ha, if_pos hb]
    rw [e] at k
    refine cnd_t (ldMa (vs := a.cs) ?_)
    refine stM (cs' := a.cs) ?_
    refine ldMa (vs := a.cs) fun hc => ?_
    exact ⟨⟨F, M, b3 + 1⟩, wk_end hc, fun hw' => k _ (by omega) hw'⟩
  have e : a.merge b = a.add b := by unfold CE.merge; rw [if_neg ha, if_neg hb]
  rw [e] at k
  refine cnd_f (ldMa (vs := a.cs) ?_)
  refine pv_r (v := .agg a.cs.toArray) (by kernel_rfl) ?_
  refine nw_r (fun b4 hb4 => ?_)
  refine stM (cs' := a.cs) ?_
  refine ldMa (vs := b.cs) ?_
  refine add_c (a := a) (b := b) (ty := 122) (upd_same _ _ _) (fun N' hN' hw' => ?_)
  refine pv_r rfl (ldMa (vs := (a.add b).cs) ?_)
  refine stM (cs' := (a.add b).cs) ?_
  refine ldMa (vs := (a.add b).cs) fun hc => ?_
  exact ⟨⟨F, M, N'⟩, wk_end hc, fun hw' => k _ (by omega) hw'⟩
end Go.Proofs.YthpacapdaembpaaDoor.A
