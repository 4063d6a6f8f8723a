import Derived.Test.YthpacapdaembpaaDoorU1
import Derived.Test.YthpacapdaembpaaDoorK18
open Go Go.RowKit Go.Proofs.YthpacapdaembpaaDoor.K Go.Proofs.YthpacapdaembpaaDoor.T
set_option linter.unusedVariables false
set_option linter.unusedSimpArgs false
namespace Go.Proofs.YthpacapdaembpaaDoor.A
theorem mixed : Tryd.prog.follows .mixedOrders = true := by kernel_rfl
variable {F F' : Nat → Option (List Value)} {M M' : Nat → Option Chunk} {N N' : Nat} {K : Kont} {E : PanK}
/-- table.blank -/
theorem blank_c (k : ∀ g bm N', N ≤ bm → bm < g → g < N' → (Hp.mk F (upd (upd M bm (some (.obj (.map #[] 0)))) g (some (.cells 108 [.slice none 0 0, .map (some bm)] 2))) N').wf → K (.pointer (some ⟨g, 0, none⟩)) ⟨F, upd (upd M bm (some (.obj (.map #[] 0)))) g (some (.cells 108 [.slice none 0 0, .map (some bm)] 2)), N'⟩) :
    callv Tryd.prog (.func (.func 44) #[] #[]) #[] K E ⟨F, M, N⟩ := by
  refine callv_of_text mixed Tryd.func44 (by kernel_rfl) (t44 _ E) (fun hw => ?_)
  refine mkm_r (fun bm hbm => ?_)
  refine pv_r (v := .agg #[.slice none 0 0, .map (some bm)]) (by kernel_rfl) ?_
  refine nw_r (fun g hg hc => ?_)
  exact ⟨_, wk_refl hc, fun hw' => k g bm _ hbm (by omega) (by omega) hw'⟩
end Go.Proofs.YthpacapdaembpaaDoor.A
