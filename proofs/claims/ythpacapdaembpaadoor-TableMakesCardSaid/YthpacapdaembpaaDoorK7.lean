import Derived.Test.YthpacapdaembpaaDoorK6
open Go Go.RowKit
set_option linter.unusedVariables false
set_option linter.unusedSimpArgs false
namespace Go.Proofs.YthpacapdaembpaaDoor.K

theorem run_flatV {P : Program} (d : Nat) {t : TypeId} {c : Nat} (hc : flatC P t = some c) {a b : Value} {q : Bool} (hq : flatV c a b = some q) (w : World) : (Op.equalIn (d + 1) t a b).run P w = .ok q w := by
  unfold flatC at hc
  split at hc
  · rename_i k' hu
    cases hc
    cases a <;> cases b <;> simp only [flatV, reduceCtorEq] at hq
    split at hq
    · rename_i hk; subst hk; cases hq
      exact run_equalIn_int w d t _ _ _ _ hu
    · cases hq
  · rename_i hu
    cases hc
    cases a <;> cases b <;> simp only [flatV, reduceCtorEq] at hq
    cases hq; exact run_equalIn_bool' w d t _ _ hu
  · rename_i hu
    cases hc
    cases a <;> cases b <;> simp only [flatV, reduceCtorEq] at hq
    cases hq; exact run_equalIn_string w d t _ _ hu
  · cases hc

theorem flat_agg {P : Program} {t : TypeId} {c : Nat} (hc : flatC P t = some c) : aggB P t = some false := by
  unfold flatC at hc
  unfold aggB
  split at hc <;> simp_all

theorem run_flatVs {P : Program} (d : Nat) (xs ys : Array Value) (w : World) : ∀ (fs : List Field) (cs : List Nat) (k : Nat) (q : Bool), (fs.zipIdx k).all (fun (f, i) => f.name != "_" && f.offset == i) = true → fs.mapM (fun f => flatC P f.type) = some cs →
    flatVs cs (xs.toList.drop k) (ys.toList.drop k) = some q → (Op.eqFields (d + 1) xs ys fs).run P w = .ok q w
  | [], cs, k, q, _, hm, hq => by
    simp at hm
    subst hm
    unfold flatVs at hq
    split at hq <;> simp_all [Op.eqFields]
  | f :: fs, cs, k, q, ha, hm, hq => by
    simp only [List.zipIdx_cons, List.all_cons, Bool.and_eq_true, bne_iff_ne, beq_iff_eq] at ha
    obtain ⟨⟨hn, ho⟩, ha⟩ := ha
    simp only [List.mapM_cons, Option.bind_eq_bind, Option.bind_eq_some_iff] at hm
    obtain ⟨c, hc, cs', hcs, hm⟩ := hm
    cases hm
    have hx : ∀ (zs : Array Value) (z : Value) (r : List Value), zs.toList.drop k = z :: r → zs[k]? = some z ∧ zs.toList.drop (k + 1) = r := fun zs z r h => by
      have h1 : zs.toList[k]? = some z := by have := congrArg (·[0]?) h; simpa using this
      refine ⟨by simpa using h1, ?_⟩
      have := congrArg (List.drop 1) h
      simpa using this
    unfold flatVs at hq
    split at hq
    · rename_i heq _ _; cases heq
    · rename_i c0 cs0 x xr y yr e1 e2 e3
      cases e1
      obtain ⟨hx1, hx2⟩ := hx xs _ _ e2
      obtain ⟨hy1, hy2⟩ := hx ys _ _ e3
      have pa : ∀ (zs : Array Value) z, zs[k]? = some z → (part f.type zs f.offset).run P w = .ok z w := fun zs z hz => by
        simp only [part, Sem.run_bind, run_isAgg' (flat_agg hc), Result.andThen_ok, Bool.false_eq_true, if_false, ho, hz]; rfl
      simp only [Op.eqFields, ne_eq, hn, not_false_eq_true, if_true, Sem.run_bind, pa xs _ hx1, pa ys _ hy1, Result.andThen_ok]
      split at hq
      · rename_i hf
        rw [run_flatV d hc hf w]
        simp only [Result.andThen_ok, Bool.not_true, Bool.false_eq_true, if_false]
        exact run_flatVs d xs ys w fs cs' (k + 1) q ha hcs (by rw [hx2, hy2]; exact hq)
      · rename_i hf
        cases hq
        rw [run_flatV d hc hf w]
        simp
      · cases hq
    · cases hq

theorem run_eqCells {P : Program} {op : BinOp} {t : TypeId} {n : List Nat} (hf : flatB P t = some n) {a b v : Value} (hv : eqCells op n a b = some v) (x y : Operand) (w : World) :
    (do eqGuard op t x y a b; binOp op t a b : Sem Value).run P w = .ok v w := by
  unfold flatB at hf
  split at hf
  case h_2 => cases hf
  rename_i fs hu
  split at hf
  case isFalse => cases hf
  rename_i hall
  simp only [Bool.and_eq_true, Bool.not_eq_true'] at hall
  obtain ⟨⟨hs, hg⟩, hz⟩ := hall
  unfold eqCells at hv
  split at hv
  case h_2 => cases hv
  rename_i xs ys
  have hfo : P.fieldsOf t = fs := by simp [Program.fieldsOf, hu]
  have hu' : P.underlying t = some (.struct (P.fieldsOf t)) := by rw [hfo]; exact hu
  have heq : ∀ q, flatVs n xs.toList ys.toList = some q → (Op.equalIn 10000 t (.agg xs) (.agg ys)).run P w = .ok q w := fun q hq => by
    rw [run_equalIn_struct w 9999 t xs ys hu' hs, hfo]
    exact run_flatVs 9998 xs ys w fs.toList n 0 q hz hf (by simpa using hq)
  simp only [Sem.run_bind, run_eqGuard_agg w op t x y xs ys hg, Result.andThen_ok]
  cases op <;> simp only at hv
  case eql =>
    obtain ⟨q, hq, rfl⟩ := Option.map_eq_some_iff.1 hv
    rw [run_eql_struct, heq q hq]; rfl
  case neq =>
    obtain ⟨q, hq, rfl⟩ := Option.map_eq_some_iff.1 hv
    rw [run_neq_struct, heq q hq]; rfl
  all_goals cases hv
end Go.Proofs.YthpacapdaembpaaDoor.K
