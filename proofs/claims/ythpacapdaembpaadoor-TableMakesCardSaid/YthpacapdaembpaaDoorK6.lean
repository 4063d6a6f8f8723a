import Derived.Test.YthpacapdaembpaaDoorK5
open Go Go.RowKit
set_option linter.unusedVariables false
set_option linter.unusedSimpArgs false
namespace Go.Proofs.YthpacapdaembpaaDoor.K

theorem run_intV {P : Program} {op : BinOp} {t : TypeId} {k : IntKind} {a b : Int} {v : Value} (hv : intV op k a b = some v) (w : World) : (binOp op t (.int k a) (.int k b)).run P w = .ok v w := by
  cases op <;> simp [intV] at hv
  case quo => obtain ⟨h0, rfl⟩ := hv; simp [binOp, Op.intDiv, h0]
  case rem => obtain ⟨h0, rfl⟩ := hv; simp [binOp, Op.intDiv, h0]
  all_goals (subst hv; first | (simp [binOp, Op.intArith]; done) | (simp [binOp, Op.intBits]; done) | (simp [binOp, Op.intCmp]; done))

theorem run_shiftV {P : Program} {op : BinOp} {t : TypeId} {k k' : IntKind} {a b : Int} {v : Value} (hv : shiftV op k a b = some v) (w : World) : (binOp op t (.int k a) (.int k' b)).run P w = .ok v w := by
  unfold shiftV at hv
  split at hv
  · cases hv
  · rename_i hb
    cases op <;> simp at hv
    all_goals (subst hv; simp [binOp, Op.shift, hb])

theorem run_strV {P : Program} {op : BinOp} {t : TypeId} {a b : ByteArray} {v : Value} (hv : strV op a b = some v) (w : World) : (binOp op t (.string a) (.string b)).run P w = .ok v w := by
  cases op <;> simp only [strV] at hv
  case add =>
    split at hv
    · cases hv
    · rename_i h
      cases hv
      simp only [binOp, Op.stringOp, if_neg h]
      rfl
  all_goals first | (cases hv; done) | (simp only [Option.some.injEq] at hv; subst hv; rfl)

theorem run_eqV' {P : Program} (d : Nat) {t : TypeId} {x y : Value} {b : Bool} (hv : eqV (eqk P t) x y = some b) (w : World) : (Op.equalIn (d + 1) t x y).run P w = .ok b w := by
  unfold eqk at hv
  cases hu : P.underlying t with
  | none => rw [hu] at hv; unfold eqV at hv; simp at hv; split at hv <;> cases hv
  | some de =>
    rw [hu] at hv
    have hr := fun w => run_underlying (P := P) hu w
    unfold eqV at hv
    unfold Op.equalIn
    simp only [Sem.run_bind, hr, Result.andThen_ok]
    cases de <;> simp only at hv
    all_goals (split at hv <;> first | (cases hv; done) | (simp only [Option.some.injEq] at hv; subst hv; simp))
theorem run_eqV {P : Program} {t : TypeId} {x y : Value} {b : Bool} (hv : eqV (eqk P t) x y = some b) (w : World) : (Op.equal t x y).run P w = .ok b w := run_eqV' 9999 hv w

theorem run_binV {P : Program} {op : BinOp} {t : TypeId} {x y v : Value} (hf : True) (hv : binV (eqk P t) op x y = some v) (w : World) : (binOp op t x y).run P w = .ok v w := by
  have gen : ∀ x y, (∀ k a k' b, x = .int k a → y = .int k' b → False) → (∀ a b, x = .string a → y = .string b → False) →
      (match op with | .eql => (eqV (eqk P t) x y).map .bool | .neq => (eqV (eqk P t) x y).map fun b => .bool !b | _ => none) = some v → (binOp op t x y).run P w = .ok v w := by
    intro x y h1 h2 hv
    cases op <;> simp only at hv
    case eql =>
      obtain ⟨b, hb, rfl⟩ := Option.map_eq_some_iff.1 hv
      have := run_eqV hb w
      unfold binOp
      cases x <;> cases y <;> first | (simp [eqV] at hb; done) | (exact (h1 _ _ _ _ rfl rfl).elim) | (exact (h2 _ _ rfl rfl).elim) | (simp only [Sem.run_bind, this]; rfl) | (unfold eqV at hb; simp at hb; done)
    case neq =>
      obtain ⟨b, hb, rfl⟩ := Option.map_eq_some_iff.1 hv
      have := run_eqV hb w
      unfold binOp
      cases x <;> cases y <;> first | (simp [eqV] at hb; done) | (exact (h1 _ _ _ _ rfl rfl).elim) | (exact (h2 _ _ rfl rfl).elim) | (simp only [Sem.run_bind, this]; rfl) | (unfold eqV at hb; simp at hb; done)
    all_goals cases hv
  unfold binV at hv
  split at hv
  · rename_i k a k' b
    split at hv
    · exact run_shiftV hv w
    · exact run_shiftV hv w
    · split at hv
      · rename_i hk; subst hk; exact run_intV hv w
      · cases hv
  · exact run_strV hv w
  · rename_i h1 h2
    exact gen x y (fun k a k' b e1 e2 => h1 k a k' b e1 e2) (fun a b e1 e2 => h2 a b e1 e2) hv

theorem run_guard {P : Program} {op : BinOp} {t : TypeId} {x y : Operand} {a b : Value} (h1 : a ≠ .nilIface ∨ b ≠ .nilIface) (h2 : (∀ xs ys, a = .agg xs → b = .agg ys → P.eqGuardType P.depth t = false)) (w : World) :
    (eqGuard op t x y a b).run P w = .ok () w := by
  cases op <;> simp only [eqGuard, Bool.not_true, Bool.not_false, Bool.false_eq_true, if_true, if_false, Sem.run_pure]
  all_goals
    split
    · rcases h1 with h | h <;> exact absurd rfl h
    · have := h2 _ _ rfl rfl
      simp [this]
    · rfl

theorem guard_eqV {P : Program} {t : TypeId} {x y : Value} {op : BinOp} {v : Value} (hv : binV (eqk P t) op x y = some v) : (x ≠ .nilIface ∨ y ≠ .nilIface) ∧ (∀ xs ys, x = .agg xs → y = .agg ys → False) := by
  constructor
  · by_cases h : x = .nilIface
    · by_cases h' : y = .nilIface
      · subst h; subst h'; cases op <;> simp [binV, eqV] at hv
      · exact Or.inr h'
    · exact Or.inl h
  · rintro xs ys rfl rfl
    cases op <;> simp [binV, eqV] at hv

end Go.Proofs.YthpacapdaembpaaDoor.K
