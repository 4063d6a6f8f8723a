import Derived.Test.YthpacapdaembpaaDoorK10
open Go Go.RowKit
set_option linter.unusedVariables false
set_option linter.unusedSimpArgs false
namespace Go.Proofs.YthpacapdaembpaaDoor.K

section
variable {P : Program} {w0 w : World} {env : Env} {o : Oper} {h : Hp} {next : Act → World → Prop} {Q : Exit → Act → World → Prop}

theorem wp_value {v : Value} {w' : World} (hr : (execOp (ev env) o).run P w = .ok (.value v) w') (hn : next ⟨putE env o.dst v, []⟩ w') : o.wp P ⟨env, []⟩ w next Q := by
  have hr' : (execOp (Act.mk env []).eval o).run P w = .ok (.value v) w' := hr
  unfold Oper.wp
  rw [hr']
  show next ((Act.mk env []).put o.dst v) w'
  rw [put_eq]; exact hn

theorem wp_skip' {w' : World} (hr : (execOp (ev env) o).run P w = .ok .skip w') (hn : next ⟨putE env o.dst undef, []⟩ w') : o.wp P ⟨env, []⟩ w next Q := by
  have hr' : (execOp (Act.mk env []).eval o).run P w = .ok .skip w' := hr
  unfold Oper.wp
  rw [hr']
  show next ((Act.mk env []).put o.dst undef) w'
  rw [put_eq]; exact hn

theorem wp_enter {f : FuncId} {args : Array Value} (hr : (execOp (ev env) o).run P w = .ok (.enter f args) w) {K : Kont} {E : PanK} (r : Rep w0 h w) (hc : call P f args K E h)
    (hn : ∀ v w' h', Rep w0 h' w' → K v h' → next ⟨putE env o.dst v, []⟩ w') (hE : ∀ c w' h', Rep w0 h' w' → E c h' → Q (.panic c) ⟨env, []⟩ w') : o.wp P ⟨env, []⟩ w next Q := by
  have hr' : (execOp (Act.mk env []).eval o).run P w = .ok (.enter f args) w := hr
  unfold Oper.wp
  rw [hr']
  show Calls P f args w _
  refine (hc w0 w r).mono fun e w' he => ?_
  obtain ⟨h', r', he⟩ := he
  cases e with
  | returned v => show next ((Act.mk env []).put o.dst v) w'; rw [put_eq]; exact hn v w' h' r' he
  | panicked c => exact hE c w' h' r' he
  | outgrown => exact he.elim

theorem callv_enter {fv : Value} {args : Array Value} {K : Kont} {E : PanK} (hc : callv P fv args K E h) :
    (∃ f args', (∀ w, (do let d ← Deferred.ofValue fv args; invoke d.target d.args : Sem Next).run P w = .ok (.enter f args') w) ∧ call P f args' K E h) ∨
    (∀ w0 w, Rep w0 h w → ∃ v w' h', (do let d ← Deferred.ofValue fv args; invoke d.target d.args : Sem Next).run P w = .ok (.value v) w' ∧ Rep w0 h' w' ∧ K v h') := by
  unfold callv at hc
  split at hc
  · rename_i f first captured
    rw [appA_eq, appA_eq] at hc
    rcases hc with ⟨hf, hc⟩ | hc
    · left
      refine ⟨f, _, fun w => ?_, hc⟩
      cases hfn : P.funcs[f]? with
      | none => simp [hfn] at hf
      | some fn =>
        simp [hfn] at hf
        obtain ⟨bd, hb⟩ := Option.isSome_iff_exists.1 hf.2
        simp [Deferred.ofValue, invoke, callFunc, hfn, hf.1, hb]
    · right
      intro w0 w r
      obtain ⟨v, w', h', hr, r', hk⟩ := hc w0 w r
      refine ⟨v, w', h', ?_, r', hk⟩
      simpa [Deferred.ofValue, invoke] using hr
  · cases hc

theorem run_buildSlice' {P : Program} {w0 w : World} {h : Hp} (r : Rep w0 h w) {t e : TypeId} {i : TypeInfo} {v : Value} {len : Nat} {parts : Array (Nat × Value)} (hu : P.underlying t = some (.slice e)) (hi : P.info? e = some i) (hzv : i.zero = some v)
    (hle : len * i.size ≤ 2 ^ 24) {K : Kont} (hd : nws e len (bsC v.cells i.size len parts) K h) : ∃ u w' h', (Instr.buildSlice t len parts).run P w = .ok u w' ∧ Rep w0 h' w' ∧ K u h' := by
  obtain ⟨cs, hcs, hk⟩ := hd
  obtain ⟨b, hb, hrun, hrep⟩ := run_newVar' (P := P) r e cs
  refine ⟨_, _, _, ?_, hrep, hk b hb⟩
  unfold bsC at hcs
  have hn : ¬ (len * i.size > 2 ^ 24) := Nat.not_lt.2 hle
  by_cases h0 : len * i.size = 0
  · have hr : (Array.range (len * i.size)).map (fun x => v.cells[x % v.cells.size]!) = (Array.range (len * i.size)).map (fun x => (#[] : Array Value)[x % (#[] : Array Value).size]!) := by rw [h0]; simp
    rw [hr] at hcs
    unfold Instr.buildSlice
    rw [Sem.run_bind, run_underlying hu]
    simp only [Result.andThen_ok, Sem.run_bind, run_sizeOf' hi]
    rw [if_neg hn, if_pos h0]
    simp only [Result.andThen_ok, Sem.run_bind, Sem.run_pure]
    rw [hcs]
    simp only [Result.andThen_ok, Sem.run_bind, Sem.run_pure, hrun]
  · unfold Instr.buildSlice
    rw [Sem.run_bind, run_underlying hu]
    simp only [Result.andThen_ok, Sem.run_bind, run_sizeOf' hi]
    rw [if_neg hn, if_neg h0]
    simp only [Result.andThen_ok, Sem.run_bind, Sem.run_pure, run_zeroValue' hi hzv]
    rw [hcs]
    simp only [Result.andThen_ok, Sem.run_bind, Sem.run_pure, hrun]

theorem opD_wp {K : Kont} {E : PanK} (r : Rep w0 h w) (hd : opD P env o K E h) (hn : ∀ v w' h', Rep w0 h' w' → K v h' → next ⟨putE env o.dst v, []⟩ w') (hE : ∀ c w' h', Rep w0 h' w' → E c h' → Q (.panic c) ⟨env, []⟩ w') : o.wp P ⟨env, []⟩ w next Q := by
  cases hq : quietP P o.op with
  | true =>
    obtain ⟨v, hk, hkd, hrun⟩ := quiet_sound hq hd
    exact wp_value (hrun w0 h w r hkd) (hn v w h r hk)
  | false =>
    have val : ∀ (s : Sem Value) (v : Value) (w' : World), s.run P w = .ok v w' → (do pure (.value (← s)) : Sem Next).run P w = .ok (.value v) w' := fun s v w' hs => by
      simp only [Sem.run_bind, hs, Result.andThen_ok, Sem.run_pure]
    have fin : ∀ (s : Sem Value), execOp (ev env) o = (do pure (.value (← s)) : Sem Next) → (∃ v w' h', s.run P w = .ok v w' ∧ Rep w0 h' w' ∧ K v h') → o.wp P ⟨env, []⟩ w next Q := fun s he ⟨v, w', h', hr, hrep, hk⟩ =>
      wp_value (by rw [he]; exact val s v w' hr) (hn v w' h' hrep hk)
    obtain ⟨dst, op, type, pos, after, guard⟩ := o
    cases op <;> simp only [quietP, quietB, Bool.false_or, Bool.or_false, reduceCtorEq, Bool.or_eq_false_iff] at hq <;> simp only [opD, mapA_eq] at hd
    case alloc t =>
      split at hd
      · rename_i z hz
        obtain ⟨i, v, hi, hzv, rfl⟩ := zero_info hz
        refine fin (Instr.alloc t true (.tuple #[])) rfl ?_
        obtain ⟨u, w', h', hr, hrep, hk⟩ := nw_sound (P := P) r (v := v) hd
        refine ⟨u, w', h', ?_, hrep, hk⟩
        simp only [Instr.alloc, Sem.run_bind, run_zeroValue' hi hzv, Result.andThen_ok]
        simpa using hr
      · cases hd
    case box t x =>
      refine fin (Instr.box t (ev env x)) rfl ?_
      obtain ⟨u, w', h', hr, hrep, hk⟩ := nw_sound (P := P) r hd
      exact ⟨u, w', h', hr, hrep, hk⟩
    case buildSlice t len parts =>
      split at hd
      · rename_i e hu
        split at hd
        · rename_i i z hi hz
          split at hd
          · rename_i hle
            obtain ⟨i', v, hi', hzv, rfl⟩ := zero_info hz
            rw [hi] at hi'; cases hi'
            obtain ⟨u, w', h', hr, hrep, hk⟩ := run_buildSlice' r hu hi hzv hle hd
            exact wp_value (by simp only [execOp]; exact val _ _ _ hr) (hn u w' h' hrep hk)
          · cases hd
        · cases hd
      · cases hd
    case store t a x =>
      split at hd
      · rename_i i hi
        obtain ⟨w', h', hr, hrep, hk⟩ := st_sound (P := P) r hi hd
        refine wp_skip' (w' := w') ?_ (hn undef w' h' hrep hk)
        simp only [execOp, Sem.run_bind, hr, Result.andThen_ok, Sem.run_pure]
      · cases hd
    case convert src dst' x =>
      split at hd
      · rename_i h1 h2; simp [h1, h2] at hq
      · rename_i h1 h2; simp [h1, h2] at hq
      · rename_i h1 h2; simp [h1, h2] at hq
      · rename_i e e' hs hdst
        split at hd
        · rename_i hu8
          split at hd
          · rename_i he
            subst he
            rw [hs] at hdst
            cases hdst
            exact fin (convert src src (ev env x)) rfl (mk_sound r hs hu8 hd)
          · cases hd
        · cases hd
      · rename_i e hs hdst
        split at hd
        · rename_i hu8
          exact fin (convert src dst' (ev env x)) rfl (sb_sound r hs hdst hu8 hd)
        · cases hd
      · cases hd
    case makeMap t c =>
      cases c with
      | none => exact fin (Instr.makeMap t none) rfl (mkm_sound r hd)
      | some c => cases hd
    case lookup t x ix ok => exact fin (Instr.lookup t (ev env x) (ev env ix) ok) rfl (lkp_sound r hd)
    case mapUpdate t m k x =>
      obtain ⟨w', h', hr, hrep, hk⟩ := mup_sound (P := P) r hd
      refine wp_skip' (w' := w') ?_ (hn undef w' h' hrep hk)
      simp only [execOp, Sem.run_bind, hr, Result.andThen_ok, Sem.run_pure]
    case makeSlice t l c =>
      split at hd
      · rename_i e hu
        split at hd
        · rename_i i z hi hz
          split at hd
          · rename_i hc
            obtain ⟨i', v, hi', hzv, rfl⟩ := zero_info hz
            rw [hi] at hi'; cases hi'
            exact fin (Instr.makeSlice t (ev env l) (ev env c)) rfl (mks_sound r hu hi hzv hc.1 hc.2 hd)
          · cases hd
        · cases hd
      · cases hd
    case panic x =>
      split at hd
      · rename_i t v hx
        have : (execOp (Act.mk env []).eval ⟨dst, .panic x, type, pos, after, guard⟩).run P w = .halt (.panic (.iface t v)) w := by
          have hx' : (Act.mk env []).eval x = .iface t v := hx
          simp only [execOp, hx', Instr.panic]; rfl
        unfold Oper.wp
        rw [this]
        exact hE _ w h r hd
      · cases hd
    case call c =>
      obtain ⟨callee, args, ats⟩ := c
      cases callee with
      | value f =>
        have hd' : callv P (ev env f) (args.map (ev env)) K E h := by
          cases f <;> first | exact hd | (simp only at hd; exact hd)
        rcases callv_enter hd' with ⟨g, args', hrun, hc⟩ | hx
        · refine wp_enter (f := g) (args := args') ?_ r hc hn hE
          have := hrun w
          simpa [execOp, resolve] using this
        · obtain ⟨v, w', h', hr, r', hk⟩ := hx w0 w r
          refine wp_value (v := v) (w' := w') ?_ (hn v w' h' r' hk)
          simpa [execOp, resolve] using hr
      | invoke rc m => simp only at hd
      | builtin b =>
        cases b <;> simp at hq
        all_goals simp only at hd
        case append =>
          split at hd
          case h_2 t u s x hb ha hx =>
            have ea : args.map (ev env) = #[s, x] := by rw [← Array.toList_inj]; exact hx
            have et : ats = #[t, u] := by rw [← Array.toList_inj]; exact ha
            split at hd
            · rename_i e hu
              split at hd
              · rename_i i z hi hz
                split at hd
                · rename_i hc
                  obtain ⟨hc1, hc2⟩ := hc
                  obtain ⟨i', v, hi', hzv, rfl⟩ := zero_info hz
                  rw [hi] at hi'; cases hi'
                  have ea' : Array.map (ev env) args = #[s, x] := ea
                  split at hd
                  case isFalse =>
                    split at hd
                    · rename_i kn hu2
                      obtain ⟨u', w', h', hr, hrep, hk⟩ := appZ_sound (P := P) (ty := type) r hu hu2 hi hzv hc1 hc2 hd
                      refine wp_value (v := u') (w' := w') ?_ (hn u' w' h' hrep hk)
                      simp only [execOp, resolve, ea', et, Sem.run_bind, Sem.run_pure, Result.andThen_ok, invoke, builtin, hr]
                    · cases hd
                  rename_i htu
                  subst htu
                  have hd := hd.elim (fun hd => app_sound (P := P) (ty := type) r hu hi hzv hc1 hc2 hd) (fun hd => appIn_sound (P := P) (ty := type) r hu hi hd)
                  obtain ⟨u, w', h', hr, hrep, hk⟩ := hd
                  refine wp_value (v := u) (w' := w') ?_ (hn u w' h' hrep hk)
                  simp only [execOp, resolve, ea', et, Sem.run_bind, Sem.run_pure, Result.andThen_ok, invoke, builtin, hr]
                · cases hd
              · cases hd
            · cases hd
          all_goals first | (cases hd; done) | (rename_i hb _ _; cases hb; done) | (rename_i hb _; cases hb; done)
        case copy =>
          split at hd
          case h_3 t u d s hb ha hx =>
            have ea : args.map (ev env) = #[d, s] := by rw [← Array.toList_inj]; exact hx
            have et : ats = #[t, u] := by rw [← Array.toList_inj]; exact ha
            split at hd
            · rename_i e hu
              split at hd
              · rename_i i hi
                obtain ⟨u', w', h', hr, hrep, hk⟩ := cpy_sound (P := P) (u := u) (ty := type) r hu hi hd
                refine wp_value (v := u') (w' := w') ?_ (hn u' w' h' hrep hk)
                simp only [execOp, resolve, ea, et, Sem.run_bind, Sem.run_pure, Result.andThen_ok, invoke, builtin, hr]
              · cases hd
            · cases hd
          all_goals first | (cases hd; done) | (rename_i hb _ _; cases hb; done) | (rename_i hb _; cases hb; done)
        case clear =>
          split at hd
          case h_4 t x hb ha hx =>
            have ea : args.map (ev env) = #[x] := by rw [← Array.toList_inj]; exact hx
            have et : ats = #[t] := by rw [← Array.toList_inj]; exact ha
            split at hd
            · rename_i e hu
              split at hd
              · rename_i i z hi hz
                split at hd
                · rename_i hc
                  obtain ⟨i', v, hi', hzv, rfl⟩ := zero_info hz
                  rw [hi] at hi'; cases hi'
                  obtain ⟨u', w', h', hr, hrep, hk⟩ := clr_sound (P := P) (ty := type) r hu hi hzv hc.1 hc.2 hd
                  refine wp_value (v := u') (w' := w') ?_ (hn u' w' h' hrep hk)
                  simp only [execOp, resolve, ea, et, Sem.run_bind, Sem.run_pure, Result.andThen_ok, invoke, builtin, hr]
                · cases hd
              · cases hd
            · cases hd
          all_goals first | (cases hd; done) | (rename_i hb _ _; cases hb; done) | (rename_i hb _; cases hb; done)
        all_goals (split at hd <;> first | (cases hd; done) | (rename_i hb _ _; cases hb; done) | (rename_i hb _; cases hb; done))
    all_goals first | (cases hd; done) | (simp at hq; done)
end
end Go.Proofs.YthpacapdaembpaaDoor.K
