import Derived.Test.YthpacapdaembpaaDoorK7
import Derived.Laws.BytesString
open Go Go.RowKit
set_option linter.unusedVariables false
set_option linter.unusedSimpArgs false
namespace Go.Proofs.YthpacapdaembpaaDoor.K

theorem mapM_places {P : Program} {w : World} : ∀ (fs : List Field) (pl : List (Nat × Nat)), placesOf P fs = some pl →
    (fs.mapM (fun f => (do pure (f.offset, ← sizeOf f.type) : Sem (Nat × Nat)))).run P w = .ok pl w
  | [], pl, h => by simp [placesOf] at h; subst h; simp
  | f :: fs, pl, h => by
    simp only [placesOf, List.mapM_cons, Option.bind_eq_bind, Option.bind_eq_some_iff] at h
    obtain ⟨p, hp, ps, hps, h⟩ := h
    cases h
    obtain ⟨i, hi, rfl⟩ := Option.map_eq_some_iff.1 hp
    have ih := mapM_places (P := P) (w := w) fs ps hps
    simp only [List.mapM_cons, Sem.run_bind, run_sizeOf' hi, Result.andThen_ok, Sem.run_pure]
    rw [ih]
    rfl

theorem zero_info {P : Program} {t : TypeId} {z : Array Value} (h : zeroC P t = some z) : ∃ i v, P.info? t = some i ∧ i.zero = some v ∧ v.cells = z := by
  unfold zeroC at h
  obtain ⟨v, hv, rfl⟩ := Option.map_eq_some_iff.1 h
  obtain ⟨i, hi, hz⟩ := Option.bind_eq_some_iff.1 hv
  exact ⟨i, v, hi, hz, rfl⟩
theorem run_zeroValue' {P : Program} {t : TypeId} {i : TypeInfo} {v : Value} (hi : P.info? t = some i) (hz : i.zero = some v) (w : World) : (zeroValue t).run P w = .ok v w := by
  simp [zeroValue, typeInfo, hi, hz]

theorem run_build' {P : Program} {t : TypeId} {fs : Array Field} {z : Array Value} {pl : List (Nat × Nat)} (hu : P.underlying t = some (.struct fs)) (hz : zeroC P t = some z) (hp : placesOf P fs.toList = some pl)
    {parts : Array (Nat × Value)} {v : Value} (hv : bdC z pl parts = some v) (w : World) : (Instr.build t parts).run P w = .ok v w := by
  obtain ⟨i, zv, hi, hzv, rfl⟩ := zero_info hz
  unfold bdC at hv
  obtain ⟨cs, hcs, rfl⟩ := Option.map_eq_some_iff.1 hv
  have hm : (fs.mapM (fun f => (do pure (f.offset, ← sizeOf f.type) : Sem (Nat × Nat)))).run P w = .ok pl.toArray w := by
    have h1 := mapM_places (P := P) (w := w) fs.toList pl hp
    rw [Array.mapM_eq_mapM_toList]
    simp only [Sem.run_map, h1, Result.andThen_ok]
  simp only [Instr.build, Sem.run_bind, run_zeroValue' hi hzv, Result.andThen_ok, run_underlying hu, Sem.run_pure]
  simp only [Sem.run_bind, Sem.run_pure, bind_pure_comp] at hm
  simp only [bind_pure_comp, hm, Result.andThen_ok]
  have : (fun x : Nat => pl.toArray[x]?) = fun i : Nat => pl[i]? := by funext x; simp
  simp only [this, hcs, Sem.run_pure]

theorem run_bs {P : Program} {w0 w : World} {h : Hp} (r : Rep w0 h w) {src dst e : TypeId} (hs : P.underlying src = some (.slice e)) (hdst : P.underlying dst = some .string) (hu8 : P.underlying e = some (.int .u8)) {x v : Value} (hv : bsV h x v) :
    (convert src dst x).run P w = .ok v w := by
  obtain ⟨m, ns, hx, rfl⟩ := hv
  rcases hx.2 with ⟨a0, c, rfl, rfl⟩ | ⟨b, o, c, cs, rfl, hrow⟩
  · have : ns = [] := by have := hx.1; simpa using this
    subst this
    cases a0 with
    | none =>
      simp [convert, run_underlying hs, run_underlying hdst, run_underlying hu8, Conv.bytesToString]
      rfl
    | some ad =>
      rw [run_convert_bytes_string w src dst e _ _ _ hs hu8 hdst, run_bytesToString w ad 0 c []]
      · rfl
      · have := run_loadCells_list (P := P) w ad [] (fun j u hu => by simp at hu)
        simpa using this
  · rw [run_convert_bytes_string w src dst e _ _ _ hs hu8 hdst, run_bytesToString w ⟨b, o, none⟩ m c ns]
    · congr 2
      have : ∀ (ns : List Int) (s : ByteArray), ns.foldl (fun r n => r.push (UInt8.ofNat n.toNat)) s = ⟨s.data ++ (ns.map (fun n => UInt8.ofNat (Int.toNat n))).toArray⟩ := by
        intro ns
        induction ns with
        | nil => intro s; simp
        | cons n ns ih => intro s; rw [List.foldl_cons, ih]; simp [ByteArray.push]
      rw [this]
      simp [ByteArray.empty, ByteArray.emptyWithCapacity]
      try rfl
    · have hl := hx.1
      have := run_loadCells_list (P := P) w ⟨b, o, none⟩ (ns.map (Value.int .u8)) (by
        rcases hrow with h0 | ⟨hr, hn⟩
        · subst h0
          have : ns = [] := by simpa using hl
          subst this
          intro j u hu; simp at hu
        · intro j u hu
          rw [Addr.add_plain]
          refine r.cell hr ?_
          rw [← hn, List.getElem?_take] at hu
          split at hu
          · rwa [List.getElem?_drop] at hu
          · cases hu)
      rw [show (ns.map (Value.int .u8)).length = m by simpa using hl] at this
      exact this

theorem quiet_sound {P : Program} {env : Env} {o : Oper} {K : Kont} {E : PanK} {h : Hp} (hq : quietP P o.op = true) (hd : opD P env o K E h) :
    ∃ v, K v h ∧ keepD P env o v h ∧ ∀ w0 h' w, Rep w0 h' w → keepD P env o v h' → (execOp (ev env) o).run P w = .ok (.value v) w := by
  obtain ⟨dst, op, type, pos, after, guard⟩ := o
  have val : ∀ (s : Sem Value) (v : Value) (w : World), s.run P w = .ok v w → (do pure (.value (← s)) : Sem Next).run P w = .ok (.value v) w := fun s v w hs => by
    simp only [Sem.run_bind, hs, Result.andThen_ok, Sem.run_pure]
  cases op <;> simp only [quietP, quietB, Bool.false_or, Bool.or_false, Bool.or_eq_true, reduceCtorEq] at hq <;> simp only [opD, mapA_eq] at hd <;> simp only [keepD]
  case move x => exact ⟨_, hd, trivial, fun _ _ w _ _ => by simp only [execOp]; rfl⟩
  case assign x => exact ⟨_, hd, trivial, fun _ _ w _ _ => by simp only [execOp]; rfl⟩
  case pick c a b =>
    obtain ⟨v, hv, hk⟩ := hd
    refine ⟨v, hk, trivial, fun _ _ w _ _ => ?_⟩
    unfold pickV at hv
    split at hv
    · rename_i t _ _ hc
      cases hv
      simp only [execOp, hc, asBool, Sem.run_bind, Sem.run_pure, Result.andThen_ok]
    · cases hv
  case build t parts =>
    split at hd
    · rename_i fs z hu hz
      split at hd
      · rename_i pl hp
        obtain ⟨v, hv, hk⟩ := hd
        exact ⟨v, hk, trivial, fun _ _ w _ _ => by simp only [execOp]; exact val _ _ _ (run_build' hu hz hp hv w)⟩
      · cases hd
    · cases hd
  case load t x =>
    split at hd
    · rename_i g i hg hi
      obtain ⟨v, hv, hk⟩ := hd
      refine ⟨v, hk, hv, fun _ h' w r hv' => ?_⟩
      simp only [execOp]
      exact val _ _ _ (run_loadVar' r hg hi hv')
    · cases hd
  case nilCheck x =>
    obtain ⟨v, hv, hk⟩ := hd
    refine ⟨v, hk, trivial, fun _ _ w _ _ => ?_⟩
    simp only [execOp]
    unfold nilV at hv
    split at hv <;> first | (cases hv; done) | skip
    rename_i h1 h2 h3 h4
    cases hv
    split <;> first | (rename_i hx; exact (h1 hx).elim) | (rename_i hx; exact (h2 hx).elim) | (rename_i hx; exact (h3 hx).elim) | (rename_i hx; exact (h4 _ _ _ hx).elim) | rfl
  case binOp op t x y yt =>
    split at hd
    · rename_i n hf
      obtain ⟨v, hv, hk⟩ := hd
      exact ⟨v, hk, trivial, fun _ _ w _ _ => by simp only [execOp]; exact val _ _ _ (run_eqCells hf hv x y w)⟩
    · obtain ⟨v, hv, hk⟩ := hd
      refine ⟨v, hk, trivial, fun _ _ w _ _ => ?_⟩
      simp only [execOp]
      refine val _ _ _ ?_
      have hg := guard_eqV hv
      simp only [Sem.run_bind, run_guard (P := P) (op := op) (t := t) (x := x) (y := y) hg.1 (fun xs ys e1 e2 => (hg.2 xs ys e1 e2).elim) w, Result.andThen_ok]
      exact run_binV trivial hv w
  case unOp op t x =>
    obtain ⟨v, hv, hk⟩ := hd
    refine ⟨v, hk, trivial, fun _ _ w _ _ => ?_⟩
    simp only [execOp]
    refine val _ _ _ ?_
    unfold unV at hv
    generalize ev env x = u at *
    split at hv
    · split at hv <;> cases hv
      rfl
    · split at hv
      · cases hv; rfl
      · simp only [intV, Option.some.injEq] at hv
        subst hv; rfl
      · cases hv
    · cases hv
  case convert src dst x =>
    split at hd
    · rename_i k0 k hs hdst
      simp only [hs, hdst]
      obtain ⟨v, hv, hk⟩ := hd
      refine ⟨v, hk, trivial, fun _ _ w _ _ => ?_⟩
      simp only [execOp]
      refine val _ _ _ ?_
      unfold cvV at hv
      split at hv
      · rename_i hx
        cases hv
        simp only [convert, Sem.run_bind, run_underlying hs, run_underlying hdst, Result.andThen_ok, hx, Conv.intToInt]; rfl
      · cases hv
    · rename_i hs hdst
      simp only [hs, hdst]
      split at hd
      · rename_i s hx
        refine ⟨_, hd, trivial, fun _ _ w _ _ => ?_⟩
        simp only [execOp]
        refine val _ _ _ ?_
        simp only [convert, Sem.run_bind, run_underlying hs, run_underlying hdst, Result.andThen_ok, hx]; rfl
      · cases hd
    · rename_i e hs hdst
      simp only [hs, hdst]
      split at hd
      · rename_i hu8
        obtain ⟨v, hv, hk⟩ := hd
        refine ⟨v, hk, hv, fun _ h' w r hv' => ?_⟩
        simp only [execOp]
        refine val _ _ _ ?_
        exact run_bs r hs hdst hu8 hv'
      · cases hd
    · rename_i hs hdst; simp [hs, hdst] at hq
    · rename_i hs hdst; simp [hs, hdst] at hq
    · cases hd
  case makeInterface t x =>
    split at hd
    · cases hd
    · rename_i d hni hu
      obtain ⟨v, hv, hk⟩ := hd
      refine ⟨v, hk, trivial, fun _ _ w _ _ => ?_⟩
      simp only [execOp]
      refine val _ _ _ ?_
      simp only [ifcV, Option.some.injEq] at hv
      subst hv
      simp only [Instr.makeInterface, Sem.run_bind, run_underlying hu, Result.andThen_ok]
      rfl
    · cases hd
  case makeFunc fn first captured => exact ⟨_, hd, trivial, fun _ _ w _ _ => by simp only [execOp, Instr.makeFunc]; rfl⟩
  case slice t x lo hi mx =>
    split at hd
    · rename_i e hu
      split at hd
      · rename_i i hi'
        obtain ⟨v, hv, hk⟩ := hd
        refine ⟨v, hk, trivial, fun _ _ w _ _ => ?_⟩
        simp only [execOp]
        refine val _ _ _ ?_
        have hv' := hv
        unfold slV at hv
        split at hv
        · rename_i a len cap hx; rw [hx] at hv' ⊢; exact run_slice' hu hi' hv' w
        · cases hv
      · cases hd
    · rename_i hu
      obtain ⟨v, hv, hk⟩ := hd
      refine ⟨v, hk, trivial, fun _ _ w _ _ => ?_⟩
      simp only [execOp]
      refine val _ _ _ ?_
      have hv' := hv
      unfold slT at hv
      split at hv
      · rename_i s hx; rw [hx] at hv' ⊢; exact run_slice_str' hu hv' w
      · cases hv
    · rename_i n e hu
      split at hd
      · rename_i i hi'
        obtain ⟨v, hv, hk⟩ := hd
        refine ⟨v, hk, trivial, fun _ _ w _ _ => ?_⟩
        simp only [execOp]
        refine val _ _ _ ?_
        generalize hx : ev env x = xv at hv
        cases xv <;> first | (simp [arrS, slV, undef] at hv; done) | skip
        rename_i p
        cases p with
        | none => simp [arrS, slV, undef] at hv
        | some ad => exact run_slice_arr' hu hi' hv w
      · cases hd
    · cases hd
  case fieldAddr s x f =>
    split at hd
    · rename_i fs hu
      split at hd
      · rename_i fd hf
        split at hd
        · rename_i i hi
          split at hd
          · cases hd
          · rename_i hz
            obtain ⟨v, hv, hk⟩ := hd
            exact ⟨v, hk, trivial, fun _ _ w _ _ => by simp only [execOp]; exact val _ _ _ (run_fieldAt' hu hf hi hz hv w)⟩
        · cases hd
      · cases hd
    · cases hd
  case field t x f =>
    split at hd
    · rename_i fs hu
      split at hd
      · rename_i fd hf
        split at hd
        · rename_i g i hg hi
          obtain ⟨v, hv, hk⟩ := hd
          refine ⟨v, hk, trivial, fun _ _ w _ _ => ?_⟩
          simp only [execOp]
          refine val _ _ _ ?_
          have hv' := hv
          unfold fdV at hv
          split at hv
          · rename_i cs hx
            rw [hx] at hv' ⊢
            simp only [Instr.field, Sem.run_bind, run_underlying hu, Result.andThen_ok, hf, asAgg, Sem.run_pure]
            exact run_part hg hi hv' w
          · cases hv
        · cases hd
      · cases hd
    · cases hd
  case indexAddr t x ix =>
    split at hd
    · rename_i e hu
      split at hd
      · rename_i i hi
        obtain ⟨v, hv, hk⟩ := hd
        exact ⟨v, hk, trivial, fun _ _ w _ _ => by simp only [execOp]; exact val _ _ _ (run_indexAt_slice' hu hi hv w)⟩
      · cases hd
    · rename_i n e hu
      split at hd
      · rename_i i hi
        obtain ⟨v, hv, hk⟩ := hd
        exact ⟨v, hk, trivial, fun _ _ w _ _ => by simp only [execOp]; exact val _ _ _ (run_indexAt_array' hu hi hv w)⟩
      · cases hd
    · cases hd
  case index t x ix =>
    split at hd
    · rename_i hu
      obtain ⟨v, hv, hk⟩ := hd
      exact ⟨v, hk, trivial, fun _ _ w _ _ => by simp only [execOp]; exact val _ _ _ (run_index_string' hu hv w)⟩
    · cases hd
  case extract t i =>
    obtain ⟨v, hv, hk⟩ := hd
    refine ⟨v, hk, trivial, fun _ _ w _ _ => ?_⟩
    simp only [execOp]
    refine val _ _ _ ?_
    unfold exV at hv
    split at hv
    · rename_i vs hx
      simp only [hx, Instr.extract, hv]; rfl
    · cases hv
  case call c =>
    obtain ⟨callee, args, ats⟩ := c
    cases callee with
    | value f => simp at hq
    | invoke r m => simp at hq
    | builtin b =>
      cases b <;> simp at hq
      all_goals simp only at hd
      case len =>
        split at hd
        case h_1 t x hb ha hx =>
          have ea : args.map (ev env) = #[x] := by rw [← Array.toList_inj]; exact hx
          have et : ats = #[t] := by rw [← Array.toList_inj]; exact ha
          split at hd
          · rename_i e hu
            obtain ⟨v, hv, hk⟩ := hd
            refine ⟨v, hk, trivial, fun _ _ w _ _ => ?_⟩
            cases x <;> simp [lenV] at hv
            subst hv
            simp [execOp, resolve, invoke, builtin, ea, et, Builtin.len_, run_underlying hu, goInt]
          · rename_i hu
            obtain ⟨v, hv, hk⟩ := hd
            refine ⟨v, hk, trivial, fun _ _ w _ _ => ?_⟩
            cases x <;> simp [lenT] at hv
            subst hv
            simp [execOp, resolve, invoke, builtin, ea, et, Builtin.len_, run_underlying hu, goInt]
          · cases hd
        all_goals first | (cases hd; done) | (rename_i hb _ _; cases hb; done) | (rename_i hb _; cases hb; done)
      case cap =>
        split at hd
        case h_5 t x hb ha hx =>
          have ea : args.map (ev env) = #[x] := by rw [← Array.toList_inj]; exact hx
          have et : ats = #[t] := by rw [← Array.toList_inj]; exact ha
          split at hd
          · rename_i e hu
            obtain ⟨v, hv, hk⟩ := hd
            refine ⟨v, hk, trivial, fun _ _ w _ _ => ?_⟩
            cases x <;> simp [capV] at hv
            subst hv
            simp [execOp, resolve, invoke, builtin, ea, et, Builtin.cap_, run_underlying hu, goInt]
          · cases hd
        all_goals first | (cases hd; done) | (rename_i hb _ _; cases hb; done) | (rename_i hb _; cases hb; done)
      case min =>
        split at hd
        case h_6 ats x y ha hx =>
          have ea : args.map (ev env) = #[x, y] := by rw [← Array.toList_inj]; exact hx
          obtain ⟨v, hv, hk⟩ := hd
          refine ⟨v, hk, trivial, fun _ _ w _ _ => ?_⟩
          unfold mm at hv
          split at hv
          · cases hv
            simp [execOp, resolve, invoke, builtin, ea, Builtin.min_, Builtin.min2]
          · cases hv
        all_goals first | (cases hd; done) | (rename_i hb _ _; cases hb; done) | (rename_i hb _; cases hb; done)
      case max =>
        split at hd
        case h_7 ats x y ha hx =>
          have ea : args.map (ev env) = #[x, y] := by rw [← Array.toList_inj]; exact hx
          obtain ⟨v, hv, hk⟩ := hd
          refine ⟨v, hk, trivial, fun _ _ w _ _ => ?_⟩
          unfold mm at hv
          split at hv
          · cases hv
            simp [execOp, resolve, invoke, builtin, ea, Builtin.max_, Builtin.max2]
          · cases hv
        all_goals first | (cases hd; done) | (rename_i hb _ _; cases hb; done) | (rename_i hb _; cases hb; done)
end Go.Proofs.YthpacapdaembpaaDoor.K
