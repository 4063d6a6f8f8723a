import Derived.Test.YthpacapdaembpaaDoorK12
open Go Go.RowKit
set_option linter.unusedVariables false
set_option linter.unusedSimpArgs false
namespace Go.Proofs.YthpacapdaembpaaDoor.K

theorem pan_thenD {Q : QD} (h : PanOK Q) (k : Env → Hp → Prop) : PanOK (thenD k Q) := fun c env env' hp hh => h c env env' hp hh
theorem pan_blk {Q : QD} (h : PanOK Q) (id : Nat) : PanOK (blk id Q) := fun c env env' hp hh => h c env env' hp hh
theorem pan_scp {Q : QD} (h : PanOK Q) : PanOK (scp Q) := fun c env env' hp hh => h c env env' hp hh

section
variable {P : Program} {w0 : World}

theorem den_sound (hm : P.follows .mixedOrders = true) : ∀ (c : Code) (Q : QD) (env : Env) (h : Hp) (w : World), PanOK Q → Rep w0 h w → den P c Q env h → c.wp P (QW w0 Q) ⟨env, []⟩ w := by
  intro c
  induction c with
  | skip => exact fun Q env h w _ r hd => wp_skip ⟨env, h, rfl, r, hd⟩
  | label l => exact fun Q env h w _ r hd => wp_label ⟨env, h, rfl, r, hd⟩
  | region id ops draw =>
    intro Q env h w hp r hd
    simp only [den] at hd
    cases draw with
    | false =>
      simp only [Bool.false_eq_true, if_false] at hd
      refine wp_region ?_
      have := denOps_sound (P := P) (w0 := w0) (ops := ops) (Q := Q) 0 env h w (Nat.zero_le _) r (by simpa using hd)
      rwa [Nat.sub_zero, ← List.range_eq_range'] at this
    | true =>
      simp only [if_true] at hd
      cases hl : planOf P ops ops.size (Array.replicate ops.size false) with
      | some l =>
        rw [hl] at hd
        by_cases hok : Region.noSelect ops = true
        · simp only [hok, if_true] at hd
          refine wp_region_T hm ?_
          exact denPlan_sound hp (fun j o cs b ho => Region.noSelect_spec hok j o cs b ho) ops.size _ l [] [] env h _ hl (closed_none ops ops.size) (fun p hp => by cases hp) (fun p hp => by cases hp) r.drew hd
        · simp only [hok, if_false, Bool.false_eq_true] at hd
      | none => rw [hl] at hd; exact hd.elim
  | seq a b iha ihb =>
    intro Q env h w hp r hd
    simp only [den] at hd
    refine wp_seq (wp_mono (iha _ env h w (pan_thenD hp _) r hd) ?_)
    rintro e a' w' ⟨env', h', rfl, r', hq⟩
    cases e with
    | normal => exact ihb Q env' h' w' hp r' hq
    | exit id => exact ⟨env', h', rfl, r', hq⟩
    | goto l => exact ⟨env', h', rfl, r', hq⟩
    | ret => exact ⟨env', h', rfl, r', hq⟩
    | panic c => exact ⟨env', h', rfl, r', hq⟩
    | outgrown => exact ⟨env', h', rfl, r', hq⟩
  | cond c a b iha ihb =>
    intro Q env h w hp r hd
    simp only [den, cnd] at hd
    obtain ⟨t, ht, hd⟩ := hd
    cases t with
    | true => exact wp_cond_true ht (iha Q env h w hp r (by simpa using hd))
    | false => exact wp_cond_false ht (ihb Q env h w hp r (by simpa using hd))
  | block id c ih =>
    intro Q env h w hp r hd
    simp only [den] at hd
    refine wp_block (wp_mono (ih _ env h w (pan_blk hp id) r hd) ?_)
    rintro e a' w' ⟨env', h', rfl, r', hq⟩
    cases e with
    | exit id' =>
      simp only [Exit.inBlock]
      simp only [blk] at hq
      split
      · rename_i hid; rw [if_pos hid] at hq; exact ⟨env', h', rfl, r', hq⟩
      · rename_i hid; rw [if_neg hid] at hq; exact ⟨env', h', rfl, r', hq⟩
    | normal => exact ⟨env', h', rfl, r', hq⟩
    | goto l => exact ⟨env', h', rfl, r', hq⟩
    | ret => exact ⟨env', h', rfl, r', hq⟩
    | panic c => exact ⟨env', h', rfl, r', hq⟩
    | outgrown => exact ⟨env', h', rfl, r', hq⟩
  | loop c ih =>
    intro Q env h w hp r hd
    simp only [den] at hd
    obtain ⟨n, hn⟩ := hd
    intro b k cs
    have key : ∀ n env h w, Rep w0 h w → lpn (fun K => den P c (thenD K Q)) n env h →
        ∃ e a' w', QW w0 Q e a' w' ∧ Arrives P (lone (b.at ⟨env, []⟩ (.code c :: .inLoop c :: k)) cs w) b k cs e a' w' := by
      intro n
      induction n with
      | zero => intro env h w _ hn; exact hn.elim
      | succ n ihn =>
        intro env h w r hn
        obtain ⟨h2, hwk, hn⟩ := hn r.wf
        replace hn := hn (r.wk hwk).wf
        obtain ⟨e, a₁, w₁, hq, harr⟩ := ih _ env h2 w (pan_thenD hp _) (r.wk hwk) hn b (.inLoop c :: k) cs
        obtain ⟨env', h', rfl, r', hq⟩ := hq
        cases e with
        | normal =>
          obtain ⟨e₂, a₂, w₂, hq₂, harr₂⟩ := ihn env' h' w₁ r' hq
          exact ⟨e₂, a₂, w₂, hq₂, .of_steps (Steps.trans harr (.one step_inLoop)) harr₂⟩
        | exit id => exact ⟨_, _, w₁, ⟨env', h', rfl, r', hq⟩, .pass (x := .inLoop c) rfl (fun _ _ => .inl (by simp)) harr⟩
        | goto l => exact ⟨_, _, w₁, ⟨env', h', rfl, r', hq⟩, .pass (x := .inLoop c) rfl (fun _ _ => .inl (by simp)) harr⟩
        | ret => exact ⟨_, _, w₁, ⟨env', h', rfl, r', hq⟩, .pass (x := .inLoop c) rfl (fun _ _ => .inl (by simp)) harr⟩
        | panic ch => exact ⟨_, _, w₁, ⟨env', h', rfl, r', hq⟩, .pass (x := .inLoop c) rfl (fun _ _ => .inl (by simp)) harr⟩
        | outgrown => exact ⟨_, _, w₁, ⟨env', h', rfl, r', hq⟩, .pass (x := .inLoop c) rfl (fun _ _ => .inl (by simp)) harr⟩
    obtain ⟨e, a', w', hq, harr⟩ := key n env h w r hn
    exact ⟨e, a', w', hq, .of_steps (.one step_loop) harr⟩
  | rangeFunc f params assign body _ _ => intro Q env h w hp r hd; simp only [den] at hd
  | exit id => exact fun Q env h w _ r hd => wp_exit ⟨env, h, rfl, r, hd⟩
  | scope c ih =>
    intro Q env h w hp r hd
    simp only [den] at hd
    refine wp_scope_straight (wp_mono (ih _ env h w (pan_scp hp) r hd) ?_)
    rintro e a' w' ⟨env', h', rfl, r', hq⟩
    cases e with
    | goto l => exact hq.elim
    | exit id' => exact ⟨env', h', rfl, r', hq⟩
    | normal => exact ⟨env', h', rfl, r', hq⟩
    | ret => exact ⟨env', h', rfl, r', hq⟩
    | panic c => exact ⟨env', h', rfl, r', hq⟩
    | outgrown => exact ⟨env', h', rfl, r', hq⟩
  | goto l => intro Q env h w hp r hd; simp only [den] at hd
  | ret => exact fun Q env h w _ r hd => wp_ret ⟨env, h, rfl, r, hd⟩
  | refuse s => intro Q env h w hp r hd; simp only [den] at hd
end

/-! ### A function's beginning and end -/

def resV (P : Program) : List ResultVar → Env → (List Value → Hp → Prop) → Hp → Prop
  | [], _, K, h => K [] h
  | .tmp t :: r, env, K, h => resV P r env (fun vs => K (env.getD t undef :: vs)) h
  | .cell a t :: r, env, K, h => match aggB P t, P.info? t with
    | some g, some i => ld g i.size (env.getD a undef) (fun v => resV P r env (fun vs => K (v :: vs))) h
    | _, _ => False
def tupV : List Value → Value
  | [v] => v
  | vs => .tuple vs.toArray
def bodyQ (P : Program) (rs : List ResultVar) (K : Kont) (E : PanK) : QD
  | .normal, env => resV P rs env (fun vs => K (tupV vs))
  | .ret, env => resV P rs env (fun vs => K (tupV vs))
  | .panic c, _ => E c
  | _, _ => fun _ => False

def resOne (env : Env) : ResultVar → Sem Value
  | .tmp t => pure (env.getD t undef)
  | .cell a t => do loadVar t (← asAddr (env.getD a undef))

theorem resV_run {P : Program} {w0 w : World} {env : Env} : ∀ (rs : List ResultVar) (K : List Value → Hp → Prop) (h : Hp), Rep w0 h w → resV P rs env K h →
    ∃ vs, (rs.mapM (resOne env)).run P w = .ok vs w ∧ K vs h
  | [], K, h, r, hd => ⟨[], by simp, hd⟩
  | .tmp t :: rs, K, h, r, hd => by
    obtain ⟨vs, hr, hk⟩ := resV_run rs _ h r hd
    exact ⟨_, by simp only [List.mapM_cons, resOne, Sem.run_bind, Sem.run_pure, Result.andThen_ok, hr], hk⟩
  | .cell a t :: rs, K, h, r, hd => by
    simp only [resV] at hd
    split at hd
    · rename_i g i hg hi
      obtain ⟨v, hv, hd⟩ := hd
      obtain ⟨vs, hr, hk⟩ := resV_run rs _ h r hd
      have hl := run_loadVar' (P := P) r hg hi hv
      have hp : ∃ ad, env.getD a undef = .pointer (some ad) := by
        unfold ldV at hv
        split at hv
        · rename_i b o hx; exact ⟨_, hx⟩
        · exact hv.elim
      obtain ⟨ad, had⟩ := hp
      rw [had] at hl
      simp only [Instr.loadAt, Instr.sureAddr, Sem.run_bind, Sem.run_pure, Result.andThen_ok] at hl
      refine ⟨_, ?_, hk⟩
      have h1 : (resOne env (.cell a t)).run P w = .ok v w := by simp only [resOne, Sem.run_bind, had, asAddr, Sem.run_pure, Result.andThen_ok, hl]
      simp only [List.mapM_cons, Sem.run_bind, h1, Result.andThen_ok, hr, Sem.run_pure]
    · exact hd.elim

theorem results_run {P : Program} {w0 w : World} {env : Env} {fn : Func} {K : Kont} {h : Hp} (r : Rep w0 h w) (hd : resV P fn.results.toList env (fun vs => K (tupV vs)) h) :
    ∃ v, (results fn env).run P w = .ok v w ∧ K v h := by
  obtain ⟨vs, hr, hk⟩ := resV_run _ _ h r hd
  refine ⟨_, ?_, hk⟩
  unfold results
  have hf : (fun x => match x with
      | .tmp t => pure (env.getD t undef)
      | .cell a t => do loadVar t (← asAddr (env.getD a undef)) : ResultVar → Sem Value) = resOne env := by funext x; cases x <;> rfl
  rw [Array.mapM_eq_mapM_toList]
  simp only [Sem.run_bind, Sem.run_map]
  erw [hf, hr]
  simp only [Result.andThen_ok, Sem.run_pure]
  congr 1
  match vs with
  | [] => rfl
  | [v] => rfl
  | v :: u :: vs => simp [tupV]

/-- A function's text. -/
def bodyOf (fn : Func) : Code := fn.body.getD .skip
/-- A piece of a text. -/
def sel : Code → List Nat → Code
  | c, [] => c
  | .seq a _, 0 :: p => sel a p
  | .seq _ b, 1 :: p => sel b p
  | .cond _ a _, 0 :: p => sel a p
  | .cond _ _ b, 1 :: p => sel b p
  | .block _ c, _ :: p => sel c p
  | .loop c, _ :: p => sel c p
  | .scope c, _ :: p => sel c p
  | c, _ => c
/-- **What a function does, by its text.** -/
theorem call_of_den {P : Program} (hm : P.follows .mixedOrders = true) {f : FuncId} {fn : Func} {c : Code} (hf : P.funcs[f]? = some fn) (hb : fn.body = some c) {args : Array Value} {K : Kont} {E : PanK} {h : Hp}
    (hd : den P c (bodyQ P fn.results.toList K E) (appA args (List.replicate (fn.ntmps - args.size) undef).toArray) h) : call P f args K E h := by
  intro w0 w r
  rw [appA_eq, List.toArray_replicate] at hd
  refine calls_of_wp hf hb (wp_mono (den_sound hm c _ _ h w (fun c env env' hp hh => hh) r hd) ?_)
  rintro e a w' ⟨env, h', rfl, r', hq⟩
  cases e with
  | normal =>
    obtain ⟨v, hr, hk⟩ := results_run r' hq
    exact ⟨rfl, v, hr, h', r', hk⟩
  | ret =>
    obtain ⟨v, hr, hk⟩ := results_run r' hq
    exact ⟨rfl, v, hr, h', r', hk⟩
  | panic ch => exact ⟨rfl, h', r', hq⟩
  | exit id => exact hq.elim
  | goto l => exact hq.elim
  | outgrown => exact hq.elim

theorem call_text {P : Program} (hm : P.follows .mixedOrders = true) {f : FuncId} {fn : Func} (hf : P.funcs[f]? = some fn) (hb : (fn.name != "runtime.NumGoroutine" && fn.body.isSome) = true) {args : Array Value} {K : Kont} {E : PanK} {h : Hp} {X : Hp → Prop}
    (ht : den P (sel (bodyOf fn) []) (bodyQ P fn.results.toList (fun v h => h.wf → ∃ h', h.wk h' ∧ (h'.wf → K v h')) E) (appA args (List.replicate (fn.ntmps - args.size) undef).toArray) = X) (hd : h.wf → X h) : call P f args K E h := by
  simp only [Bool.and_eq_true] at hb
  obtain ⟨c, hc⟩ := Option.isSome_iff_exists.1 hb.2
  intro w0 w r
  refine (call_of_den (K := fun v h => h.wf → ∃ h', h.wk h' ∧ (h'.wf → K v h')) (E := E) hm hf hc ?_ w0 w r).mono fun e w' he => ?_
  · have : sel (bodyOf fn) [] = c := by unfold bodyOf; rw [hc]; cases c <;> rfl
    rw [this] at ht
    rw [ht]
    exact hd r.wf
  · obtain ⟨h', r', hh⟩ := he
    cases e with
    | returned v => obtain ⟨h'', hwk, hk⟩ := hh r'.wf; exact ⟨h'', r'.wk hwk, hk (r'.wk hwk).wf⟩
    | panicked c => exact ⟨h', r', hh⟩
    | outgrown => exact hh.elim
theorem callv_of_text {P : Program} (hm : P.follows .mixedOrders = true) {f : FuncId} {fn : Func} (hf : P.funcs[f]? = some fn) (hb : (fn.name != "runtime.NumGoroutine" && fn.body.isSome) = true) {first args captured : Array Value} {K : Kont} {E : PanK} {h : Hp} {X : Hp → Prop}
    (ht : den P (sel (bodyOf fn) []) (bodyQ P fn.results.toList (fun v h => h.wf → ∃ h', h.wk h' ∧ (h'.wf → K v h')) E) (appA (appA (appA first args) captured) (List.replicate (fn.ntmps - (appA (appA first args) captured).size) undef).toArray) = X) (hd : h.wf → X h) : callv P (.func (.func f) first captured) args K E h :=
  .inl ⟨by rw [hf]; exact hb, call_text hm hf hb ht hd⟩

theorem callv_wf {P : Program} {fv : Value} {args : Array Value} {K K' : Kont} {E E' : PanK} {h : Hp} (hc : callv P fv args K E h) (hk : ∀ v h', h'.wf → K v h' → K' v h') (he : ∀ c h', E c h' → E' c h') : callv P fv args K' E' h := by
  cases fv with
  | func fn first captured =>
    cases fn with
    | func f =>
      rcases hc with ⟨h1, hc⟩ | hc
      · exact .inl ⟨h1, fun w0 w r => (hc w0 w r).mono fun e w' ⟨h', r', hh⟩ => ⟨h', r', by cases e <;> first | exact hk _ _ r'.wf hh | exact he _ _ hh | exact hh⟩⟩
      · exact .inr fun w0 w r => let ⟨v, w', h', hr, r', hk'⟩ := hc w0 w r; ⟨v, w', h', hr, r', hk _ _ r'.wf hk'⟩
    | _ => exact False.elim hc
  | _ => exact False.elim hc

/-- Behind a call less may be known. -/
theorem callv_wk {P : Program} {fv : Value} {args : Array Value} {K : Kont} {E : PanK} {h : Hp} (hc : callv P fv args (fun v h => h.wf → ∃ h', h.wk h' ∧ (h'.wf → K v h')) E h) : callv P fv args K E h := by
  cases fv with
  | func fn first captured =>
    cases fn with
    | func f =>
      rcases hc with ⟨h1, hc⟩ | hc
      · refine .inl ⟨h1, fun w0 w r => (hc w0 w r).mono fun e w' ⟨h', r', hh⟩ => ?_⟩
        cases e with
        | returned v => obtain ⟨h'', hwk, hk⟩ := hh r'.wf; exact ⟨h'', r'.wk hwk, hk (r'.wk hwk).wf⟩
        | panicked c => exact ⟨h', r', hh⟩
        | outgrown => exact hh.elim
      · refine .inr fun w0 w r => ?_
        obtain ⟨v, w', h', hr, r', hk'⟩ := hc w0 w r
        obtain ⟨h'', hwk, hk⟩ := hk' r'.wf
        exact ⟨v, w', h'', hr, r'.wk hwk, hk (r'.wk hwk).wf⟩
    | _ => exact False.elim hc
  | _ => exact False.elim hc

/-- A row that the call owns has all its cells, known or not. -/
theorem Rep.reveal {w0 w : World} {h : Hp} (r : Rep w0 h w) {b : Nat} {e : TypeId} {cs : List Value} {tot : Nat} (hM : h.M b = some (.cells e cs tot)) : ∃ ext, (cs ++ ext).length = tot ∧ Rep w0 (h.set b (.cells e (cs ++ ext) tot)) w := by
  obtain ⟨a1, a2, a3, arr, a4, a5, ⟨ext, a6⟩⟩ := r.cl b e cs tot hM
  refine ⟨ext, by rw [a6]; simpa using a5, ?_⟩
  refine r.turn (w' := w) a2 a3 rfl rfl rfl (Nat.le_refl _) (Array.getElem?_eq_some_iff.1 a4).1 (fun _ _ _ => rfl) (some _) h.nx (Nat.le_refl _) r.nx a1 ?_
  exact ⟨arr, a4, a5, by rw [a6]; exact List.prefix_refl _⟩
theorem callv_reveal {P : Program} {fv : Value} {args : Array Value} {K : Kont} {E : PanK} {h : Hp} {b : Nat} {e : TypeId} {cs : List Value} {tot : Nat} (hM : h.M b = some (.cells e cs tot))
    {f : FuncId} {first captured : Array Value} (hfv : fv = .func (.func f) first captured) (hbody : (((P.funcs[f]?).map fun fn => fn.name != "runtime.NumGoroutine" && fn.body.isSome).getD false) = true)
    (hc : ∀ ext, (cs ++ ext).length = tot → call P f (appA (appA first args) captured) K E (h.set b (.cells e (cs ++ ext) tot))) : callv P fv args K E h := by
  subst hfv
  refine .inl ⟨hbody, fun w0 w r => ?_⟩
  obtain ⟨ext, he, r'⟩ := r.reveal hM
  exact hc ext he w0 w r'

theorem call_mono {P : Program} {f : FuncId} {args : Array Value} {K K' : Kont} {E E' : PanK} {h : Hp} (hc : call P f args K E h) (hk : ∀ v h', K v h' → K' v h') (he : ∀ c h', E c h' → E' c h') : call P f args K' E' h :=
  fun w0 w r => (hc w0 w r).mono fun e w' ⟨h', r', hh⟩ => ⟨h', r', by cases e <;> first | exact hk _ _ hh | exact he _ _ hh | exact hh⟩
end Go.Proofs.YthpacapdaembpaaDoor.K
