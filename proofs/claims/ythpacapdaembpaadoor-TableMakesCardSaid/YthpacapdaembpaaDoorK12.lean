import Derived.Test.YthpacapdaembpaaDoorK11
import Derived.Scope
open Go Go.RowKit
set_option linter.unusedVariables false
set_option linter.unusedSimpArgs false
namespace Go.Proofs.YthpacapdaembpaaDoor.K

/-- What is asked of an end, in the words of worlds. -/
def QW (w0 : World) (Q : QD) : Exit → Act → World → Prop := fun e a w => ∃ env h, a = ⟨env, []⟩ ∧ Rep w0 h w ∧ Q e env h
/-- A panic's end does not look at the temporaries. -/
def PanOK (Q : QD) : Prop := ∀ c env env' h, Q (.panic c) env h → Q (.panic c) env' h

section
variable {P : Program} {w0 : World} {ops : Array Oper} {Q : QD}

theorem gv_wanted {env : Env} {o : Oper} {j : Nat} {want : Bool} (hg : o.guard = some (j, want)) :
    Region.wanted o (yielded ops env) = isB (gv ops env j) want := by
  unfold Region.wanted gv yielded isB
  rw [hg]
  simp only
  cases ((ops[j]?).bind (·.dst)).bind (env[·]?) with
  | none => rfl
  | some v => cases v <;> simp <;> rfl

theorem opG_wp {env : Env} {o : Oper} {i : Nat} (hi : ops[i]? = some o) {K : Kont} {E : PanK} {h : Hp} {w : World} (r : Rep w0 h w) (hd : opG P ops env o K E h) {next : Act → World → Prop} {Qw : Exit → Act → World → Prop}
    (hn : ∀ v w' h', Rep w0 h' w' → K v h' → next ⟨putE env o.dst v, []⟩ w') (hE : ∀ c w' h', Rep w0 h' w' → E c h' → Qw (.panic c) ⟨env, []⟩ w') : wpOp P ops Qw i next ⟨env, []⟩ w := by
  unfold wpOp
  rw [hi]
  simp only
  unfold opG at hd
  cases hg : o.guard with
  | none =>
    rw [hg] at hd
    have : Region.wanted o (yielded ops env) = true := by unfold Region.wanted; rw [hg]
    rw [if_pos this]
    exact .inl (opD_wp r hd hn hE)
  | some p =>
    obtain ⟨j, want⟩ := p
    rw [hg] at hd
    simp only [gdK] at hd
    rw [gv_wanted hg]
    by_cases hb : isB (gv ops env j) want = true
    · rw [if_pos hb] at hd ⊢
      exact .inl (opD_wp r hd hn hE)
    · rw [if_neg hb] at hd
      rw [if_neg hb, put_eq]
      exact hn undef w h r hd

theorem denOps_sound : ∀ (k : Nat) (env : Env) (h : Hp) (w : World), k ≤ ops.size → Rep w0 h w → denOps P ops Q (ops.toList.drop k) env h → wpOps P ops (QW w0 Q) (List.range' k (ops.size - k)) ⟨env, []⟩ w := by
  intro k
  induction hk : ops.size - k generalizing k with
  | zero =>
    intro env h w hle r hd
    have : ops.toList.drop k = [] := List.drop_eq_nil_of_le (by simp; omega)
    rw [this] at hd
    exact ⟨env, h, rfl, r, hd⟩
  | succ n ih =>
    intro env h w hle r hd
    have hlt : k < ops.size := by omega
    have hi : ops[k]? = some ops[k] := by simp [hlt]
    have hdrop : ops.toList.drop k = ops[k] :: ops.toList.drop (k + 1) := by
      rw [List.drop_eq_getElem_cons (by simpa using hlt)]; simp
    rw [hdrop] at hd
    rw [List.range'_succ, wpOps_cons]
    refine opG_wp hi r hd (fun v w' h' r' hk' => ?_) (fun c w' h' r' he => ⟨env, h', rfl, r', he⟩)
    exact ih (k + 1) (by omega) _ h' w' (by omega) r' hk'

/-- What was taken, in the words of worlds and in those of 'Hp'. -/
def TInv (T : Taken) (TK' : TK) : Prop := ∀ p ∈ T, (∃ k, (p.1, k) ∈ TK' ∧ ∀ w, (∃ w0 h, Rep w0 h w ∧ k h) → p.2 w) ∨ (∀ w, (∃ w0 h, Rep w0 h w) → p.2 w)

theorem allK_mem : ∀ {T : TK} {h : Hp} {X : Prop}, allK T h X → (∀ p ∈ T, p.2 h) ∧ X
  | [], _, _, hx => ⟨by simp, hx⟩
  | p :: r, h, X, hx => by
    obtain ⟨h1, h2⟩ := hx
    obtain ⟨h3, h4⟩ := allK_mem h2
    exact ⟨fun q hq => by rcases List.mem_cons.1 hq with rfl | hq; exact h1; exact h3 q hq, h4⟩

theorem TInv.holds {T : Taken} {TK' : TK} (hi : TInv T TK') {h : Hp} {w : World} (r : Rep w0 h w) (hall : ∀ p ∈ TK', p.2 h) : ∀ p ∈ T, p.2 w := fun p hp => by
  rcases hi p hp with ⟨k, hk, hw⟩ | hw
  · exact hw w ⟨w0, h, r, hall _ hk⟩
  · exact hw w ⟨w0, h, r⟩

theorem TInv.later {T : Taken} {TK' : TK} (hi : TInv T TK') (j : Nat) : TInv (later ops T j) (laterK ops TK' j) := fun p hp => by
  simp only [K.later, List.mem_filter] at hp
  rcases hi p hp.1 with ⟨k, hk, hw⟩ | hw
  · exact .inl ⟨k, by simp only [laterK, List.mem_filter]; exact ⟨hk, hp.2⟩, hw⟩
  · exact .inr hw

theorem quiet_not_panic {P : Program} {env : Env} {o : Oper} {K : Kont} {E : PanK} {h : Hp} (hq : quietP P o.op = true) (hd : opD P env o K E h) : True := trivial

theorem denPlan_sound (hp : PanOK Q) (hsel : ∀ (j : Nat) (o : Oper) cs b, ops[j]? = some o → o.op ≠ .select cs b) : ∀ (n : Nat) (listed : Array Bool) (l : Plan) (T : Taken) (TK' : TK) (env : Env) (h : Hp) (w : World),
    planOf P ops n listed = some l → closedL ops listed → TInv T TK' → (∀ p ∈ T, p.2 w) → Rep w0 h w → denPlan P ops Q l TK' env h →
    wpAnyT P ops (QW w0 Q) n listed T ⟨env, []⟩ w
  | 0, listed, l, T, TK', env, h, w, hl, _, _, _, r, hd => by
    simp only [planOf] at hl
    split at hl
    · rename_i hr
      cases hl
      exact ⟨hr, env, h, rfl, r, hd⟩
    · cases hl
  | n + 1, listed, l, T, TK', env, h, w, hl, hc, hT, hTw, r, hd => by
    simp only [planOf] at hl
    cases hr : Region.ready .any ops listed with
    | nil =>
      rw [hr] at hl
      cases hl
      exact ⟨fun _ => ⟨env, h, rfl, r, hd⟩, fun i hi => by rw [hr] at hi; cases hi⟩
    | cons i0 rs0 =>
      rw [hr] at hl
      simp only at hl
      cases hf : (i0 :: rs0).find? (takeB P ops listed) with
      | some i =>
        rw [hf] at hl
        simp only at hl
        obtain ⟨l', hl', rfl⟩ := Option.map_eq_some_iff.1 hl
        have hfi := List.find?_some hf
        have him : i ∈ Region.ready .any ops listed := by rw [hr]; exact List.mem_of_find?_eq_some hf
        simp only [takeB, Bool.and_eq_true] at hfi
        cases ho : ops[i]? with
        | none => rw [ho] at hfi; simp at hfi
        | some o =>
          rw [ho] at hfi
          simp only at hfi
          simp only [denPlan, ho] at hd
          have hfree := Region.free_spec ho hfi.2
          have hQ : ∀ (v : Value) c a w, QW w0 Q (.panic c) (a.put o.dst v) w → QW w0 Q (.panic c) a w := by
            rintro v c a w ⟨env', h', he, r', hq⟩
            obtain ⟨tm, df⟩ := a
            have : df = [] := by
              have := congrArg Act.defers he
              cases hdst : o.dst <;> simpa [Act.put, hdst] using this
            subst this
            exact ⟨tm, h', rfl, r', hp _ _ _ _ hq⟩
          -- what it yields
          have key : ∃ v, (denPlan P ops Q l' (if isRead P o.op then (i, keepG P ops env o v) :: TK' else TK') (putE env o.dst v) h) ∧
              ∃ S : World → Prop, YieldsS P ops S o v ⟨env, []⟩ ∧ S w ∧ ((∃ k, (isRead P o.op = true ∧ k = keepG P ops env o v) ∧ ∀ w, (∃ w0 h, Rep w0 h w ∧ k h) → S w) ∨ (∀ w, (∃ w0 h, Rep w0 h w) → S w)) := by
            have nr : isRead P o.op = false → ∀ v h, keepD P env o v h := by
              intro hr v h
              unfold keepD
              unfold isRead at hr
              split <;> simp_all
              split <;> simp_all
            unfold opG at hd
            cases hgd : o.guard with
            | none =>
              rw [hgd] at hd
              simp only at hd
              obtain ⟨v, hk, hkeep, hrun⟩ := quiet_sound hfi.1 hd
              have hwant : Region.wanted o (yielded ops env) = true := by unfold Region.wanted; rw [hgd]
              have hkg : keepG P ops env o v = keepD P env o v := by funext h; unfold keepG; rw [hgd]
              refine ⟨v, hk, fun w => ∃ w0 h, Rep w0 h w ∧ keepD P env o v h, fun w ⟨w1, h1, r1, k1⟩ => .inl ⟨hwant, hrun w1 h1 w r1 k1⟩, ⟨w0, h, r, hkeep⟩, ?_⟩
              by_cases hload : isRead P o.op = true
              · exact .inl ⟨_, ⟨hload, rfl⟩, fun w hw => by rw [hkg] at hw; exact hw⟩
              · exact .inr fun w ⟨w1, h1, r1⟩ => ⟨w1, h1, r1, nr (by simpa using hload) v h1⟩
            | some p =>
              obtain ⟨j, want⟩ := p
              rw [hgd] at hd
              simp only [gdK] at hd
              have hw2 := gv_wanted (ops := ops) (env := env) hgd
              by_cases hb : isB (gv ops env j) want = true
              · rw [if_pos hb] at hd
                obtain ⟨v, hk, hkeep, hrun⟩ := quiet_sound hfi.1 hd
                have hkg : ∀ h, keepG P ops env o v h → keepD P env o v h := fun h hh => by unfold keepG at hh; rw [hgd] at hh; exact hh hb
                refine ⟨v, hk, fun w => ∃ w0 h, Rep w0 h w ∧ keepD P env o v h, fun w ⟨w1, h1, r1, k1⟩ => .inl ⟨hw2.trans hb, hrun w1 h1 w r1 k1⟩, ⟨w0, h, r, hkeep⟩, ?_⟩
                by_cases hload : isRead P o.op = true
                · exact .inl ⟨_, ⟨hload, rfl⟩, fun w ⟨w1, h1, r1, k1⟩ => ⟨w1, h1, r1, hkg h1 k1⟩⟩
                · exact .inr fun w ⟨w1, h1, r1⟩ => ⟨w1, h1, r1, nr (by simpa using hload) v h1⟩
              · rw [if_neg hb] at hd
                exact ⟨undef, hd, fun _ => True, fun w _ => .inr ⟨by rw [hw2]; simpa using hb, rfl⟩, trivial, .inr fun _ _ => trivial⟩
          obtain ⟨v, hden, S, hy, hS, hSk⟩ := key
          refine wpAnyT_first ho hsel (fun c a w => hQ v c a w) n listed T ⟨env, []⟩ w hc (fun j oj hj hne hun hno => hfree j oj hj hne hun hno) him hy hS hTw ?_
          rw [put_eq]
          refine denPlan_sound hp hsel n _ l' _ _ _ h w hl' (closed_set hc him) ?_ ?_ r hden
          · intro p hp'
            rcases List.mem_cons.1 hp' with rfl | hp'
            · rcases hSk with ⟨k, ⟨hk1, rfl⟩, hk2⟩ | hk
              · exact .inl ⟨_, by rw [if_pos hk1]; exact List.mem_cons_self .., hk2⟩
              · exact .inr hk
            · rcases hT p hp' with ⟨k, hk, hw'⟩ | hw'
              · exact .inl ⟨k, by split; exact List.mem_cons_of_mem _ hk; exact hk, hw'⟩
              · exact .inr hw'
          · intro p hp'
            rcases List.mem_cons.1 hp' with rfl | hp'
            · exact hS
            · exact hTw p hp'
      | none =>
        rw [hf] at hl
        simp only at hl
        split at hl
        · rename_i i heq
          cases heq
          obtain ⟨l', hl', rfl⟩ := Option.map_eq_some_iff.1 hl
          have him : i0 ∈ Region.ready .any ops listed := by rw [hr]; simp
          cases ho : ops[i0]? with
          | none => simp only [denPlan, ho] at hd
          | some o =>
            simp only [denPlan, ho] at hd
            refine wpAnyT_all hr (by simp) (fun j hj => ?_)
            obtain rfl : j = i0 := by simpa using hj
            refine opG_wp ho r hd (fun v w' h' r' hk => ?_) (fun c w' h' r' he => ⟨env, h', rfl, r', he⟩)
            obtain ⟨ha, hk⟩ := allK_mem hk
            have hT' := hT.later (ops := ops) j
            have hTw' := hT'.holds r' ha
            exact ⟨hTw', denPlan_sound hp hsel n _ l' _ _ _ h' w' hl' (closed_set hc him) hT' hTw' r' hk⟩
        · rename_i i j heq
          cases heq
          cases hp1 : planOf P ops n (listed.setIfInBounds i0 true) with
          | none => rw [hp1] at hl; simp at hl
          | some p =>
          cases hp2 : planOf P ops n (listed.setIfInBounds j true) with
          | none => rw [hp1, hp2] at hl; simp at hl
          | some q =>
          rw [hp1, hp2] at hl
          simp only [Option.some.injEq] at hl
          subst hl
          have step : ∀ (x : Nat) (px : Plan), x ∈ Region.ready .any ops listed → planOf P ops n (listed.setIfInBounds x true) = some px →
              (match ops[x]? with
                | some o => opG P ops env o (fun v h => allK (laterK ops TK' x) h (denPlan P ops Q px (laterK ops TK' x) (putE env o.dst v) h)) (fun c => Q (.panic c) env)
                | none => fun _ => False) h → ∃ o, ops[x]? = some o ∧ opG P ops env o (fun v h => allK (laterK ops TK' x) h (denPlan P ops Q px (laterK ops TK' x) (putE env o.dst v) h)) (fun c => Q (.panic c) env) h := fun x px _ _ hx => by
            cases ho : ops[x]? with
            | none => rw [ho] at hx; exact hx.elim
            | some o => rw [ho] at hx; exact ⟨o, rfl, hx⟩
          simp only [denPlan, bth] at hd
          obtain ⟨hd1, hd2⟩ := hd
          have m1 : i0 ∈ Region.ready .any ops listed := by rw [hr]; simp
          have m2 : j ∈ Region.ready .any ops listed := by rw [hr]; simp
          refine wpAnyT_all hr (by simp) (fun x hx => ?_)
          have hx' : x = i0 ∨ x = j := by simpa using hx
          rcases hx' with rfl | rfl
          · obtain ⟨o, ho, hd⟩ := step _ p m1 hp1 hd1
            refine opG_wp ho r hd (fun v w' h' r' hk => ?_) (fun c w' h' r' he => ⟨env, h', rfl, r', he⟩)
            obtain ⟨ha, hk⟩ := allK_mem hk
            have hT' := hT.later (ops := ops) x
            have hTw' := hT'.holds r' ha
            exact ⟨hTw', denPlan_sound hp hsel n _ p _ _ _ h' w' hp1 (closed_set hc m1) hT' hTw' r' hk⟩
          · obtain ⟨o, ho, hd⟩ := step _ q m2 hp2 hd2
            refine opG_wp ho r hd (fun v w' h' r' hk => ?_) (fun c w' h' r' he => ⟨env, h', rfl, r', he⟩)
            obtain ⟨ha, hk⟩ := allK_mem hk
            have hT' := hT.later (ops := ops) x
            have hTw' := hT'.holds r' ha
            exact ⟨hTw', denPlan_sound hp hsel n _ q _ _ _ h' w' hp2 (closed_set hc m2) hT' hTw' r' hk⟩
        · cases hl
end
end Go.Proofs.YthpacapdaembpaaDoor.K
