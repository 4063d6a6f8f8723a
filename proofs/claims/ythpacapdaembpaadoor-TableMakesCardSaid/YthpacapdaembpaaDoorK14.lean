import Derived.Test.YthpacapdaembpaaDoorK13
open Go Go.RowKit
set_option linter.unusedVariables false
set_option linter.unusedSimpArgs false
namespace Go.Proofs.YthpacapdaembpaaDoor.K

/-! ### Steps -/
section
variable {F : Nat → Option (List Value)} {M : Nat → Option Chunk} {N : Nat} {K : Kont} {h : Hp} {P : Program} {E : PanK}

theorem pv_r {o : Option Value} {v : Value} (hv : o = some v) (k : K v h) : pv o K h := ⟨v, hv, k⟩
theorem ia_r {b o n c sz : Nat} {k : IntKind} {i : Int} (h0 : 0 ≤ i) (h1 : i < n) (kk : K (.pointer (some ⟨b, o + i.toNat * sz, none⟩)) h) : pv (iaV none sz (.slice (some ⟨b, o, none⟩) n c) (.int k i)) K h :=
  ⟨_, by simp [iaV, h0, h1], kk⟩
theorem iaN_r {b o n c sz : Nat} {k : IntKind} {i : Nat} (h1 : i < n) (kk : K (.pointer (some ⟨b, o + i * sz, none⟩)) h) : pv (iaV none sz (.slice (some ⟨b, o, none⟩) n c) (.int k (i : Nat))) K h :=
  ia_r (by omega) (by omega) (by simpa using kk)
theorem wrap_in {a : Int} (h0 : -9223372036854775808 ≤ a) (h1 : a ≤ 9223372036854775807) : IntKind.i64.wrap a = a := by rw [IntKind.wrap_i64]; omega
theorem add_r {e : EqK} {a b : Int} (h0 : -9223372036854775808 ≤ a + b) (h1 : a + b ≤ 9223372036854775807) (k : K (.int .i64 (a + b)) h) : pv (binV e .add (.int .i64 a) (.int .i64 b)) K h :=
  ⟨.int .i64 (IntKind.i64.wrap (a + b)), by simp [binV, intV], by rw [wrap_in h0 h1]; exact k⟩
theorem sub_r {e : EqK} {a b : Int} (h0 : -9223372036854775808 ≤ a - b) (h1 : a - b ≤ 9223372036854775807) (k : K (.int .i64 (a - b)) h) : pv (binV e .sub (.int .i64 a) (.int .i64 b)) K h :=
  ⟨.int .i64 (IntKind.i64.wrap (a - b)), by simp [binV, intV], by rw [wrap_in h0 h1]; exact k⟩
theorem inc_r {e : EqK} {a : Nat} (h1 : a < 9223372036854775807) (k : K (.int .i64 (a + 1 : Nat)) h) : pv (binV e .add (.int .i64 (a : Nat)) (.int .i64 1)) K h :=
  add_r (by omega) (by omega) (by simpa using k)
theorem lss_r {e : EqK} {k : IntKind} {a b : Int} (ht : a < b → K (.bool true) h) (hf : ¬ a < b → K (.bool false) h) : pv (binV e .lss (.int k a) (.int k b)) K h := by
  refine ⟨.bool (decide (a < b)), by simp [binV, intV], ?_⟩
  by_cases hc : a < b
  · rw [decide_eq_true hc]; exact ht hc
  · rw [decide_eq_false hc]; exact hf hc
theorem leq_r {e : EqK} {k : IntKind} {a b : Int} (ht : a ≤ b → K (.bool true) h) (hf : ¬ a ≤ b → K (.bool false) h) : pv (binV e .leq (.int k a) (.int k b)) K h := by
  refine ⟨.bool (decide (a ≤ b)), by simp [binV, intV], ?_⟩
  by_cases hc : a ≤ b
  · rw [decide_eq_true hc]; exact ht hc
  · rw [decide_eq_false hc]; exact hf hc
theorem gtr_r {e : EqK} {k : IntKind} {a b : Int} (ht : a > b → K (.bool true) h) (hf : ¬ a > b → K (.bool false) h) : pv (binV e .gtr (.int k a) (.int k b)) K h := by
  refine ⟨.bool (decide (a > b)), by simp [binV, intV], ?_⟩
  by_cases hc : a > b
  · rw [decide_eq_true hc]; exact ht hc
  · rw [decide_eq_false hc]; exact hf hc
theorem geq_r {e : EqK} {k : IntKind} {a b : Int} (ht : a ≥ b → K (.bool true) h) (hf : ¬ a ≥ b → K (.bool false) h) : pv (binV e .geq (.int k a) (.int k b)) K h := by
  refine ⟨.bool (decide (a ≥ b)), by simp [binV, intV], ?_⟩
  by_cases hc : a ≥ b
  · rw [decide_eq_true hc]; exact ht hc
  · rw [decide_eq_false hc]; exact hf hc
theorem eql_r {e : EqK} {k : IntKind} {a b : Int} (ht : a = b → K (.bool true) h) (hf : ¬ a = b → K (.bool false) h) : pv (binV e .eql (.int k a) (.int k b)) K h := by
  refine ⟨.bool (a == b), by simp [binV, intV], ?_⟩
  by_cases hc : a = b
  · rw [show (a == b) = true by simpa using hc]; exact ht hc
  · rw [show (a == b) = false by simpa using hc]; exact hf hc
theorem neq_r {e : EqK} {k : IntKind} {a b : Int} (ht : a ≠ b → K (.bool true) h) (hf : ¬ a ≠ b → K (.bool false) h) : pv (binV e .neq (.int k a) (.int k b)) K h := by
  refine ⟨.bool (a != b), by simp [binV, intV], ?_⟩
  by_cases hc : a = b
  · rw [show (a != b) = false by simpa using hc]; exact hf (by simpa using hc)
  · rw [show (a != b) = true by simpa using hc]; exact ht hc
/-- A comparing that is decided. -/
theorem cmp_t {e : EqK} {op : BinOp} {k : IntKind} {a b : Int} (hc : intV op k a b = some (.bool true)) (hk : K (.bool true) h) (hop : op ≠ .shl ∧ op ≠ .shr := by decide) : pv (binV e op (.int k a) (.int k b)) K h :=
  ⟨_, by cases op <;> simp_all [binV], hk⟩
theorem lss_t {e : EqK} {k : IntKind} {a b : Int} (hc : a < b) (hk : K (.bool true) h) : pv (binV e .lss (.int k a) (.int k b)) K h := lss_r (fun _ => hk) (fun n => absurd hc n)
theorem lss_f {e : EqK} {k : IntKind} {a b : Int} (hc : ¬ a < b) (hk : K (.bool false) h) : pv (binV e .lss (.int k a) (.int k b)) K h := lss_r (fun n => absurd n hc) (fun _ => hk)
theorem leq_t {e : EqK} {k : IntKind} {a b : Int} (hc : a ≤ b) (hk : K (.bool true) h) : pv (binV e .leq (.int k a) (.int k b)) K h := leq_r (fun _ => hk) (fun n => absurd hc n)
theorem leq_f {e : EqK} {k : IntKind} {a b : Int} (hc : ¬ a ≤ b) (hk : K (.bool false) h) : pv (binV e .leq (.int k a) (.int k b)) K h := leq_r (fun n => absurd n hc) (fun _ => hk)
theorem gtr_t {e : EqK} {k : IntKind} {a b : Int} (hc : a > b) (hk : K (.bool true) h) : pv (binV e .gtr (.int k a) (.int k b)) K h := gtr_r (fun _ => hk) (fun n => absurd hc n)
theorem gtr_f {e : EqK} {k : IntKind} {a b : Int} (hc : ¬ a > b) (hk : K (.bool false) h) : pv (binV e .gtr (.int k a) (.int k b)) K h := gtr_r (fun n => absurd n hc) (fun _ => hk)
theorem geq_t {e : EqK} {k : IntKind} {a b : Int} (hc : a ≥ b) (hk : K (.bool true) h) : pv (binV e .geq (.int k a) (.int k b)) K h := geq_r (fun _ => hk) (fun n => absurd hc n)
theorem geq_f {e : EqK} {k : IntKind} {a b : Int} (hc : ¬ a ≥ b) (hk : K (.bool false) h) : pv (binV e .geq (.int k a) (.int k b)) K h := geq_r (fun n => absurd n hc) (fun _ => hk)
theorem eql_t {e : EqK} {k : IntKind} {a b : Int} (hc : a = b) (hk : K (.bool true) h) : pv (binV e .eql (.int k a) (.int k b)) K h := eql_r (fun _ => hk) (fun n => absurd hc n)
theorem eql_f {e : EqK} {k : IntKind} {a b : Int} (hc : ¬ a = b) (hk : K (.bool false) h) : pv (binV e .eql (.int k a) (.int k b)) K h := eql_r (fun n => absurd n hc) (fun _ => hk)
theorem neq_t {e : EqK} {k : IntKind} {a b : Int} (hc : a ≠ b) (hk : K (.bool true) h) : pv (binV e .neq (.int k a) (.int k b)) K h := neq_r (fun _ => hk) (fun n => absurd hc n)
theorem neq_f {e : EqK} {k : IntKind} {a b : Int} (hc : a = b) (hk : K (.bool false) h) : pv (binV e .neq (.int k a) (.int k b)) K h := neq_r (fun n => absurd hc n) (fun _ => hk)
theorem cnd_t {A B : Hp → Prop} (k : A h) : cnd (.bool true) A B h := ⟨true, rfl, by simpa using k⟩
theorem cnd_f {A B : Hp → Prop} (k : B h) : cnd (.bool false) A B h := ⟨false, rfl, by simpa using k⟩
theorem cnd_r {t : Bool} {A B : Hp → Prop} (ht : t = true → A h) (hf : t = false → B h) : cnd (.bool t) A B h := ⟨t, rfl, by cases t; simpa using hf rfl; simpa using ht rfl⟩
theorem gd_tt {A : Kont → Hp → Prop} (k : A K h) : gdK (.bool true) true A K h := by unfold gdK; rw [if_pos (by simp [isB])]; exact k
theorem gd_ff {A : Kont → Hp → Prop} (k : A K h) : gdK (.bool false) false A K h := by unfold gdK; rw [if_pos (by simp [isB])]; exact k
theorem gd_tf {A : Kont → Hp → Prop} (k : K undef h) : gdK (.bool true) false A K h := by unfold gdK; rw [if_neg (by simp [isB])]; exact k
theorem gd_ft {A : Kont → Hp → Prop} (k : K undef h) : gdK (.bool false) true A K h := by unfold gdK; rw [if_neg (by simp [isB])]; exact k
theorem nw_r {t : TypeId} {cells cs : List Value} (k : ∀ b, N ≤ b → K (.pointer (some ⟨b, 0, none⟩)) ⟨F, upd M b (some (.cells t cs cs.length)), b + 1⟩) (hc : cells = cs := by rfl) : nw t cells K ⟨F, M, N⟩ := by
  subst hc; exact fun b hb => k b hb
theorem nws_r {t : TypeId} {n : Nat} {cells : Option (Array Value)} {cs : List Value} (hc : cells = some cs.toArray) (k : ∀ b, N ≤ b → K (.slice (some ⟨b, 0, none⟩) n n) ⟨F, upd M b (some (.cells t cs cs.length)), b + 1⟩) : nws t n cells K ⟨F, M, N⟩ :=
  ⟨_, hc, fun b hb => k b hb⟩
theorem row_M {e : TypeId} {cs : List Value} {tot b : Nat} (hM : M b = some (.cells e cs tot)) : (Hp.mk F M N).row b cs := .inr ⟨e, tot, hM⟩
theorem row_F {cs : List Value} {b : Nat} (hF : F b = some cs) : (Hp.mk F M N).row b cs := .inl hF
theorem ldV_c {sz b o : Nat} {cs : List Value} {v : Value} (hr : h.row b cs) (hv : cs[o]? = some v) : ldV h false sz (.pointer (some ⟨b, o, none⟩)) v := ⟨cs, hr, by simpa using hv⟩
theorem ldV_a {sz b o : Nat} {cs vs : List Value} (hr : h.row b cs) (hl : o + sz ≤ cs.length) (hv : (cs.drop o).take sz = vs) : ldV h true sz (.pointer (some ⟨b, o, none⟩)) (.agg vs.toArray) :=
  ⟨cs, hr, by rw [if_pos rfl, hv]; exact ⟨hl, rfl⟩⟩
theorem ld_r {agg : Bool} {sz : Nat} {p v : Value} (hv : ldV h agg sz p v) (k : K v h) : ld agg sz p K h := ⟨v, hv, k⟩
theorem st_r {sz b o : Nat} {e : TypeId} {cs cs' : List Value} {tot : Nat} {v : Value} (hM : M b = some (.cells e cs tot)) (hs : v.cells.size = sz) (h1 : ∀ c ∈ v.cells.toList, c.oneCell' = true) (hl : o + sz ≤ cs.length) (hc : splice cs o v.cells.toList = cs')
    (k : K undef ⟨F, upd M b (some (.cells e cs' tot)), N⟩) : st sz (.pointer (some ⟨b, o, none⟩)) v K ⟨F, M, N⟩ :=
  ⟨hs, b, o, e, cs, tot, rfl, hM, h1, by rw [Array.length_toList, hs]; exact hl, by rw [hc]; exact k⟩
/-- A slice that the call owns, from block B on. -/
def isOwn (B : Nat) (v : Value) (n : Nat) : Prop := (v = .slice none 0 0 ∧ n = 0) ∨ ∃ b c, v = .slice (some ⟨b, 0, none⟩) n c ∧ B ≤ b ∧ n ≤ c ∧ c ≤ maxLen
/-- Its row. -/
def ownM (M : Nat → Option Chunk) (e : TypeId) (sz : Nat) (v : Value) (cs : List Value) : Nat → Option Chunk := match v with
  | .slice (some a) _ c => upd M a.block (some (.cells e cs (c * sz)))
  | _ => M
/-- A loop: mk tells the slots of a state (j: those that do not matter). -/
theorem loop_r {B : (Env → Hp → Prop) → Env → Hp → Prop} {σ : Type} (mk : σ → (Nat → Value) → Env) (I : σ → Hp → Prop) (μ : σ → Nat)
    (round : ∀ (k : Env → Hp → Prop) (s : σ) (j : Nat → Value) (h : Hp), I s h → h.wf → (∀ s' j' h', μ s' < μ s → (h'.wf → ∃ h'', h'.wk h'' ∧ I s' h'') → k (mk s' j') h') → B k (mk s j) h)
    (s : σ) (j : Nat → Value) (h0 : h.wf → ∃ h', h.wk h' ∧ I s h') : lp B (mk s j) h := by
  suffices ∀ n (s : σ) (j : Nat → Value) (h : Hp), μ s < n → (h.wf → ∃ h', h.wk h' ∧ I s h') → lpn B n (mk s j) h from ⟨_, this (μ s + 1) s j h (Nat.lt_succ_self _) h0⟩
  intro n
  induction n with
  | zero => intro s j h hn; omega
  | succ n ih =>
    intro s j h hn h0 hwf
    obtain ⟨h', hw, hI⟩ := h0 hwf
    exact ⟨h', hw, fun hwf' => round (lpn B n) s j h' hI hwf' (fun s' j' h1 hlt hI' => ih s' j' h1 (by omega) hI')⟩
theorem wk_refl {h : Hp} (hw : h.wf) : h.wk h := ⟨rfl, subM_refl _, fun _ _ h => .inl h, hw.d⟩
end
end Go.Proofs.YthpacapdaembpaaDoor.K
