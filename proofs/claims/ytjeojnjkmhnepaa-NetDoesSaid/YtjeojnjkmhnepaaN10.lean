import Derived.Test.YtjeojnjkmhnepaaN8
import Derived.Test.YtjeojnjkmhnepaaK17
import Derived.Laws.BitsLemmas
open Go Go.RowKit Go.Proofs.Ytjeojnjkmhnepaa.K Go.Proofs.Ytjeojnjkmhnepaa.T
set_option linter.unusedVariables false
set_option linter.unusedSimpArgs false
namespace Go.Proofs.Ytjeojnjkmhnepaa.N
variable {F F' : Nat → Option (List Value)} {M M' : Nat → Option Chunk} {N N' : Nat} {K : Kont} {E : PanK}
theorem cv_r {k : IntKind} {a : Int} {h : Hp} (h0 : -9223372036854775808 ≤ a) (h1 : a ≤ 9223372036854775807) (kk : K (.int .i64 a) h) : pv (cvV .i64 (.int k a)) K h :=
  ⟨.int .i64 (IntKind.i64.wrap a), rfl, by rw [wrap_in h0 h1]; exact kk⟩
theorem rem_r {k : IntKind} {e : EqK} {a b : Int} {h : Hp} (hb : b ≠ 0) (kk : K (.int k (a.tmod b)) h) : pv (binV e .rem (.int k a) (.int k b)) K h :=
  ⟨.int k (a.tmod b), by simp [binV, intV, hb], kk⟩
theorem addw_r {e : EqK} {a b : Int} {h : Hp} (k : ∀ c, K (.int .i64 c) h) : pv (binV e .add (.int .i64 a) (.int .i64 b)) K h :=
  ⟨.int .i64 (IntKind.i64.wrap (a + b)), by simp [binV, intV], k _⟩
theorem streq_r {e : EqK} {s : ByteArray} {h : Hp} (k : K (.bool true) h) : pv (binV e .eql (.string s) (.string s)) K h := ⟨.bool true, by simp [binV, strV], k⟩
theorem strne_r {e : EqK} {s : ByteArray} {h : Hp} (k : K (.bool false) h) : pv (binV e .neq (.string s) (.string s)) K h := ⟨.bool false, by simp [binV, strV], k⟩
theorem wf_u8 {n : Int} (h : (Lit.int .u8 n).wf = true) : 0 ≤ n ∧ n ≤ 255 := by
  simp [Lit.wf, IntKind.min, IntKind.max, IntKind.bits, IntKind.signed] at h
  omega
theorem wf_u16 {n : Int} (h : (Lit.int .u16 n).wf = true) : 0 ≤ n ∧ n ≤ 65535 := by
  simp [Lit.wf, IntKind.min, IntKind.max, IntKind.bits, IntKind.signed] at h
  omega
theorem wf_i64 {n : Int} (h : (Lit.int .i64 n).wf = true) : -9223372036854775808 ≤ n ∧ n ≤ 9223372036854775807 := by
  simp [Lit.wf, IntKind.min, IntKind.max, IntKind.bits, IntKind.signed] at h
  omega
theorem bs_r {v : Value} {l : List Int} {h : Hp} (hv : sRead h 1 v l.length (bc l)) (k : K (.string ⟨(l.map (fun n => UInt8.ofNat (Int.toNat n))).toArray⟩) h) : bs v K h := ⟨_, ⟨_, l, hv, rfl⟩, k⟩
/-- A call on the network, as a law is handed it. -/
structure OP where
  k : Int
  f : Int
  t : Int
  b : List Int
  i : Int
def OP.ml (o : OP) : ML := ⟨o.f, o.t, o.b⟩
def opR (F : Nat → Option (List Value)) (r : List Value) (o : OP) : Prop := ∃ v, r = [.int .u8 o.k, .int .i64 o.f, .int .i64 o.t, v, .int .i64 o.i] ∧ sF F 1 v o.b.length (bc o.b) ∧
  (0 ≤ o.k ∧ o.k ≤ 255) ∧ (-9223372036854775808 ≤ o.i ∧ o.i ≤ 9223372036854775807) ∧ o.b.length ≤ 140737488351232
theorem opR.mono {r : List Value} {o : OP} (h : opR F r o) (hs : subF F F') : opR F' r o := let ⟨v, h1, h2, h3⟩ := h; ⟨v, h1, h2.mono hs, h3⟩
/-- A row of calls. -/
structure opsF (F : Nat → Option (List Value)) (v : Value) (l : List OP) : Prop where
  ex : ∃ rows, sF F 5 v l.length rows.flatten ∧ rowsF (opR F) 5 rows l
  le : l.length ≤ 140737488351232
theorem opsF.mono {v : Value} {l : List OP} (h : opsF F v l) (hs : subF F F') : opsF F' v l := let ⟨rows, h1, h2⟩ := h.ex; ⟨⟨rows, h1.mono hs, h2.mono fun r x hr => hr.mono hs⟩, h.le⟩
theorem opsF.form {v : Value} {l : List OP} (h : opsF F v l) : ∃ a c, v = .slice a l.length c ∧ l.length ≤ c := let ⟨_, h1, _⟩ := h.ex; h1.form
/-- A call's parts, as they lie. -/
theorem opsF.at {v : Value} {l : List OP} (h : opsF F v l) {i : Nat} {o : OP} (hi : l[i]? = some o) :
    ∃ b o0 c cs vb, v = .slice (some ⟨b, o0, none⟩) l.length c ∧ F b = some cs ∧ cs[o0 + i * 5 + 0]? = some (.int .u8 o.k) ∧ cs[o0 + i * 5 + 1]? = some (.int .i64 o.f) ∧ cs[o0 + i * 5 + 2]? = some (.int .i64 o.t) ∧ cs[o0 + i * 5 + 3]? = some vb ∧ cs[o0 + i * 5 + 4]? = some (.int .i64 o.i) ∧
      (cs.drop (o0 + i * 5)).take 5 = [.int .u8 o.k, .int .i64 o.f, .int .i64 o.t, vb, .int .i64 o.i] ∧ o0 + i * 5 + 5 ≤ cs.length ∧
      sF F 1 vb o.b.length (bc o.b) ∧ (0 ≤ o.k ∧ o.k ≤ 255) ∧ (-9223372036854775808 ≤ o.i ∧ o.i ≤ 9223372036854775807) ∧ o.b.length ≤ 140737488351232 := by
  obtain ⟨rows, h1, h2⟩ := h.ex
  have hlt : i < l.length := (List.getElem?_eq_some_iff.1 hi).1
  obtain ⟨r, hr, ⟨vb, rfl, hvb, hk, hii, hbl⟩, hcut, hcl, _⟩ := h2.get hi
  obtain ⟨b, o0, c, e, cs, hF, hl, hrd⟩ := h1.at (by omega) hlt
  have hfl := h2.flen
  have key : ∀ j, j < 5 → cs[o0 + i * 5 + j]? = ([.int .u8 o.k, .int .i64 o.f, .int .i64 o.t, vb, .int .i64 o.i] : List Value)[j]? := fun j hj => by
    rw [← hcut, List.getElem?_take, if_pos hj, List.getElem?_drop, Nat.add_assoc, hrd _ (by omega)]
  refine ⟨b, o0, c, cs, vb, e, hF, key 0 (by omega), key 1 (by omega), key 2 (by omega), key 3 (by omega), key 4 (by omega), ?_, by omega, hvb, hk, hii, hbl⟩
  apply List.ext_getElem?
  intro j
  rw [List.getElem?_take]
  split
  · rename_i hj
    rw [List.getElem?_drop, key j hj]
  · rename_i hj
    exact (List.getElem?_eq_none (by simp; omega)).symm
theorem all2_map {α β γ : Type} {R : α → β → Prop} {R' : α → γ → Prop} {g : β → γ} {xs : List α} {ys : List β} (h : all2 R xs ys) (hr : ∀ x y, R x y → R' x (g y)) : all2 R' xs (ys.map g) :=
  ⟨by rw [List.length_map]; exact h.1, fun i x y hx hy => by
    rw [List.getElem?_map] at hy
    obtain ⟨z, hz, rfl⟩ := Option.map_eq_some_iff.1 hy
    exact hr _ _ (h.2 i x z hx hz)⟩
abbrev opK := rP (rI .u8) (rP (rI .i64) (rP (rI .i64) (rP (rS 1 (rI .u8)) (rI .i64))))
def toOP (p : Int × Int × Int × List Int × Int) : OP := ⟨p.1, p.2.1, p.2.2.1, p.2.2.2.1, p.2.2.2.2⟩
theorem opsF_of {v : Value} {y : List (Int × Int × Int × List Int × Int)} (h : rS 5 opK F [v] y) : opsF F v (y.map toOP) := by
  obtain ⟨v', rows, e, hv, hr, hle⟩ := h
  injection e with e _
  subst e
  refine ⟨⟨rows, by rw [List.length_map]; exact hv, hr.len, hr.one, all2_map hr.all fun r p hp => ?_⟩, by rw [List.length_map]; exact hle⟩
  obtain ⟨c1, c2, rfl, ⟨rfl, h1⟩, c3, c4, rfl, ⟨rfl, _⟩, c5, c6, rfl, ⟨rfl, _⟩, c7, c8, rfl, h2, ⟨rfl, h3⟩⟩ := hp
  obtain ⟨vb, rows', rfl, _⟩ := id h2
  obtain ⟨h4, _, h5⟩ := rS_ints h2
  exact ⟨vb, rfl, h4, wf_u8 h1, wf_i64 h3, h5⟩
/-- heavy -/
theorem heavy_c {v : Value} {l : List OP} (hv : opsF F v l) (k : ∀ b : Bool, (b = false → l.length ≤ 100) → (Hp.mk F M N).wf → K (.bool b) ⟨F, M, N⟩) : callv Try.prog (.func (.func 37) #[] #[]) #[v] K E ⟨F, M, N⟩ := by
  refine callv_of_text mixed Try.func37 (by kernel_rfl) (t37 _ E _) (fun hw => ?_)
  obtain ⟨a, c, hf, hc⟩ := hv.form
  refine l37_1_1_0_1_0_0 (σ := Int × Nat) (fun s => .int .i64 s.1) (fun s => .int .i64 (s.2 : Nat)) (fun s h => s.2 ≤ l.length ∧ h = ⟨F, M, N⟩) (fun s => l.length - s.2) (0, 0) rfl rfl
    (fun hc => ⟨_, wk_refl hc, Nat.zero_le _, rfl⟩) ?_
  rintro k1 ⟨n, i⟩ j h ⟨hi, rfl⟩ hw1 next
  simp only at hi ⊢
  subst hf
  refine pv_r rfl ?_
  by_cases hlt : i < l.length
  · obtain ⟨o, ho⟩ : ∃ o, l[i]? = some o := ⟨l[i], by simp [hlt]⟩
    obtain ⟨b, o0, c', cs, vb, e, hF, h0, h1, h2, h3, h4, _, _, hvb, _⟩ := hv.at ho
    injection e with e _ _
    subst e
    obtain ⟨a', c2, rfl, _⟩ := hvb.form
    refine lss_t (by omega) (cnd_t (iaN_r hlt (pv_r rfl ?_)))
    refine ld_r (ldV_c (row_F hF) h3) ?_
    refine pv_r rfl (addw_r fun n' => inc_r (by have := hv.le; omega) ?_)
    exact next (n', i + 1) _ _ (by simp only; omega) (fun hc => ⟨_, wk_refl hc, by simp only; omega, rfl⟩)
  · refine lss_f (by omega) (cnd_f ?_)
    rw [t37_1_1_1]
    refine pv_r rfl ?_
    refine gtr_r (fun h1 => ?_) (fun h1 => ?_)
    · refine gd_tf (gd_tf (pv_r rfl fun hc => ⟨_, wk_refl hc, fun hw' => k true (fun h => by cases h) hw'⟩))
    · refine gd_ff ?_
      refine gd_ff (gtr_r (fun h2 => ?_) (fun h2 => ?_))
      · exact pv_r rfl fun hc => ⟨_, wk_refl hc, fun hw' => k true (fun h => by cases h) hw'⟩
      · exact pv_r rfl fun hc => ⟨_, wk_refl hc, fun hw' => k false (fun _ => by omega) hw'⟩
end Go.Proofs.Ytjeojnjkmhnepaa.N
