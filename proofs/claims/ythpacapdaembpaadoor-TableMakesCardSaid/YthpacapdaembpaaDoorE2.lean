import Derived.Test.YthpacapdaembpaaDoorE1
open Go Go.RowKit Go.Proofs.YthpacapdaembpaaDoor.K Go.Proofs.YthpacapdaembpaaDoor.T
set_option linter.unusedVariables false
set_option linter.unusedSimpArgs false
namespace Go.Proofs.YthpacapdaembpaaDoor.A
variable {F F' : Nat → Option (List Value)} {M M' : Nat → Option Chunk} {N N' : Nat} {K : Kont} {E : PanK}
theorem layR_take : ∀ (t : List Rw) (k : List Int) (c : CE) (i : Nat), (∀ x ∈ t.take i, kcmp x.1 k < 0) → layR t k c = t.take i ++ layR (t.drop i) k c
  | [], k, c, i, _ => by simp
  | (k1, c1) :: t, k, c, 0, _ => by simp
  | (k1, c1) :: t, k, c, i + 1, h => by
    have h1 : kcmp k1 k < 0 := h (k1, c1) (by simp)
    have := layR_take t k c i (fun x hx => h x (by simp [hx]))
    simp [layR, h1, this]
theorem row_cells {kv : Value} {c : CE} {key : List Int} (hkv : sF F 1 kv key.length (ic key)) : (kv :: c.cs).length = 5 ∧ (∀ x ∈ kv :: c.cs, x.oneCell' = true) := by
  obtain ⟨a, n, rfl, _⟩ := hkv.form
  exact ⟨rfl, List.all_eq_true.1 rfl⟩
theorem rows_app {α : Type} {R : List Value → α → Prop} {sz : Nat} {r1 r2 : List (List Value)} {x1 x2 : List α} (h1 : rowsF R sz r1 x1) (h2 : rowsF R sz r2 x2) : rowsF R sz (r1 ++ r2) (x1 ++ x2) := by
  refine ⟨fun r hr => ?_, fun r hr => ?_, by simp [h1.all.1, h2.all.1], fun i r x hr hx => ?_⟩
  · rcases List.mem_append.1 hr with h | h; exact h1.len r h; exact h2.len r h
  · rcases List.mem_append.1 hr with h | h; exact h1.one r h; exact h2.one r h
  · have hl := h1.all.1
    rcases Nat.lt_or_ge i r1.length with hi | hi
    · rw [List.getElem?_append_left hi] at hr
      rw [List.getElem?_append_left (by omega)] at hx
      exact h1.all.2 i r x hr hx
    · rw [List.getElem?_append_right hi] at hr
      rw [List.getElem?_append_right (by omega)] at hx
      rw [← hl] at hx
      exact h2.all.2 _ r x hr hx
theorem rows_drop {α : Type} {R : List Value → α → Prop} {sz : Nat} {rows : List (List Value)} {xs : List α} (h : rowsF R sz rows xs) (i : Nat) : rowsF R sz (rows.drop i) (xs.drop i) :=
  ⟨fun r hr => h.len r (List.mem_of_mem_drop hr), fun r hr => h.one r (List.mem_of_mem_drop hr), by simp [h.all.1], fun j r x hr hx => h.all.2 (i + j) r x (by simpa [List.getElem?_drop] using hr) (by simpa [List.getElem?_drop] using hx)⟩
theorem rows_take {α : Type} {R : List Value → α → Prop} {sz : Nat} {rows : List (List Value)} {xs : List α} (h : rowsF R sz rows xs) (i : Nat) : rowsF R sz (rows.take i) (xs.take i) :=
  ⟨fun r hr => h.len r (List.mem_of_mem_take hr), fun r hr => h.one r (List.mem_of_mem_take hr), by simp [h.all.1], fun j r x hr hx => by
    rw [List.getElem?_take] at hr hx
    split at hr
    · rename_i hj; rw [if_pos hj] at hx; exact h.all.2 j r x hr hx
    · cases hr⟩
theorem flatten_drop {sz : Nat} : ∀ (rows : List (List Value)) (i : Nat), (∀ r ∈ rows, r.length = sz) → rows.flatten.drop (i * sz) = (rows.drop i).flatten
  | [], i, _ => by simp
  | x :: rows, 0, _ => by simp
  | x :: rows, i + 1, h => by
    have hx := h x (by simp)
    rw [List.flatten_cons, List.drop_succ_cons, ← flatten_drop rows i (fun r hr => h r (by simp [hr])), Nat.succ_mul, show i * sz + sz = x.length + i * sz by omega, List.drop_length_add_append]
/-- l[i:] -/
theorem suf_r {α : Type} {R : List Value → α → Prop} {sz : Nat} {v : Value} {l : List α} {rows : List (List Value)} {K : Kont} {ki : IntKind} (hv : sF F sz v l.length rows.flatten) (hr : rowsF R sz rows l) {i : Nat} (hi : i ≤ l.length)
    (k : ∀ v', sF F sz v' (l.drop i).length (rows.drop i).flatten → K v' ⟨F, M, N⟩) : pv (slV sz v (some (.int ki (i : Nat))) none none) K ⟨F, M, N⟩ := by
  have hfd := flatten_drop rows i hr.len
  have hfl := (rows_drop hr i).flen
  have hc : ∃ a c, v = .slice a l.length c ∧ l.length ≤ c := hv.form
  obtain ⟨a, c, rfl, hlc⟩ := hc
  refine sl_r i l.length c hi hlc (Nat.le_refl _) ?_ (h4 := fun _ => ⟨rfl, hlc⟩)
  refine k _ ⟨hfl, ?_⟩
  rcases hv.2 with ⟨a', c', h1, h2⟩ | ⟨b, o, c', cs, h1, h2, h3, h4⟩
  · exact .inl ⟨_, _, by rw [show l.length - i = 0 by omega], by simp; omega⟩
  · injection h1 with h1 _ h1'
    subst h1; subst h1'
    rcases Nat.lt_or_ge i c with hic | hic
    · rw [if_neg (by omega)]
      refine .inr ⟨b, o + i * sz, c - i, cs, by simp [Addr.add_plain], by simp; omega, h3, ?_⟩
      rw [← hfd, ← h4, List.drop_take, List.drop_drop]
      congr 1
      rw [List.length_drop, Nat.sub_mul]
    · exact .inl ⟨_, _, by rw [show l.length - i = 0 by omega], by simp; omega⟩
/-- What ends Lay. -/
theorem rlay_fin {X : Kont} {B b2 i' : Nat} {u v kv : Value} {t pre : List Rw} {rows prs : List (List Value)} {key : List Int} {c : CE} (hM2 : M b2 = some (.cells 43 (kv :: c.cs) 5)) (hkv : sF F 1 kv key.length (ic key)) (hm : clean M N) (hB : B ≤ N)
    (ho : own M B 43 5 u pre.length prs.flatten) (hub : u.ownBlock ≠ some b2) (hp : rowsF (rowD F) 5 prs pre) (hv1 : sF F 5 v t.length rows.flatten) (hv2 : rowsF (rowD F) 5 rows t) (hi : i' ≤ t.length) (hl : pre.length + t.length ≤ 1000000000000)
    (hX : ∀ v' M' N', own M' B 43 5 v' (pre.length + 1 + (t.drop i').length) ((prs ++ [kv :: c.cs]) ++ rows.drop i').flatten → (∀ q, q < B → M' q = M q) → N ≤ N' → clean M' N' → X v' ⟨F, M', N'⟩) :
    (ld true 5 (.pointer (some ⟨b2, 0, none⟩)) fun t1 => nws 43 1 (bsC #[(.slice none 0 0), (.int .i64 0), (.int .i64 0), (.int .i64 0), (.int .i64 0)] 5 1 #[(0, t1)]) fun t2 =>
      appX 43 5 56 u t2 fun t3 => pv (slV 5 v (some (.int .i64 (i' : Nat))) none none) fun t4 => appX 43 5 56 t3 t4 fun t5 => X t5) ⟨F, M, N⟩ := by
  have hrc := row_cells (c := c) hkv
  obtain ⟨ka, kc, rfl, _⟩ := hkv.form
  refine ldMa (vs := .slice ka key.length kc :: c.cs) ?_ hM2
  refine nws_r (cs := .slice ka key.length kc :: c.cs) (by kernel_rfl) (fun b5 hb5 => ?_)
  have ho2 : own (upd M b5 (some (.cells 43 (.slice ka key.length kc :: c.cs) (Value.slice ka key.length kc :: c.cs).length))) B 43 5 u pre.length prs.flatten := ho.keep (fun q hq => upd_ne _ _ (fun e => by have := ho.lt hm q hq; omega)) (Nat.le_refl _)
  refine ho2.app (m := 1) (news := .slice ka key.length kc :: c.cs) (hm.new hb5 _) (by omega) ⟨rfl, .inr ⟨b5, 0, 1, _, rfl, Nat.le_refl _, .inr ⟨_, _, upd_same _ _ _⟩, rfl⟩⟩ hrc.2 (by omega) (by simp [maxLen]; omega) (fun u2 M2 N2 h4 h5 h6 h7 => ?_)
  refine suf_r hv1 hv2 hi (fun v2 hv' => ?_)
  have hrd := rows_drop hv2 i'
  refine h4.app h7 (by omega) hv'.sR hrd.f1 (by rw [List.length_drop]; omega) (by rw [List.length_drop]; simp [maxLen]; omega) (fun u3 M3 N3 h8 h9 h10 h11 => ?_)
  refine hX u3 M3 N3 (by simpa using h8) (fun q hq => ?_) (by omega) h11
  have q1 : u.ownBlock ≠ some q := fun e => by have := (ho.ge q e).1; omega
  obtain ⟨a1, a2⟩ := h5 q q1 (by omega)
  exact ((h9 q a2 (by omega)).1).trans (a1.trans (upd_ne _ _ (by omega)))
end Go.Proofs.YthpacapdaembpaaDoor.A
