import Derived.Test.YthpacapdaembpaaDoorK8
import Derived.Laws.BytesString
open Go Go.RowKit
set_option linter.unusedVariables false
set_option linter.unusedSimpArgs false
namespace Go.Proofs.YthpacapdaembpaaDoor.K

/-- What a run comes to. -/
def Runs (P : Program) (w0 : World) (env : Env) (o : Oper) (K : Kont) (w : World) : Prop :=
  ∃ v w' h', ((execOp (ev env) o).run P w = .ok (.value v) w' ∨ ((execOp (ev env) o).run P w = .ok .skip w' ∧ v = undef)) ∧ Rep w0 h' w' ∧ K v h'

theorem run_newVar' {P : Program} {w0 w : World} {h : Hp} (r : Rep w0 h w) (t : TypeId) (cs : Array Value) : ∃ b, h.nx ≤ b ∧ (newRow t cs).run P w = .ok ⟨b, 0, none⟩ (w.alloc (.cells cs t)) ∧ Rep w0 (h.new b (.cells t cs.toList cs.size)) (w.alloc (.cells cs t)) := by
  refine ⟨w.heap.size, r.nx, ?_, ?_⟩
  · simp [newRow]
  · exact r.alloc (.cells cs t) (some (.cells t cs.toList cs.size)) ⟨cs, rfl, rfl, List.prefix_refl _⟩

theorem nw_sound {P : Program} {w0 w : World} {h : Hp} {K : Kont} (r : Rep w0 h w) {t : TypeId} {v : Value} (hd : nw t v.cells.toList K h) :
    ∃ u w' h', (do pure (.pointer (some (← newVar t v))) : Sem Value).run P w = .ok u w' ∧ Rep w0 h' w' ∧ K u h' := by
  obtain ⟨b, hb, hr, hrep⟩ := run_newVar' (P := P) r t v.cells
  refine ⟨_, _, _, ?_, hrep, by have := hd b hb; simpa using this⟩
  simp only [newVar, Sem.run_bind, hr, Result.andThen_ok, Sem.run_pure]

theorem sRead_cells {w0 w : World} {h : Hp} (r : Rep w0 h w) {sz m : Nat} {b o c : Nat} {cs news : List Value} (hr : h.row b cs) (hn : (cs.drop o).take (m * sz) = news) :
    ∀ j u, news[j]? = some u → w.cell? ((⟨b, o, none⟩ : Addr).add j) = some u := by
  intro j u hu
  rw [Addr.add_plain]
  refine r.cell hr ?_
  rw [← hn, List.getElem?_take] at hu
  split at hu
  · rwa [List.getElem?_drop] at hu
  · cases hu

theorem sOwn_owns {w0 w : World} {h : Hp} (r : Rep w0 h w) {e : TypeId} {sz n : Nat} {s : Value} {cs : List Value} (ho : sOwn h e sz s n cs) : w.ownsRow w0.heap.size e sz s n cs := by
  obtain ⟨hl, ho⟩ := ho
  refine ⟨hl, ?_⟩
  rcases ho with ho | ⟨b, c, rfl, hnc, hcm, hM⟩
  · exact .inl ho
  · obtain ⟨rest, hM⟩ := hM
    obtain ⟨h1, h2, h3, arr, h4, h5, h6⟩ := r.cl b e _ _ hM
    exact .inr ⟨b, c, arr, rfl, h2, h4, hnc, hcm, h5, by rw [← hl]; exact (List.prefix_iff_eq_take.1 ((List.prefix_append _ _).trans h6)).symm⟩

theorem forget_some {M : Nat → Option Chunk} {s : Value} {k : Nat} {c : Chunk} (h : forget M s k = some c) : M k = some c := by
  unfold forget at h
  cases ho : s.ownBlock with
  | none => rw [ho] at h; exact h
  | some b =>
    rw [ho] at h
    simp only [upd] at h
    split at h
    · cases h
    · exact h

/-- An append draws no number back. -/
theorem append_drawn {P : Program} {w w' : World} {base : Nat} {t ty e : TypeId} {i : TypeInfo} {z v' s : Value} (ht : P.underlying t = some (.slice e)) (hi : P.info? e = some i) (hz : i.zero = some z) (hzs : z.cells.size = i.size) (hsz : 0 < i.size)
    {n m c : Nat} {cs news : List Value} {a : Addr} (how : w.ownsRow base e i.size s n cs) (hl : news.length = m * i.size) (hnews : ∀ j u, news[j]? = some u → w.cell? (a.add j) = some u) (h1 : ∀ u ∈ news, u.oneCell' = true)
    (hmx : n + m ≤ maxLen) (hby : (n + m) * i.bytes ≤ 140737488355328) (hrun : (Builtin.append_ #[t, t] ty #[s, .slice (some a) m c]).run P w = .ok v' w') : w.drawn ≤ w'.drawn := by
  have hsmall : n + m ≤ 9223372036854775807 := by simp only [maxLen] at hmx; omega
  have one : ∀ (o : Obj), w.drawn ≤ (w.drew.alloc o).drawn := fun o => Nat.le_succ _
  rcases how.2 with ⟨rfl, rfl⟩ | ⟨g, cap, cur, rfl, hbg, hg, hnc, hcm, hcs, htake⟩
  · by_cases hm : m = 0
    · subst hm
      have hn : news = [] := List.eq_nil_of_length_eq_zero (by simpa using hl)
      subst hn
      have hr : (Builtin.append_ #[t, t] ty #[.slice none 0 0, .slice (some a) 0 c]).run P w = .ok (.slice none 0 0) w := by
        simp [Builtin.append_, run_underlying ht, sizeOf, typeInfo, hi, Builtin.lenOf, Builtin.firstCells, loadCells, loadCellsFrom]
      rw [hr] at hrun
      cases hrun
      exact Nat.le_refl _
    · have hb : m * i.bytes ≤ 140737488355328 := by simpa using hby
      rw [run_append_nil (P := P) w t ty e i z ht hi hz a m c news hl hnews (by omega) (by omega) (by omega)] at hrun
      cases hrun
      exact one _
  · by_cases hroom : n + m ≤ cap
    · have hfit : n * i.size + news.length ≤ cur.size := by rw [hl, hcs, ← Nat.add_mul]; exact Nat.mul_le_mul_right _ hroom
      rw [run_append_room (P := P) w t ty e i ht hi g n cap cur hg a m c news hl hnews h1 hroom hfit] at hrun
      cases hrun
      exact Nat.le_refl _
    · rw [run_append_grow (P := P) w t ty e i z ht hi hz ⟨g, 0, none⟩ n cap cs how.1 (how.cells (g := g) rfl) a m c news hl hnews (by omega) (by omega) (growslice_fits (by omega) hby)] at hrun
      cases hrun
      exact one _

theorem app_sound {P : Program} {w0 w : World} {h : Hp} {K : Kont} (r : Rep w0 h w) {t ty e : TypeId} {i : TypeInfo} {z : Value} (ht : P.underlying t = some (.slice e)) (hi : P.info? e = some i) (hz : i.zero = some z) (hzs : z.cells.size = i.size) (hsz : 0 < i.size)
    {s x : Value} (hd : app e i.size i.bytes s x K h) : ∃ v w' h', (Builtin.append_ #[t, t] ty #[s, x]).run P w = .ok v w' ∧ Rep w0 h' w' ∧ K v h' := by
  obtain ⟨n, cs, m, news, hs, hx, h1, hby, hmx, hk1, hk2⟩ := hd
  have how := sOwn_owns r hs
  have hnil : ∀ c, x = .slice none 0 c → m = 0 → ∃ v w' h', (Builtin.append_ #[t, t] ty #[s, x]).run P w = .ok v w' ∧ Rep w0 h' w' ∧ K v h' := by
    rintro c rfl rfl
    have hnews : news = [] := List.eq_nil_of_length_eq_zero (by simpa using hx.1)
    subst hnews
    rcases hs.2 with ⟨rfl, rfl⟩ | ⟨b, c', rfl, hnc, hcm, hM⟩
    · refine ⟨_, w, h, ?_, r, hk1 rfl rfl⟩
      simp [Builtin.append_, run_underlying ht, sizeOf, typeInfo, hi, Builtin.lenOf, Builtin.firstCells]
    · obtain ⟨rest, hM⟩ := hM
      refine ⟨_, w, _, ?_, ?_, hk2 (Or.inl (by simp)) b c' (Or.inr rfl) (by simpa using hnc) hcm⟩
      · simp [Builtin.append_, run_underlying ht, sizeOf, typeInfo, hi, Builtin.lenOf, Builtin.firstCells, hnc, storeCells]
      · obtain ⟨h1, h2, h3, arr, h4, h5, h6⟩ := r.cl b e _ _ hM
        have e1 : h.moved (.slice (some ⟨b, 0, none⟩) n c') b (.cells e (cs ++ []) (c' * i.size)) = ⟨h.F, upd h.M b (some (.cells e cs (c' * i.size))), h.nx⟩ := by
          have : upd (upd h.M b none) b (some (.cells e cs (c' * i.size))) = upd h.M b (some (.cells e cs (c' * i.size))) := by
            funext k
            simp only [upd]
            split <;> rfl
          simp only [Hp.moved, forget, Value.ownBlock, List.append_nil, this, Nat.max_eq_left (show b + 1 ≤ h.nx from h1)]
        rw [e1]
        exact r.turn (w' := w) h2 h3 rfl rfl rfl (Nat.le_refl _) (Array.getElem?_eq_some_iff.1 h4).1 (fun _ _ _ => rfl) (some (.cells e cs (c' * i.size))) h.nx (Nat.le_refl _) r.nx h1 ⟨arr, h4, h5, (List.prefix_append _ _).trans h6⟩
  have hsome : ∀ a c, x = .slice (some a) m c → (∀ j u, news[j]? = some u → w.cell? (a.add j) = some u) → ∃ v w' h', (Builtin.append_ #[t, t] ty #[s, x]).run P w = .ok v w' ∧ Rep w0 h' w' ∧ K v h' := by
    rintro a c rfl hcell
    obtain ⟨v', w', hrun, hown', hgr, hiff, hat⟩ := run_append_own_at w w0.heap.size t ty e i z i.size i.bytes ht hi hz rfl rfl hzs hsz s n cs how a m c news hx.1 hcell h1 hmx hby (Nat.le_trans r.base r.nx)
    have hdr : w.drawn ≤ w'.drawn := append_drawn ht hi hz hzs hsz how hx.1 hcell h1 hmx hby hrun
    by_cases hn0 : s = .slice none 0 0 ∧ m = 0
    · have := hiff.2 hn0
      subst this
      refine ⟨_, w', h, hrun, ?_, hk1 hn0.1 hn0.2⟩
      -- nothing was there, nothing is
      have hr2 : (Builtin.append_ #[t, t] ty #[s, .slice (some a) m c]).run P w = .ok (.slice none 0 0) w := by
        rw [hn0.1, hn0.2]
        simp [Builtin.append_, run_underlying ht, sizeOf, typeInfo, hi, Builtin.lenOf, Builtin.firstCells, loadCells, loadCellsFrom]
      rw [hr2] at hrun
      cases hrun
      exact r
    · have hne : ¬ v' = .slice none 0 0 := fun e => hn0 (hiff.1 e)
      obtain ⟨hlen', hform⟩ := hown'
      rcases hform with ⟨e, _⟩ | ⟨g, cap, cur, rfl, hbg, hg, hnc, hcm, hcs, htake⟩
      · exact (hne e).elim
      have hpre : (cs ++ news) <+: cur.toList := by rw [← htake]; exact List.take_prefix _ _
      have hatg : s.ownBlock = some g ∨ g = w.heap.size := by
        rcases hat with h | h
        · left; simpa [Value.ownBlock] using h.symm
        · right; simpa [Value.ownBlock] using h
      have hd2 : s ≠ .slice none 0 0 ∨ m ≠ 0 := by
        by_cases h0 : s = .slice none 0 0
        · exact Or.inr (fun h => hn0 ⟨h0, h⟩)
        · exact Or.inl h0
      refine ⟨_, w', _, hrun, ?_, hk2 hd2 g cap (by rcases hatg with h | h; exact Or.inr h; exact Or.inl (h ▸ r.nx)) hnc hcm⟩
      -- what is known now: the old row is forgotten, the new one is there
      have hgF : h.F g = none := by
        rcases hatg with ho | ho
        · rcases hs.2 with ⟨rfl, _⟩ | ⟨b, c', rfl, _, _, rest, hM⟩
          · simp [Value.ownBlock] at ho
          · simp [Value.ownBlock] at ho
            subst ho
            exact (r.cl b e _ _ hM).2.2.1
        · cases hF : h.F g with
          | none => rfl
          | some q => have := (r.fr g q hF).1; have := r.nx; omega
      have hglt : g < w'.heap.size := (Array.getElem?_eq_some_iff.1 hg).1
      -- forget the old row
      have r1 : Rep w0 ⟨h.F, forget h.M s, h.nx⟩ w := by
        refine ⟨r.below, r.dr, r.nx, r.base, r.fr, ?_, ?_⟩
        · intro k e' c2 tot hk
          exact r.cl k e' c2 tot (forget_some hk)
        · intro k o hk
          exact r.ob k o (forget_some hk)
      -- only the old row's block, and new ones, have turned
      have hold : ∀ k, some k = s.ownBlock → (forget h.M s) k = none := by
        intro k hk
        rcases hs.2 with ⟨rfl, _⟩ | ⟨b, c', rfl, _, _, rest, hM⟩
        · simp [Value.ownBlock] at hk
        · simp [Value.ownBlock] at hk
          subst hk
          simp [forget, Value.ownBlock, upd]
      have hoF : ∀ k, some k = s.ownBlock → h.F k = none := by
        intro k hk
        rcases hs.2 with ⟨rfl, _⟩ | ⟨b, c', rfl, _, _, rest, hM⟩
        · simp [Value.ownBlock] at hk
        · simp [Value.ownBlock] at hk
          subst hk
          exact (r.cl _ e _ _ hM).2.2.1
      have hob : ∀ k, some k = s.ownBlock → w0.heap.size ≤ k := fun k hk => (how.lt k hk.symm).1
      have hgb : w0.heap.size ≤ g := hbg
      have r2 : Rep w0 ⟨h.F, forget h.M s, h.nx⟩ w' := by
        refine ⟨r1.below.trans ⟨hgr.os, hgr.tape, hgr.output, hgr.size, fun k hk => hgr.block k (Nat.lt_of_lt_of_le hk r.below.size) (fun he => by have := hob k he; omega)⟩, Nat.le_trans r.dr hdr, Nat.le_trans r.nx hgr.size, r.base, ?_, ?_, ?_⟩
        · intro k c2 hk
          obtain ⟨a1, arr, e', z', a2, a3⟩ := r1.fr k c2 hk
          exact ⟨a1, arr, e', z', (hgr.block k (Nat.lt_of_lt_of_le a1 r.nx) (fun he => by have := hoF k he; simp only at hk; rw [this] at hk; cases hk)).trans a2, a3⟩
        · intro k e' c2 tot hk
          obtain ⟨a1, a2, a3, arr, a4, a5⟩ := r1.cl k e' c2 tot hk
          exact ⟨a1, a2, a3, arr, (hgr.block k (Nat.lt_of_lt_of_le a1 r.nx) (fun he => by have := hold k he; simp only at hk; rw [this] at hk; cases hk)).trans a4, a5⟩
        · intro k o hk
          obtain ⟨a1, a2, a3, a4, a5⟩ := r1.ob k o hk
          exact ⟨a1, a2, a3, (hgr.block k (Nat.lt_of_lt_of_le a1 r.nx) (fun he => by have := hold k he; simp only at hk; rw [this] at hk; cases hk)).trans a4, a5⟩
      have := r2.turn (w' := w') (b := g) hgb hgF rfl rfl rfl (Nat.le_refl _) hglt (fun k _ _ => rfl) (some (.cells e (cs ++ news) (cap * i.size))) (max h.nx (g + 1)) (Nat.le_max_left _ _) (by have := r2.nx; simp only at this; omega) (by omega) ⟨cur, hg, hcs, hpre⟩
      exact this
  rcases hx.2 with ⟨a0, c, rfl, rfl⟩ | ⟨b, o, c, cs2, rfl, hrow⟩
  · cases a0 with
    | none => exact hnil c rfl rfl
    | some ad =>
      have hnews : news = [] := List.eq_nil_of_length_eq_zero (by simpa using hx.1)
      subst hnews
      exact hsome ad c rfl (fun j u hu => by simp at hu)
  · refine hsome ⟨b, o, none⟩ c rfl ?_
    rcases hrow with hm0 | ⟨hr2, hn2⟩
    · subst hm0
      have hnews : news = [] := List.eq_nil_of_length_eq_zero (by simpa using hx.1)
      subst hnews
      intro j u hu; simp at hu
    · exact sRead_cells (c := c) r hr2 hn2
end Go.Proofs.YthpacapdaembpaaDoor.K
