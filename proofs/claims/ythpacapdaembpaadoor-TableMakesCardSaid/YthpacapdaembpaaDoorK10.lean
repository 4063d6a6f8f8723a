import Derived.Test.YthpacapdaembpaaDoorK9
import Derived.Laws.MakeOwn
import Derived.Lib.ConvBytes
open Go Go.RowKit
set_option linter.unusedVariables false
set_option linter.unusedSimpArgs false
namespace Go.Proofs.YthpacapdaembpaaDoor.K

theorem st_sound {P : Program} {w0 w : World} {h : Hp} (r : Rep w0 h w) {t : TypeId} {i : TypeInfo} (hi : P.info? t = some i) {p v : Value} {K : Kont} (hd : st i.size p v K h) :
    ∃ w' h', (Instr.storeAt t p v).run P w = .ok () w' ∧ Rep w0 h' w' ∧ K undef h' := by
  obtain ⟨hs, b, o, e, cs, tot, rfl, hM, h1, hl, hk⟩ := hd
  obtain ⟨w', hw', hr'⟩ := Rep.storeCells (P := P) v.cells.toList h w cs o 0 r hM (by simpa using hl) h1
  refine ⟨w', _, ?_, hr', by simpa using hk⟩
  simp only [Instr.storeAt, Instr.sureAddr, Sem.run_bind, Sem.run_pure, Result.andThen_ok, storeVar, run_sizeOf' hi, ne_eq, hs, not_true_eq_false, if_false]
  exact hw'

theorem firstCells_sound {P : Program} {w0 w : World} {h : Hp} (r : Rep w0 h w) {sz m k : Nat} {x : Value} {news : List Value} (hx : sRead h sz x m news) (hk : k ≤ m) :
    (Builtin.firstCells sz k x).run P w = .ok (news.take (k * sz)).toArray w := by
  obtain ⟨hl, hx⟩ := hx
  rcases hx with ⟨a, c, rfl, rfl⟩ | ⟨b, o, c, cs, rfl, hrow⟩
  · have : news = [] := List.eq_nil_of_length_eq_zero (by simpa using hl)
    subst this
    obtain rfl : k = 0 := by omega
    cases a with
    | none => simp [Builtin.firstCells]
    | some ad =>
      have := run_loadCells_list (P := P) w ad [] (fun j u hu => by simp at hu)
      simp only [List.length_nil] at this
      simp only [Builtin.firstCells, Nat.zero_mul, List.take_nil, this]
  · have hkl : (news.take (k * sz)).length = k * sz := by rw [List.length_take, hl]; exact Nat.min_eq_left (Nat.mul_le_mul_right _ hk)
    have := run_loadCells_list (P := P) w ⟨b, o, none⟩ (news.take (k * sz)) (fun j u hu => by
      rw [List.getElem?_take] at hu
      split at hu
      · rcases hrow with h0 | ⟨hr, hn⟩
        · subst h0
          have : news = [] := List.eq_nil_of_length_eq_zero (by simpa using hl)
          subst this
          simp at hu
        · exact sRead_cells (c := c) r hr hn j u hu
      · cases hu)
    rw [hkl] at this
    simp only [Builtin.firstCells, this]

theorem cpy_sound {P : Program} {w0 w : World} {h : Hp} {K : Kont} (r : Rep w0 h w) {t u ty e : TypeId} {i : TypeInfo} (ht : P.underlying t = some (.slice e)) (hi : P.info? e = some i) {d s : Value} (hd : cpy i.size d s K h) :
    ∃ v w' h', (Builtin.copy_ #[t, u] ty #[d, s]).run P w = .ok v w' ∧ Rep w0 h' w' ∧ K v h' := by
  obtain ⟨b, o, dn, dc, e', cs, tot, m, news, rfl, hM, hs, h1, hl, hk⟩ := hd
  have hf := firstCells_sound (P := P) r hs (Nat.min_le_left m dn)
  have hlen : (news.take (min m dn * i.size)).length = min m dn * i.size := by
    rw [List.length_take, hs.1]; exact Nat.min_eq_left (Nat.mul_le_mul_right _ (Nat.min_le_left m dn))
  obtain ⟨w', hw', hr'⟩ := Rep.storeCells (P := P) (news.take (min m dn * i.size)) h w cs o 0 r hM (by rw [hlen]; simpa using hl) (fun v hv => h1 v hv)
  refine ⟨_, w', _, ?_, hr', by simpa using hk⟩
  have hm : (Builtin.lenOf s).run P w = .ok m w := by
    rcases hs.2 with ⟨_, c, rfl, rfl⟩ | ⟨b, o, c, cs, rfl, _⟩ <;> simp [Builtin.lenOf]
  have hmin : Nat.min m dn = min m dn := rfl
  simp [Builtin.copy_, run_underlying ht, hm, run_sizeOf' hi, hmin, hf, hw', goInt]

theorem flat_rep (n : Nat) (z : Array Value) (hp : 0 < z.size) (m : Nat) (hm : n ≤ m) : (List.replicate n z.toList).flatten <+: (madeCells z (m * z.size)).toList := by
  rw [List.prefix_iff_eq_take]
  have hl : (List.replicate n z.toList).flatten.length = n * z.size := by simp
  rw [hl]
  apply List.ext_getElem?
  intro k
  have : ∀ (m : Nat) (l : List Value) (k : Nat), 0 < l.length → k < m * l.length → ((List.replicate m l).flatten)[k]? = l[k % l.length]? := by
    intro m
    induction m with
    | zero => intro l k _ h; simp at h
    | succ m ih =>
      intro l k hl h
      rw [List.replicate_succ, List.flatten_cons]
      by_cases h1 : k < l.length
      · rw [List.getElem?_append_left h1, Nat.mod_eq_of_lt h1]
      · rw [List.getElem?_append_right (by omega), ih l (k - l.length) hl (by rw [Nat.succ_mul] at h; omega)]
        rw [← Nat.mod_eq_sub_mod (by omega)]
  by_cases hkl : k < n * z.size
  · rw [this n z.toList k (by simpa using hp) (by simpa using hkl), List.getElem?_take, if_pos hkl]
    have hmod : k % z.size < z.size := Nat.mod_lt _ hp
    have hk2 : k < m * z.size := Nat.lt_of_lt_of_le hkl (Nat.mul_le_mul_right _ hm)
    simp [madeCells, hk2, hmod]
  · rw [List.getElem?_eq_none (by rw [hl]; omega), List.getElem?_take, if_neg hkl]

theorem appIn_sound {P : Program} {w0 w : World} {h : Hp} {K : Kont} (r : Rep w0 h w) {t ty e : TypeId} {i : TypeInfo} (ht : P.underlying t = some (.slice e)) (hi : P.info? e = some i)
    {s x : Value} (hd : appIn e i.size s x K h) : ∃ v w' h', (Builtin.append_ #[t, t] ty #[s, x]).run P w = .ok v w' ∧ Rep w0 h' w' ∧ K v h' := by
  obtain ⟨b, n, c, cs, m, news, rfl, hM, hx, h1, hnc, hl, hk⟩ := hd
  have hf := firstCells_sound (P := P) r hx (Nat.le_refl m)
  rw [← hx.1, List.take_length] at hf
  obtain ⟨w', hw', hr'⟩ := Rep.storeCells (P := P) news h w cs (n * i.size) 0 r hM (by rw [hx.1, Nat.add_zero, ← Nat.add_mul]; exact hl) h1
  refine ⟨_, w', _, ?_, hr', by simpa using hk⟩
  have hm : (Builtin.lenOf x).run P w = .ok m w := by
    rcases hx.2 with ⟨_, c, rfl, rfl⟩ | ⟨b, o, c, cs, rfl, _⟩ <;> simp [Builtin.lenOf]
  simp [Builtin.append_, run_underlying ht, run_sizeOf' hi, hm, hnc, hf, Addr.add_plain, hw']

theorem appZ_sound {P : Program} {w0 w : World} {h : Hp} {K : Kont} (r : Rep w0 h w) {t tn ty e : TypeId} {kn : IntKind} {i : TypeInfo} {z : Value} (ht : P.underlying t = some (.slice e)) (htn : P.underlying tn = some (.int kn)) (hi : P.info? e = some i) (hz : i.zero = some z) (hzs : z.cells.size = i.size) (hsz : 0 < i.size)
    {s x : Value} (hd : appZ e z.cells.toList i.size i.bytes s x K h) : ∃ v w' h', (Builtin.append_ #[t, tn] ty #[s, x]).run P w = .ok v w' ∧ Rep w0 h' w' ∧ K v h' := by
  obtain ⟨a, n, c, olds, m, k, rfl, rfl, hrd, hnc, hc, hby, hmx, hk⟩ := hd
  have hmx' := hmx
  simp only [maxLen] at hmx'
  have hw : IntKind.i64.wrap (m : Int) = m := by rw [IntKind.wrap_i64]; omega
  have hge := grownCap_ge w (n + m) c e
  have hcm : grownCap w (n + m) c e ≤ maxLen := grownCap_le_maxLen w (n + m) c e hmx
  have hfits := Nat.not_lt.2 (growslice_fits (need := n + m) (old := c) hc hby)
  have holn : olds.length = n * i.size := hrd.1
  have htk : olds.take (n * i.size) = olds := List.take_of_length_le (by omega)
  have hzc : (Builtin.zeroCells z.cells m).toList = (List.replicate m z.cells.toList).flatten := by
    have h := flat_rep m z.cells (by omega) m (Nat.le_refl m)
    have h2 : (madeCells z.cells (m * z.cells.size)).toList.length = (List.replicate m z.cells.toList).flatten.length := by simp [size_madeCells]
    exact (List.IsPrefix.eq_of_length h h2.symm).symm
  have hneg : ¬ ((m : Int) < 0) := by omega
  have hbm : ¬ (281474976710656 < (m : Int) * (i.bytes : Int)) := by
    have : ((m * i.bytes : Nat) : Int) ≤ 140737488355328 := by
      have h1 : m * i.bytes ≤ (n + m) * i.bytes := Nat.mul_le_mul_right _ (Nat.le_add_left _ _)
      omega
    rw [Int.natCast_mul] at this
    omega
  have hn : ¬ (n + m ≤ c) := by omega
  have h63' : ¬ (9223372036854775807 < ((n : Int) + (m : Int))) := by omega
  have h48' : ¬ (281474976710656 < Builtin.nextslicecap (n + m) c * i.bytes) := by
    have := growslice_fits (need := n + m) (old := c) (bytes := i.bytes) (by omega) hby
    omega
  have hfd : (Builtin.firstCells i.size n (.slice a n c)).run P w.drew = .ok olds.toArray w.drew := by
    have := firstCells_sound (P := P) (sz := i.size) (m := n) (k := n) (x := .slice a n c) (news := olds) r.drew hrd (Nat.le_refl _)
    rwa [htk] at this
  have hrun : (Builtin.append_ #[t, tn] ty #[.slice a n c, .int k (m : Int)]).run P w = .ok (.slice (some ⟨w.heap.size, 0, none⟩) (n + m) (grownCap w (n + m) c e))
      (w.drew.alloc (.cells (olds.toArray ++ Builtin.zeroCells z.cells m ++ Builtin.zeroCells z.cells (grownCap w (n + m) c e - (n + m))) e)) := by
    by_cases hm0 : m * i.size = 0
    · have hm1 : m = 0 := by rcases Nat.mul_eq_zero.1 hm0 with h | h; exact h; omega
      omega
    · simp [Builtin.append_, run_underlying ht, run_underlying htn, sizeOf, typeInfo, zeroValue, hi, hz, asInt, asIntOf, hw, hn, hneg, hm0, h63', h48', hbm, Question.forced, hfd, newRow, grownCap]
  refine ⟨_, _, h.new w.heap.size (.cells e (olds ++ (List.replicate m z.cells.toList).flatten) (grownCap w (n + m) c e * i.size)), hrun, ?_, hk _ _ r.nx hge hcm⟩
  refine r.drew.alloc _ (some (.cells e _ _)) ⟨_, rfl, ?_, ?_⟩
  · simp only [Array.size_append, List.size_toArray, size_zeroCells, hzs, holn, ← Nat.add_mul]
    congr 1
    omega
  · simp only [Array.toList_append, hzc]
    exact List.prefix_append _ _

theorem clr_sound {P : Program} {w0 w : World} {h : Hp} {K : Kont} (r : Rep w0 h w) {t ty e : TypeId} {i : TypeInfo} {z : Value} (ht : P.underlying t = some (.slice e)) (hi : P.info? e = some i) (hz : i.zero = some z) (hzs : z.cells.size = i.size) (hsz : 0 < i.size)
    {x : Value} (hd : clr e z.cells.toList i.size x K h) : ∃ v w' h', (Builtin.clear_ #[t] ty #[x]).run P w = .ok v w' ∧ Rep w0 h' w' ∧ K v h' := by
  rcases hd with ⟨a, c, rfl, hk⟩ | ⟨b, o, n, c, e', cs, tot, rfl, hn, hM, h1, hl, hk⟩
  · refine ⟨_, w, h, ?_, r, hk⟩
    cases a <;> simp [Builtin.clear_, run_underlying ht]
  · have hzc : (Builtin.zeroCells z.cells n).toList = (List.replicate n z.cells.toList).flatten := by
      have h := flat_rep n z.cells (by omega) n (Nat.le_refl n)
      have h2 : (madeCells z.cells (n * z.cells.size)).toList.length = (List.replicate n z.cells.toList).flatten.length := by simp [size_madeCells]
      exact (List.IsPrefix.eq_of_length h h2.symm).symm
    have hlen : ((List.replicate n z.cells.toList).flatten).length = n * i.size := by simp [hzs]
    obtain ⟨w', hw', hr'⟩ := Rep.storeCells (P := P) (List.replicate n z.cells.toList).flatten h w cs o 0 r hM (by rw [hlen]; simpa using hl) (fun v hv => by
      obtain ⟨l, hl1, hl2⟩ := List.mem_flatten.1 hv
      rw [(List.mem_replicate.1 hl1).2] at hl2
      exact h1 v hl2)
    refine ⟨_, w', _, ?_, hr', by simpa using hk⟩
    cases n with
    | zero => omega
    | succ n => simp [Builtin.clear_, run_underlying ht, run_zeroValue' hi hz, hzc, hw']

theorem Rep.frz {w0 w : World} {h : Hp} (r : Rep w0 h w) {b : Nat} {e : TypeId} {cs : List Value} {tot : Nat} (hM : h.M b = some (.cells e cs tot)) : Rep w0 (h.frz b cs) w := by
  obtain ⟨h1, h2, h3, arr, h4, h5, h6⟩ := r.cl b e cs tot hM
  refine ⟨r.below, r.dr, r.nx, r.base, ?_, ?_, ?_⟩
  · intro k cs' hk
    simp only [Hp.frz, upd] at hk
    split at hk
    · rename_i he; subst he; cases hk; exact ⟨h1, arr, e, _, h4, h6⟩
    · exact r.fr k cs' hk
  · intro k e' cs' tot' hk
    simp only [Hp.frz, upd] at hk
    split at hk
    · cases hk
    · rename_i he
      obtain ⟨a1, a2, a3, a4⟩ := r.cl k e' cs' tot' hk
      exact ⟨a1, a2, by simp only [Hp.frz, upd, if_neg he]; exact a3, a4⟩
  · intro k o hk
    simp only [Hp.frz, upd] at hk
    split at hk
    · cases hk
    · rename_i he
      obtain ⟨a1, a2, a3, a4⟩ := r.ob k o hk
      exact ⟨a1, a2, by simp only [Hp.frz, upd, if_neg he]; exact a3, a4⟩

/-- A mark in a row that nobody turns does not matter. -/
theorem Rep.freeze {w0 w : World} {h : Hp} (r : Rep w0 h w) {b o n : Nat} (hb : w0.heap.size ≤ b) (hM : h.M b = none) : Rep w0 h (w.freeze ⟨b, o, none⟩ n) := by
  by_cases hn : n = 0
  · subst hn; exact r
  have hsz : (w.freeze ⟨b, o, none⟩ n).heap.size = w.heap.size := by simp [World.freeze, hn]
  have hot : ∀ k, k ≠ b → (w.freeze ⟨b, o, none⟩ n).heap[k]? = w.heap[k]? := fun k hk => by
    simp only [World.freeze, hn, if_false, Array.getElem?_modify]
    rw [if_neg (fun e => hk e.symm)]
  refine ⟨r.below.trans ⟨by simp [World.freeze, hn], by simp [World.freeze, hn], by simp [World.freeze, hn], by rw [hsz]; exact Nat.le_refl _, fun k hk => hot k (by omega)⟩, by simpa [World.freeze, hn] using r.dr, by rw [hsz]; exact r.nx, r.base, ?_, ?_, ?_⟩
  · intro k cs hk
    obtain ⟨a1, arr, e, z, a2, a3⟩ := r.fr k cs hk
    by_cases he : k = b
    · subst he
      refine ⟨a1, arr, e, ?_⟩
      simp only [World.freeze, hn, if_false, Array.getElem?_modify, if_true, a2, Option.map_some]
      exact ⟨_, rfl, a3⟩
    · exact ⟨a1, arr, e, z, (hot k he).trans a2, a3⟩
  · intro k e cs tot hk
    obtain ⟨a1, a2, a3, arr, a4, a5⟩ := r.cl k e cs tot hk
    exact ⟨a1, a2, a3, arr, (hot k (fun he => by subst he; rw [hM] at hk; cases hk)).trans a4, a5⟩
  · intro k ob hk
    obtain ⟨a1, a2, a3, a4, a5⟩ := r.ob k ob hk
    exact ⟨a1, a2, a3, (hot k (fun he => by subst he; rw [hM] at hk; cases hk)).trans a4, a5⟩

theorem mk_sound {P : Program} {w0 w : World} {h : Hp} {K : Kont} (r : Rep w0 h w) {t e : TypeId} (ht : P.underlying t = some (.slice e)) (hu8 : P.underlying e = some (.int .u8)) {x : Value} (hd : mk x K h) :
    ∃ v w' h', (convert t t x).run P w = .ok v w' ∧ Rep w0 h' w' ∧ K v h' := by
  obtain ⟨b, n, c, e', cs, tot, rfl, hM, hk⟩ := hd
  obtain ⟨h1, h2, h3, arr, h4, h5, h6⟩ := r.cl b e' cs tot hM
  have r1 := r.frz hM
  refine ⟨_, w.freeze ⟨b, arr.size, none⟩ 1, _, ?_, r1.freeze h2 (by simp [Hp.frz, upd]), hk⟩
  have hs : w.shape? b = some (e', arr.size) := by simp [World.shape?, h4]
  simp [convert, run_underlying ht, run_underlying hu8, markStringish, hs]

theorem sb_sound {P : Program} {w0 w : World} {h : Hp} {K : Kont} (r : Rep w0 h w) {src dst e : TypeId} (hs : P.underlying src = some .string) (ht : P.underlying dst = some (.slice e)) (hu8 : P.underlying e = some (.int .u8)) {x : Value} (hd : sb x K h) :
    ∃ v w' h', (convert src dst x).run P w = .ok v w' ∧ Rep w0 h' w' ∧ K v h' := by
  obtain ⟨t, rfl, hk⟩ := hd
  refine ⟨_, _, _, Go.Lib.run_convert_string_bytes w src dst e t hs ht hu8, ?_, hk w.heap.size (grownCap w t.size 0 e) r.nx (grownCap_ge w t.size 0 e)⟩
  have hold := fun k (hk : k < w.heap.size) => Go.Lib.bytesWorld_at_old w e t k hk
  have hnew := Go.Lib.bytesWorld_at_new w e t
  have hnb : ∀ k, k < h.nx → k ≠ w.heap.size := fun k hk => by have := r.nx; omega
  refine ⟨r.below.trans ⟨?_, ?_, ?_, by rw [Go.Lib.bytesWorld_size]; omega, fun k hk => hold k (Nat.lt_of_lt_of_le hk r.below.size)⟩, ?_, by rw [Go.Lib.bytesWorld_size]; exact Nat.le_refl _, by have := r.base; have := r.nx; simp only; omega, ?_, ?_, ?_⟩
  · simp [Go.Lib.bytesWorld, World.freeze, World.alloc, World.drew, -World.alloc_eq, -World.drew_eq]
  · simp [Go.Lib.bytesWorld, World.freeze, World.alloc, World.drew, -World.alloc_eq, -World.drew_eq]
  · simp [Go.Lib.bytesWorld, World.freeze, World.alloc, World.drew, -World.alloc_eq, -World.drew_eq]
  · have := r.dr
    simp [Go.Lib.bytesWorld, World.freeze, World.alloc, World.drew, -World.alloc_eq, -World.drew_eq]; omega
  · intro k cs hk
    simp only [upd] at hk
    split at hk
    · rename_i he
      subst he
      cases hk
      refine ⟨Nat.lt_succ_self _, _, e, _, hnew, ?_⟩
      simp [Go.Lib.bytesCells]
    · obtain ⟨a1, arr, e', z, a2, a3⟩ := r.fr k cs hk
      exact ⟨by have := r.nx; simp only; omega, arr, e', z, (hold k (Nat.lt_of_lt_of_le a1 r.nx)).trans a2, a3⟩
  · intro k e' cs tot hk
    obtain ⟨a1, a2, a3, arr, a4, a5⟩ := r.cl k e' cs tot hk
    exact ⟨by have := r.nx; simp only; omega, a2, by simp only [upd, if_neg (hnb k a1)]; exact a3, arr, (hold k (Nat.lt_of_lt_of_le a1 r.nx)).trans a4, a5⟩
  · intro k o hk
    obtain ⟨a1, a2, a3, a4, a5⟩ := r.ob k o hk
    exact ⟨by have := r.nx; simp only; omega, a2, by simp only [upd, if_neg (hnb k a1)]; exact a3, (hold k (Nat.lt_of_lt_of_le a1 r.nx)).trans a4, a5⟩

theorem mks_sound {P : Program} {w0 w : World} {h : Hp} {K : Kont} (r : Rep w0 h w) {t e : TypeId} {i : TypeInfo} {z : Value} (ht : P.underlying t = some (.slice e)) (hi : P.info? e = some i) (hz : i.zero = some z) (hzs : z.cells.size = i.size) (hsz : 0 < i.size)
    {l c : Value} (hd : mks e z.cells.toList i.size i.bytes l c K h) : ∃ v w' h', (Instr.makeSlice t l c).run P w = .ok v w' ∧ Rep w0 h' w' ∧ K v h' := by
  obtain ⟨kl, n, kc, m, rfl, rfl, hnm, hby, hmx, hk⟩ := hd
  have hb' : (i.bytes : Int) * (m : Int) ≤ 281474976710656 := by
    have h : ((i.bytes * m : Nat) : Int) ≤ 281474976710656 := by rw [Nat.mul_comm]; omega
    rwa [Int.natCast_mul] at h
  have hr := run_make (P := P) w t e i z ht hi hz kl kc n m (by omega) (by omega) hb' (by simp [maxLen] at hmx; omega)
  simp only [Int.toNat_natCast] at hr
  refine ⟨_, _, h.new w.heap.size (.cells e (List.replicate n z.cells.toList).flatten (m * i.size)), hr, ?_, hk _ r.nx⟩
  refine r.alloc _ (some (.cells e _ _)) ⟨_, rfl, by rw [size_madeCells], ?_⟩
  rw [← hzs]
  exact flat_rep n z.cells (by omega) m hnm
theorem mkm_sound {P : Program} {w0 w : World} {h : Hp} {K : Kont} (r : Rep w0 h w) {t : TypeId} (hd : mkm K h) : ∃ v w' h', (Instr.makeMap t none).run P w = .ok v w' ∧ Rep w0 h' w' ∧ K v h' :=
  ⟨.map (some w.heap.size), w.alloc (.map #[] 0), _, rfl, r.alloc (.map #[] 0) (some (.obj (.map #[] 0))) ⟨rfl, trivial⟩, hd w.heap.size r.nx⟩
theorem lkp_sound {P : Program} {w0 w : World} {h : Hp} {K : Kont} (r : Rep w0 h w) {t : TypeId} {x ix : Value} {ok : Bool} (hd : lkp P t x ix ok K h) : ∃ v w' h', (Instr.lookup t x ix ok).run P w = .ok v w' ∧ Rep w0 h' w' ∧ K v h' := by
  obtain ⟨b, es, clock, v, hx, hM, hr, hk⟩ := hd
  exact ⟨v, w, h, hr w (r.ob b _ hM).2.2.2.1, r, hk⟩
theorem mup_sound {P : Program} {w0 w : World} {h : Hp} {K : Kont} (r : Rep w0 h w) {t : TypeId} {m k x : Value} (hd : mup P t m k x K h) : ∃ w' h', (Instr.mapUpdate t m k x).run P w = .ok () w' ∧ Rep w0 h' w' ∧ K undef h' := by
  obtain ⟨b, es, clock, es', clock', hx, hM, hr, hk⟩ := hd
  obtain ⟨h1, h2, h3, h4, _⟩ := r.ob b _ hM
  have hlt : b < w.heap.size := (Array.getElem?_eq_some_iff.1 h4).1
  refine ⟨_, _, hr w h4, ?_, hk⟩
  refine r.turn (w' := { w with heap := w.heap.setIfInBounds b (.map es' clock') }) (b := b) h2 h3 rfl rfl rfl (by simp) (by simpa using hlt) (fun q hq _ => ?_) (some (.obj (.map es' clock'))) h.nx (Nat.le_refl _) (by simpa using r.nx) h1 ⟨?_, trivial⟩
  · simp [Array.getElem?_setIfInBounds, Ne.symm hq]
  · simp [Array.getElem?_setIfInBounds, hlt]
end Go.Proofs.YthpacapdaembpaaDoor.K
