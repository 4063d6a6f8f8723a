import Derived.Test.YthpacapdaembpaaDoorD2
open Go Go.RowKit Go.Proofs.YthpacapdaembpaaDoor.K Go.Proofs.YthpacapdaembpaaDoor.T
set_option linter.unusedVariables false
set_option linter.unusedSimpArgs false
namespace Go.Proofs.YthpacapdaembpaaDoor.A
variable {F F' : Nat → Option (List Value)} {M M' : Nat → Option Chunk} {N N' : Nat} {K : Kont} {E : PanK}
open Go.MapKept
theorem und_map : Tryd.prog.underlying 106 = some (.map 9 3) := by kernel_rfl
theorem und_str : Tryd.prog.underlying 9 = some .string := by kernel_rfl
theorem zero_int (w : World) : (zeroValue 3).run Tryd.prog w = .ok (.int .i64 0) w := by kernel_rfl
theorem splice_app {a b vs : List Value} {o : Nat} (h : o + vs.length ≤ a.length) : splice (a ++ b) o vs = splice a o vs ++ b := by
  unfold splice
  rw [List.take_append_of_le_length (by omega), List.drop_append_of_le_length (by omega)]
  simp
theorem splice_tail {l : List Value} {o : Nat} {x : Value} {vs : List Value} (hx : l[o]? = some x) (h : o + 1 + vs.length ≤ l.length) : splice l (o + 1) vs = splice l o (x :: vs) := by
  rw [splice_cons (by simp; omega)]
  congr 1
  obtain ⟨h1, h2⟩ := List.getElem?_eq_some_iff.1 hx
  rw [← h2, List.set_getElem_self]
/-- (*sheet).lay -/
theorem lay_c {B g bm : Nat} {v kv : Value} {rows : List (List Value)} {t : List Rw} {key : List Int} {c : CE} (h : isSheet F M B g bm v rows t) (hm : clean M N) (hB : B ≤ N) (hkv : sF F 1 kv key.length (ic key)) (hkl : key.length ≤ 17179869184) (hki : ∀ x ∈ key, i64 x) (ht : t.length ≤ 1099511627776)
    (k : ∀ F' M' N' v' rows', subF F F' → N ≤ N' → isSheet F' M' B g bm v' rows' (layP t key c) → (∀ q, q < B → M' q = M q) → clean M' N' → (Hp.mk F' M' N').wf → K (.tuple #[]) ⟨F', M', N'⟩) :
    callv Tryd.prog (.func (.func 45) #[] #[]) #[.pointer (some ⟨g, 0, none⟩), kv, .agg c.cs.toArray] K E ⟨F, M, N⟩ := by
  refine callv_of_text mixed Tryd.func45 (by kernel_rfl) (t45 _ E _ _ _) (fun hw => ?_)
  refine nw_r (cs := c.cs) (fun b1 hb1 => ?_)
  refine text_c hkv hkl hki (fun N1 hN1 hw1 => ?_)
  have hm1 : clean (upd M b1 (some (.cells 41 c.cs c.cs.length))) N1 := hw1.m
  have h1 : isSheet F (upd M b1 (some (.cells 41 c.cs c.cs.length))) B g bm v rows t := h.keep (subF.refl _) (upd_keep hm hb1 _)
  have hb1M : (upd M b1 (some (.cells 41 c.cs c.cs.length))) b1 = some (.cells 41 c.cs c.cs.length) := upd_same _ _ _
  have hM1 : ∀ q, q < B → (upd M b1 (some (.cells 41 c.cs c.cs.length))) q = M q := fun q hq => upd_ne _ _ (by omega)
  have hb1v : v.ownBlock ≠ some b1 := fun e => by have := h.oo.lt hm b1 e; omega
  have hgb1 : g ≠ b1 := fun e => by have := hm.lt h.gg; omega
  have hmb1 : bm ≠ b1 := fun e => by obtain ⟨es, ck, hx, _⟩ := h.mp; have := hm.lt hx; omega
  have hb1N := hm1.lt hb1M
  generalize upd M b1 (some (.cells 41 c.cs c.cs.length)) = M1 at *
  have hgg := h1.gg
  obtain ⟨es, clock, hmp, hmo⟩ := h1.mp
  have hfl := h1.rr.flen
  refine pv_r rfl (pv_r rfl (ldM ?_))
  refine lk_r und_map und_str zero_int (d := .string) trivial hmo.keys hmp (fun hmiss => ?_) (fun j x hj hx => ?_)
  · have hno : ∀ r ∈ t, r.1 ≠ key := fun r hr e => by
      obtain ⟨i, hi, rfl⟩ := List.mem_iff_getElem.1 hr
      have hil : i < es.toList.length := by rw [hmo.1]; exact hi
      obtain ⟨q, h2, h3, _⟩ := hmo.2 i _ (List.getElem?_eq_getElem hil)
      rw [List.getElem?_eq_getElem hi] at h2; cases h2
      exact hmiss _ (List.getElem_mem hil) (by rw [h3, e])
    rw [layP_miss hno] at k
    refine pv_r rfl (pv_r rfl (cnd_f ?_))
    refine pv_r rfl (pv_r rfl (ldM ?_))
    refine pv_r rfl (pv_r rfl (ldM ?_))
    obtain ⟨av, cv, hvf, hvc⟩ := h1.oo.form
    rw [hvf]
    refine len_r ?_
    refine mu_r und_map und_str (d := .string) trivial hmo.keys hmp (fun _ => ?_) (fun j x hj hx => (hmiss x (List.mem_of_getElem? hj) hx).elim)
    have hne : bm ≠ g := fun e => by rw [e, hgg] at hmp; cases hmp
    have hm2 := hm1.set (hm1.lt hmp) (some (.obj (.map (es.push ⟨.string (txtB key), .int .i64 (t.length : Nat), clock⟩) (clock + 1))))
    have hmo2 := hmo.push (key, c) clock
    generalize hes : es.push ⟨.string (txtB key), .int .i64 (t.length : Nat), clock⟩ = es2 at *
    generalize hM2 : upd M1 bm (some (.obj (.map es2 (clock + 1)))) = M2 at *
    have hgg2 : M2 g = some (.cells 108 [v, .map (some bm)] 2) := by rw [← hM2]; exact (upd_ne _ _ (Ne.symm hne)).trans hgg
    have hb2 : M2 b1 = some (.cells 41 c.cs c.cs.length) := by rw [← hM2]; exact (upd_ne _ _ (Ne.symm hmb1)).trans hb1M
    have ho2 : own M2 B 43 5 v t.length rows.flatten := h1.oo.keep (fun q hq => by rw [← hM2]; exact upd_ne _ _ (fun e => h1.vg.2 (e ▸ hq))) (Nat.le_refl _)
    refine pv_r rfl (pv_r rfl (ldM ?_))
    refine ldMa (vs := c.cs) ?_
    refine clone_f hm2 hkv.sR (by omega) (fun kv' F' N2 hw2 hF hN2 hkv' => ?_)
    obtain ⟨ak, ck, rfl, hck⟩ := hkv'.form
    refine ⟨ldV_a (row_M hb2) (by exact Nat.le_of_ble_eq_true rfl) rfl, ldV_c (row_M hgg2) rfl, ?_⟩
    refine pv_r (v := .agg (.slice ak key.length ck :: c.cs).toArray) (by kernel_rfl) ?_
    refine nws_r (cs := .slice ak key.length ck :: c.cs) (by kernel_rfl) (fun b3 hb3 => ?_)
    have hm2' := hm2.up hN2
    have hgN := hm2'.lt hgg2
    have hg3 : g ≠ b3 := by omega
    refine ⟨ldV_c (row_M ((upd_ne _ _ hg3).trans hgg2)) rfl, ?_⟩
    have ho3 : own (upd M2 b3 (some (.cells 43 (.slice ak key.length ck :: c.cs) (Value.slice ak key.length ck :: c.cs).length))) B 43 5 v t.length rows.flatten := ho2.keep (fun q hq => upd_ne _ _ (fun e => by have := ho2.lt hm2' q hq; omega)) (Nat.le_refl _)
    refine ho3.app (m := 1) (news := .slice ak key.length ck :: c.cs) (hm2'.new hb3 _) (by omega) ⟨rfl, .inr ⟨b3, 0, 1, _, rfl, Nat.le_refl _, .inr ⟨_, _, upd_same _ _ _⟩, rfl⟩⟩ (List.all_eq_true.1 rfl) (by omega) (by simp [maxLen]; omega) (fun v' M3 N3 h4 h5 h6 h7 => ?_)
    have hgg3 : M3 g = some (.cells 108 [v, .map (some bm)] 2) := ((h5 g h1.vg.1 (by omega)).1).trans ((upd_ne _ _ hg3).trans hgg2)
    have hbmN : bm < N2 := hm2'.lt (b := bm) (by rw [← hM2, upd_same])
    have hbm3 : M3 bm = some (.obj (.map es2 (clock + 1))) := ((h5 bm h1.vg.2 (by omega)).1).trans ((upd_ne _ _ (by omega)).trans (by rw [← hM2, upd_same]))
    refine pv_r rfl (pv_r rfl ?_)
    refine stM (cs' := [v', .map (some bm)]) ?_ hgg3 (by obtain ⟨a, c, rfl, _⟩ := h4.form; rfl) (by obtain ⟨a, c, rfl, _⟩ := h4.form; rfl) (by obtain ⟨a, c, rfl, _⟩ := h4.form; exact List.all_eq_true.1 rfl)
    have hv'g := (h5 g h1.vg.1 (by omega)).2
    have hv'm := (h5 bm h1.vg.2 (by omega)).2
    refine fun hc => ⟨_, wk_refl hc, fun hw' => k _ _ _ v' (rows ++ [.slice ak key.length ck :: c.cs]) hF (by omega) ⟨upd_same _ _ _, h1.gB, h1.bB, ⟨es2, _, (upd_ne _ _ hne).trans hbm3, hmo2⟩, ?_, ?_, ?_⟩ (fun q hq => ?_) (h7.set (by omega) _) hw'⟩
    · have h8 : own (upd M3 g (some (.cells 108 [v', .map (some bm)] 2))) B 43 5 v' (t.length + 1) (rows.flatten ++ .slice ak key.length ck :: c.cs) := h4.keep (fun q hq => upd_ne _ _ (fun e => hv'g (e ▸ hq))) (Nat.le_refl _)
      simpa using h8
    · have hr1 : rowD F' (.slice ak key.length ck :: c.cs) (key, c) := ⟨_, rfl, hkv', by simp only; omega⟩
      exact (h1.rr.mono fun r x hr => hr.mono hF).snoc hr1.one.1 hr1.one.2 hr1
    · rw [← layP_miss hno]; exact layP_nodup h.nd
    · have q1 : v.ownBlock ≠ some q := fun e => by have := (h1.oo.ge q e).1; omega
      have hgB := h1.gB
      have hbB := h1.bB
      rw [upd_ne _ _ (by omega), (h5 q q1 (by omega)).1, upd_ne _ _ (by omega), ← hM2, upd_ne _ _ (by omega)]; exact hM1 q hq
  · obtain ⟨⟨key', c'⟩, htj, hxk, hxv⟩ := hmo.2 j x hj
    have hkk : key' = key := by
      rw [hxk] at hx
      injection hx with hx
      exact txtB_inj hx
    subst hkk
    rw [layP_hit h.nd htj] at k
    rw [hxv]
    refine pv_r rfl (pv_r rfl (cnd_t ?_))
    have hjt := (List.getElem?_eq_some_iff.1 htj).1
    obtain ⟨row, hrow, ⟨kv1, hrw, hkv1, hkvl⟩, hread, hle, hrl⟩ := h1.rr.get htj
    simp only at hrw
    subst hrw
    obtain ⟨hol, ho⟩ := h1.oo
    rcases ho with ⟨_, h0⟩ | ⟨b, cp, rest, rfl, hlc, hcm, hbB, hMb⟩
    · omega
    have hbg : b ≠ g := fun e => h1.vg.1 (by rw [e]; rfl)
    have hbm' : b ≠ bm := fun e => h1.vg.2 (by rw [e]; rfl)
    have hlen : j * 5 + 5 ≤ rows.flatten.length := hle
    have hget : ∀ i, i < 5 → rows.flatten[j * 5 + i]? = (kv1 :: c'.cs)[i]? := fun i hi => by
      rw [← hread, List.getElem?_take, if_pos hi, List.getElem?_drop]
    refine pv_r rfl (pv_r rfl (ldM (v := .slice (some ⟨b, 0, none⟩) t.length cp) ?_))
    refine pv_r rfl (pv_r rfl (ldM (v := .slice (some ⟨b, 0, none⟩) t.length cp) ?_))
    refine iaN_r hjt (pv_r rfl ?_)
    refine ld_r (ldV_a (vs := c'.cs) (row_M hMb) (by rw [List.length_append]; omega) ?_) ?_
    · have e : (0 + j * 5 + 1) = j * 5 + 1 := by omega
      rw [e, List.drop_append_of_le_length (by omega), List.take_append_of_le_length (by rw [List.length_drop]; omega)]
      have h3 := congrArg (List.drop 1) hread
      rw [List.drop_take, List.drop_drop] at h3
      simpa using h3
    refine ldMa (vs := c.cs) ?_
    refine merge_c (fun N2 hN2 hw2 => ?_)
    refine ⟨ldV_c (row_M hgg) rfl, ?_⟩
    refine iaN_r hjt (pv_r rfl ?_)
    refine stM (cs' := (rows.set j (kv1 :: (c'.merge c).cs)).flatten ++ rest) ?_ hMb ?_ rfl (List.all_eq_true.1 rfl) (by rw [List.length_append]; omega)
    · refine fun hc => ⟨_, wk_refl hc, fun hw' => k _ _ _ (.slice (some ⟨b, 0, none⟩) t.length cp) (rows.set j (kv1 :: (c'.merge c).cs)) (subF.refl _) (by omega) ⟨(upd_ne _ _ (Ne.symm hbg)).trans hgg, h1.gB, h1.bB, ⟨es, clock, (upd_ne _ _ (Ne.symm hbm')).trans hmp, hmo.set htj⟩, ?_, ?_, ?_⟩ (fun q hq => (upd_ne _ _ (by omega)).trans (hM1 q hq)) hw'.m hw'⟩
      · refine ⟨?_, .inr ⟨b, cp, rest, by simp, by simpa using hlc, hcm, hbB, upd_same _ _ _⟩⟩
        rw [flatten_len (sz := 5)]
        · simp [h1.rr.all.1]
        · intro r hr
          rcases List.mem_or_eq_of_mem_set hr with hr | rfl
          · exact h1.rr.len r hr
          · rfl
      · have hr1 : rowD F (kv1 :: (c'.merge c).cs) (key', c'.merge c) := ⟨kv1, rfl, hkv1, hkvl⟩
        refine ⟨fun r hr => ?_, fun r hr => ?_, by simp [h1.rr.all.1], fun i r x hr hx => ?_⟩
        · rcases List.mem_or_eq_of_mem_set hr with hr | rfl
          · exact h1.rr.len r hr
          · rfl
        · rcases List.mem_or_eq_of_mem_set hr with hr | rfl
          · exact h1.rr.one r hr
          · exact hr1.one.2
        · by_cases hij : j = i
          · subst hij
            have hjr : j < rows.length := by rw [h1.rr.all.1]; exact hjt
            rw [List.getElem?_set_self hjr] at hr
            rw [List.getElem?_set_self hjt] at hx
            cases hr; cases hx; exact hr1
          · rw [List.getElem?_set_ne hij] at hr hx
            exact h1.rr.all.2 i r x hr hx
      · rw [← layP_hit h.nd htj]; exact layP_nodup h.nd
    · have e : (0 + j * 5 + 1) = j * 5 + 1 := by omega
      have hjr : j < rows.length := by rw [h1.rr.all.1]; exact hjt
      rw [e]
      show splice (rows.flatten ++ rest) (j * 5 + 1) (c'.merge c).cs = _
      have h4 : (c'.merge c).cs.length = 4 := rfl
      rw [splice_app (by omega), splice_tail (x := kv1) (by have := hget 0 (by decide); simpa using this) (by omega), flat_set rows j _ h1.rr.len rfl hjr]
end Go.Proofs.YthpacapdaembpaaDoor.A
