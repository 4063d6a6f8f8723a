import Derived.Test.YtgcmbkoejjcjlaaGreatDoorZ2
import Derived.Shelf.SlSortCmp.InsertionK
import Derived.Shelf.SlLaysF0
import Derived.Ground.SlsfProg
import Derived.Test.YtgcmbkoejjcjlaaGreatDoorProg
import Derived.Shelf.SlSortCmp.WholeK
import Derived.Shelf.SlSortCmp.NoneTotal
import Derived.Test.YtgcmbkoejjcjlaaGreatDoorZ1
set_option maxHeartbeats 4000000
open Go Go.RowKit Go.Proofs.YtgcmbkoejjcjlaaGreatDoor.K Go.Proofs.YtgcmbkoejjcjlaaGreatDoor.T
set_option linter.unusedVariables false
set_option linter.unusedSimpArgs false
namespace Go.Proofs.YtgcmbkoejjcjlaaGreatDoor.A
variable {F F' : Nat → Option (List Value)} {M M' : Nat → Option Chunk} {N N' : Nat} {K : Kont} {E : PanK}
open Go.MapKept
def mapOK (es : Array MapEntry) (t : List Rw) : Prop := es.toList.length = t.length ∧ ∀ (i : Nat) (x : MapEntry), es.toList[i]? = some x → ∃ r, t[i]? = some r ∧ x.key = .string (txtB r.1) ∧ x.val = .int .i64 (i : Nat)
theorem mapOK.keys {es : Array MapEntry} {t : List Rw} (h : mapOK es t) : ∀ x ∈ es.toList, IsKey .string x.key := fun x hx => by
  obtain ⟨i, hi, rfl⟩ := List.mem_iff_getElem.1 hx
  obtain ⟨r, _, h2, _⟩ := h.2 i _ (List.getElem?_eq_getElem hi)
  rw [h2]; trivial
theorem mapOK.push {es : Array MapEntry} {t : List Rw} (h : mapOK es t) (r : Rw) (ck : Nat) : mapOK (es.push ⟨.string (txtB r.1), .int .i64 (t.length : Nat), ck⟩) (t ++ [r]) := by
  refine ⟨by simp [← h.1], fun i x hx => ?_⟩
  rw [Array.toList_push] at hx
  rcases Nat.lt_or_ge i es.toList.length with hi | hi
  · rw [List.getElem?_append_left hi] at hx
    obtain ⟨q, h1, h2⟩ := h.2 i x hx
    exact ⟨q, by rw [List.getElem?_append_left (by rw [← h.1]; exact hi)]; exact h1, h2⟩
  · rw [List.getElem?_append_right hi] at hx
    have h0 : i - es.toList.length = 0 := by
      have := (List.getElem?_eq_some_iff.1 hx).1
      simp at this; simpa using this
    rw [h0] at hx
    simp only [List.getElem?_cons_zero, Option.some.injEq] at hx
    have hit : i = t.length := by rw [← h.1]; omega
    subst hx
    exact ⟨r, by rw [hit]; simp, rfl, by rw [hit]⟩
theorem mapOK.set {es : Array MapEntry} {t : List Rw} (h : mapOK es t) {i : Nat} {k : List Int} {c c' : CE} (ht : t[i]? = some (k, c)) : mapOK es (t.set i (k, c')) := by
  refine ⟨by simp [← h.1], fun j x hx => ?_⟩
  obtain ⟨q, h1, h2, h3⟩ := h.2 j x hx
  by_cases hj : i = j
  · subst hj
    rw [ht] at h1; cases h1
    exact ⟨(k, c'), by rw [List.getElem?_set_self (List.getElem?_eq_some_iff.1 ht).1], h2, h3⟩
  · exact ⟨q, by rw [List.getElem?_set_ne hj]; exact h1, h2, h3⟩
structure isSheet (F : Nat → Option (List Value)) (M : Nat → Option Chunk) (B g bm : Nat) (v : Value) (rows : List (List Value)) (t : List Rw) : Prop where
  gg : M g = some (.cells 201 [v, .map (some bm)] 2)
  gB : B ≤ g
  bB : B ≤ bm
  mp : ∃ es clock, M bm = some (.obj (.map es clock)) ∧ mapOK es t
  oo : own M B 110 5 v t.length rows.flatten
  rr : rowsF (rowD F) 5 rows t
  nd : nodup t
theorem isSheet.vg {B g bm : Nat} {v : Value} {rows : List (List Value)} {t : List Rw} (h : isSheet F M B g bm v rows t) : v.ownBlock ≠ some g ∧ v.ownBlock ≠ some bm := by
  obtain ⟨es, clock, hm, _⟩ := h.mp
  rcases h.oo.2 with ⟨rfl, _⟩ | ⟨b, c, rest, rfl, _, _, _, h5⟩
  · simp [Value.ownBlock]
  · simp only [Value.ownBlock, if_true, ne_eq, Option.some.injEq]
    refine ⟨fun e => ?_, fun e => ?_⟩
    · have e' : b = g := by simpa using e
      subst e'; rw [h.gg] at h5; injection h5 with h5; injection h5 with h5; cases h5
    · have e' : b = bm := by simpa using e
      subst e'; rw [hm] at h5; cases h5
theorem isSheet.keep {B g bm : Nat} {v : Value} {rows : List (List Value)} {t : List Rw} (h : isSheet F M B g bm v rows t) (hF : subF F F') (hM : ∀ q, M q ≠ none → M' q = M q) : isSheet F' M' B g bm v rows t := by
  obtain ⟨es, clock, hm, ho⟩ := h.mp
  exact ⟨(hM g (by rw [h.gg]; simp)).trans h.gg, h.gB, h.bB, ⟨es, clock, (hM bm (by rw [hm]; simp)).trans hm, ho⟩, h.oo.keep (fun q hq => hM q (h.oo.ge q hq).2) (Nat.le_refl _), h.rr.mono fun r x hr => hr.mono hF, h.nd⟩
theorem upd_keep (hm : clean M N) {b : Nat} (hb : N ≤ b) (x : Option Chunk) : ∀ q, M q ≠ none → upd M b x q = M q := fun q hq => upd_ne _ _ (fun e => hq (hm q (by omega)))
theorem flat_set {sz : Nat} : ∀ (rows : List (List Value)) (i : Nat) (r : List Value), (∀ r ∈ rows, r.length = sz) → r.length = sz → i < rows.length → splice rows.flatten (i * sz) r = (rows.set i r).flatten
  | [], i, r, _, _, h => by simp at h
  | x :: rows, 0, r, hl, hr, _ => by
    have hx := hl x (by simp)
    simp only [Nat.zero_mul, List.flatten_cons, List.set_cons_zero]
    have := splice_at [] x r rows.flatten (by rw [hx, hr])
    simpa using this
  | x :: rows, i + 1, r, hl, hr, h => by
    have hx := hl x (by simp)
    have ih := flat_set rows i r (fun y hy => hl y (by simp [hy])) hr (by simpa using h)
    simp only [List.flatten_cons, List.set_cons_succ]
    rw [← ih]
    unfold splice
    rw [Nat.succ_mul, show i * sz + sz = x.length + i * sz by omega, List.take_length_add_append, show x.length + i * sz + r.length = x.length + (i * sz + r.length) by omega, List.drop_length_add_append]
    simp
end Go.Proofs.YtgcmbkoejjcjlaaGreatDoor.A
open Go Go.RowKit Go.Proofs.YtgcmbkoejjcjlaaGreatDoor.K Go.Proofs.YtgcmbkoejjcjlaaGreatDoor.T
set_option linter.unusedVariables false
set_option linter.unusedSimpArgs false
namespace Go.Proofs.YtgcmbkoejjcjlaaGreatDoor.A
variable {F F' : Nat → Option (List Value)} {M M' : Nat → Option Chunk} {N N' : Nat} {K : Kont} {E : PanK}
open Go.MapKept
theorem und_map : Tryz.prog.underlying 199 = some (.map 9 3) := by kernel_rfl
theorem und_str : Tryz.prog.underlying 9 = some .string := by kernel_rfl
theorem zero_int (w : World) : (zeroValue 3).run Tryz.prog w = .ok (.int .i64 0) w := by kernel_rfl
theorem splice_app {a b vs : List Value} {o : Nat} (h : o + vs.length ≤ a.length) : splice (a ++ b) o vs = splice a o vs ++ b := by
  unfold splice
  rw [List.take_append_of_le_length (by omega), List.drop_append_of_le_length (by omega)]
  simp
theorem splice_tail {l : List Value} {o : Nat} {x : Value} {vs : List Value} (hx : l[o]? = some x) (h : o + 1 + vs.length ≤ l.length) : splice l (o + 1) vs = splice l o (x :: vs) := by
  rw [splice_cons (by simp; omega)]
  congr 1
  obtain ⟨h1, h2⟩ := List.getElem?_eq_some_iff.1 hx
  rw [← h2, List.set_getElem_self]
theorem lay_c {B g bm : Nat} {v kv : Value} {rows : List (List Value)} {t : List Rw} {key : List Int} {c : CE} (h : isSheet F M B g bm v rows t) (hm : clean M N) (hB : B ≤ N) (hkv : sF F 1 kv key.length (ic key)) (hkl : key.length ≤ 17179869184) (hki : ∀ x ∈ key, i64 x) (ht : t.length ≤ 1099511627776)
    (k : ∀ F' M' N' v' rows', subF F F' → N ≤ N' → isSheet F' M' B g bm v' rows' (layP t key c) → (∀ q, q < B → M' q = M q) → clean M' N' → (Hp.mk F' M' N').wf → K (.tuple #[]) ⟨F', M', N'⟩) :
    callv Tryz.prog (.func (.func 109) #[] #[]) #[.pointer (some ⟨g, 0, none⟩), kv, .agg c.cs.toArray] K E ⟨F, M, N⟩ := by
  refine callv_of_text mixed Tryz.func109 (by kernel_rfl) (t109 _ E _ _ _) (fun hw => ?_)
  refine nw_r (cs := c.cs) (fun b1 hb1 => ?_)
  refine text_c hkv hkl hki (fun N1 hN1 hw1 => ?_)
  have hm1 : clean (upd M b1 (some (.cells 108 c.cs c.cs.length))) N1 := hw1.m
  have h1 : isSheet F (upd M b1 (some (.cells 108 c.cs c.cs.length))) B g bm v rows t := h.keep (subF.refl _) (upd_keep hm hb1 _)
  have hb1M : (upd M b1 (some (.cells 108 c.cs c.cs.length))) b1 = some (.cells 108 c.cs c.cs.length) := upd_same _ _ _
  have hM1 : ∀ q, q < B → (upd M b1 (some (.cells 108 c.cs c.cs.length))) q = M q := fun q hq => upd_ne _ _ (by omega)
  have hb1v : v.ownBlock ≠ some b1 := fun e => by have := h.oo.lt hm b1 e; omega
  have hgb1 : g ≠ b1 := fun e => by have := hm.lt h.gg; omega
  have hmb1 : bm ≠ b1 := fun e => by obtain ⟨es, ck, hx, _⟩ := h.mp; have := hm.lt hx; omega
  have hb1N := hm1.lt hb1M
  generalize upd M b1 (some (.cells 108 c.cs c.cs.length)) = M1 at *
  have hgg := h1.gg
  obtain ⟨es, clock, hmp, hmo⟩ := h1.mp
  have hfl := h1.rr.flen
  refine pv_r rfl (pv_r rfl (ldM ?_))
  refine lk_r und_map und_str zero_int (d := .string) trivial hmo.keys hmp (fun hmiss => ?_) (fun j x hj hx => ?_)
  · have hno : ∀ r ∈ t, r.1 ≠ key := fun r hr e => by
      obtain ⟨i, hi, rfl⟩ := List.mem_iff_getElem.1 hr
      have hil : i < es.toList.length := by rw [hmo.1]; exact hi
      obtain ⟨q, h2, h3, _⟩ := hmo.2 i _ (List.getElem?_eq_getElem hil)
      rw [List.getElem?_eq_getElem hi] at h2; cases h2
      exact hmiss _ (List.getElem_mem hil) (by rw [h3, e])
    rw [layP_miss hno] at k
    refine pv_r rfl (pv_r rfl (cnd_f ?_))
    refine pv_r rfl (pv_r rfl (ldM ?_))
    refine pv_r rfl (pv_r rfl (ldM ?_))
    obtain ⟨av, cv, hvf, hvc⟩ := h1.oo.form
    rw [hvf]
    refine len_r ?_
    refine mu_r und_map und_str (d := .string) trivial hmo.keys hmp (fun _ => ?_) (fun j x hj hx => (hmiss x (List.mem_of_getElem? hj) hx).elim)
    have hne : bm ≠ g := fun e => by rw [e, hgg] at hmp; cases hmp
    have hm2 := hm1.set (hm1.lt hmp) (some (.obj (.map (es.push ⟨.string (txtB key), .int .i64 (t.length : Nat), clock⟩) (clock + 1))))
    have hmo2 := hmo.push (key, c) clock
    generalize hes : es.push ⟨.string (txtB key), .int .i64 (t.length : Nat), clock⟩ = es2 at *
    generalize hM2 : upd M1 bm (some (.obj (.map es2 (clock + 1)))) = M2 at *
    have hgg2 : M2 g = some (.cells 201 [v, .map (some bm)] 2) := by rw [← hM2]; exact (upd_ne _ _ (Ne.symm hne)).trans hgg
    have hb2 : M2 b1 = some (.cells 108 c.cs c.cs.length) := by rw [← hM2]; exact (upd_ne _ _ (Ne.symm hmb1)).trans hb1M
    have ho2 : own M2 B 110 5 v t.length rows.flatten := h1.oo.keep (fun q hq => by rw [← hM2]; exact upd_ne _ _ (fun e => h1.vg.2 (e ▸ hq))) (Nat.le_refl _)
    refine pv_r rfl (pv_r rfl (ldM ?_))
    refine ldMa (vs := c.cs) ?_
    refine clone_f hm2 hkv.sR (by omega) (fun kv' F' N2 hw2 hF hN2 hkv' => ?_)
    obtain ⟨ak, ck, rfl, hck⟩ := hkv'.form
    refine ⟨ldV_a (row_M hb2) (by exact Nat.le_of_ble_eq_true rfl) rfl, ldV_c (row_M hgg2) rfl, ?_⟩
    refine pv_r (v := .agg (.slice ak key.length ck :: c.cs).toArray) (by kernel_rfl) ?_
    refine nws_r (cs := .slice ak key.length ck :: c.cs) (by kernel_rfl) (fun b3 hb3 => ?_)
    have hm2' := hm2.up hN2
    have hgN := hm2'.lt hgg2
    have hg3 : g ≠ b3 := by omega
    refine ⟨ldV_c (row_M ((upd_ne _ _ hg3).trans hgg2)) rfl, ?_⟩
    have ho3 : own (upd M2 b3 (some (.cells 110 (.slice ak key.length ck :: c.cs) (Value.slice ak key.length ck :: c.cs).length))) B 110 5 v t.length rows.flatten := ho2.keep (fun q hq => upd_ne _ _ (fun e => by have := ho2.lt hm2' q hq; omega)) (Nat.le_refl _)
    refine ho3.app (m := 1) (news := .slice ak key.length ck :: c.cs) (hm2'.new hb3 _) (by omega) ⟨rfl, .inr ⟨b3, 0, 1, _, rfl, Nat.le_refl _, .inr ⟨_, _, upd_same _ _ _⟩, rfl⟩⟩ (List.all_eq_true.1 rfl) (by omega) (by simp [maxLen]; omega) (fun v' M3 N3 h4 h5 h6 h7 => ?_)
    have hgg3 : M3 g = some (.cells 201 [v, .map (some bm)] 2) := ((h5 g h1.vg.1 (by omega)).1).trans ((upd_ne _ _ hg3).trans hgg2)
    have hbmN : bm < N2 := hm2'.lt (b := bm) (by rw [← hM2, upd_same])
    have hbm3 : M3 bm = some (.obj (.map es2 (clock + 1))) := ((h5 bm h1.vg.2 (by omega)).1).trans ((upd_ne _ _ (by omega)).trans (by rw [← hM2, upd_same]))
    refine pv_r rfl (pv_r rfl ?_)
    refine stM (cs' := [v', .map (some bm)]) ?_ hgg3 (by obtain ⟨a, c, rfl, _⟩ := h4.form; rfl) (by obtain ⟨a, c, rfl, _⟩ := h4.form; rfl) (by obtain ⟨a, c, rfl, _⟩ := h4.form; exact List.all_eq_true.1 rfl)
    have hv'g := (h5 g h1.vg.1 (by omega)).2
    have hv'm := (h5 bm h1.vg.2 (by omega)).2
    refine fun hc => ⟨_, wk_refl hc, fun hw' => k _ _ _ v' (rows ++ [.slice ak key.length ck :: c.cs]) hF (by omega) ⟨upd_same _ _ _, h1.gB, h1.bB, ⟨es2, _, (upd_ne _ _ hne).trans hbm3, hmo2⟩, ?_, ?_, ?_⟩ (fun q hq => ?_) (h7.set (by omega) _) hw'⟩
    · have h8 : own (upd M3 g (some (.cells 201 [v', .map (some bm)] 2))) B 110 5 v' (t.length + 1) (rows.flatten ++ .slice ak key.length ck :: c.cs) := h4.keep (fun q hq => upd_ne _ _ (fun e => hv'g (e ▸ hq))) (Nat.le_refl _)
      simpa using h8
    · have hr1 : rowD F' (.slice ak key.length ck :: c.cs) (key, c) := ⟨_, rfl, hkv', by simp only; omega⟩
      exact (h1.rr.mono fun r x hr => hr.mono hF).snoc hr1.one.1 hr1.one.2 hr1
    · rw [← layP_miss hno]; exact layP_nodup h.nd
    · have q1 : v.ownBlock ≠ some q := fun e => by have := (h1.oo.ge q e).1; omega
      have hgB := h1.gB
      have hbB := h1.bB
      rw [upd_ne _ _ (by omega), (h5 q q1 (by omega)).1, upd_ne _ _ (by omega), ← hM2, upd_ne _ _ (by omega)]; exact hM1 q hq
  · obtain ⟨⟨key', c'⟩, htj, hxk, hxv⟩ := hmo.2 j x hj
    have hkk : key' = key := by
      rw [hxk] at hx
      injection hx with hx
      exact txtB_inj hx
    subst hkk
    rw [layP_hit h.nd htj] at k
    rw [hxv]
    refine pv_r rfl (pv_r rfl (cnd_t ?_))
    have hjt := (List.getElem?_eq_some_iff.1 htj).1
    obtain ⟨row, hrow, ⟨kv1, hrw, hkv1, hkvl⟩, hread, hle, hrl⟩ := h1.rr.get htj
    simp only at hrw
    subst hrw
    obtain ⟨hol, ho⟩ := h1.oo
    rcases ho with ⟨_, h0⟩ | ⟨b, cp, rest, rfl, hlc, hcm, hbB, hMb⟩
    · omega
    have hbg : b ≠ g := fun e => h1.vg.1 (by rw [e]; rfl)
    have hbm' : b ≠ bm := fun e => h1.vg.2 (by rw [e]; rfl)
    have hlen : j * 5 + 5 ≤ rows.flatten.length := hle
    have hget : ∀ i, i < 5 → rows.flatten[j * 5 + i]? = (kv1 :: c'.cs)[i]? := fun i hi => by
      rw [← hread, List.getElem?_take, if_pos hi, List.getElem?_drop]
    refine pv_r rfl (pv_r rfl (ldM (v := .slice (some ⟨b, 0, none⟩) t.length cp) ?_))
    refine pv_r rfl (pv_r rfl (ldM (v := .slice (some ⟨b, 0, none⟩) t.length cp) ?_))
    refine iaN_r hjt (pv_r rfl ?_)
    refine ld_r (ldV_a (vs := c'.cs) (row_M hMb) (by rw [List.length_append]; omega) ?_) ?_
    · have e : (0 + j * 5 + 1) = j * 5 + 1 := by omega
      rw [e, List.drop_append_of_le_length (by omega), List.take_append_of_le_length (by rw [List.length_drop]; omega)]
      have h3 := congrArg (List.drop 1) hread
      rw [List.drop_take, List.drop_drop] at h3
      simpa using h3
    refine ldMa (vs := c.cs) ?_
    refine merge_c (fun N2 hN2 hw2 => ?_)
    refine ⟨ldV_c (row_M hgg) rfl, ?_⟩
    refine iaN_r hjt (pv_r rfl ?_)
    refine stM (cs' := (rows.set j (kv1 :: (c'.merge c).cs)).flatten ++ rest) ?_ hMb ?_ rfl (List.all_eq_true.1 rfl) (by rw [List.length_append]; omega)
    · refine fun hc => ⟨_, wk_refl hc, fun hw' => k _ _ _ (.slice (some ⟨b, 0, none⟩) t.length cp) (rows.set j (kv1 :: (c'.merge c).cs)) (subF.refl _) (by omega) ⟨(upd_ne _ _ (Ne.symm hbg)).trans hgg, h1.gB, h1.bB, ⟨es, clock, (upd_ne _ _ (Ne.symm hbm')).trans hmp, hmo.set htj⟩, ?_, ?_, ?_⟩ (fun q hq => (upd_ne _ _ (by omega)).trans (hM1 q hq)) hw'.m hw'⟩
      · refine ⟨?_, .inr ⟨b, cp, rest, by simp, by simpa using hlc, hcm, hbB, upd_same _ _ _⟩⟩
        rw [flatten_len (sz := 5)]
        · simp [h1.rr.all.1]
        · intro r hr
          rcases List.mem_or_eq_of_mem_set hr with hr | rfl
          · exact h1.rr.len r hr
          · rfl
      · have hr1 : rowD F (kv1 :: (c'.merge c).cs) (key', c'.merge c) := ⟨kv1, rfl, hkv1, hkvl⟩
        refine ⟨fun r hr => ?_, fun r hr => ?_, by simp [h1.rr.all.1], fun i r x hr hx => ?_⟩
        · rcases List.mem_or_eq_of_mem_set hr with hr | rfl
          · exact h1.rr.len r hr
          · rfl
        · rcases List.mem_or_eq_of_mem_set hr with hr | rfl
          · exact h1.rr.one r hr
          · exact hr1.one.2
        · by_cases hij : j = i
          · subst hij
            have hjr : j < rows.length := by rw [h1.rr.all.1]; exact hjt
            rw [List.getElem?_set_self hjr] at hr
            rw [List.getElem?_set_self hjt] at hx
            cases hr; cases hx; exact hr1
          · rw [List.getElem?_set_ne hij] at hr hx
            exact h1.rr.all.2 i r x hr hx
      · rw [← layP_hit h.nd htj]; exact layP_nodup h.nd
    · have e : (0 + j * 5 + 1) = j * 5 + 1 := by omega
      have hjr : j < rows.length := by rw [h1.rr.all.1]; exact hjt
      rw [e]
      show splice (rows.flatten ++ rest) (j * 5 + 1) (c'.merge c).cs = _
      have h4 : (c'.merge c).cs.length = 4 := rfl
      rw [splice_app (by omega), splice_tail (x := kv1) (by have := hget 0 (by decide); simpa using this) (by omega), flat_set rows j _ h1.rr.len rfl hjr]
end Go.Proofs.YtgcmbkoejjcjlaaGreatDoor.A
open Go Go.RowKit Go.Proofs.YtgcmbkoejjcjlaaGreatDoor.K Go.Proofs.YtgcmbkoejjcjlaaGreatDoor.T
set_option linter.unusedVariables false
set_option linter.unusedSimpArgs false
namespace Go.Proofs.YtgcmbkoejjcjlaaGreatDoor.A
variable {F F' : Nat → Option (List Value)} {M M' : Nat → Option Chunk} {N N' : Nat} {K : Kont} {E : PanK}
open Go.Sort hiding Below
theorem flat_at {sz : Nat} {rows : List (List Value)} (hl : ∀ r ∈ rows, r.length = sz) {i j : Nat} {r : List Value} (hi : rows[i]? = some r) (hj : j < sz) : rows.flatten[i * sz + j]? = r[j]? := by
  have h := flatten_take rows i r hl hi
  rw [← h, List.getElem?_take, if_pos hj, List.getElem?_drop]
theorem below_grow {W w' : World} (h : Below W.heap.size W w') (hd : W.drawn ≤ w'.drawn) : ∃ q os', w' = grow (W.drewN q) os' := by
  refine ⟨w'.drawn - W.drawn, w'.heap.extract W.heap.size w'.heap.size, ?_⟩
  have hh : w'.heap = W.heap ++ w'.heap.extract W.heap.size w'.heap.size := by
    apply Array.ext_getElem?
    intro k
    have hs := h.size
    rw [Array.getElem?_append]
    split
    · rename_i hk; exact h.block k hk
    · rename_i hk
      rw [Array.getElem?_extract]
      split
      · rw [show W.heap.size + (k - W.heap.size) = k by omega]
      · exact Array.getElem?_eq_none (by omega)
  obtain ⟨hp, tp, dr, os, out⟩ := w'
  simp only at hh hd
  have h1 := h.os; have h2 := h.tape; have h3 := h.output
  simp only at h1 h2 h3
  unfold grow World.drewN
  subst h1 h2 h3
  rw [← hh]
  congr 1
  simp only; omega
theorem sF_world {W : World} (hF : ∀ bk cs, F bk = some cs → ∃ arr e z, W.heap[bk]? = some (.cells arr e z) ∧ cs <+: arr.toList) {sz m : Nat} {v : Value} {cells : List Value} (h : sF F sz v m cells) : sF (F0 W) sz v m cells := by
  refine ⟨h.1, h.2.imp id fun ⟨b, o, c, cs, h1, h2, h3, h4⟩ => ?_⟩
  obtain ⟨arr, e, z, h5, h6⟩ := hF b cs h3
  refine ⟨b, o, c, arr.toList, h1, h2, by simp [F0, h5], ?_⟩
  obtain ⟨t, ht⟩ := h6
  rw [← ht]
  have hl := congrArg List.length h4
  rw [List.length_take, List.length_drop, h.1] at hl
  rcases Nat.eq_zero_or_pos (m * sz) with h0 | h0
  · rw [← h4, h0]; simp
  · rw [List.drop_append_of_le_length (by omega), List.take_append_of_le_length (by rw [List.length_drop]; omega)]; exact h4
theorem less_call {cs ds : List Value} {r q : Rw} (hr : rowD F cs r) (hq : rowD F ds q) (k : ∀ N', K (.int .i64 (kcmp r.1 q.1)) ⟨F, M, N'⟩) :
    call Tryz.prog 137 #[.agg cs.toArray, .agg ds.toArray] K E ⟨F, M, N⟩ := by
  refine call_text mixed Tryz.func137 (by kernel_rfl) (t137 _ E _ _) (fun hw => ?_)
  have hm := hw.m
  obtain ⟨v, rfl, hv, hvl⟩ := hr
  obtain ⟨u, rfl, hu, _⟩ := hq
  refine nw_r (cs := v :: r.2.cs) (fun b1 hb1 => ?_)
  refine nw_r (cs := u :: q.2.cs) (fun b2 hb2 => ?_)
  refine pv_r rfl (ldM (v := v) ?_)
  refine pv_r rfl (ldM (v := u) ?_)
  refine Cmp_c hv hu (by omega) fun hc => ?_
  exact ⟨⟨F, M, b2 + 1⟩, wk_end hc, fun hw' => k _⟩
abbrev RowE (F : Nat → Option (List Value)) := { x : List Value × Rw // rowD F x.1 x.2 }
theorem rows_E : ∀ (rows : List (List Value)) (t : List Rw), rowsF (rowD F) 5 rows t → ∃ d : List (RowE F), d.map (·.1.1) = rows ∧ d.map (·.1.2) = t
  | [], [], _ => ⟨[], rfl, rfl⟩
  | [], _ :: _, h => by have := h.all.1; simp at this
  | _ :: _, [], h => by have := h.all.1; simp at this
  | r :: rows, x :: t, h => by
    obtain ⟨d, h1, h2⟩ := rows_E rows t ⟨fun r hr => h.len r (by simp [hr]), fun r hr => h.one r (by simp [hr]), by have := h.all.1; simp at this; exact this, fun i r x hr hx => h.all.2 (i + 1) r x (by simpa using hr) (by simpa using hx)⟩
    exact ⟨⟨(r, x), h.all.2 0 r x rfl rfl⟩ :: d, by simp [h1], by simp [h2]⟩
theorem E_rows (d : List (RowE F)) : rowsF (rowD F) 5 (d.map (·.1.1)) (d.map (·.1.2)) := by
  refine ⟨fun r hr => ?_, fun r hr => ?_, by simp, fun i r x hr hx => ?_⟩
  · obtain ⟨x, _, rfl⟩ := List.mem_map.1 hr; exact x.2.one.1
  · obtain ⟨x, _, rfl⟩ := List.mem_map.1 hr; exact x.2.one.2
  · rw [List.getElem?_map] at hr hx
    cases hd : d[i]? with
    | none => rw [hd] at hr; simp at hr
    | some y => rw [hd] at hr hx; simp at hr hx; subst hr; subst hx; exact y.2
theorem swo_cmp : SWO (ltOf fun (x y : RowE F) => kcmp x.1.2.1 y.1.2.1) := by
  refine ⟨fun x => by simp [ltOf, kcmp_self], fun x y z h1 h2 => ?_, fun x y z h1 h2 => ?_⟩
  · simp only [ltOf, decide_eq_true_eq] at h1 h2 ⊢
    exact kcmp_trans h1 h2
  · simp only [ltOf, decide_eq_false_iff_not] at h1 h2 ⊢
    intro h3
    have e1 := kcmp_neg x.1.2.1 y.1.2.1
    have e2 := kcmp_neg y.1.2.1 z.1.2.1
    rcases Int.lt_or_eq_of_le (show 0 ≤ kcmp x.1.2.1 y.1.2.1 by omega) with h4 | h4
    · have h5 : kcmp y.1.2.1 x.1.2.1 < 0 := by omega
      have := kcmp_trans h5 h3
      omega
    · have := kcmp_eq h4.symm
      rw [this] at h3
      omega
end Go.Proofs.YtgcmbkoejjcjlaaGreatDoor.A
open Go Go.RowKit Go.Proofs.YtgcmbkoejjcjlaaGreatDoor.K Go.Proofs.YtgcmbkoejjcjlaaGreatDoor.T
set_option linter.unusedVariables false
set_option linter.unusedSimpArgs false
namespace Go.Proofs.YtgcmbkoejjcjlaaGreatDoor.A
variable {F F' : Nat → Option (List Value)} {M M' : Nat → Option Chunk} {N N' : Nat} {K : Kont} {E : PanK}
open Go.Sort hiding Below
section
variable {α : Type} [Inhabited α] {enc : α → List Value} {kk n off : Nat} {w : World} {blk q : Nat} {d : Array α} {os : Array Obj}
theorem sw_other (hq : q ≠ blk) (hl : q < w.heap.size) : (sortWorldK enc kk w blk off n d os).heap[q]? = w.heap[q]? := by
  unfold sortWorldK putRowK putRow mapBlock grow Sort.ahead
  simp only
  rw [Array.getElem?_append_left (by simpa using hl), Array.getElem?_modify, if_neg (fun e => hq e.symm)]
theorem sw_at {arr : Array Value} {e : TypeId} {z : Nat × Nat} (h : w.heap[blk]? = some (.cells arr e z)) : (sortWorldK enc kk w blk off n d os).heap[blk]? = some (.cells (putCells id off (flatK enc kk d) arr) e z) := by
  have hl : blk < w.heap.size := (Array.getElem?_eq_some_iff.1 h).1
  unfold sortWorldK putRowK putRow mapBlock grow Sort.ahead
  simp only
  rw [Array.getElem?_append_left (by simpa using hl), Array.getElem?_modify, if_pos rfl, h]
  rfl
theorem sw_size : w.heap.size ≤ (sortWorldK enc kk w blk off n d os).heap.size := by
  unfold sortWorldK putRowK putRow mapBlock grow Sort.ahead
  simp
end
theorem flatK_rows (d : List (RowE F)) [Inhabited (RowE F)] (j : Nat) (hj : j < d.length * 5) : (flatK (fun x : RowE F => x.1.1) 5 d.toArray)[j]? = (d.map (·.1.1)).flatten[j]? := by
  have h5 : j / 5 < d.length := by omega
  have hz : j < d.toArray.size * 5 := by simpa using hj
  have e1 : (flatK (fun x : RowE F => x.1.1) 5 d.toArray)[j]? = some ((flatK (fun x : RowE F => x.1.1) 5 d.toArray)[j]!) := by
    rw [getElem!_def, Array.getElem?_eq_getElem (by simpa using hj)]
  rw [e1, get_flatK _ _ _ _ hz]
  have hr := E_rows d
  have hg : (d.map (·.1.1))[j / 5]? = some (d[j / 5].1.1) := by simp [h5]
  have h6 := flat_at hr.len hg (Nat.mod_lt j (by decide : 0 < 5))
  rw [show j / 5 * 5 + j % 5 = j by omega] at h6
  rw [h6]
  have e2 : d.toArray[j / 5]! = d[j / 5] := by rw [getElem!_def]; simp [h5]
  rw [e2]
  have hl : (d[j / 5].1.1).length = 5 := d[j / 5].2.one.1
  rw [List.getElem?_eq_getElem (by omega), getElem!_def, List.getElem?_eq_getElem (by omega)]
theorem flatK_toList (d : List (RowE F)) [Inhabited (RowE F)] : (flatK (fun x : RowE F => x.1.1) 5 d.toArray).toList = (d.map (·.1.1)).flatten := by
  have hl := flatten_len (d.map (·.1.1)) (E_rows d).len
  apply List.ext_getElem?
  intro j
  rw [Array.getElem?_toList]
  rcases Nat.lt_or_ge j (d.length * 5) with h | h
  · exact flatK_rows d j h
  · rw [Array.getElem?_eq_none (by simpa using h), List.getElem?_eq_none (by rw [hl]; simpa using h)]
theorem put_prefix {a b rest : List Value} {B arr : Array Value} (hb : B.toList = b) (hab : a.length = b.length) (h : a ++ rest <+: arr.toList) : b ++ rest <+: (putCells id 0 B arr).toList := by
  have hsz : B.size = b.length := by rw [← hb]; simp
  obtain ⟨t, ht⟩ := h
  have hlen := congrArg List.length ht
  simp only [List.length_append, Array.length_toList] at hlen
  refine ⟨t, ?_⟩
  apply List.ext_getElem?
  intro i
  refine Eq.trans ?_ (Array.getElem?_toList).symm
  unfold putCells
  rw [Array.getElem?_mapIdx]
  rcases Nat.lt_or_ge i b.length with hi | hi
  · rw [List.append_assoc, List.getElem?_append_left hi, Array.getElem?_eq_getElem (by omega)]
    simp only [Option.map_some]
    rw [if_pos ⟨Nat.zero_le _, by omega⟩]
    have : B[i]? = b[i]? := by rw [← hb, Array.getElem?_toList]
    rw [← this, getElem!_def, Array.getElem?_eq_getElem (by omega)]
    simp [hsz, hi]
  · have e : arr[i]? = (a ++ rest ++ t)[i]? := by rw [ht, Array.getElem?_toList]
    have e2 : (a ++ rest ++ t)[i]? = (rest ++ t)[i - b.length]? := by rw [List.append_assoc, List.getElem?_append_right (by omega), hab]
    rw [List.append_assoc, List.getElem?_append_right hi, e, e2]
    cases hx : (rest ++ t)[i - b.length]? with
    | none => rfl
    | some v => simp only [Option.map_some]; rw [if_neg (by omega)]
end Go.Proofs.YtgcmbkoejjcjlaaGreatDoor.A
open Go Go.RowKit Go.Proofs.YtgcmbkoejjcjlaaGreatDoor.K Go.Proofs.YtgcmbkoejjcjlaaGreatDoor.T
set_option linter.unusedVariables false
set_option linter.unusedSimpArgs false
namespace Go.Proofs.YtgcmbkoejjcjlaaGreatDoor.A
variable {F F' : Nat → Option (List Value)} {M M' : Nat → Option Chunk} {N N' : Nat} {K : Kont} {E : PanK}
theorem row_at {α : Type} {R : List Value → α → Prop} {sz : Nat} {v : Value} {l : List α} {rows : List (List Value)} (hv : sF F sz v l.length rows.flatten) (hr : rowsF R sz rows l) (hz : 0 < sz) {i : Nat} (hi : i < l.length) :
    ∃ b o c cs r, v = .slice (some ⟨b, o, none⟩) l.length c ∧ F b = some cs ∧ rows[i]? = some r ∧ R r l[i] ∧ r.length = sz ∧ (∀ x ∈ r, x.oneCell' = true) ∧ o + i * sz + sz ≤ cs.length ∧ (cs.drop (o + i * sz)).take sz = r ∧ ∀ j, j < sz → cs[o + i * sz + j]? = r[j]? := by
  obtain ⟨b, o, c, hab, cs, hF, hle, hcs⟩ := hv.at hz hi
  obtain ⟨r, h1, h2, h3, h4, h5⟩ := hr.get (List.getElem?_eq_getElem hi)
  have hfl := hr.flen
  have hj : ∀ j, j < sz → cs[o + i * sz + j]? = r[j]? := fun j hj => by
    rw [Nat.add_assoc, hcs (i * sz + j) (by rw [hfl] at h4; omega), ← h3, List.getElem?_take, if_pos hj, List.getElem?_drop]
  refine ⟨b, o, c, cs, r, hab, hF, h1, h2, h5, hr.one r (List.mem_of_getElem? h1), by rw [hfl] at h4; omega, ?_, hj⟩
  apply List.ext_getElem?
  intro j
  rw [List.getElem?_take]
  split
  · rename_i h; rw [List.getElem?_drop]; exact hj j h
  · rw [List.getElem?_eq_none (by omega)]
theorem row_r {α : Type} {R : List Value → α → Prop} {sz : Nat} {v : Value} {l : List α} {rows : List (List Value)} {K : Value → Kont} (hv : sF F sz v l.length rows.flatten) (hr : rowsF R sz rows l) (hz : 0 < sz) {i : Nat} (hi : i < l.length)
    (k : ∀ p r, rows[i]? = some r → R r l[i] → r.length = sz → (∀ x ∈ r, x.oneCell' = true) → K p (.agg r.toArray) ⟨F, M, N⟩) : pv (iaV none sz v (.int .i64 (i : Nat))) (fun p => ld true sz p (K p)) ⟨F, M, N⟩ := by
  obtain ⟨b, o, c, cs, r, rfl, hF, hrr, hR, hl, h1, hle, ht, _⟩ := row_at hv hr hz hi
  exact iaN_r hi (ld_r (ldV_a (row_F hF) hle ht) (k _ r hrr hR hl h1))
theorem fld_r {α : Type} {R : List Value → α → Prop} {sz : Nat} {v : Value} {l : List α} {rows : List (List Value)} {K : Value → Value → Kont} (hv : sF F sz v l.length rows.flatten) (hr : rowsF R sz rows l) (hz : 0 < sz) {i : Nat} (hi : i < l.length) {off : Nat} (ho : off < sz)
    (k : ∀ p q r x, R r l[i] → r.length = sz → r[off]? = some x → K p q x ⟨F, M, N⟩) : pv (iaV none sz v (.int .i64 (i : Nat))) (fun p => pv (faV off p) fun q => ld false 1 q (K p q)) ⟨F, M, N⟩ := by
  obtain ⟨b, o, c, cs, r, rfl, hF, _, hR, hl, h1, hle, ht, hj⟩ := row_at hv hr hz hi
  have hx : r[off]? = some (r[off]'(by omega)) := List.getElem?_eq_getElem _
  exact iaN_r hi (pv_r rfl (ld_r (ldV_c (row_F hF) ((hj off ho).trans hx)) (k _ _ r _ hR hl hx)))
def tblD (F : Nat → Option (List Value)) (v : Value) (t : List Rw) : Prop := ∃ rows, sF F 5 v t.length rows.flatten ∧ rowsF (rowD F) 5 rows t
theorem tblD.mono {v : Value} {t : List Rw} (h : tblD F v t) (hF : subF F F') : tblD F' v t := let ⟨rows, h1, h2⟩ := h; ⟨rows, h1.mono hF, h2.mono fun _ _ hr => hr.mono hF⟩
theorem tblD.form {v : Value} {t : List Rw} (h : tblD F v t) : ∃ a c, v = .slice a t.length c := let ⟨rows, h1, _⟩ := h; let ⟨a, c, h2, _⟩ := h1.form; ⟨a, c, h2⟩
theorem tblD.nil {c : Nat} : tblD F (.slice none 0 c) [] := ⟨[], sF.nil _ _ _, rowsF.nil _ _⟩
abbrev Fc := List Int × Int
def fctD (F : Nat → Option (List Value)) (cs : List Value) (f : Fc) : Prop := ∃ v, cs = [v, .int .i64 f.2] ∧ sF F 1 v f.1.length (ic f.1) ∧ f.1.length ≤ 140737488351232
theorem fctD.mono {cs : List Value} {f : Fc} (h : fctD F cs f) (hF : subF F F') : fctD F' cs f := let ⟨v, h1, h2, h3⟩ := h; ⟨v, h1, h2.mono hF, h3⟩
theorem fctD.one {cs : List Value} {r : Fc} (h : fctD F cs r) : cs.length = 2 ∧ ∀ c ∈ cs, c.oneCell' = true := by
  obtain ⟨v, rfl, hv, _⟩ := h
  obtain ⟨a, c, rfl, _⟩ := hv.form
  exact ⟨rfl, List.all_eq_true.1 rfl⟩
def fctsD (F : Nat → Option (List Value)) (v : Value) (l : List Fc) : Prop := ∃ rows, sF F 2 v l.length rows.flatten ∧ rowsF (fctD F) 2 rows l
theorem fctsD.mono {v : Value} {t : List Fc} (h : fctsD F v t) (hF : subF F F') : fctsD F' v t := let ⟨rows, h1, h2⟩ := h; ⟨rows, h1.mono hF, h2.mono fun _ _ hr => hr.mono hF⟩
def okK (k : List Int) : Prop := k.length ≤ 10000000000 ∧ ∀ x ∈ k, i64 x
def ofC (v : Int) : CE := ⟨1, v, v, v⟩
theorem tbl_frz {v : Value} {t : List Rw} {rows : List (List Value)} (hc : (Hp.mk F M' N').wf) (ho : own M' N 110 5 v t.length rows.flatten) (hr : rowsF (rowD F) 5 rows t) : tblD (frzAll F M' N) v t :=
  ⟨rows, ho.rd.frz hc (fun b hb => .inl (ho.ge b hb).1), hr.mono fun _ _ h => h.mono (subF_frzAll hc)⟩
theorem frz_wf (hm : clean M N) (hk : ∀ q, q < N → M' q = M q) (hc : (Hp.mk F M' N').wf) : (Hp.mk F M' N').wk ⟨frzAll F M' N, M, N'⟩ := wk_all hm hk hc
theorem fldA_r {α : Type} {R : List Value → α → Prop} {sz : Nat} {v : Value} {l : List α} {rows : List (List Value)} {K : Value → Value → Kont} (hv : sF F sz v l.length rows.flatten) (hr : rowsF R sz rows l) (hz : 0 < sz) {i : Nat} (hi : i < l.length) {off n : Nat} (ho : off + n ≤ sz)
    (k : ∀ p q r, R r l[i] → r.length = sz → K p q (.agg ((r.drop off).take n).toArray) ⟨F, M, N⟩) : pv (iaV none sz v (.int .i64 (i : Nat))) (fun p => pv (faV off p) fun q => ld true n q (K p q)) ⟨F, M, N⟩ := by
  obtain ⟨b, o, c, cs, r, rfl, hF, _, hR, hl, h1, hle, ht, hj⟩ := row_at hv hr hz hi
  refine iaN_r hi (pv_r rfl (ld_r (ldV_a (row_F hF) (by omega) ?_) (k _ _ r hR hl)))
  apply List.ext_getElem?
  intro j
  rw [List.getElem?_take, List.getElem?_take, List.getElem?_drop, List.getElem?_drop]
  split
  · rw [show o + i * sz + off + j = o + i * sz + (off + j) by omega, hj _ (by omega)]
  · rfl
theorem key_r {v : Value} {t : List Rw} {rows : List (List Value)} {K : Value → Value → Kont} (hv : sF F 5 v t.length rows.flatten) (hr : rowsF (rowD F) 5 rows t) {i : Nat} (hi : i < t.length)
    (k : ∀ p q kv, sF F 1 kv t[i].1.length (ic t[i].1) → t[i].1.length ≤ 140737488351232 → K p q kv ⟨F, M, N⟩) : pv (iaV none 5 v (.int .i64 (i : Nat))) (fun p => pv (faV 0 p) fun q => ld false 1 q (K p q)) ⟨F, M, N⟩ :=
  fld_r hv hr (by decide) hi (by decide) fun p q r x hR _ hx => by
    obtain ⟨kv, rfl, h1, h2⟩ := hR
    simp at hx; subst hx
    exact k p q _ h1 h2
theorem cell_r {v : Value} {t : List Rw} {rows : List (List Value)} {K : Value → Value → Kont} (hv : sF F 5 v t.length rows.flatten) (hr : rowsF (rowD F) 5 rows t) {i : Nat} (hi : i < t.length)
    (k : ∀ p q, K p q (.agg t[i].2.cs.toArray) ⟨F, M, N⟩) : pv (iaV none 5 v (.int .i64 (i : Nat))) (fun p => pv (faV 1 p) fun q => ld true 4 q (K p q)) ⟨F, M, N⟩ :=
  fldA_r hv hr (by decide) hi (by decide) fun p q r hR _ => by
    obtain ⟨kv, rfl, h1, h2⟩ := hR
    exact k p q
end Go.Proofs.YtgcmbkoejjcjlaaGreatDoor.A
open Go Go.RowKit Go.Proofs.YtgcmbkoejjcjlaaGreatDoor.K Go.Proofs.YtgcmbkoejjcjlaaGreatDoor.T
set_option linter.unusedVariables false
set_option linter.unusedSimpArgs false
namespace Go.Proofs.YtgcmbkoejjcjlaaGreatDoor.A
variable {F F' : Nat → Option (List Value)} {M M' : Nat → Option Chunk} {N N' : Nat} {K : Kont} {E : PanK}
theorem rCmp_c {u v : Value} {a b : List Int} (hu : sF F 1 u a.length (ic a)) (hv : sF F 1 v b.length (ic b)) (hla : a.length ≤ 140737488351232) (k : K (.int .i64 (kcmp a b)) ⟨F, M, N⟩) :
    callv Tryz.prog (.func (.func 44) #[] #[]) #[u, v] K E ⟨F, M, N⟩ := by
  refine callv_of_text mixed Tryz.func44 (by kernel_rfl) (t44 _ E _ _) (fun hw => ?_)
  obtain ⟨ua, uc, rfl, _⟩ := hu.form
  obtain ⟨va, vc, rfl, _⟩ := hv.form
  refine l44_1_0_1_0_0 (σ := Nat) (fun i => .int .i64 (i : Nat)) (fun i h => h = ⟨F, M, N⟩ ∧ i ≤ min a.length b.length ∧ kcmp a b = kcmp (a.drop i) (b.drop i)) (fun i => min a.length b.length - i) 0 rfl
    (fun hw1 => ⟨_, wk_refl hw1, rfl, Nat.zero_le _, rfl⟩) (fun k1 i j h1 hI hw1 next => ?_)
  rw [t44_1_0_1_0_0]
  obtain ⟨rfl, hi, he⟩ := hI
  have fin : i = min a.length b.length → kcmp a b = cmpI a.length b.length := fun h => by rw [he, kcmp_end h]
  have tail : i = min a.length b.length → ∀ (X : Kont), (∀ v, v = kcmp a b → X (.int .i64 v) ⟨F, M, N⟩) → pv (binV .none .lss (.int .i64 (a.length : Nat)) (.int .i64 (b.length : Nat))) (fun t3 => cnd t3 (X (.int .i64 (-1))) (pv (binV .none .gtr (.int .i64 (a.length : Nat)) (.int .i64 (b.length : Nat))) fun t6 => cnd t6 (X (.int .i64 1)) (X (.int .i64 0)))) ⟨F, M, N⟩ := by
    intro hi X hX
    have := fin hi
    unfold cmpI at this
    refine lss_r (fun h => cnd_t (hX _ ?_)) (fun h => cnd_f (gtr_r (fun h' => cnd_t (hX _ ?_)) (fun h' => cnd_f (hX _ ?_))))
    · rw [this, if_pos h]
    · rw [this, if_neg h, if_pos h']
    · rw [this, if_neg h, if_neg h']
  try simp only [sS]
  refine lss_r (fun hlt => ?_) (fun hge => ?_)
  · try simp only [sS]
    refine lss_r (fun hlt2 => ?_) (fun hge2 => ?_)
    · try simp only [sS]
      have h1 : i < a.length := by omega
      have h2 : i < b.length := by omega
      rw [kcmp_at h1 h2] at he
      refine ixn_r hu h1 fun p1 => ixn_r hv h2 fun p2 => ?_
      refine lss_r (fun h => ?_) (fun h => ?_)
      · try simp only [sS]
        refine fun hc => ⟨_, wk_refl hc, fun _ => ?_⟩
        unfold cmpI at he
        rw [if_pos h, if_neg (by decide)] at he; rw [← he]; exact k
      · try simp only [sS]
        refine ixn_r hu h1 fun p1 => ixn_r hv h2 fun p2 => ?_
        refine gtr_r (fun h' => ?_) (fun h' => ?_)
        · try simp only [sS]
          refine fun hc => ⟨_, wk_refl hc, fun _ => ?_⟩
          unfold cmpI at he
          rw [if_neg h, if_pos h', if_neg (by decide)] at he; rw [← he]; exact k
        · try simp only [sS]
          refine inc_r (by omega) ?_
          have h0 : cmpI a[i] b[i] = 0 := by unfold cmpI; rw [if_neg h, if_neg h']
          rw [if_pos h0] at he
          exact next (i + 1) _ _ (by omega) (fun hw2 => ⟨_, wk_refl hw2, rfl, by omega, he⟩)
    · try simp only [sS]
      try simp only [sS]
      refine tail (by omega) (fun v h => h.wf → ∃ h', h.wk h' ∧ (h'.wf → K v h')) (fun v e hc => ⟨_, wk_refl hc, fun _ => by rw [e]; exact k⟩)
  · try simp only [sS]
    try simp only [sS]
    refine tail (by omega) (fun v h => h.wf → ∃ h', h.wk h' ∧ (h'.wf → K v h')) (fun v e hc => ⟨_, wk_refl hc, fun _ => by rw [e]; exact k⟩)
theorem neqc_r {a b : CE} {h : Hp} (k : K (.bool (!decide (a = b))) h) : pv (eqCells .neq [0, 0, 0, 0] (.agg a.cs.toArray) (.agg b.cs.toArray)) K h := by
  refine ⟨_, ?_, k⟩
  obtain ⟨a1, a2, a3, a4⟩ := a
  obtain ⟨b1, b2, b3, b4⟩ := b
  simp only [eqCells, CE.cs]
  have hd : ∀ x y : Int, (x == y) = decide (x = y) := fun _ _ => rfl
  by_cases h1 : a1 = b1 <;> by_cases h2 : a2 = b2 <;> by_cases h3 : a3 = b3 <;> by_cases h4 : a4 = b4 <;> simp [flatVs, flatV, hd, h1, h2, h3, h4]
theorem same_c {u v : Value} {a b : List Rw} (hu : tblD F u a) (hv : tblD F v b) (hla : a.length ≤ 140737488351232) (k : K (.bool (decide (a = b))) ⟨F, M, N⟩) :
    callv Tryz.prog (.func (.func 21) #[] #[]) #[u, v] K E ⟨F, M, N⟩ := by
  refine callv_of_text mixed Tryz.func21 (by kernel_rfl) (t21 _ E _ _) (fun hw => ?_)
  obtain ⟨ru, hu1, hu2⟩ := hu
  obtain ⟨rv, hv1, hv2⟩ := hv
  have hlen := hu1
  obtain ⟨ua, uc, rfl, huc⟩ := hu1.form
  obtain ⟨va, vc, rfl, _⟩ := hv1.form
  try simp only [sS]
  refine neq_r (fun hne => ?_) (fun hne => ?_)
  · try simp only [sS]
    have e : ¬ a = b := fun e => hne (by rw [e])
    rw [decide_eq_false e] at k
    exact fun hc => ⟨_, wk_refl hc, fun _ => k⟩
  have hab : a.length = b.length := by omega
  try simp only [sS]
  refine l21_1_1_0_1_0_0 (σ := Nat) (fun i => .int .i64 (i : Nat)) (fun i h => h = ⟨F, M, N⟩ ∧ i ≤ a.length ∧ a.take i = b.take i) (fun i => a.length - i) 0 rfl
    (fun hw1 => ⟨_, wk_refl hw1, rfl, Nat.zero_le _, rfl⟩) (fun k1 i j h1 hI hw1 next => ?_)
  rw [t21_1_1_0_1_0_0]
  obtain ⟨rfl, hi, he⟩ := hI
  have no : ∀ (h1 : i < a.length) (h2 : i < b.length), a[i] ≠ b[i] → decide (a = b) = false := fun h1 h2 hn => decide_eq_false fun e => by subst e; exact hn rfl
  try simp only [sS]
  refine lss_r (fun hlt => ?_) (fun hge => ?_)
  · try simp only [sS]
    have h1 : i < a.length := by omega
    have h2 : i < b.length := by omega
    refine key_r hu1 hu2 h1 fun p q kv hkv hkl => key_r hv1 hv2 h2 fun p' q' kv' hkv' hkl' => ?_
    refine rCmp_c hkv hkv' hkl ?_
    refine neq_r (fun hn => ?_) (fun hn => ?_)
    · try simp only [sS]
      rw [no h1 h2 (fun e => hn (by rw [e, kcmp_self]))] at k
      exact fun hc => ⟨_, wk_refl hc, fun _ => k⟩
    · try simp only [sS]
      refine cell_r hu1 hu2 h1 fun p q => cell_r hv1 hv2 h2 fun p' q' => ?_
      have hk := kcmp_eq (show kcmp a[i].1 b[i].1 = 0 by omega)
      refine neqc_r ?_
      by_cases hcc : a[i].2 = b[i].2
      · rw [decide_eq_true hcc]
        try simp only [sS]
        refine inc_r (by omega) ?_
        refine next (i + 1) _ _ (by omega) (fun hw2 => ⟨_, wk_refl hw2, rfl, by omega, ?_⟩)
        rw [List.take_add_one, List.take_add_one, he, List.getElem?_eq_getElem h1, List.getElem?_eq_getElem h2, show a[i] = b[i] from Prod.ext hk hcc]
      · rw [decide_eq_false hcc]
        try simp only [sS]
        rw [no h1 h2 (fun e => hcc (by rw [e]))] at k
        exact fun hc => ⟨_, wk_refl hc, fun _ => k⟩
  · try simp only [sS]
    rw [List.take_of_length_le (by omega), List.take_of_length_le (by omega)] at he
    rw [decide_eq_true he] at k
    exact fun hc => ⟨_, wk_refl hc, fun _ => k⟩
end Go.Proofs.YtgcmbkoejjcjlaaGreatDoor.A
open Go Go.RowKit Go.Proofs.YtgcmbkoejjcjlaaGreatDoor.K Go.Proofs.YtgcmbkoejjcjlaaGreatDoor.T
set_option linter.unusedVariables false
set_option linter.unusedSimpArgs false
namespace Go.Proofs.YtgcmbkoejjcjlaaGreatDoor.A
variable {F F' : Nat → Option (List Value)} {M M' : Nat → Option Chunk} {N N' : Nat} {K : Kont} {E : PanK}
theorem row_cells {kv : Value} {c : CE} {key : List Int} (hkv : sF F 1 kv key.length (ic key)) : (kv :: c.cs).length = 5 ∧ (∀ x ∈ kv :: c.cs, x.oneCell' = true) := by
  obtain ⟨a, n, rfl, _⟩ := hkv.form
  exact ⟨rfl, List.all_eq_true.1 rfl⟩
theorem rows_app {α : Type} {R : List Value → α → Prop} {sz : Nat} {r1 r2 : List (List Value)} {x1 x2 : List α} (h1 : rowsF R sz r1 x1) (h2 : rowsF R sz r2 x2) : rowsF R sz (r1 ++ r2) (x1 ++ x2) := by
  refine ⟨fun r hr => ?_, fun r hr => ?_, by simp [h1.all.1, h2.all.1], fun i r x hr hx => ?_⟩
  · rcases List.mem_append.1 hr with h | h; exact h1.len r h; exact h2.len r h
  · rcases List.mem_append.1 hr with h | h; exact h1.one r h; exact h2.one r h
  · have hl := h1.all.1
    rcases Nat.lt_or_ge i r1.length with hi | hi
    · rw [List.getElem?_append_left hi] at hr
      rw [List.getElem?_append_left (by omega)] at hx
      exact h1.all.2 i r x hr hx
    · rw [List.getElem?_append_right hi] at hr
      rw [List.getElem?_append_right (by omega)] at hx
      rw [← hl] at hx
      exact h2.all.2 _ r x hr hx
theorem rows_drop {α : Type} {R : List Value → α → Prop} {sz : Nat} {rows : List (List Value)} {xs : List α} (h : rowsF R sz rows xs) (i : Nat) : rowsF R sz (rows.drop i) (xs.drop i) :=
  ⟨fun r hr => h.len r (List.mem_of_mem_drop hr), fun r hr => h.one r (List.mem_of_mem_drop hr), by simp [h.all.1], fun j r x hr hx => h.all.2 (i + j) r x (by simpa [List.getElem?_drop] using hr) (by simpa [List.getElem?_drop] using hx)⟩
theorem rows_take {α : Type} {R : List Value → α → Prop} {sz : Nat} {rows : List (List Value)} {xs : List α} (h : rowsF R sz rows xs) (i : Nat) : rowsF R sz (rows.take i) (xs.take i) :=
  ⟨fun r hr => h.len r (List.mem_of_mem_take hr), fun r hr => h.one r (List.mem_of_mem_take hr), by simp [h.all.1], fun j r x hr hx => by
    rw [List.getElem?_take] at hr hx
    split at hr
    · rename_i hj; rw [if_pos hj] at hx; exact h.all.2 j r x hr hx
    · cases hr⟩
theorem flatten_drop {sz : Nat} : ∀ (rows : List (List Value)) (i : Nat), (∀ r ∈ rows, r.length = sz) → rows.flatten.drop (i * sz) = (rows.drop i).flatten
  | [], i, _ => by simp
  | x :: rows, 0, _ => by simp
  | x :: rows, i + 1, h => by
    have hx := h x (by simp)
    rw [List.flatten_cons, List.drop_succ_cons, ← flatten_drop rows i (fun r hr => h r (by simp [hr])), Nat.succ_mul, show i * sz + sz = x.length + i * sz by omega, List.drop_length_add_append]
end Go.Proofs.YtgcmbkoejjcjlaaGreatDoor.A
open Go Go.RowKit Go.Proofs.YtgcmbkoejjcjlaaGreatDoor.K Go.Proofs.YtgcmbkoejjcjlaaGreatDoor.T
set_option linter.unusedVariables false
set_option linter.unusedSimpArgs false
namespace Go.Proofs.YtgcmbkoejjcjlaaGreatDoor.A
variable {F F' : Nat → Option (List Value)} {M M' : Nat → Option Chunk} {N N' : Nat} {K : Kont} {E : PanK}
end Go.Proofs.YtgcmbkoejjcjlaaGreatDoor.A
namespace Go.Proofs
open Go.Shelf
def Tryz.sortRow_ren : Go.Shelf.Ren := ⟨fun | 6 => 145 | 15 => 99 | 14 => 170 | 28 => 130 | 29 => 131 | 20 => 185 | 21 => 186 | 22 => 187 | 23 => 188 | 24 => 189 | 25 => 190 | 26 => 191 | 27 => 192 | 46 => 197 | 47 => 156 | 48 => 157 | 49 => 198 | 50 => 199 | 57 => 205 | n => n, fun | 22 => 59 | 24 => 110 | 25 => 195 | 3 => 3 | 39 => 161 | 0 => 0 | 53 => 30 | 55 => 176 | 4 => 4 | 46 => 185 | 45 => 184 | 50 => 138 | 5 => 5 | 9 => 9 | 66 => 211 | 70 => 215 | 76 => 227 | 77 => 228 | n => n, fun | n => n⟩
theorem Tryz.sortRow : Go.Proofs.SlLaysF0.n6 Tryz.prog Tryz.sortRow_ren := {
  mixed := by kernel_rfl
  f6 := ⟨Tryz.f145.name, by decide, Tryz.func145.trans (congrArg some (by kernel_rfl))⟩
  f14 := ⟨Tryz.f170.name, by decide, Tryz.func170.trans (congrArg some (by kernel_rfl))⟩
  f15 := Tryz.func99.trans (congrArg some (by kernel_rfl))
  f20 := ⟨Tryz.f185.name, by decide, Tryz.func185.trans (congrArg some (by kernel_rfl))⟩
  f21 := ⟨Tryz.f186.name, by decide, Tryz.func186.trans (congrArg some (by kernel_rfl))⟩
  f22 := ⟨Tryz.f187.name, by decide, Tryz.func187.trans (congrArg some (by kernel_rfl))⟩
  f23 := ⟨Tryz.f188.name, by decide, Tryz.func188.trans (congrArg some (by kernel_rfl))⟩
  f24 := ⟨Tryz.f189.name, by decide, Tryz.func189.trans (congrArg some (by kernel_rfl))⟩
  f25 := ⟨Tryz.f190.name, by decide, Tryz.func190.trans (congrArg some (by kernel_rfl))⟩
  f26 := ⟨Tryz.f191.name, by decide, Tryz.func191.trans (congrArg some (by kernel_rfl))⟩
  f27 := ⟨Tryz.f192.name, by decide, Tryz.func192.trans (congrArg some (by kernel_rfl))⟩
  f28 := Tryz.func130.trans (congrArg some (by kernel_rfl))
  f29 := Tryz.func131.trans (congrArg some (by kernel_rfl))
  f46 := ⟨Tryz.f197.name, by decide, Tryz.func197.trans (congrArg some (by kernel_rfl))⟩
  f47 := Tryz.func156.trans (congrArg some (by kernel_rfl))
  f48 := Tryz.func157.trans (congrArg some (by kernel_rfl))
  f49 := ⟨Tryz.f198.name, by decide, Tryz.func198.trans (congrArg some (by kernel_rfl))⟩
  f50 := ⟨Tryz.f199.name, by decide, Tryz.func199.trans (congrArg some (by kernel_rfl))⟩
  f57 := ⟨Tryz.f205.name, by decide, Tryz.func205.trans (congrArg some (by kernel_rfl))⟩
  t0 := Tryz.underlying0
  a0 := Tryz.isAgg0
  z0 := Tryz.sizeOf0
  v0 := Tryz.zeroValue0
  t3 := Tryz.underlying3
  a3 := Tryz.isAgg3
  z3 := Tryz.sizeOf3
  v3 := Tryz.zeroValue3
  t4 := Tryz.underlying4
  a4 := Tryz.isAgg4
  z4 := Tryz.sizeOf4
  v4 := Tryz.zeroValue4
  t5 := Tryz.underlying5
  a5 := Tryz.isAgg5
  z5 := Tryz.sizeOf5
  v5 := Tryz.zeroValue5
  t9 := Tryz.underlying9
  a9 := Tryz.isAgg9
  z9 := Tryz.sizeOf9
  v9 := Tryz.zeroValue9
  t22 := Tryz.underlying59
  a22 := Tryz.isAgg59
  z22 := Tryz.sizeOf59
  v22 := Tryz.zeroValue59
  t25 := Tryz.underlying195
  a25 := Tryz.isAgg195
  z25 := Tryz.sizeOf195
  v25 := Tryz.zeroValue195
  t39 := Tryz.underlying161
  a39 := Tryz.isAgg161
  z39 := Tryz.sizeOf161
  v39 := Tryz.zeroValue161
  t45 := Tryz.underlying184
  a45 := Tryz.isAgg184
  z45 := Tryz.sizeOf184
  v45 := Tryz.zeroValue184
  t46 := Tryz.underlying185
  a46 := Tryz.isAgg185
  z46 := Tryz.sizeOf185
  v46 := Tryz.zeroValue185
  t50 := Tryz.underlying138
  a50 := Tryz.isAgg138
  z50 := Tryz.sizeOf138
  v50 := Tryz.zeroValue138
  t53 := Tryz.underlying30
  a53 := Tryz.isAgg30
  z53 := Tryz.sizeOf30
  v53 := Tryz.zeroValue30
  t55 := Tryz.underlying176
  a55 := Tryz.isAgg176
  z55 := Tryz.sizeOf176
  v55 := Tryz.zeroValue176
  t66 := Tryz.underlying211
  a66 := Tryz.isAgg211
  z66 := Tryz.sizeOf211
  v66 := Tryz.zeroValue211
  t70 := Tryz.underlying215
  a70 := Tryz.isAgg215
  z70 := Tryz.sizeOf215
  v70 := Tryz.zeroValue215
  t76 := Tryz.underlying227
  a76 := Tryz.isAgg227
  z76 := Tryz.sizeOf227
  v76 := Tryz.zeroValue227
  t77 := Tryz.underlying228
  a77 := Tryz.isAgg228
  z77 := Tryz.sizeOf228
  v77 := Tryz.zeroValue228 }
end Go.Proofs
open Go Go.RowKit Go.Proofs.YtgcmbkoejjcjlaaGreatDoor.K Go.Proofs.YtgcmbkoejjcjlaaGreatDoor.T
set_option linter.unusedVariables false
set_option linter.unusedSimpArgs false
namespace Go.Proofs.YtgcmbkoejjcjlaaGreatDoor.A
variable {F F' : Nat → Option (List Value)} {M M' : Nat → Option Chunk} {N N' : Nat} {K : Kont} {E : PanK}
open Go.Sort hiding Below
open Go.Shelf
theorem agg_row (w : World) : (isAgg 110).run Tryz.prog w = .ok true w := by kernel_rfl
theorem size_row (w : World) : (Go.sizeOf 110).run Tryz.prog w = .ok 5 w := by kernel_rfl
theorem cmp_lays [Inhabited (RowE F)] {w : World} {blk size : Nat} (hF : ∀ bk cs, F bk = some cs → bk ≠ blk ∧ bk < w.heap.size ∧ ∃ arr e z, w.heap[bk]? = some (.cells arr e z) ∧ cs <+: arr.toList) :
    CmpLays Tryz.prog 137 #[] (fun x : RowE F => x.1.1) 5 (fun x y => kcmp x.1.2.1 y.1.2.1) blk 0 size w := by
  intro m os dk _ x y
  have hW : ∀ bk cs, F bk = some cs → ∃ arr e z, (sortWorldK (fun x : RowE F => x.1.1) 5 w blk 0 m dk os).heap[bk]? = some (.cells arr e z) ∧ cs <+: arr.toList := fun bk cs h => by
    obtain ⟨h1, h2, arr, e, z, h3, h4⟩ := hF bk cs h
    exact ⟨arr, e, z, (sw_other h1 h2).trans h3, h4⟩
  have up : ∀ z : RowE F, rowD (F0 (sortWorldK (fun x : RowE F => x.1.1) 5 w blk 0 m dk os)) z.1.1 z.1.2 := fun z => by
    obtain ⟨v, h1, h2, h3⟩ := z.2
    exact ⟨v, h1, sF_world hW h2, h3⟩
  have h := calls1 (P := Tryz.prog) (w := sortWorldK (fun x : RowE F => x.1.1) 5 w blk 0 m dk os) (K := fun v => v = .int .i64 (kcmp x.1.2.1 y.1.2.1))
    (less_call (K := fun v _ => v = .int .i64 (kcmp x.1.2.1 y.1.2.1)) (E := fun _ _ => False) (up x) (up y) (fun N' => rfl))
  refine Calls.mono h fun e w' ⟨⟨v, he, hv⟩, hb, hd⟩ => ?_
  exact ⟨by rw [he, hv], below_grow hb hd⟩
theorem perm_map {α β : Type} {a b : List α} (f : α → β) (h : a.Perm b) : (a.map f).Perm (b.map f) := h.map f
theorem sort_c {b cap tot : Nat} {rows : List (List Value)} {t : List Rw} {rest : List Value} (hM : M b = some (.cells 110 (rows.flatten ++ rest) tot)) (hr : rowsF (rowD F) 5 rows t) (hn : nodup t) (h0 : 0 < t.length) (hl : t.length < 4611686018427387904)
    (k : ∀ N' rows' t', N ≤ N' → rowsF (rowD F) 5 rows' t' → t.Perm t' → srt t' → K (.tuple #[]) ⟨F, upd M b (some (.cells 110 (rows'.flatten ++ rest) tot)), N'⟩) :
    callv Tryz.prog (.func (.func 145) #[] #[]) #[.slice (some ⟨b, 0, none⟩) t.length cap, .func (.func 137) #[] #[]] K E ⟨F, M, N⟩ := by
  refine .inl ⟨by kernel_rfl, fun w0 w _ r => ?_⟩
  obtain ⟨d, hd1, hd2⟩ := rows_E rows t hr
  have hdl : d.length = t.length := by rw [← hd2]; simp
  have hne : d ≠ [] := fun e => by rw [e] at hdl; simp at hdl; omega
  obtain ⟨x0, d0, hd0⟩ := List.exists_cons_of_ne_nil hne
  haveI : Inhabited (RowE F) := ⟨x0⟩
  obtain ⟨h1, h2, h3, arr, h4, h5, h6⟩ := r.cl b _ _ _ hM
  have hbw : b < w.heap.size := (Array.getElem?_eq_some_iff.1 h4).1
  have hfl := hr.flen
  have hH : HoldsK (fun x : RowE F => x.1.1) 5 w b 0 d.toArray := by
    intro j hj
    have hj' : j < d.length * 5 := by simpa using hj
    have e1 := flatK_rows d j hj'
    rw [hd1] at e1
    have e2 : rows.flatten[j]? = some (id (flatK (fun x : RowE F => x.1.1) 5 d.toArray)[j]!) := by
      rw [← e1, id, getElem!_def, Array.getElem?_eq_getElem (by simpa using hj')]
    refine ⟨?_, by simp [World.frozen?, h4]⟩
    rw [Nat.zero_add]
    refine r.cell (cs := rows.flatten ++ rest) (.inr ⟨_, _, hM⟩) ?_
    rw [List.getElem?_append_left (by omega)]; exact e2
  have hF : ∀ bk cs, F bk = some cs → bk ≠ b ∧ bk < w.heap.size ∧ ∃ arr e z, w.heap[bk]? = some (.cells arr e z) ∧ cs <+: arr.toList := fun bk cs h => by
    obtain ⟨a1, arr', e, z, a2, a3⟩ := r.fr bk cs h
    exact ⟨fun e => (by subst e; simp only at h3; rw [h] at h3; cases h3), (Array.getElem?_eq_some_iff.1 a2).1, arr', e, z, a2, a3⟩
  have eg : ∀ args w, (callFunc 137 args).run Tryz.prog w = .ok (.enter 137 args) w := enters_of Tryz.func137 (by kernel_rfl) rfl
  have hcon := AnyQ.slices_SortFunc Tryz.sortRow 5 agg_row size_row (fun x : RowE F => x.1.1) (fun x => x.2.one.1) (fun x v hv => x.2.one.2 v hv) (fun x y => kcmp x.1.2.1 y.1.2.1) swo_cmp 137 #[] b 0 cap d.toArray w eg (cmp_lays hF) hH hbw (by simpa [hdl] using hl)
  change Calls Tryz.prog 145 _ _ _ at hcon
  have hsz : d.toArray.size = t.length := by simpa using hdl
  rw [hsz] at hcon
  refine Calls.mono hcon fun e w' ⟨he, d', n, os, hp, hs, hw⟩ => ?_
  subst he
  have hsz' : d'.size = t.length := by rw [hp.1, hsz]
  have hp2 : d'.toList.Perm d := by
    have h7 := hp.2.2
    rw [← hsz, Array.extract_size] at h7
    rw [show d'.extract 0 d.toArray.size = d' from by rw [hsz, ← hsz', Array.extract_size]] at h7
    simpa using h7
  have hr' := E_rows d'.toList
  have hperm : t.Perm (d'.toList.map (·.1.2)) := by rw [← hd2]; exact hp2.symm.map _
  have hsrt : srt (d'.toList.map (·.1.2)) := by
    have hnd := hn.perm hperm
    unfold srt
    rw [List.pairwise_iff_getElem]
    intro i j hi hj hij
    have hnd' := List.pairwise_iff_getElem.1 hnd i j hi hj hij
    simp only [List.length_map, Array.length_toList] at hi hj
    have h8 := hs i j (Nat.zero_le _) hij (by omega)
    simp only [ltOf, decide_eq_false_iff_not] at h8
    rw [getElem!_pos d' j (by omega), getElem!_pos d' i (by omega)] at h8
    simp only [List.getElem_map, Array.getElem_toList] at hnd' ⊢
    have h9 := kcmp_neg d'[i].1.2.1 d'[j].1.2.1
    have h10 : kcmp d'[i].1.2.1 d'[j].1.2.1 ≠ 0 := fun e => hnd' (kcmp_eq e)
    omega
  refine ⟨⟨F, upd M b (some (.cells 110 ((d'.toList.map (·.1.1)).flatten ++ rest) tot)), w'.heap.size⟩, ?_, k _ _ _ (Nat.le_trans r.nx (hw ▸ sw_size)) hr' hperm hsrt⟩
  have hat := sw_at (enc := fun x : RowE F => x.1.1) (kk := 5) (n := n) (off := 0) (d := d') (os := os) h4
  have hsw : w.heap.size ≤ w'.heap.size := hw ▸ sw_size
  refine r.turn (w' := w') (b := b) h2 h3 (by rw [hw]; rfl) (by rw [hw]; rfl) (by rw [hw]; rfl) hsw (by omega) (fun q hq hql => by rw [hw]; exact sw_other hq hql) (some _) w'.heap.size (Nat.le_trans r.nx hsw) (Nat.le_refl _) (by omega) ?_ (by rw [hw]; exact Nat.le_add_right _ _)
  refine ⟨_, by rw [hw]; exact hat, by simpa [putCells] using h5, ?_⟩
  have hfl2 := flatK_toList d'.toList
  rw [Array.toArray_toList] at hfl2
  exact put_prefix (a := rows.flatten) hfl2 (by rw [hfl, hr'.flen]; simp [hsz']) h6
theorem sort_none {a : Option Addr} {c : Nat} (k : ∀ N', N ≤ N' → K (.tuple #[]) ⟨F, M, N'⟩) : callv Tryz.prog (.func (.func 145) #[] #[]) #[.slice a 0 c, .func (.func 137) #[] #[]] K E ⟨F, M, N⟩ := by
  refine .inl ⟨by kernel_rfl, fun w0 w _ r => ?_⟩
  have hcon := AnyF.slices_SortFunc_none Tryz.sortRow a c (.func (.func 137) #[] #[]) w
  change Calls Tryz.prog 145 _ _ _ at hcon
  refine Calls.mono hcon fun e w' ⟨he, hw⟩ => ?_
  subst he; subst hw
  exact ⟨⟨F, M, N⟩, r, k N (Nat.le_refl _)⟩
end Go.Proofs.YtgcmbkoejjcjlaaGreatDoor.A
open Go Go.RowKit Go.Proofs.YtgcmbkoejjcjlaaGreatDoor.K Go.Proofs.YtgcmbkoejjcjlaaGreatDoor.T
set_option linter.unusedVariables false
set_option linter.unusedSimpArgs false
namespace Go.Proofs.YtgcmbkoejjcjlaaGreatDoor.A
variable {F F' : Nat → Option (List Value)} {M M' : Nat → Option Chunk} {N N' : Nat} {K : Kont} {E : PanK}
theorem sorted_c {B g bm : Nat} {v : Value} {rows : List (List Value)} {t : List Rw} (h : isSheet F M B g bm v rows t) (hm : clean M N) (hl : t.length ≤ 1099511627776)
    (k : ∀ M' N' rows' t', N ≤ N' → own M' B 110 5 v t'.length rows'.flatten → rowsF (rowD F) 5 rows' t' → t.Perm t' → srt t' → (∀ q, q < B → M' q = M q) → clean M' N' → (Hp.mk F M' N').wf → K v ⟨F, M', N'⟩) :
    callv Tryz.prog (.func (.func 111) #[] #[]) #[.pointer (some ⟨g, 0, none⟩)] K E ⟨F, M, N⟩ := by
  refine callv_of_text mixed Tryz.func111 (by kernel_rfl) (t111 _ E _) (fun hw => ?_)
  have hgg := h.gg
  refine pv_r rfl (pv_r rfl (ldM (v := v) ?_))
  rcases Nat.eq_zero_or_pos t.length with h0 | h0
  · have ht : t = [] := List.eq_nil_of_length_eq_zero h0
    subst ht
    have hoo := h.oo
    obtain ⟨a, c, hv, _⟩ := h.oo.form
    rw [hv]
    refine sort_none (fun N' hN => ?_)
    refine pv_r rfl (pv_r rfl (ldM (v := v) fun hc => ⟨_, wk_refl hc, fun hw' => k M N' rows [] hN h.oo h.rr (List.Perm.refl _) .nil (fun _ _ => rfl) (hm.up hN) hw'⟩))
  · rcases h.oo.2 with ⟨_, hz⟩ | ⟨b, c, rest, rfl, hc1, hc2, hbB, hMb⟩
    · omega
    refine sort_c hMb h.rr h.nd h0 (by omega) (fun N' rows' t' hN hr' hp hs => ?_)
    have hbg : g ≠ b := fun e => h.vg.1 (by rw [e]; rfl)
    have hbN := hm.lt hMb
    refine pv_r rfl (pv_r rfl (ldM (v := .slice (some ⟨b, 0, none⟩) t.length c) ?_ ((upd_ne _ _ hbg).trans hgg)))
    refine fun hc => ⟨_, wk_refl hc, fun hw' => k _ _ rows' t' hN ⟨hr'.flen, .inr ⟨b, c, rest, by rw [hp.length_eq], by rw [← hp.length_eq]; exact hc1, hc2, hbB, upd_same _ _ _⟩⟩ hr' hp hs (fun q hq => upd_ne _ _ (by omega)) ((hm.set hbN _).up hN) hw'⟩
def fr1 (f : Fc) : Rw := (f.1, ofC f.2)
theorem make_c {v : Value} {l : List Fc} (hv : fctsD F v l) (hl : l.length ≤ 1000000000) (hk : ∀ f ∈ l, okK f.1)
    (k : ∀ v' F' N', (Hp.mk F' M N').wf → subF F F' → N ≤ N' → tblD F' v' (tab (l.map fr1)) → K v' ⟨F', M, N'⟩) :
    callv Tryz.prog (.func (.func 74) #[] #[]) #[v] K E ⟨F, M, N⟩ := by
  refine callv_of_text mixed Tryz.func74 (by kernel_rfl) (t74 _ E _) (fun hw => ?_)
  have hm : clean M N := hw.m
  refine blank_c (fun g bm N1 hbm hg hN1 hw1 => ?_)
  obtain ⟨frs, hvs, hrs⟩ := hv
  refine lenF_r hvs ?_
  refine l74_1_1_0_1_0_0 (σ := Nat) (fun i => .int .i64 (i : Nat))
    (fun i h => ∃ F' M' N' v' rows, h = ⟨F', M', N'⟩ ∧ subF F F' ∧ N ≤ N' ∧ (∀ q, q < N → M' q = M q) ∧ clean M' N' ∧ i ≤ l.length ∧ isSheet F' M' N g bm v' rows (sheet ((l.take i).map fr1))) (fun i => l.length - i) 0 rfl
    (fun hwx => ⟨_, wk_refl hwx, F, _, N1, .slice none 0 0, [], rfl, subF.refl _, by omega, fun q hq => (upd_ne _ _ (by omega)).trans (upd_ne _ _ (by omega)), hw1.m, Nat.zero_le _,
      ⟨upd_same _ _ _, by omega, hbm, ⟨#[], 0, (upd_ne _ _ (by omega)).trans (upd_same _ _ _), by simp [mapOK, sheet]⟩, own.nil, rowsF.nil _ _, .nil⟩⟩) (fun k1 i j h1 hI hwx next => ?_)
  rw [t74_1_1_0_1_0_0]
  obtain ⟨F1, M1, N2, v1, rows, rfl, hF1, hN2, hM1, hm1, hi, hS⟩ := hI
  have hsl : ∀ i, (sheet ((l.take i).map fr1)).length ≤ 1000000000 := fun i => by
    have : ∀ (m : List Rw) (s : List Rw), (m.foldl (fun t r => layP t r.1 r.2) s).length ≤ s.length + m.length := by
      intro m
      induction m with
      | nil => intro s; simp
      | cons r m ih => intro s; have := ih (layP s r.1 r.2); have h2 := layP_len s r.1 r.2; simp at this ⊢; omega
    have h3 := this ((l.take i).map fr1) []
    unfold sheet
    rw [List.length_map, List.length_take] at h3
    simp at h3 ⊢; omega
  refine lss_r (fun hlt => ?_) (fun hge => ?_)
  · have hlt' : i < l.length := by omega
    refine cnd_t ?_
    refine row_r (hvs.mono hF1) (hrs.mono fun _ _ h => h.mono hF1) (by decide) hlt' (fun p r _ hR hrl hr1 => ?_)
    obtain ⟨kv, hre, hkv, hkl⟩ := hR
    subst hre
    refine nw_r (fun b1 hb1 => ?_)
    refine stM (cs' := [kv, .int .i64 l[i].2]) ?_ (upd_same _ _ _) rfl rfl (by obtain ⟨a, c, rfl, _⟩ := hkv.form; exact List.all_eq_true.1 rfl)
    refine pv_r rfl (ldM (v := kv) (pv_r rfl (ldM (v := .int .i64 l[i].2) ?_)))
    refine of_c (fun N3 hN3 hw3 => ?_)
    refine ⟨ldV_c (row_M (upd_same _ _ _)) rfl, ?_⟩
    rw [upd_upd] at hw3 ⊢
    have hok := hk l[i] (List.getElem_mem _)
    refine lay_c (hS.keep (subF.refl _) (upd_keep hm1 hb1 _)) hw3.m (by omega) hkv (Nat.le_trans hok.1 (by decide)) hok.2 (by have := hsl i; omega) (fun F4 M4 N4 v4 rows4 hF4 hN4 hS4 hM4 hm4 hw4 => ?_)
    refine inc_r (by omega) ?_
    refine next (i + 1) _ _ (by omega) (fun hw5 => ⟨_, wk_refl hw5, F4, M4, N4, v4, rows4, rfl, hF1.trans hF4, by omega, fun q hq => (hM4 q hq).trans ((upd_ne _ _ (by omega)).trans (hM1 q hq)), hm4, by omega, ?_⟩)
    rw [List.take_add_one, List.getElem?_eq_getElem hlt', Option.toList_some, List.map_append, List.map_singleton, sheet_snoc]
    exact hS4
  · refine cnd_f ?_
    have e : l.take i = l := List.take_of_length_le (by omega)
    have hs2 := hsl i
    rw [e] at hS hs2
    refine sorted_c hS hm1 (by omega) (fun M4 N4 rows4 t' hN4 ho4 hr4 hp hs hM4 hm4 hw4 hc => ?_)
    rw [sheet_sorted hp hs] at ho4 hr4
    have hMM : ∀ q, q < N → M4 q = M q := fun q hq => (hM4 q hq).trans (hM1 q hq)
    exact ⟨_, frz_wf hm hMM hc, fun hw' => k v1 _ N4 hw' (hF1.trans (subF_frzAll hc)) (by omega) (tbl_frz hc ho4 hr4)⟩
end Go.Proofs.YtgcmbkoejjcjlaaGreatDoor.A
open Go Go.RowKit Go.Proofs.YtgcmbkoejjcjlaaGreatDoor.K Go.Proofs.YtgcmbkoejjcjlaaGreatDoor.T
set_option linter.unusedVariables false
set_option linter.unusedSimpArgs false
namespace Go.Proofs.YtgcmbkoejjcjlaaGreatDoor.A
variable {F F' : Nat → Option (List Value)} {M M' : Nat → Option Chunk} {N N' : Nat} {K : Kont} {E : PanK}
theorem layR_tab_len (l : List Rw) : ∀ t : List Rw, (l.foldl (fun t r => layR t r.1 r.2) t).length ≤ t.length + l.length := by
  induction l with
  | nil => intro t; simp
  | cons r l ih => intro t; have := ih (layR t r.1 r.2); have h2 := layR_len t r.1 r.2; simp at this ⊢; omega
theorem tab_len (l : List Rw) : (tab l).length ≤ l.length := by have := layR_tab_len l []; simpa [tab] using this
end Go.Proofs.YtgcmbkoejjcjlaaGreatDoor.A
open Go Go.RowKit Go.Proofs.YtgcmbkoejjcjlaaGreatDoor.K Go.Proofs.YtgcmbkoejjcjlaaGreatDoor.T
set_option linter.unusedVariables false
set_option linter.unusedSimpArgs false
namespace Go.Proofs.YtgcmbkoejjcjlaaGreatDoor.A
variable {F F' : Nat → Option (List Value)} {M M' : Nat → Option Chunk} {N N' : Nat} {K : Kont} {E : PanK}
def CE.ok (c : CE) : Bool := if c.n ≤ 0 then decide (c = ⟨0, 0, 0, 0⟩) else decide (c.lo ≤ c.hi ∧ (c.n > 1 ∨ (c.s = c.lo ∧ c.lo = c.hi)))
theorem sound_c {c : CE} (k : ∀ N', N ≤ N' → (Hp.mk F M N').wf → K (.bool c.ok) ⟨F, M, N'⟩) : callv Tryz.prog (.func (.func 162) #[] #[]) #[.agg c.cs.toArray] K E ⟨F, M, N⟩ := by
  refine callv_of_text mixed Tryz.func162 (by kernel_rfl) (t162 _ E _) (fun hw => ?_)
  have hm := hw.m
  refine nw_r (cs := c.cs) (fun b hb => ?_)
  have fin : ∀ v, v = c.ok → ∀ N', b + 1 ≤ N' → ∀ h', h' = (⟨F, upd M b (some (.cells 108 c.cs c.cs.length)), N'⟩ : Hp) → h'.wf → ∃ h'', h'.wk h'' ∧ (h''.wf → K (.bool v) h'') := fun v e N' hN h' e' hc => by
    subst e; subst e'
    exact ⟨⟨F, M, N'⟩, wk_end hc, fun hw' => k _ (by omega) hw'⟩
  unfold CE.ok at fin
  try simp only [sS]
  refine ldM (v := .int .i64 c.n) ?_
  refine leq_r (fun h => ?_) (fun h => ?_)
  · try simp only [sS]
    refine ldMa (vs := c.cs) ?_
    refine pv_r (v := .agg (CE.mk 0 0 0 0).cs.toArray) (by kernel_rfl) ?_
    refine eqc_r (fin _ (by rw [if_pos h]) _ (Nat.le_refl _) _ rfl)
  · try simp only [sS]
    rw [if_neg h] at fin
    refine ldM (v := .int .i64 c.n) ?_
    refine eql_r (fun h1 => ?_) (fun h1 => ?_)
    · try simp only [sS]
      refine ldMa (vs := c.cs) (ldM (v := .int .i64 c.s) ?_)
      refine of_c (fun N1 hN1 hw1 => ?_)
      refine ⟨ldV_a (row_M (upd_same _ _ _)) (by exact Nat.le_of_ble_eq_true rfl) rfl, ?_⟩
      refine eqc_r (fin _ ?_ _ hN1 _ rfl)
      obtain ⟨c1, c2, c3, c4⟩ := c
      simp only at h1 h ⊢
      subst h1
      congr 1
      simp
      omega
    · try simp only [sS]
      refine ldM (v := .int .i64 c.lo) (ldM (v := .int .i64 c.hi) ?_)
      refine leq_r (fun h2 => ?_) (fun h2 => ?_)
      · exact fin _ (decide_eq_true ⟨h2, .inl (by omega)⟩).symm _ (Nat.le_refl _) _ rfl
      · exact fin _ (decide_eq_false fun q => h2 q.1).symm _ (Nat.le_refl _) _ rfl
theorem neg_c {a : Int} {h : Hp} (k : K (.bool (decide (a < 0))) h) : callv Tryz.prog (.func (.func 164) #[] #[]) #[.int .i64 a] K E h := by
  obtain ⟨F, M, N⟩ := h
  refine callv_of_text mixed Tryz.func164 (by kernel_rfl) (t164 _ E _) (fun hw => ?_)
  refine lss_r (fun h => ?_) (fun h => ?_)
  · rw [decide_eq_true h] at k; exact fun hc => ⟨_, wk_refl hc, fun _ => k⟩
  · rw [decide_eq_false h] at k; exact fun hc => ⟨_, wk_refl hc, fun _ => k⟩
def anyNeg (l : List Int) : Bool := l.any fun x => decide (x < 0)
theorem idx_c {v : Value} {l : List Int} (hv : sF F 1 v l.length (ic l)) (hl : l.length ≤ 140737488351232) (k : ∀ r : Int, (decide (r ≥ 0) = anyNeg l) → K (.int .i64 r) ⟨F, M, N⟩) :
    callv Tryz.prog (.func (.func 181) #[] #[]) #[v, .func (.func 164) #[] #[]] K E ⟨F, M, N⟩ := by
  refine callv_of_text mixed Tryz.func181 (by kernel_rfl) (t181 _ E _ _) (fun hw => ?_)
  refine lenF_r hv ?_
  refine l181_1_0_1_0_0 (σ := Nat) (fun i => .int .i64 (i : Nat)) (fun i h => h = ⟨F, M, N⟩ ∧ i ≤ l.length ∧ anyNeg l = anyNeg (l.drop i)) (fun i => l.length - i) 0 rfl
    (fun hw1 => ⟨_, wk_refl hw1, rfl, Nat.zero_le _, rfl⟩) (fun k1 i j h1 hI hw1 next => ?_)
  rw [t181_1_0_1_0_0]
  obtain ⟨rfl, hi, he⟩ := hI
  refine lss_r (fun hlt => ?_) (fun hge => ?_)
  · have h1 : i < l.length := by omega
    try simp only [sS]
    refine ixn_r hv h1 fun p => neg_c ?_
    rw [List.drop_eq_getElem_cons h1] at he
    by_cases hn : l[i] < 0
    · rw [decide_eq_true hn]
      try simp only [sS]
      refine fun hc => ⟨_, wk_refl hc, fun _ => k _ ?_⟩
      rw [he, decide_eq_true (by omega)]
      unfold anyNeg; rw [List.any_cons, decide_eq_true hn]; rfl
    · rw [decide_eq_false hn]
      try simp only [sS]
      refine inc_r (by omega) ?_
      refine next (i + 1) _ _ (by omega) (fun hw2 => ⟨_, wk_refl hw2, rfl, by omega, ?_⟩)
      rw [he]; unfold anyNeg; rw [List.any_cons, decide_eq_false hn]; rfl
  · try simp only [sS]
    refine fun hc => ⟨_, wk_refl hc, fun _ => k _ ?_⟩
    rw [he, List.drop_eq_nil_of_le (by omega)]; rfl
theorem cont_c {v : Value} {l : List Int} (hv : sF F 1 v l.length (ic l)) (hl : l.length ≤ 140737488351232) (k : K (.bool (anyNeg l)) ⟨F, M, N⟩) :
    callv Tryz.prog (.func (.func 163) #[] #[]) #[v, .func (.func 164) #[] #[]] K E ⟨F, M, N⟩ := by
  refine callv_of_text mixed Tryz.func163 (by kernel_rfl) (t163 _ E _ _) (fun hw => ?_)
  refine idx_c hv hl (fun r hr => ?_)
  refine geq_r (fun h => ?_) (fun h => ?_)
  · rw [decide_eq_true h] at hr; rw [← hr] at k; exact fun hc => ⟨_, wk_refl hc, fun _ => k⟩
  · rw [decide_eq_false h] at hr; rw [← hr] at k; exact fun hc => ⟨_, wk_refl hc, fun _ => k⟩
def okRow (p : Int) (r : Rw) : Bool := decide ((r.1.length : Int) = p) && decide (r.2.n > 0) && r.2.ok && !anyNeg r.1
theorem right_c {cs : List Value} {r : Rw} {p : Int} (hr : rowD F cs r) (k : ∀ N', N ≤ N' → (Hp.mk F M N').wf → K (.bool (okRow p r)) ⟨F, M, N'⟩) :
    callv Tryz.prog (.func (.func 136) #[] #[]) #[.agg cs.toArray, .int .i64 p] K E ⟨F, M, N⟩ := by
  refine callv_of_text mixed Tryz.func136 (by kernel_rfl) (t136 _ E _ _) (fun hw => ?_)
  have hm := hw.m
  obtain ⟨v, rfl, hv, hvl⟩ := hr
  refine nw_r (cs := v :: r.2.cs) (fun b hb => ?_)
  have fin : ∀ v', v' = okRow p r → ∀ N', b + 1 ≤ N' → ∀ h', h' = (⟨F, upd M b (some (.cells 110 (v :: r.2.cs) (v :: r.2.cs).length)), N'⟩ : Hp) → h'.wf → ∃ h'', h'.wk h'' ∧ (h''.wf → K (.bool v') h'') := fun v' e N' hN h' e' hc => by
    subst e; subst e'
    exact ⟨⟨F, M, N'⟩, wk_end hc, fun hw' => k _ (by omega) hw'⟩
  unfold okRow at fin
  try simp only [sS]
  refine ldM (v := v) (lenF_r hv ?_)
  refine eql_r (fun h => ?_) (fun h => ?_)
  · rw [decide_eq_true h] at fin
    try simp only [sS]
    refine ldM (v := .int .i64 r.2.n) ?_
    refine gtr_r (fun h1 => ?_) (fun h1 => ?_)
    · rw [decide_eq_true h1] at fin
      try simp only [sS]
      refine ldMa (vs := r.2.cs) ?_
      refine sound_c (fun N1 hN1 hw1 => ?_)
      cases hk : r.2.ok
      · rw [hk] at fin
        try simp only [sS]
        exact fin _ (by simp) _ hN1 _ rfl
      · rw [hk] at fin
        try simp only [sS]
        refine ldM (v := v) (cont_c hv hvl ?_)
        try simp only [sS]
        exact fin _ (by simp) _ hN1 _ rfl
    · rw [decide_eq_false h1] at fin
      try simp only [sS]
      exact fin _ (by simp) _ (Nat.le_refl _) _ rfl
  · rw [decide_eq_false h] at fin
    try simp only [sS]
    exact fin _ (by simp) _ (Nat.le_refl _) _ rfl
end Go.Proofs.YtgcmbkoejjcjlaaGreatDoor.A
open Go Go.RowKit Go.Proofs.YtgcmbkoejjcjlaaGreatDoor.K Go.Proofs.YtgcmbkoejjcjlaaGreatDoor.T
set_option linter.unusedVariables false
set_option linter.unusedSimpArgs false
namespace Go.Proofs.YtgcmbkoejjcjlaaGreatDoor.A
variable {F F' : Nat → Option (List Value)} {M M' : Nat → Option Chunk} {N N' : Nat} {K : Kont} {E : PanK}
def soundL (p : Int) : Option (List Int) → List Rw → Bool
  | _, [] => true
  | o, r :: t => okRow p r && (match o with | none => true | some k => decide (kcmp k r.1 < 0)) && soundL p (some r.1) t
def soundT (p : Int) (t : List Rw) : Bool := soundL p none t
def prevK (t : List Rw) (i : Nat) : Option (List Int) := if i = 0 then none else (t[i - 1]?).map (·.1)
theorem prevK_succ {t : List Rw} {i : Nat} (h : i < t.length) : prevK t (i + 1) = some t[i].1 := by simp [prevK, h]
theorem soundL_at {p : Int} {t : List Rw} {i : Nat} (h : i < t.length) : soundL p (prevK t i) (t.drop i) = (okRow p t[i] && (if h0 : 0 < i then decide (kcmp (t[i - 1]'(by omega)).1 t[i].1 < 0) else true) && soundL p (prevK t (i + 1)) (t.drop (i + 1))) := by
  rw [List.drop_eq_getElem_cons h, prevK_succ h]
  simp only [soundL]
  congr 2
  unfold prevK
  by_cases h0 : i = 0
  · simp [h0]
  · have : t[i - 1]? = some (t[i - 1]'(by omega)) := List.getElem?_eq_getElem _
    rw [if_neg h0, this, dif_pos (by omega)]
    rfl
theorem tsound_c {v : Value} {t : List Rw} {p : Int} (hv : tblD F v t) (hl : t.length ≤ 140737488351232) (k : ∀ N', N ≤ N' → (Hp.mk F M N').wf → K (.bool (soundT p t)) ⟨F, M, N'⟩) :
    callv Tryz.prog (.func (.func 104) #[] #[]) #[v, .int .i64 p] K E ⟨F, M, N⟩ := by
  refine callv_of_text mixed Tryz.func104 (by kernel_rfl) (t104 _ E _ _) (fun hw => ?_)
  have hm : clean M N := hw.m
  obtain ⟨rows, hv1, hv2⟩ := hv
  refine lenF_r hv1 ?_
  refine l104_1_0_1_0_0 (σ := Nat) (fun i => .int .i64 (i : Nat)) (fun i h => ∃ N', h = ⟨F, M, N'⟩ ∧ N ≤ N' ∧ i ≤ t.length ∧ soundT p t = soundL p (prevK t i) (t.drop i)) (fun i => t.length - i) 0 rfl
    (fun hw1 => ⟨_, wk_refl hw1, _, rfl, Nat.le_refl _, Nat.zero_le _, rfl⟩) (fun k1 i j h1 hI hw1 next => ?_)
  rw [t104_1_0_1_0_0]
  obtain ⟨N1, rfl, hN, hi, he⟩ := hI
  refine lss_r (fun hlt => ?_) (fun hge => ?_)
  · have h1 : i < t.length := by omega
    rw [soundL_at h1] at he
    try simp only [sS]
    refine row_r hv1 hv2 (by decide) h1 fun p' r _ hR _ _ => ?_
    have hRR := hR
    obtain ⟨kv, rfl, hkv, hkl⟩ := hR
    refine nw_r (fun b hb => ?_)
    refine stM (cs' := kv :: t[i].2.cs) ?_ (upd_same _ _ _) rfl rfl (by obtain ⟨a, c, rfl, _⟩ := hkv.form; exact List.all_eq_true.1 rfl)
    refine ldMa (vs := kv :: t[i].2.cs) ?_
    refine right_c hRR (fun N2 hN2 hw2 => ?_)
    have fin : ∀ v', v' = soundT p t → ∀ N', N2 ≤ N' → ∀ h', h' = (⟨F, upd (upd M b (some (.cells 110 [(.slice none 0 0), (.int .i64 0), (.int .i64 0), (.int .i64 0), (.int .i64 0)] [(Value.slice none 0 0), (.int .i64 0), (.int .i64 0), (.int .i64 0), (.int .i64 0)].length))) b (some (.cells 110 (kv :: t[i].2.cs) [(Value.slice none 0 0), (.int .i64 0), (.int .i64 0), (.int .i64 0), (.int .i64 0)].length)), N'⟩ : Hp) → h'.wf → ∃ h'', h'.wk h'' ∧ (h''.wf → K (.bool v') h'') := fun v' e N' hN h' e' hc => by
      subst e; subst e'
      exact ⟨⟨F, M, N'⟩, wk_drop hc (subM_drop (subM_drop (subM_refl _) (hm _ (by omega))) (hm _ (by omega))), fun hw' => k _ (by omega) hw'⟩
    cases hok : okRow p t[i]
    · rw [hok] at he
      try simp only [sS]
      exact fin _ (by rw [he]; rfl) _ (Nat.le_refl _) _ rfl
    · rw [hok] at he
      try simp only [sS]
      have nxt : (if h0 : 0 < i then decide (kcmp (t[i - 1]'(by omega)).1 t[i].1 < 0) else true) = true → ∀ N', N2 ≤ N' → ∀ (X : Value) (jj : Nat → Value), X = .int .i64 ((i + 1 : Nat) : Int) → ∀ h', h' = (⟨F, upd (upd M b (some (.cells 110 [(.slice none 0 0), (.int .i64 0), (.int .i64 0), (.int .i64 0), (.int .i64 0)] [(Value.slice none 0 0), (.int .i64 0), (.int .i64 0), (.int .i64 0), (.int .i64 0)].length))) b (some (.cells 110 (kv :: t[i].2.cs) [(Value.slice none 0 0), (.int .i64 0), (.int .i64 0), (.int .i64 0), (.int .i64 0)].length)), N'⟩ : Hp) → h'.wf → ∃ h'', h'.wk h'' ∧ (∃ N', h'' = ⟨F, M, N'⟩ ∧ N ≤ N' ∧ i + 1 ≤ t.length ∧ soundT p t = soundL p (prevK t (i + 1)) (t.drop (i + 1))) := fun e N' hN X jj hX h' e' hc => by
        subst e'
        exact ⟨⟨F, M, N'⟩, wk_drop hc (subM_drop (subM_drop (subM_refl _) (hm _ (by omega))) (hm _ (by omega))), N', rfl, by omega, h1, by rw [he, e]; rfl⟩
      refine gtr_r (fun hi0 => ?_) (fun hi0 => ?_)
      · have hi0' : 0 < i := by omega
        rw [dif_pos hi0'] at he nxt
        try simp only [sS]
        refine sub_n (b := 1) (by omega) (by omega) ?_
        refine row_r hv1 hv2 (by decide) (show i - 1 < t.length by omega) fun p'' r' _ hR' _ _ => ?_
        refine ldMa (vs := kv :: t[i].2.cs) ?_
        refine less_c hR' hRR (fun N3 hN3 hw3 => ?_)
        refine geq_r (fun hc => ?_) (fun hc => ?_)
        · try simp only [sS]
          exact fin _ (by rw [he, decide_eq_false (by omega)]; rfl) _ hN3 _ rfl
        · try simp only [sS]
          refine inc_r (by omega) ?_
          exact next (i + 1) _ _ (by omega) (fun hw4 => nxt (decide_eq_true (by omega)) _ hN3 _ (fun _ => undef) rfl _ rfl hw4)
      · rw [dif_neg (by omega)] at he nxt
        try simp only [sS]
        refine inc_r (by omega) ?_
        exact next (i + 1) _ _ (by omega) (fun hw4 => nxt rfl _ (Nat.le_refl _) _ (fun _ => undef) rfl _ rfl hw4)
  · try simp only [sS]
    rw [List.drop_eq_nil_of_le (by omega)] at he
    have e2 : soundT p t = true := by rw [he]; rfl
    rw [e2] at k
    exact fun hc => ⟨_, wk_refl hc, fun hw' => k _ hN hw'⟩
end Go.Proofs.YtgcmbkoejjcjlaaGreatDoor.A
open Go Go.RowKit Go.Proofs.YtgcmbkoejjcjlaaGreatDoor.K Go.Proofs.YtgcmbkoejjcjlaaGreatDoor.T
set_option linter.unusedVariables false
set_option linter.unusedSimpArgs false
namespace Go.Proofs.YtgcmbkoejjcjlaaGreatDoor.A
variable {F F' : Nat → Option (List Value)} {M M' : Nat → Option Chunk} {N N' : Nat} {K : Kont} {E : PanK}
end Go.Proofs.YtgcmbkoejjcjlaaGreatDoor.A
open Go Go.RowKit Go.Proofs.YtgcmbkoejjcjlaaGreatDoor.K Go.Proofs.YtgcmbkoejjcjlaaGreatDoor.T
set_option linter.unusedVariables false
set_option linter.unusedSimpArgs false
namespace Go.Proofs.YtgcmbkoejjcjlaaGreatDoor.A
variable {F F' : Nat → Option (List Value)} {M M' : Nat → Option Chunk} {N N' : Nat} {K : Kont} {E : PanK}
theorem callv_go {P : Program} {f : FuncId} {first captured args : Array Value} {h : Hp} (H : h.wf → ∃ h', h.wk h' ∧ callv P (.func (.func f) first captured) args K E h') : callv P (.func (.func f) first captured) args K E h := by
  by_cases hw : h.wf
  · obtain ⟨h', hk, hc⟩ := H hw
    rcases hc with ⟨h1, h2⟩ | h2
    · exact .inl ⟨h1, fun w0 w hl r => h2 w0 w hl (r.wk hk)⟩
    · exact .inr fun w0 w r => h2 w0 w (r.wk hk)
  · exact .inr fun w0 w r => absurd r.wf hw
theorem frz_at {b : Nat} {e : TypeId} {cs : List Value} {tot : Nat} (hb : N ≤ b) (hM : M b = some (.cells e cs tot)) : frzAll F M N b = some cs := by simp [frzAll, hb, hM]
theorem sF_lit {b m c sz : Nat} {cells : List Value} (hF : F b = some cells) (hl : cells.length = m * sz) (hc : m ≤ c) : sF F sz (.slice (some ⟨b, 0, none⟩) m c) m cells :=
  ⟨hl, .inr ⟨b, 0, c, cells, rfl, hc, hF, by rw [List.drop_zero, ← hl, List.take_length]⟩⟩
def wt (l : List (List Int)) : Nat := (l.map fun k => 1 + k.length).sum
end Go.Proofs.YtgcmbkoejjcjlaaGreatDoor.A
open Go Go.RowKit Go.Proofs.YtgcmbkoejjcjlaaGreatDoor.K Go.Proofs.YtgcmbkoejjcjlaaGreatDoor.T
set_option linter.unusedVariables false
set_option linter.unusedSimpArgs false
namespace Go.Proofs.YtgcmbkoejjcjlaaGreatDoor.A
variable {F F' : Nat → Option (List Value)} {M M' : Nat → Option Chunk} {N N' : Nat} {K : Kont} {E : PanK}
theorem keyD {kv : Value} {l : List Int} (h : sF F 1 kv l.length (ic l)) (hl : l.length ≤ 1000) (x : Int) : fctD F [kv, .int .i64 x] (l, x) := ⟨kv, rfl, h, by simp only; omega⟩
theorem fcts_cons {kv : Value} {l : List Int} {x : Int} {rows : List (List Value)} {fs : List Fc} (h : sF F 1 kv l.length (ic l)) (hl : l.length ≤ 1000) (hr : rowsF (fctD F) 2 rows fs) : rowsF (fctD F) 2 ([kv, .int .i64 x] :: rows) ((l, x) :: fs) := by
  have h1 := keyD h hl x
  have := rows_app ((rowsF.nil (fctD F) 2).snoc h1.one.1 h1.one.2 h1) hr
  simpa using this
end Go.Proofs.YtgcmbkoejjcjlaaGreatDoor.A
open Go Go.RowKit Go.Proofs.YtgcmbkoejjcjlaaGreatDoor.K Go.Proofs.YtgcmbkoejjcjlaaGreatDoor.T
set_option linter.unusedVariables false
set_option linter.unusedSimpArgs false
namespace Go.Proofs.YtgcmbkoejjcjlaaGreatDoor.A
variable {F F' : Nat → Option (List Value)} {M M' : Nat → Option Chunk} {N N' : Nat} {K : Kont} {E : PanK}
def tblsD (F : Nat → Option (List Value)) (v : Value) (ts : List (List Rw)) : Prop := ∃ rows, sF F 1 v ts.length rows.flatten ∧ rowsF (fun r t => ∃ u, r = [u] ∧ tblD F u t ∧ t.length ≤ 140737488351232) 1 rows ts
theorem tblsD.mono {v : Value} {ts : List (List Rw)} (h : tblsD F v ts) (hF : subF F F') : tblsD F' v ts := let ⟨rows, h1, h2⟩ := h; ⟨rows, h1.mono hF, h2.mono fun _ _ ⟨u, e, h, l⟩ => ⟨u, e, h.mono hF, l⟩⟩
theorem tof_c {v fv : Value} {l : List Rw} {f : List Int → List Int} (hv : tblD F v l) (hl : l.length ≤ 1000000000) (hk : ∀ r ∈ l, okK (f r.1))
    (hf : ∀ {K : Kont} (F1 : Nat → Option (List Value)) (M1 : Nat → Option Chunk) (N1 : Nat) (r : Rw) (kv : Value), r ∈ l → subF F F1 → (∀ q, q < N → M1 q = M q) → N ≤ N1 → clean M1 N1 → sF F1 1 kv r.1.length (ic r.1) → r.1.length ≤ 140737488351232 →
      (∀ v' F' N', (Hp.mk F' M1 N').wf → subF F1 F' → N1 ≤ N' → sF F' 1 v' (f r.1).length (ic (f r.1)) → K v' ⟨F', M1, N'⟩) → callv Tryz.prog fv #[kv] K E ⟨F1, M1, N1⟩)
    (k : ∀ v' F' N', (Hp.mk F' M N').wf → subF F F' → N ≤ N' → tblD F' v' (tab (l.map fun r => (f r.1, r.2))) → K v' ⟨F', M, N'⟩) :
    callv Tryz.prog (.func (.func 139) #[] #[]) #[v, fv] K E ⟨F, M, N⟩ := by
  refine callv_of_text mixed Tryz.func139 (by kernel_rfl) (t139 _ E _ _) (fun hw => ?_)
  have hm : clean M N := hw.m
  refine blank_c (fun g bm N1 hbm hg hN1 hw1 => ?_)
  obtain ⟨trs, hvs, hrs⟩ := hv
  refine lenF_r hvs ?_
  refine l139_1_1_0_1_0_0 (σ := Nat) (fun i => .int .i64 (i : Nat))
    (fun i h => ∃ F' M' N' v' rows, h = ⟨F', M', N'⟩ ∧ subF F F' ∧ N ≤ N' ∧ (∀ q, q < N → M' q = M q) ∧ clean M' N' ∧ i ≤ l.length ∧ isSheet F' M' N g bm v' rows (sheet ((l.take i).map fun r => (f r.1, r.2)))) (fun i => l.length - i) 0 rfl
    (fun hwx => ⟨_, wk_refl hwx, F, _, N1, .slice none 0 0, [], rfl, subF.refl _, by omega, fun q hq => (upd_ne _ _ (by omega)).trans (upd_ne _ _ (by omega)), hw1.m, Nat.zero_le _,
      ⟨upd_same _ _ _, by omega, hbm, ⟨#[], 0, (upd_ne _ _ (by omega)).trans (upd_same _ _ _), by simp [mapOK, sheet]⟩, own.nil, rowsF.nil _ _, .nil⟩⟩) (fun k1 i j h1 hI hwx next => ?_)
  rw [t139_1_1_0_1_0_0]
  obtain ⟨F1, M1, N2, v1, rows, rfl, hF1, hN2, hM1, hm1, hi, hS⟩ := hI
  have hsl : ∀ i, (sheet ((l.take i).map fun r => (f r.1, r.2))).length ≤ 1000000000 := fun i => by
    have : ∀ (m : List Rw) (s : List Rw), (m.foldl (fun t r => layP t r.1 r.2) s).length ≤ s.length + m.length := by
      intro m
      induction m with
      | nil => intro s; simp
      | cons r m ih => intro s; have := ih (layP s r.1 r.2); have h2 := layP_len s r.1 r.2; simp at this ⊢; omega
    have h3 := this ((l.take i).map fun r => (f r.1, r.2)) []
    unfold sheet
    rw [List.length_map, List.length_take] at h3
    simp at h3 ⊢; omega
  refine lss_r (fun hlt => ?_) (fun hge => ?_)
  · have hlt' : i < l.length := by omega
    refine cnd_t ?_
    refine row_r (hvs.mono hF1) (hrs.mono fun _ _ h => h.mono hF1) (by decide) hlt' (fun p r _ hR hrl hr1 => ?_)
    obtain ⟨kv, hre, hkv, hkl⟩ := hR
    subst hre
    refine nw_r (fun b1 hb1 => ?_)
    refine stM (cs' := kv :: l[i].2.cs) ?_ (upd_same _ _ _) rfl rfl hr1
    refine pv_r rfl (ldM (v := kv) (pv_r rfl (ldMa (vs := l[i].2.cs) ?_)))
    rw [upd_upd]
    refine hf F1 _ _ l[i] kv (List.getElem_mem _) hF1 (fun q hq => (upd_ne _ _ (by omega)).trans (hM1 q hq)) (by omega) (hm1.new hb1 _) hkv hkl (fun v2 F2 N3 hw3 hF2 hN3 hv2 => ?_)
    refine ⟨ldV_a (row_M (upd_same _ _ _)) (by exact Nat.le_of_ble_eq_true rfl) rfl, ?_⟩
    have hok := hk l[i] (List.getElem_mem _)
    refine lay_c (hS.keep hF2 (upd_keep hm1 hb1 _)) hw3.m (by omega) hv2 (Nat.le_trans hok.1 (by decide)) hok.2 (by have := hsl i; omega) (fun F4 M4 N4 v4 rows4 hF4 hN4 hS4 hM4 hm4 hw4 => ?_)
    refine inc_r (by omega) ?_
    refine next (i + 1) _ _ (by omega) (fun hw5 => ⟨_, wk_refl hw5, F4, M4, N4, v4, rows4, rfl, (hF1.trans hF2).trans hF4, by omega, fun q hq => (hM4 q hq).trans ((upd_ne _ _ (by omega)).trans (hM1 q hq)), hm4, by omega, ?_⟩)
    rw [List.take_add_one, List.getElem?_eq_getElem hlt', Option.toList_some, List.map_append, List.map_singleton, sheet_snoc]
    exact hS4
  · refine cnd_f ?_
    have e : l.take i = l := List.take_of_length_le (by omega)
    have hs2 := hsl i
    rw [e] at hS hs2
    refine sorted_c hS hm1 (by omega) (fun M4 N4 rows4 t' hN4 ho4 hr4 hp hs hM4 hm4 hw4 hc => ?_)
    rw [sheet_sorted hp hs] at ho4 hr4
    have hMM : ∀ q, q < N → M4 q = M q := fun q hq => (hM4 q hq).trans (hM1 q hq)
    exact ⟨_, frz_wf hm hMM hc, fun hw' => k v1 _ N4 hw' (hF1.trans (subF_frzAll hc)) (by omega) (tbl_frz hc ho4 hr4)⟩
end Go.Proofs.YtgcmbkoejjcjlaaGreatDoor.A
open Go Go.RowKit Go.Proofs.YtgcmbkoejjcjlaaGreatDoor.K Go.Proofs.YtgcmbkoejjcjlaaGreatDoor.T
set_option linter.unusedVariables false
set_option linter.unusedSimpArgs false
namespace Go.Proofs.YtgcmbkoejjcjlaaGreatDoor.A
variable {F F' : Nat → Option (List Value)} {M M' : Nat → Option Chunk} {N N' : Nat} {K : Kont} {E : PanK}
theorem push_r {B : Nat} {e : TypeId} {sz bytes n : Nat} {v : Value} {cs : List Value} {cells : Option (Array Value)} {new : List Value} {K : Value → Kont} (h : own M B e sz v n cs) (hm : clean M N) (hB : B ≤ N) (hc : cells = some new.toArray) (hl : new.length = sz) (h1 : ∀ c ∈ new, c.oneCell' = true) (hb : (n + 1) * bytes ≤ 140737488355328) (hn : n + 1 ≤ maxLen)
    (k : ∀ p v' M' N', own M' B e sz v' (n + 1) (cs ++ new) → fr M M' N v v' → N ≤ N' → clean M' N' → K p v' ⟨F, M', N'⟩) : nws e 1 cells (fun t => appX e sz bytes v t (K t)) ⟨F, M, N⟩ := by
  refine nws_r (cs := new) hc (fun b hb' => ?_)
  have hbne : v.ownBlock ≠ some b := fun e => by have := h.lt hm b e; omega
  have h2 : own (upd M b (some (.cells e new new.length))) B e sz v n cs := h.keep (fun q hq => upd_ne _ _ (fun e => hbne (e ▸ hq))) (Nat.le_refl _)
  refine h2.app (m := 1) (news := new) (hm.new hb' _) (by omega) ⟨by omega, .inr ⟨b, 0, 1, _, rfl, Nat.le_refl _, .inr ⟨_, _, upd_same _ _ _⟩, by rw [List.drop_zero, List.take_of_length_le (by omega)]⟩⟩ h1 hb hn (fun v' M' N' h3 h4 h5 h6 => ?_)
  exact k _ v' M' N' h3 (fun q hq hqN => ⟨((h4 q hq (by omega)).1).trans (upd_ne _ _ (by omega)), (h4 q hq (by omega)).2⟩) (by omega) h6
def allC (l : List Int) : CE := l.foldl (fun c x => c.rmerge (ofC x)) ⟨0, 0, 0, 0⟩
end Go.Proofs.YtgcmbkoejjcjlaaGreatDoor.A
open Go Go.RowKit Go.Proofs.YtgcmbkoejjcjlaaGreatDoor.K Go.Proofs.YtgcmbkoejjcjlaaGreatDoor.T
set_option linter.unusedVariables false
set_option linter.unusedSimpArgs false
namespace Go.Proofs.YtgcmbkoejjcjlaaGreatDoor.A
variable {F F' : Nat → Option (List Value)} {M M' : Nat → Option Chunk} {N N' : Nat} {K : Kont} {E : PanK}
abbrev Dm := Int × List Int
def dimD (F : Nat → Option (List Value)) (cs : List Value) (d : Dm) : Prop := ∃ v, cs = [.int .i64 d.1, v] ∧ sF F 1 v d.2.length (ic d.2) ∧ d.2.length ≤ 140737488351232
theorem dimD.mono {cs : List Value} {d : Dm} (h : dimD F cs d) (hF : subF F F') : dimD F' cs d := let ⟨v, h1, h2, h3⟩ := h; ⟨v, h1, h2.mono hF, h3⟩
theorem dimD.one {cs : List Value} {d : Dm} (h : dimD F cs d) : cs.length = 2 ∧ ∀ c ∈ cs, c.oneCell' = true := by
  obtain ⟨v, rfl, hv, _⟩ := h
  obtain ⟨a, c, rfl, _⟩ := hv.form
  exact ⟨rfl, List.all_eq_true.1 rfl⟩
def dimsD (F : Nat → Option (List Value)) (v : Value) (l : List Dm) : Prop := ∃ rows, sF F 2 v l.length rows.flatten ∧ rowsF (dimD F) 2 rows l
theorem dimsD.mono {v : Value} {t : List Dm} (h : dimsD F v t) (hF : subF F F') : dimsD F' v t := let ⟨rows, h1, h2⟩ := h; ⟨rows, h1.mono hF, h2.mono fun _ _ hr => hr.mono hF⟩
theorem dimsD.form {v : Value} {t : List Dm} (h : dimsD F v t) : ∃ a c, v = .slice a t.length c := let ⟨rows, h1, _⟩ := h; let ⟨a, c, h2, _⟩ := h1.form; ⟨a, c, h2⟩
def ick (k : IntKind) (l : List Int) : List Value := l.map (.int k)
theorem ixk_r {k : IntKind} {v : Value} {l : List Int} (hv : sF F 1 v l.length (ick k l)) {i : Nat} {K : Value → Kont} (hi : i < l.length) (kk : ∀ p, K p (.int k l[i]) ⟨F, M, N⟩) :
    pv (iaV none 1 v (.int .i64 (i : Nat))) (fun p => ld false 1 p (K p)) ⟨F, M, N⟩ := by
  obtain ⟨b, o, c, rfl, cs, hF, _, hcs⟩ := hv.at (by decide) hi
  exact iaN_r hi (ld_r (ldV_c (row_F hF) (by rw [Nat.mul_one, hcs i (by omega)]; simp [ick, hi])) (kk _))
theorem rem_n {e : EqK} {k : IntKind} {a b : Nat} {h : Hp} (hb : 0 < b) (kk : K (.int k ((a % b : Nat) : Int)) h) : pv (binV e .rem (.int k (a : Nat)) (.int k (b : Nat))) K h :=
  ⟨_, by rw [inV]; simp only [intV]; rw [if_neg (by omega)], by rw [show Int.tmod (a : Int) (b : Int) = ((a % b : Nat) : Int) from rfl]; exact kk⟩
theorem cv_i64 {k : IntKind} {a : Nat} {h : Hp} (h1 : a ≤ 9223372036854775807) (kk : K (.int .i64 (a : Nat)) h) : pv (cvV .i64 (.int k (a : Nat))) K h :=
  ⟨_, rfl, by rw [wrap_in (by omega) (by omega)]; exact kk⟩
theorem mul_n {e : EqK} {a b : Nat} {h : Hp} (h2 : a * b ≤ 9223372036854775807) (k : K (.int .i64 ((a * b : Nat) : Int)) h) : pv (binV e .mul (.int .i64 a) (.int .i64 b)) K h :=
  ⟨_, by rw [inV]; rfl, by rw [← Int.natCast_mul, wrap_in (by omega) (by omega)]; exact k⟩
def keyOf (l : List Dm) (c : List Int) : List Int := l.mapIdx fun i d => (c.getD i 0) % d.1
theorem keyOf_len (l : List Dm) (c : List Int) : (keyOf l c).length = l.length := by simp [keyOf]
theorem keyOf_take (l : List Dm) (c : List Int) {i : Nat} (h : i < l.length) : keyOf (l.take (i + 1)) c = keyOf (l.take i) c ++ [(c.getD i 0) % l[i].1] := by
  unfold keyOf
  rw [List.take_add_one, List.getElem?_eq_getElem h, Option.toList_some, List.mapIdx_concat, List.length_take, Nat.min_eq_left (by omega)]
set_option maxRecDepth 10000 in
theorem key_c {u v : Value} {l : List Dm} {c : List Int} (hu : dimsD F u l) (hv : sF F 1 v c.length (ick .u16 c)) (hl : l.length ≤ 1000000) (hs : ∀ d ∈ l, 0 < d.1 ∧ d.1 ≤ 1000000) (hc : ∀ x ∈ c, 0 ≤ x ∧ x < 65536) (hcl : c.length ≤ 140737488351232)
    (k : ∀ v' F' N', (Hp.mk F' M N').wf → subF F F' → N ≤ N' → sF F' 1 v' (keyOf l c).length (ic (keyOf l c)) → K v' ⟨F', M, N'⟩) :
    callv Tryz.prog (.func (.func 43) #[] #[]) #[u, v] K E ⟨F, M, N⟩ := by
  refine callv_of_text mixed Tryz.func43 (by kernel_rfl) (t43 _ E _ _) (fun hw => ?_)
  have hm : clean M N := hw.m
  obtain ⟨rows, hu1, hu2⟩ := hu
  have hlu : lenV u = some (.int .i64 (l.length : Nat)) := by obtain ⟨a, c, rfl, _⟩ := hu1.form; rfl
  have hlv : lenV v = some (.int .i64 (c.length : Nat)) := by obtain ⟨a, c, rfl, _⟩ := hv.form; rfl
  refine l43_1_1_0_1_0_0 (σ := Nat × Value) (fun s => s.2) (fun s => .int .i64 (s.1 : Nat))
    (fun s h => ∃ M' N', h = ⟨F, M', N'⟩ ∧ N ≤ N' ∧ (∀ q, q < N → M' q = M q) ∧ clean M' N' ∧ s.1 ≤ l.length ∧ own M' N 3 1 s.2 s.1 (ic (keyOf (l.take s.1) c))) (fun s => l.length - s.1) (0, .slice none 0 0) rfl rfl
    (fun hw2 => ⟨_, wk_refl hw2, M, N, rfl, Nat.le_refl _, fun _ _ => rfl, hm, Nat.zero_le _, own.nil⟩) (fun k1 s j h1 hI hw2 next => ?_)
  rw [t43_1_1_0_1_0_0]
  obtain ⟨M2, N2, rfl, hN2, hM2, hm2, hi, ho2⟩ := hI
  try simp only [hlu, hlv]
  try simp only [sS]
  refine lss_r (fun hlt => ?_) (fun hge => ?_)
  · have h1 : s.1 < l.length := by omega
    obtain ⟨d1, d2⟩ := hs l[s.1] (List.getElem_mem _)
    try simp only [sS]
    have nat : ∀ x : Int, 0 ≤ x → x < 65536 → x = c.getD s.1 0 → ∃ n : Nat, x = n ∧ n < 65536 ∧ (c.getD s.1 0) % l[s.1].1 = ((n % l[s.1].1.toNat : Nat) : Int) := fun x h0 h1 e => ⟨x.toNat, by omega, by omega, by
      rw [← e, Int.natCast_emod, Int.toNat_of_nonneg h0, Int.toNat_of_nonneg (by omega)]⟩
    refine lss_r (fun hlt2 => ?_) (fun hge2 => ?_)
    have h2 : s.1 < c.length := by omega
    try simp only [sS]
    refine ixk_r hv h2 fun p => ?_
    obtain ⟨x0, x1⟩ := hc c[s.1] (List.getElem_mem _)
    obtain ⟨n, hn, hn1, hn2⟩ := nat c[s.1] x0 x1 (by simp [List.getD_eq_getElem?_getD, h2])
    rw [hn]
    refine cv_i64 (a := n) (by omega) ?_
    rotate_left
    try simp only [sS]
    have hg : c.getD s.1 0 = 0 := by rw [List.getD_eq_getElem?_getD, List.getElem?_eq_none (by omega)]; rfl
    obtain ⟨n, hn0, hn2⟩ : ∃ n : Nat, (.int .i64 0 : Value) = .int .i64 (n : Nat) ∧ (c.getD s.1 0) % l[s.1].1 = ((n % l[s.1].1.toNat : Nat) : Int) := ⟨0, rfl, by rw [hg]; simp⟩
    rw [hn0]
    all_goals
      rw [t43_1_1_0_1_0_0_1_0_0_1_1]
      refine fld_r hu1 hu2 (by decide) h1 (off := 0) (by decide) fun p q r x hR _ hx => ?_
      obtain ⟨kv, rfl, hkv', hkl⟩ := hR
      simp at hx
      subst hx
      rw [show l[s.1].1 = ((l[s.1].1.toNat : Nat) : Int) by omega]
      refine rem_n (by omega) ?_
      refine push_r (new := [.int .i64 ((n % l[s.1].1.toNat : Nat) : Int)]) ho2 hm2 hN2 (by kernel_rfl) rfl (List.all_eq_true.1 rfl) (by omega) (by unfold maxLen; omega) (fun p v' M3 N3 h4 h5 h6 h7 => ?_)
      refine inc_r (by omega) ?_
      refine next (s.1 + 1, v') _ _ (by simp only; omega) (fun hw3 => ⟨_, wk_refl hw3, M3, N3, rfl, by omega, fun q hq => ?_, h7, h1, ?_⟩)
      · exact ((h5 q (fun e => by have := (ho2.ge q e).1; omega) (by omega)).1).trans (hM2 q hq)
      · simp only
        rw [keyOf_take l c h1, hn2]
        simpa [ic] using h4
  · try simp only [sS]
    rw [List.take_of_length_le (by omega)] at ho2
    refine fun hc' => ⟨_, frz_wf hm hM2 hc', fun hw' => k _ _ _ hw' (subF_frzAll hc') hN2 ?_⟩
    have := ho2.rd.frz hc' (fun b hb => .inl (ho2.ge b hb).1)
    rw [keyOf_len]
    rw [show s.1 = l.length by omega] at this
    exact this
end Go.Proofs.YtgcmbkoejjcjlaaGreatDoor.A
open Go Go.RowKit Go.Proofs.YtgcmbkoejjcjlaaGreatDoor.K Go.Proofs.YtgcmbkoejjcjlaaGreatDoor.T
set_option linter.unusedVariables false
set_option linter.unusedSimpArgs false
namespace Go.Proofs.YtgcmbkoejjcjlaaGreatDoor.A
variable {F F' : Nat → Option (List Value)} {M M' : Nat → Option Chunk} {N N' : Nat} {K : Kont} {E : PanK}
theorem own.box {B : Nat} {e : TypeId} {sz n : Nat} {v : Value} {cs : List Value} (h : own M B e sz v n cs) (hm : clean M N) {b : Nat} (hb : N ≤ b) (x : Option Chunk) : own (upd M b x) B e sz v n cs :=
  h.keep (fun q hq => upd_ne _ _ (fun e => by have := h.lt hm q hq; omega)) (Nat.le_refl _)
def kksD (k : IntKind) (F : Nat → Option (List Value)) (v : Value) (ks : List (List Int)) : Prop := ∃ rows, sF F 1 v ks.length rows.flatten ∧ rowsF (fun r c => ∃ u, r = [u] ∧ sF F 1 u c.length (ick k c) ∧ c.length ≤ 140737488351232) 1 rows ks
theorem kksD.mono {k : IntKind} {v : Value} {ks : List (List Int)} (h : kksD k F v ks) (hF : subF F F') : kksD k F' v ks := let ⟨rows, h1, h2⟩ := h; ⟨rows, h1.mono hF, h2.mono fun _ _ ⟨u, e, h, l⟩ => ⟨u, e, h.mono hF, l⟩⟩
theorem kk_r {k : IntKind} {v : Value} {ts : List (List Int)} {K : Value → Kont} (hv : kksD k F v ts) {i : Nat} (hi : i < ts.length) (kk : ∀ p u, sF F 1 u ts[i].length (ick k ts[i]) → ts[i].length ≤ 140737488351232 → K p u ⟨F, M, N⟩) : pv (iaV none 1 v (.int .i64 (i : Nat))) (fun p => ld false 1 p (K p)) ⟨F, M, N⟩ := by
  obtain ⟨rows, h1, h2⟩ := hv
  obtain ⟨b, o, c, cs, r, rfl, hF, _, ⟨u, rfl, hu, hul⟩, hl, _, hle, ht, hj⟩ := row_at h1 h2 (by decide) hi
  exact iaN_r hi (ld_r (ldV_c (row_F hF) (hj 0 (by decide))) (kk _ _ hu hul))
def factsOf (l : List Dm) (ks : List (List Int)) (v : List Int) : List Fc := (ks.take 200).mapIdx fun i c => (keyOf l c, v.getD (i % v.length) 0)
theorem factsOf_len (l : List Dm) (ks : List (List Int)) (v : List Int) : (factsOf l ks v).length = min 200 ks.length := by simp [factsOf]
theorem mapIdx_take {α β : Type} (f : Nat → α → β) (l : List α) {i : Nat} (h : i < l.length) : (l.take (i + 1)).mapIdx f = (l.take i).mapIdx f ++ [f i l[i]] := by
  rw [List.take_add_one, List.getElem?_eq_getElem h, Option.toList_some, List.mapIdx_concat, List.length_take, Nat.min_eq_left (by omega)]
theorem rowsF_snoc1 {α : Type} {R : List Value → α → Prop} {sz : Nat} {rows : List (List Value)} {xs : List α} (h : rowsF R sz rows xs) {r : List Value} {x : α} (h1 : r.length = sz ∧ ∀ c ∈ r, c.oneCell' = true) (hr : R r x) : rowsF R sz (rows ++ [r]) (xs ++ [x]) := h.snoc h1.1 h1.2 hr
set_option maxRecDepth 10000 in
theorem facts_c {u v w : Value} {l : List Dm} {ks : List (List Int)} {c : List Int} (hu : dimsD F u l) (hv : kksD .u16 F v ks) (hw' : sF F 1 w c.length (ic c)) (hl : l.length ≤ 1000000) (hs : ∀ d ∈ l, 0 < d.1 ∧ d.1 ≤ 1000000) (hc : ∀ k ∈ ks, ∀ x ∈ k, 0 ≤ x ∧ x < 65536) (hkl : ks.length ≤ 140737488351232) (hcl : c.length ≤ 140737488351232)
    (k : ∀ v' F' N', (Hp.mk F' M N').wf → subF F F' → N ≤ N' → fctsD F' v' (factsOf l ks c) → K v' ⟨F', M, N'⟩) :
    callv Tryz.prog (.func (.func 20) #[] #[]) #[u, v, w] K E ⟨F, M, N⟩ := by
  refine callv_of_text mixed Tryz.func20 (by kernel_rfl) (t20 _ E _ _ _) (fun hw => ?_)
  have hm : clean M N := hw.m
  have hlv : lenV v = some (.int .i64 (ks.length : Nat)) := by obtain ⟨rows, h1, _⟩ := hv; obtain ⟨a, c, rfl, _⟩ := h1.form; rfl
  have hlw : lenV w = some (.int .i64 (c.length : Nat)) := by obtain ⟨a, c, rfl, _⟩ := hw'.form; rfl
  refine l20_1_1_0_1_0_0 (σ := Nat × Value) (fun s => s.2) (fun s => .int .i64 (s.1 : Nat))
    (fun s h => ∃ F' M' N' rows, h = ⟨F', M', N'⟩ ∧ subF F F' ∧ N ≤ N' ∧ (∀ q, q < N → M' q = M q) ∧ clean M' N' ∧ s.1 ≤ ks.length ∧ s.1 ≤ 200 ∧ own M' N 90 2 s.2 s.1 rows.flatten ∧ rowsF (fctD F') 2 rows ((ks.take s.1).mapIdx fun i k => (keyOf l k, c.getD (i % c.length) 0))) (fun s => 200 - s.1) (0, .slice none 0 0) rfl rfl
    (fun hw2 => ⟨_, wk_refl hw2, F, M, N, [], rfl, subF.refl _, Nat.le_refl _, fun _ _ => rfl, hm, Nat.zero_le _, Nat.zero_le _, own.nil, rowsF.nil _ _⟩) (fun k1 s j h1 hI hw2 next => ?_)
  rw [t20_1_1_0_1_0_0]
  obtain ⟨F2, M2, N2, rows, rfl, hF2, hN2, hM2, hm2, hi, hi2, ho2, hr2⟩ := hI
  have fin : (¬ s.1 < ks.length ∨ ¬ s.1 < 200) → ∀ h', h' = (⟨F2, M2, N2⟩ : Hp) → h'.wf → ∃ h'', h'.wk h'' ∧ (h''.wf → K s.2 h'') := fun hend h' e hc' => by
    subst e
    have e1 : ks.take s.1 = ks.take 200 := by
      rcases hend with h | h
      · rw [List.take_of_length_le (by omega), List.take_of_length_le (by omega)]
      · rw [show s.1 = 200 by omega]
    have e2 : s.1 = (factsOf l ks c).length := by
      rw [factsOf_len]
      rcases hend with h | h <;> omega
    refine ⟨_, frz_wf hm hM2 hc', fun hw' => k _ _ _ hw' (hF2.trans (subF_frzAll hc')) hN2 ⟨rows, ?_, ?_⟩⟩
    · have := ho2.rd.frz hc' (fun b hb => .inl (ho2.ge b hb).1)
      rw [← e2]; exact this
    · unfold factsOf
      rw [← e1]; exact hr2.mono fun _ _ h => h.mono (subF_frzAll hc')
  try simp only [hlv]
  try simp only [sS]
  refine lss_r (fun hlt => ?_) (fun hge => ?_)
  · try simp only [sS]
    refine lss_r (fun hlt2 => ?_) (fun hge2 => ?_)
    · have h1 : s.1 < ks.length := by omega
      try simp only [sS]
      refine kk_r (hv.mono hF2) h1 fun p kv hkv hkvl => ?_
      refine key_c (hu.mono hF2) hkv hl hs (hc _ (List.getElem_mem _)) hkvl (fun key F3 N3 hw3 hF3 hN3 hkey => ?_)
      obtain ⟨ka, kc, hkf, _⟩ := hkey.form
      refine pv_r (v := .agg #[key, .int .i64 0]) (by rw [hkf]; kernel_rfl) ?_
      refine nw_r (fun b1 hb1 => ?_)
      refine stM (cs' := [key, .int .i64 0]) ?_ (upd_same _ _ _) rfl rfl (by rw [hkf]; exact List.all_eq_true.1 rfl)
      rw [upd_upd]
      try simp only [hlw]
      try simp only [sS]
      have hm3 := hm2.up hN3
      have hb1 : ∀ x, own (upd M2 b1 x) N 90 2 s.2 s.1 rows.flatten := fun x => ho2.box hm3 (by omega) x
      refine gtr_r (fun h0 => ?_) (fun h0 => ?_)
      try simp only [sS]
      refine rem_n (a := s.1) (b := c.length) (by omega) ?_
      have hmod : s.1 % c.length < c.length := Nat.mod_lt _ (by omega)
      refine ixn_r ((hw'.mono hF2).mono hF3) hmod fun p => ?_
      refine stM (cs' := [key, .int .i64 c[s.1 % c.length]]) ?_ (upd_same _ _ _) rfl rfl (List.all_eq_true.1 rfl) (by exact Nat.le_of_ble_eq_true rfl)
      rw [upd_upd]
      obtain ⟨n, hn, hn2⟩ : ∃ n, c[s.1 % c.length] = n ∧ n = c.getD (s.1 % c.length) 0 := ⟨_, rfl, by rw [List.getD_eq_getElem?_getD, List.getElem?_eq_getElem hmod]; rfl⟩
      rw [hn]
      rotate_left
      try simp only [sS]
      obtain ⟨n, hn, hn2⟩ : ∃ n : Int, (0 : Int) = n ∧ n = c.getD (s.1 % c.length) 0 := ⟨_, rfl, by rw [List.getD_eq_getElem?_getD, List.getElem?_eq_none (by omega)]; rfl⟩
      rw [show ([key, .int .i64 0] : List Value) = [key, .int .i64 n] by rw [← hn]]
      all_goals
        rw [t20_1_1_0_1_0_0_1_0_0_1_1]
        refine ldMa (vs := [key, .int .i64 n]) ?_ (upd_same _ _ _)
        refine push_r (new := [key, .int .i64 n]) (hb1 _) (hm3.new (by omega) _) (by omega) (by rw [hkf]; kernel_rfl) rfl (by rw [hkf]; exact List.all_eq_true.1 rfl) (by omega) (by unfold maxLen; omega) (fun p v' M4 N4 h4 h5 h6 h7 => ?_)
        refine inc_r (by omega) ?_
        refine next (s.1 + 1, v') _ _ (by simp only; omega) (fun hw3 => ⟨_, wk_refl hw3, F3, M4, N4, rows ++ [[key, .int .i64 n]], rfl, hF2.trans hF3, by omega, fun q hq => ?_, h7, h1, by simp only; omega, ?_, ?_⟩)
        · exact ((h5 q (fun e => by have := (ho2.ge q e).1; omega) (by omega)).1).trans ((upd_ne _ _ (by omega)).trans (hM2 q hq))
        · simpa using h4
        · simp only
          rw [mapIdx_take _ ks h1]
          have hr1 : fctD F3 [key, .int .i64 n] (keyOf l ks[s.1], c.getD (s.1 % c.length) 0) := ⟨key, by rw [← hn2], hkey, by simp only; rw [keyOf_len]; omega⟩
          exact rowsF_snoc1 (hr2.mono fun _ _ h => h.mono hF3) hr1.one hr1
    · try simp only [sS]
      exact fin (by omega) _ rfl
  · try simp only [sS]
    exact fin (by omega) _ rfl
end Go.Proofs.YtgcmbkoejjcjlaaGreatDoor.A
open Go Go.RowKit Go.Proofs.YtgcmbkoejjcjlaaGreatDoor.K Go.Proofs.YtgcmbkoejjcjlaaGreatDoor.T
set_option linter.unusedVariables false
set_option linter.unusedSimpArgs false
namespace Go.Proofs.YtgcmbkoejjcjlaaGreatDoor.A
variable {F F' : Nat → Option (List Value)} {M M' : Nat → Option Chunk} {N N' : Nat} {K : Kont} {E : PanK}
open Go.MapKept
theorem redrawn_rep {w0 w : World} {h : Hp} {d : Nat} (r : Rep w0 h { w with drawn := d }) (hd : w0.drawn ≤ w.drawn) : Rep w0 h w :=
  ⟨⟨r.below.os, r.below.tape, r.below.output, r.below.size, r.below.block⟩, hd, r.nx, r.base, r.fr, r.cl, r.ob⟩
structure mapK (es : Array MapEntry) (clock : Nat) : Prop where
  st : Stamped es clock
  ks : ∀ x ∈ es.toList, ∃ id : Int, x.key = .int .u32 id ∧ 0 ≤ id ∧ id < 4294967296
  sz : es.size ≤ 1000000
theorem u32_wf {x : Int} (h0 : 0 ≤ x) (h1 : x < 4294967296) : (Lit.int .u32 x).wf = true := by
  simp [Lit.wf, IntKind.min, IntKind.max, IntKind.bits, IntKind.signed]; omega
theorem collectK_c {bm mb : Nat} {es : Array MapEntry} {clock : Nat} (hE : E [] badH) (hbm : F bm = some [.map (some mb)]) (hmb : M mb = some (.obj (.map es clock))) (hK : mapK es clock)
    (k : ∀ v' (ss : List Int) M' N', ss.Nodup → (∀ x : Int, x ∈ ss ↔ ∃ e ∈ es.toList, e.key = .int .u32 x) → own M' N 30 1 v' ss.length (ss.map (Value.int .u32)) → (∀ q, q < N → M' q = M q) → N ≤ N' → clean M' N' → K v' ⟨F, M', N'⟩) :
    callv Tryz.prog (.func (.func 69) #[] #[]) #[.func (.func 71) #[] #[.pointer (some ⟨bm, 0, none⟩)]] K E ⟨F, M, N⟩ := by
  refine .inl ⟨by kernel_rfl, fun w0 w hl r => ?_⟩
  have hd0 := hl hE
  have hm : clean M N := r.wf.m
  obtain ⟨q1, q2, q3, hb, _⟩ := r.ob mb _ hmb
  have hcell : w.cell? ⟨bm, 0, none⟩ = some (.map (some mb)) := r.cell (cs := [.map (some mb)]) (.inl hbm) rfl
  have hbw : bm < w.heap.size := by have := (r.fr bm _ hbm).1; exact Nat.lt_of_lt_of_le this r.nx
  have hrd : ∀ e ∈ es.toList, ∀ id, e.key = .int .u32 id → 0 ≤ id → id < 4294967296 → WideElems.rd (H := Unit) Tryz.prog 30 rAny e = some (.int .u32 id, .lit (.bool true)) := fun e he id h1 h2 h3 => by
    unfold WideElems.rd
    rw [h1, Maps.keyOf_int_mk Tryz.underlying30 (u32_wf h2 h3)]
    rfl
  have hfit : WideElems.Fit (H := Unit) Tryz.prog 30 rAny es clock := ⟨by have := hK.sz; unfold maxLen; omega, hK.st, fun x hx => let ⟨id, h1, h2, h3⟩ := hK.ks x hx; ⟨_, hrd x hx id h1 h2 h3⟩⟩
  have hown := World.ownsMap_of_fit (w := w) (b := mb) hb hfit (R := rAny) (fun _ _ _ h => h)
  generalize hD : (DataW.map ((es.toList.map (WideElems.rg Tryz.prog 30 rAny)).foldr DataW.insert []) : DataW Unit) = D0 at hown
  have hsize : Maps.size D0 = es.size := by
    rw [← hD, Maps.size_eq, (WideShapes.sorted_perm _).length_eq, List.length_map, Array.length_toList]
  have hhas : ∀ x : Int, Maps.has D0 (.int .u32 x) = true ↔ ∃ e ∈ es.toList, e.key = .int .u32 x := fun x => by
    rw [← hD, Maps.has_eq, List.any_eq_true]
    constructor
    · rintro ⟨p, hp, hs⟩
      obtain ⟨e, he, rfl⟩ := List.mem_map.1 (mem_sorted.1 hp)
      obtain ⟨id, h1, h2, h3⟩ := hK.ks e he
      rw [WideElems.rg_of (hrd e he id h1 h2 h3)] at hs
      have : id = x := by simpa [Lit.sameKey] using hs
      exact ⟨e, he, by rw [h1, this]⟩
    · rintro ⟨e, he, h1⟩
      obtain ⟨id, h0, h2, h3⟩ := hK.ks e he
      have e1 : id = x := by rw [h0] at h1; simpa using h1
      subst e1
      refine ⟨_, mem_sorted.2 (List.mem_map_of_mem he), ?_⟩
      rw [WideElems.rg_of (hrd e he id h0 h2 h3)]
      simp [Lit.sameKey]
  have hsz := hK.sz
  have hseq := pk_keys_gives (H := Unit) Fence.wide 1 trivial rfl (Nat.le_refl _) bm mb es.size D0 w hbw hcell hown
  have hcol := callsIn_wide.1 (pk_collect_in Fence.wide 3 trivial trivial rfl (Nat.le_refl _) 71 #[.pointer (some ⟨bm, 0, none⟩)] trivial (Go.Proofs.enters_of Tryz.func71 (by kernel_rfl) rfl) _ (Maps.size D0) (by rw [hsize]; unfold maxLen; omega) (by rw [hsize]; omega) w hseq)
  refine Calls.mono hcol fun e w' ⟨v, ss, he, ⟨hn, hall⟩, hrow, hnil, hbl⟩ => ?_
  subst he
  have hall' : ∀ x : Int, x ∈ ss ↔ ∃ e ∈ es.toList, e.key = .int .u32 x := fun x => (hall x).trans (hhas x)
  have hNN : N ≤ w'.heap.size := Nat.le_trans r.nx hbl.size
  rcases hrow.2 with ⟨rfl, h0⟩ | ⟨g, cap, cur, rfl, hg, hgb, hk1, hk2, hk3, hk4⟩
  · refine ⟨⟨F, M, w'.heap.size⟩, ?_, k _ ss M _ hn hall' ⟨by simp, .inl ⟨rfl, h0⟩⟩ (fun _ _ => rfl) hNN (hm.up hNN)⟩
    have lt : ∀ q, q < N → q < w.heap.size := fun q hq => Nat.lt_of_lt_of_le hq r.nx
    refine ⟨r.below.trans ⟨hbl.os, hbl.tape, hbl.output, hbl.size, fun q hq => hbl.block q (Nat.lt_of_lt_of_le hq r.below.size)⟩, by rw [hd0]; exact Nat.zero_le _, Nat.le_refl _, Nat.le_trans r.base hNN, fun b cs h => ?_, fun b e cs tot h => ?_, fun b o h => ?_⟩
    · obtain ⟨a1, arr, e, z, a2, a3⟩ := r.fr b cs h
      exact ⟨Nat.lt_of_lt_of_le a1 hNN, arr, e, z, (hbl.block b (lt b a1)).trans a2, a3⟩
    · obtain ⟨a1, a2, a3, arr, a4, a5⟩ := r.cl b e cs tot h
      exact ⟨Nat.lt_of_lt_of_le a1 hNN, a2, a3, arr, (hbl.block b (lt b a1)).trans a4, a5⟩
    · obtain ⟨a1, a2, a3, a4, a5⟩ := r.ob b o h
      exact ⟨Nat.lt_of_lt_of_le a1 hNN, a2, a3, (hbl.block b (lt b a1)).trans a4, a5⟩
  · have hgl : g < w'.heap.size := (Array.getElem?_eq_some_iff.1 hgb).1
    have hFg : F g = none := by
      cases hF : F g with
      | none => rfl
      | some cs => have h8 : g < N := (r.fr g cs hF).1; have h9 : N ≤ w.heap.size := r.nx; omega
    refine ⟨⟨F, upd M g (some (.cells 30 cur.toList cap)), w'.heap.size⟩, ?_, k _ ss _ _ hn hall' ?_ (fun q hq => upd_ne _ _ (by have h9 : N ≤ w.heap.size := r.nx; omega)) hNN (fun q hq => (upd_ne _ _ (by omega)).trans (hm q (by omega)))⟩
    · refine redrawn_rep (d := w.drawn) ?_ (by rw [hd0]; exact Nat.zero_le _)
      refine r.turn (w' := { w' with drawn := w.drawn }) (b := g) (Nat.le_trans r.base (Nat.le_trans r.nx hg)) hFg hbl.os hbl.tape hbl.output hbl.size hgl (fun q hq hql => hbl.block q hql) (some _) w'.heap.size hNN (Nat.le_refl _) hgl ⟨cur, hgb, by rw [hk3]; omega, List.prefix_refl _⟩
    · refine ⟨by simp, .inr ⟨g, cap, cur.toList.drop ss.length, rfl, hk1, hk2, by have h9 : N ≤ w.heap.size := r.nx; omega, ?_⟩⟩
      rw [upd_same, Nat.mul_one]
      congr 2
      rw [← List.take_append_drop ss.length cur.toList]
      congr 1
      · rw [Nat.mul_one] at hk4; exact hk4
      · simp
end Go.Proofs.YtgcmbkoejjcjlaaGreatDoor.A
open Go Go.RowKit Go.Proofs.YtgcmbkoejjcjlaaGreatDoor.K
set_option linter.unusedVariables false
set_option maxRecDepth 100000
namespace Go.Proofs.YtgcmbkoejjcjlaaGreatDoor.T
section
variable (K : Kont) (E : PanK) (k1 k2 k3 k4 k5 : Env → Hp → Prop) (x0 x1 x2 x3 x4 x5 x6 x7 x8 x9 x10 x11 x12 x13 x14 x15 x16 x17 x18 x19 x20 x21 x22 x23 x24 x25 x26 x27 x28 x29 x30 x31 x32 x33 x34 x35 x36 x37 x38 x39 x40 x41 x42 x43 x44 x45 x46 x47 x48 x49 x50 x51 x52 x53 x54 x55 x56 x57 x58 x59 x60 x61 x62 x63 x64 x65 x66 x67 x68 x69 x70 x71 x72 x73 x74 x75 x76 x77 x78 x79 x80 x81 x82 x83 x84 x85 x86 x87 x88 x89 x90 x91 x92 x93 x94 x95 x96 x97 x98 x99 x100 x101 x102 x103 x104 x105 x106 x107 x108 x109 x110 x111 x112 x113 x114 x115 x116 x117 x118 x119 x120 x121 x122 x123 x124 x125 x126 x127 x128 x129 x130 x131 x132 x133 v0 v1 v2 v3 v4 v5 v6 v7 v8 v9 v10 v11 v12 v13 v14 v15 v16 v17 v18 v19 v20 v21 v22 v23 v24 v25 v26 v27 v28 v29 v30 v31 v32 v33 v34 v35 v36 v37 v38 v39 v40 v41 v42 v43 v44 v45 v46 v47 v48 v49 v50 v51 v52 v53 v54 v55 v56 v57 v58 v59 v60 v61 v62 v63 v64 v65 v66 v67 v68 v69 v70 v71 v72 v73 v74 v75 v76 v77 v78 v79 v80 v81 v82 v83 v84 v85 v86 v87 v88 v89 v90 v91 v92 v93 v94 v95 v96 v97 v98 v99 v100 v101 v102 v103 v104 v105 v106 v107 v108 v109 v110 v111 v112 v113 v114 v115 v116 v117 v118 v119 v120 v121 v122 v123 v124 v125 v126 v127 v128 v129 v130 v131 v132 v133 : Value) (j : Nat → Value)
abbrev q38 : QD := bodyQ Tryz.prog Tryz.f38.results.toList K E
abbrev d38 (p : List Nat) : QD → Env → Hp → Prop := den Tryz.prog (sel (bodyOf Tryz.f38) p)
theorem t38 : d38 [] (q38 K E) #[x0, U, U, U, U, U, U, U, U] =
  callv Tryz.prog (.func (.func 69) #[] #[]) #[x0] (fun t1 =>
  callv Tryz.prog (.func (.func 70) #[] #[]) #[t1] (fun t2 =>
  K t1) E) E := by kernel_rfl
abbrev q39 : QD := bodyQ Tryz.prog Tryz.f39.results.toList K E
abbrev d39 (p : List Nat) : QD → Env → Hp → Prop := den Tryz.prog (sel (bodyOf Tryz.f39) p)
theorem t39 : d39 [] (q39 K E) #[x0, U, U, U] =
  nw 70 (Value.cells x0).toList fun t1 =>
  K (.func (.func 71) #[] #[t1]) := by kernel_rfl
abbrev q40 : QD := bodyQ Tryz.prog Tryz.f40.results.toList K E
abbrev d40 (p : List Nat) : QD → Env → Hp → Prop := den Tryz.prog (sel (bodyOf Tryz.f40) p)
theorem t40 : d40 [] (q40 K E) #[x0, x1, U, U, U, U, U, U] =
  ld false 1 x1 fun t1 =>
  callv Tryz.prog (.func (.func 41) #[] #[]) #[t1, x0] (fun t2 =>
  pv (unV .not t2) fun t3 =>
  K t3) E := by kernel_rfl
abbrev q41 : QD := bodyQ Tryz.prog Tryz.f41.results.toList K E
abbrev d41 (p : List Nat) : QD → Env → Hp → Prop := den Tryz.prog (sel (bodyOf Tryz.f41) p)
theorem t41 : d41 [] (q41 K E) #[x0, x1, U, U, U, U, U, U, U, U, U, U, U, U] =
  pv (nilV x0) fun t1 =>
  pv (faV 1 t1) fun t2 =>
  ld false 1 t2 fun t3 =>
  lkp Tryz.prog 70 t3 x1 false fun t4 =>
  pv (fdV true 0 2 t4) fun t5 =>
  pv (fdV false 0 1 t5) fun t6 =>
  pv (binV .none .eql t6 (.int .u8 1)) fun t7 =>
  K t7 := by kernel_rfl
abbrev q69 : QD := bodyQ Tryz.prog Tryz.f69.results.toList K E
abbrev d69 (p : List Nat) : QD → Env → Hp → Prop := den Tryz.prog (sel (bodyOf Tryz.f69) p)
abbrev q70 : QD := bodyQ Tryz.prog Tryz.f70.results.toList K E
abbrev d70 (p : List Nat) : QD → Env → Hp → Prop := den Tryz.prog (sel (bodyOf Tryz.f70) p)
theorem t70 : d70 [] (q70 K E) #[x0, U, U, U, U, U, U, U, U, U, U] =
  pv (lenV x0) fun t1 =>
  pv (cvV .u64 t1) fun t2 =>
  callv Tryz.prog (.func (.func 99) #[] #[]) #[t2] (fun t3 =>
  callv Tryz.prog (.func (.func 98) #[] #[]) #[x0, (.int .i64 0), t1, t3] (fun t4 =>
  K (.tuple #[])) E) E := by kernel_rfl
abbrev q98 : QD := bodyQ Tryz.prog Tryz.f98.results.toList K E
abbrev d98 (p : List Nat) : QD → Env → Hp → Prop := den Tryz.prog (sel (bodyOf Tryz.f98) p)
def m98_1_1_0_0 (j : Nat → Value) : Env := #[x0, v1, v2, v3, x4, x5, x6, x7, v8, v9, (j 10), (j 11), (j 12), (j 13), (j 14), (j 15), (j 16), (j 17), (j 18), (j 19), (j 20), (j 21), (j 22), (j 23), (j 24), (j 25), (j 26), (j 27), (j 28), (j 29), (j 30), (j 31), (j 32), (j 33), (j 34), (j 35), (j 36), (j 37), (j 38), (j 39), (j 40), (j 41), (j 42), (j 43), (j 44), (j 45), (j 46), (j 47), (j 48), (j 49), (j 50), (j 51), (j 52), (j 53), (j 54), (j 55), (j 56), (j 57), (j 58), (j 59), (j 60), (j 61), (j 62), (j 63), (j 64), (j 65), (j 66), (j 67), (j 68), (j 69), (j 70), (j 71), (j 72), (j 73), (j 74), (j 75), (j 76), (j 77), (j 78), (j 79), (j 80), (j 81), (j 82), (j 83), (j 84), (j 85), (j 86), (j 87), (j 88), (j 89), (j 90), (j 91), (j 92), (j 93), (j 94), (j 95), (j 96), (j 97), (j 98), (j 99), (j 100), (j 101), (j 102), (j 103), (j 104), (j 105), (j 106), (j 107), (j 108), (j 109), (j 110), (j 111), (j 112), (j 113), (j 114), (j 115), (j 116), (j 117), (j 118), (j 119), (j 120), (j 121), (j 122), (j 123), (j 124), (j 125), (j 126), (j 127), (j 128), (j 129), (j 130), (j 131), (j 132), (j 133)]
theorem t98 : d98 [] (q98 K E) #[x0, x1, x2, x3, U, U, U, U, U, U, U, U, U, U, U, U, U, U, U, U, U, U, U, U, U, U, U, U, U, U, U, U, U, U, U, U, U, U, U, U, U, U, U, U, U, U, U, U, U, U, U, U, U, U, U, U, U, U, U, U, U, U, U, U, U, U, U, U, U, U, U, U, U, U, U, U, U, U, U, U, U, U, U, U, U, U, U, U, U, U, U, U, U, U, U, U, U, U, U, U, U, U, U, U, U, U, U, U, U, U, U, U, U, U, U, U, U, U, U, U, U, U, U, U, U, U, U, U, U, U, U, U, U, U] =
  lp (fun k1 => d98 [1, 1, 0, 0] (thenD k1 (blk 0 (q98 K E)))) (m98_1_1_0_0 x0 U U U U x1 x2 x3 (.bool true) (.bool true) (jf #[])) := by kernel_rfl
theorem t98_1_1_0_0 : d98 [1, 1, 0, 0] (thenD k1 (blk 0 (q98 K E))) (m98_1_1_0_0 x0 x4 x5 x6 x7 v1 v2 v3 v8 v9 j) =
  pv (binV .none .sub v2 v1) fun t1 =>
  pv (binV .none .leq t1 (.int .i64 12)) fun t2 =>
  cnd t2 (
   callv Tryz.prog (.func (.func 121) #[] #[]) #[x0, v1, v2] (fun t3 =>
   K (.tuple #[])) E) (
   pv (binV .none .eql v3 (.int .i64 0)) fun t4 =>
   cnd t4 (
    callv Tryz.prog (.func (.func 122) #[] #[]) #[x0, v1, v2] (fun t5 =>
    K (.tuple #[])) E) (
    pv (unV .not v8) fun t6 =>
    cnd t6 (
     callv Tryz.prog (.func (.func 123) #[] #[]) #[x0, v1, v2] (fun t7 =>
     pv (binV .none .sub v3 (.int .i64 1)) fun t8 =>
     d98 [1, 1, 0, 0, 0, 1, 1, 1, 1] (blk 1 (thenD k1 (blk 0 (q98 K E)))) #[x0, v1, v2, t8, x4, x5, x6, x7, v8, v9, t1, (j 11), (j 12), (j 13), (j 14), (j 15), (j 16), (j 17), (j 18), v2, v1, t1, t1, t2, (j 24), (j 25), (j 26), (j 27), v3, t4, (j 30), (j 31), (j 32), (j 33), v8, t6, x0, v1, v2, t7, v3, t8, (j 42), (j 43), (j 44), (j 45), (j 46), (j 47), (j 48), (j 49), (j 50), (j 51), (j 52), (j 53), (j 54), (j 55), (j 56), (j 57), (j 58), (j 59), (j 60), (j 61), (j 62), (j 63), (j 64), (j 65), (j 66), (j 67), (j 68), (j 69), (j 70), (j 71), (j 72), (j 73), (j 74), (j 75), (j 76), (j 77), (j 78), (j 79), (j 80), (j 81), (j 82), (j 83), (j 84), (j 85), (j 86), (j 87), (j 88), (j 89), (j 90), (j 91), (j 92), (j 93), (j 94), (j 95), (j 96), (j 97), (j 98), (j 99), (j 100), (j 101), (j 102), (j 103), (j 104), (j 105), (j 106), (j 107), (j 108), (j 109), (j 110), (j 111), (j 112), (j 113), (j 114), (j 115), (j 116), (j 117), (j 118), (j 119), (j 120), (j 121), (j 122), (j 123), (j 124), (j 125), (j 126), (j 127), (j 128), (j 129), (j 130), (j 131), (j 132), (j 133)]) E) (
     d98 [1, 1, 0, 0, 0, 1, 1, 1, 1] (blk 1 (thenD k1 (blk 0 (q98 K E)))) #[x0, v1, v2, v3, x4, x5, x6, x7, v8, v9, t1, (j 11), (j 12), (j 13), (j 14), (j 15), (j 16), (j 17), (j 18), v2, v1, t1, t1, t2, (j 24), (j 25), (j 26), (j 27), v3, t4, (j 30), (j 31), (j 32), (j 33), v8, t6, (j 36), (j 37), (j 38), (j 39), (j 40), (j 41), (j 42), (j 43), (j 44), (j 45), (j 46), (j 47), (j 48), (j 49), (j 50), (j 51), (j 52), (j 53), (j 54), (j 55), (j 56), (j 57), (j 58), (j 59), (j 60), (j 61), (j 62), (j 63), (j 64), (j 65), (j 66), (j 67), (j 68), (j 69), (j 70), (j 71), (j 72), (j 73), (j 74), (j 75), (j 76), (j 77), (j 78), (j 79), (j 80), (j 81), (j 82), (j 83), (j 84), (j 85), (j 86), (j 87), (j 88), (j 89), (j 90), (j 91), (j 92), (j 93), (j 94), (j 95), (j 96), (j 97), (j 98), (j 99), (j 100), (j 101), (j 102), (j 103), (j 104), (j 105), (j 106), (j 107), (j 108), (j 109), (j 110), (j 111), (j 112), (j 113), (j 114), (j 115), (j 116), (j 117), (j 118), (j 119), (j 120), (j 121), (j 122), (j 123), (j 124), (j 125), (j 126), (j 127), (j 128), (j 129), (j 130), (j 131), (j 132), (j 133)]))) := by kernel_rfl
theorem t98_1_1_0_0_0_1_1_1_1 : d98 [1, 1, 0, 0, 0, 1, 1, 1, 1] (blk 1 (thenD k1 (blk 0 (q98 K E)))) #[x0, x1, x2, x3, x4, x5, x6, x7, x8, x9, x10, x11, x12, x13, x14, x15, x16, x17, x18, x19, x20, x21, x22, x23, x24, x25, x26, x27, x28, x29, x30, x31, x32, x33, x34, x35, x36, x37, x38, x39, x40, x41, x42, x43, x44, x45, x46, x47, x48, x49, x50, x51, x52, x53, x54, x55, x56, x57, x58, x59, x60, x61, x62, x63, x64, x65, x66, x67, x68, x69, x70, x71, x72, x73, x74, x75, x76, x77, x78, x79, x80, x81, x82, x83, x84, x85, x86, x87, x88, x89, x90, x91, x92, x93, x94, x95, x96, x97, x98, x99, x100, x101, x102, x103, x104, x105, x106, x107, x108, x109, x110, x111, x112, x113, x114, x115, x116, x117, x118, x119, x120, x121, x122, x123, x124, x125, x126, x127, x128, x129, x130, x131, x132, x133] =
  callv Tryz.prog (.func (.func 124) #[] #[]) #[x0, x1, x2] (fun t1 =>
  pv (exV 0 t1) fun t2 =>
  pv (exV 1 t1) fun t3 =>
  pv (binV .none .eql t3 (.int .i64 2)) fun t4 =>
  cnd t4 (
   callv Tryz.prog (.func (.func 125) #[] #[]) #[x0, x1, x2] (fun t5 =>
   pv (binV .none .sub x2 (.int .i64 1)) fun t6 =>
   pv (binV .none .sub t2 x1) fun t7 =>
   pv (binV .none .sub t6 t7) fun t8 =>
   d98 [1, 1, 0, 0, 0, 1, 1, 1, 1, 1, 1] (blk 1 (thenD k1 (blk 0 (q98 K E)))) #[x0, x1, x2, x3, x4, x5, x6, x7, x8, x9, x10, t8, (.int .i64 1), x13, x14, x15, x16, x17, x18, x19, x20, x21, x22, x23, x24, x25, x26, x27, x28, x29, x30, x31, x32, x33, x34, x35, x36, x37, x38, x39, x40, x41, t1, x0, x1, x2, t1, t2, t3, t3, t4, x0, x1, x2, t5, x2, t6, t2, x1, t7, t8, x61, x62, x63, x64, x65, x66, x67, x68, x69, x70, x71, x72, x73, x74, x75, x76, x77, x78, x79, x80, x81, x82, x83, x84, x85, x86, x87, x88, x89, x90, x91, x92, x93, x94, x95, x96, x97, x98, x99, x100, x101, x102, x103, x104, x105, x106, x107, x108, x109, x110, x111, x112, x113, x114, x115, x116, x117, x118, x119, x120, x121, x122, x123, x124, x125, x126, x127, x128, x129, x130, x131, x132, x133]) E) (
   d98 [1, 1, 0, 0, 0, 1, 1, 1, 1, 1, 1] (blk 1 (thenD k1 (blk 0 (q98 K E)))) #[x0, x1, x2, x3, x4, x5, x6, x7, x8, x9, x10, t2, t3, x13, x14, x15, x16, x17, x18, x19, x20, x21, x22, x23, x24, x25, x26, x27, x28, x29, x30, x31, x32, x33, x34, x35, x36, x37, x38, x39, x40, x41, t1, x0, x1, x2, t1, t2, t3, t3, t4, x51, x52, x53, x54, x55, x56, x57, x58, x59, x60, x61, x62, x63, x64, x65, x66, x67, x68, x69, x70, x71, x72, x73, x74, x75, x76, x77, x78, x79, x80, x81, x82, x83, x84, x85, x86, x87, x88, x89, x90, x91, x92, x93, x94, x95, x96, x97, x98, x99, x100, x101, x102, x103, x104, x105, x106, x107, x108, x109, x110, x111, x112, x113, x114, x115, x116, x117, x118, x119, x120, x121, x122, x123, x124, x125, x126, x127, x128, x129, x130, x131, x132, x133])) E := by kernel_rfl
theorem t98_1_1_0_0_0_1_1_1_1_1_1 : d98 [1, 1, 0, 0, 0, 1, 1, 1, 1, 1, 1] (blk 1 (thenD k1 (blk 0 (q98 K E)))) #[x0, x1, x2, x3, x4, x5, x6, x7, x8, x9, x10, x11, x12, x13, x14, x15, x16, x17, x18, x19, x20, x21, x22, x23, x24, x25, x26, x27, x28, x29, x30, x31, x32, x33, x34, x35, x36, x37, x38, x39, x40, x41, x42, x43, x44, x45, x46, x47, x48, x49, x50, x51, x52, x53, x54, x55, x56, x57, x58, x59, x60, x61, x62, x63, x64, x65, x66, x67, x68, x69, x70, x71, x72, x73, x74, x75, x76, x77, x78, x79, x80, x81, x82, x83, x84, x85, x86, x87, x88, x89, x90, x91, x92, x93, x94, x95, x96, x97, x98, x99, x100, x101, x102, x103, x104, x105, x106, x107, x108, x109, x110, x111, x112, x113, x114, x115, x116, x117, x118, x119, x120, x121, x122, x123, x124, x125, x126, x127, x128, x129, x130, x131, x132, x133] =
  gdK x8 true (fun k => k x9) fun t1 =>
  pv (pickV x8 t1 (.bool false)) fun t2 =>
  gdK t2 true (fun k => k x12) fun t3 =>
  gdK t2 true (fun k => pv (binV .none .eql t3 (.int .i64 1)) k) fun t4 =>
  pv (pickV t2 t4 (.bool false)) fun t5 =>
  cnd t5 (
   callv Tryz.prog (.func (.func 126) #[] #[]) #[x0, x1, x2] (fun t6 =>
   cnd t6 (
    K (.tuple #[])) (
    d98 [1, 1, 0, 0, 0, 1, 1, 1, 1, 1, 1, 1] (blk 1 (thenD k1 (blk 0 (q98 K E)))) #[x0, x1, x2, x3, x4, x5, x6, x7, x8, x9, x10, x11, x12, x13, x14, x15, x16, x17, x18, x19, x20, x21, x22, x23, x24, x25, x26, x27, x28, x29, x30, x31, x32, x33, x34, x35, x36, x37, x38, x39, x40, x41, x42, x43, x44, x45, x46, x47, x48, x49, x50, x51, x52, x53, x54, x55, x56, x57, x58, x59, x60, x8, x8, t1, t2, t2, t3, t4, t5, x0, x1, x2, t6, x73, x74, x75, x76, x77, x78, x79, x80, x81, x82, x83, x84, x85, x86, x87, x88, x89, x90, x91, x92, x93, x94, x95, x96, x97, x98, x99, x100, x101, x102, x103, x104, x105, x106, x107, x108, x109, x110, x111, x112, x113, x114, x115, x116, x117, x118, x119, x120, x121, x122, x123, x124, x125, x126, x127, x128, x129, x130, x131, x132, x133])) E) (
   d98 [1, 1, 0, 0, 0, 1, 1, 1, 1, 1, 1, 1] (blk 1 (thenD k1 (blk 0 (q98 K E)))) #[x0, x1, x2, x3, x4, x5, x6, x7, x8, x9, x10, x11, x12, x13, x14, x15, x16, x17, x18, x19, x20, x21, x22, x23, x24, x25, x26, x27, x28, x29, x30, x31, x32, x33, x34, x35, x36, x37, x38, x39, x40, x41, x42, x43, x44, x45, x46, x47, x48, x49, x50, x51, x52, x53, x54, x55, x56, x57, x58, x59, x60, x8, x8, t1, t2, t2, t3, t4, t5, x69, x70, x71, x72, x73, x74, x75, x76, x77, x78, x79, x80, x81, x82, x83, x84, x85, x86, x87, x88, x89, x90, x91, x92, x93, x94, x95, x96, x97, x98, x99, x100, x101, x102, x103, x104, x105, x106, x107, x108, x109, x110, x111, x112, x113, x114, x115, x116, x117, x118, x119, x120, x121, x122, x123, x124, x125, x126, x127, x128, x129, x130, x131, x132, x133]) := by kernel_rfl
theorem t98_1_1_0_0_0_1_1_1_1_1_1_1 : d98 [1, 1, 0, 0, 0, 1, 1, 1, 1, 1, 1, 1] (blk 1 (thenD k1 (blk 0 (q98 K E)))) #[x0, x1, x2, x3, x4, x5, x6, x7, x8, x9, x10, x11, x12, x13, x14, x15, x16, x17, x18, x19, x20, x21, x22, x23, x24, x25, x26, x27, x28, x29, x30, x31, x32, x33, x34, x35, x36, x37, x38, x39, x40, x41, x42, x43, x44, x45, x46, x47, x48, x49, x50, x51, x52, x53, x54, x55, x56, x57, x58, x59, x60, x61, x62, x63, x64, x65, x66, x67, x68, x69, x70, x71, x72, x73, x74, x75, x76, x77, x78, x79, x80, x81, x82, x83, x84, x85, x86, x87, x88, x89, x90, x91, x92, x93, x94, x95, x96, x97, x98, x99, x100, x101, x102, x103, x104, x105, x106, x107, x108, x109, x110, x111, x112, x113, x114, x115, x116, x117, x118, x119, x120, x121, x122, x123, x124, x125, x126, x127, x128, x129, x130, x131, x132, x133] =
  pv (binV .none .gtr x1 (.int .i64 0)) fun t1 =>
  gdK t1 true (fun k => k x0) fun t2 =>
  gdK t1 true (fun k => k x1) fun t3 =>
  gdK t1 true (fun k => pv (binV .none .sub t3 (.int .i64 1)) k) fun t4 =>
  gdK t1 true (fun k => pv (iaV none 1 t2 t4) k) fun t5 =>
  gdK t1 true (fun k => ld false 1 t5 k) fun t6 =>
  gdK t1 true (fun k => k x0) fun t7 =>
  gdK t1 true (fun k => k x11) fun t8 =>
  gdK t1 true (fun k => pv (iaV none 1 t7 t8) k) fun t9 =>
  gdK t1 true (fun k => ld false 1 t9 k) fun t10 =>
  gdK t1 true (fun k => callv Tryz.prog (.func (.func 127) #[] #[]) #[t6, t10] k E) fun t11 =>
  gdK t1 true (fun k => pv (unV .not t11) k) fun t12 =>
  pv (pickV t1 t12 (.bool false)) fun t13 =>
  cnd t13 (
   callv Tryz.prog (.func (.func 128) #[] #[]) #[x0, x1, x2, x11] (fun t14 =>
   k1 (m98_1_1_0_0 x0 x4 x5 x6 x7 t14 x2 x3 x8 x9 (jf #[U, U, U, U, U, U, U, U, U, U, x10, x11, x12, t14, x14, x15, x16, x17, x18, x19, x20, x21, x22, x23, x24, x25, x26, x27, x28, x29, x30, x31, x32, x33, x34, x35, x36, x37, x38, x39, x40, x41, x42, x43, x44, x45, x46, x47, x48, x49, x50, x51, x52, x53, x54, x55, x56, x57, x58, x59, x60, x61, x62, x63, x64, x65, x66, x67, x68, x69, x70, x71, x72, x1, t1, t1, t2, t3, t4, t5, t6, t7, t8, t9, t10, t11, t12, t13, x0, x1, x2, x11, t14, t14, x94, x95, x96, x97, x98, x99, x100, x101, x102, x103, x104, x105, x106, x107, x108, x109, x110, x111, x112, x113, x114, x115, x116, x117, x118, x119, x120, x121, x122, x123, x124, x125, x126, x127, x128, x129, x130, x131, x132, x133]))) E) (
   callv Tryz.prog (.func (.func 129) #[] #[]) #[x0, x1, x2, x11] (fun t15 =>
   pv (exV 0 t15) fun t16 =>
   pv (exV 1 t15) fun t17 =>
   pv (binV .none .sub t16 x1) fun t18 =>
   pv (binV .none .sub x2 t16) fun t19 =>
   pv (binV .none .quo x10 (.int .i64 8)) fun t20 =>
   pv (binV .none .lss t18 t19) fun t21 =>
   cnd t21 (
    pv (binV .none .geq t18 t20) fun t22 =>
    callv Tryz.prog (.func (.func 98) #[] #[]) #[x0, x1, t16, x3] (fun t23 =>
    pv (binV .none .add t16 (.int .i64 1)) fun t24 =>
    k1 (m98_1_1_0_0 x0 x4 x5 x6 x7 t24 x2 x3 t22 t17 (jf #[U, U, U, U, U, U, U, U, U, U, x10, x11, x12, x13, t16, t17, t18, t19, t20, x19, x20, x21, x22, x23, x24, x25, x26, x27, x28, x29, x30, x31, x32, x33, x34, x35, x36, x37, x38, x39, x40, x41, x42, x43, x44, x45, x46, x47, x48, x49, x50, x51, x52, x53, x54, x55, x56, x57, x58, x59, x60, x61, x62, x63, x64, x65, x66, x67, x68, x69, x70, x71, x72, x1, t1, t1, t2, t3, t4, t5, t6, t7, t8, t9, t10, t11, t12, t13, x88, x89, x90, x91, x92, x93, t15, x0, x1, x2, x11, t15, t16, t17, t17, t16, x1, t18, x2, t16, t19, x10, t20, t18, t19, t21, t18, t20, t22, x0, x1, t16, x3, t23, t16, t24, x124, x125, x126, x127, x128, x129, x130, x131, x132, x133]))) E) (
    pv (binV .none .geq t19 t20) fun t25 =>
    pv (binV .none .add t16 (.int .i64 1)) fun t26 =>
    callv Tryz.prog (.func (.func 98) #[] #[]) #[x0, t26, x2, x3] (fun t27 =>
    k1 (m98_1_1_0_0 x0 x4 x5 x6 x7 x1 t16 x3 t25 t17 (jf #[U, U, U, U, U, U, U, U, U, U, x10, x11, x12, x13, t16, t17, t18, t19, t20, x19, x20, x21, x22, x23, x24, x25, x26, x27, x28, x29, x30, x31, x32, x33, x34, x35, x36, x37, x38, x39, x40, x41, x42, x43, x44, x45, x46, x47, x48, x49, x50, x51, x52, x53, x54, x55, x56, x57, x58, x59, x60, x61, x62, x63, x64, x65, x66, x67, x68, x69, x70, x71, x72, x1, t1, t1, t2, t3, t4, t5, t6, t7, t8, t9, t10, t11, t12, t13, x88, x89, x90, x91, x92, x93, t15, x0, x1, x2, x11, t15, t16, t17, t17, t16, x1, t18, x2, t16, t19, x10, t20, t18, t19, t21, x114, x115, x116, x117, x118, x119, x120, x121, x122, x123, t19, t20, t25, x0, t16, t26, x2, x3, t27, t16]))) E)) E) := by kernel_rfl
abbrev q99 : QD := bodyQ Tryz.prog Tryz.f99.results.toList K E
abbrev d99 (p : List Nat) : QD → Env → Hp → Prop := den Tryz.prog (sel (bodyOf Tryz.f99) p)
theorem t99 : d99 [] (q99 K E) #[x0, U, U, U, U, U, U, U] =
  cnd (.bool false) (
   pv (cvV .u32 x0) fun t1 =>
   callv Tryz.prog (.func (.func 130) #[] #[]) #[t1] (fun t2 =>
   K t2) E) (
   callv Tryz.prog (.func (.func 131) #[] #[]) #[x0] (fun t3 =>
   K t3) E) := by kernel_rfl
abbrev q121 : QD := bodyQ Tryz.prog Tryz.f121.results.toList K E
abbrev d121 (p : List Nat) : QD → Env → Hp → Prop := den Tryz.prog (sel (bodyOf Tryz.f121) p)
def m121_1_0_0 (j : Nat → Value) : Env := #[x0, x1, x2, x3, x4, x5, v6, (j 7), x8, x9, (j 10), (j 11), (j 12), (j 13), (j 14), (j 15), (j 16), (j 17), (j 18), (j 19), (j 20), (j 21), (j 22), (j 23), (j 24), (j 25), (j 26), (j 27), (j 28), (j 29), (j 30), (j 31), (j 32), (j 33), (j 34), (j 35), (j 36), (j 37), (j 38), (j 39), (j 40), (j 41), (j 42), (j 43), (j 44), (j 45), (j 46), (j 47), (j 48)]
def m121_1_0_0_1_0_0_1_0_0 (j : Nat → Value) : Env := #[x0, x1, x2, x3, x4, x5, x6, v7, x8, x9, x10, x11, x12, x13, x14, x15, (j 16), (j 17), (j 18), (j 19), (j 20), (j 21), (j 22), (j 23), (j 24), (j 25), (j 26), (j 27), (j 28), (j 29), (j 30), (j 31), (j 32), (j 33), (j 34), (j 35), (j 36), (j 37), (j 38), (j 39), (j 40), (j 41), (j 42), (j 43), (j 44), (j 45), (j 46), (j 47), (j 48)]
theorem t121 : d121 [] (q121 K E) #[x0, x1, x2, U, U, U, U, U, U, U, U, U, U, U, U, U, U, U, U, U, U, U, U, U, U, U, U, U, U, U, U, U, U, U, U, U, U, U, U, U, U, U, U, U, U, U, U, U, U] =
  pv (binV .none .add x1 (.int .i64 1)) fun t1 =>
  lp (fun k1 => d121 [1, 0, 0] (thenD k1 (blk 0 (q121 K E)))) (m121_1_0_0 x0 x1 x2 U U U x1 t1 t1 (jf #[])) := by kernel_rfl
theorem t121_1_0_0 : d121 [1, 0, 0] (thenD k1 (blk 0 (q121 K E))) (m121_1_0_0 x0 x1 x2 x3 x4 x5 x8 x9 v6 j) =
  pv (binV .none .lss v6 x2) fun t1 =>
  cnd t1 (
   lp (fun k2 => d121 [1, 0, 0, 1, 0, 0, 1, 0, 0] (thenD k2 (blk 2 (blk 1 (thenD (d121 [1, 0, 0, 1, 1] (thenD k1 (blk 0 (q121 K E)))) (thenD k1 (blk 0 (q121 K E)))))))) (m121_1_0_0_1_0_0_1_0_0 x0 x1 x2 x3 x4 x5 v6 x8 x9 v6 x2 t1 (j 13) (j 14) v6 v6 (jf #[U, U, U, U, U, U, U, U, U, U, U, U, U, U, U, U, (j 16), (j 17), (j 18), (j 19), (j 20), (j 21), (j 22), (j 23), (j 24), (j 25), (j 26), (j 27), (j 28), (j 29), (j 30), (j 31), (j 32), (j 33), (j 34), (j 35), (j 36), (j 37), (j 38), (j 39), (j 40), (j 41), (j 42), (j 43), (j 44), (j 45), (j 46), (j 47), (j 48)]))) (
   K (.tuple #[])) := by kernel_rfl
theorem t121_1_0_0_1_0_0_1_0_0 : d121 [1, 0, 0, 1, 0, 0, 1, 0, 0] (thenD k2 (blk 2 (blk 1 (thenD (d121 [1, 0, 0, 1, 1] (thenD k1 (blk 0 (q121 K E)))) (thenD k1 (blk 0 (q121 K E))))))) (m121_1_0_0_1_0_0_1_0_0 x0 x1 x2 x3 x4 x5 x6 x8 x9 x10 x11 x12 x13 x14 x15 v7 j) =
  pv (binV .none .gtr v7 x1) fun t1 =>
  gdK t1 true (fun k => k x0) fun t2 =>
  gdK t1 true (fun k => k v7) fun t3 =>
  gdK t1 true (fun k => pv (iaV none 1 t2 t3) k) fun t4 =>
  gdK t1 true (fun k => ld false 1 t4 k) fun t5 =>
  gdK t1 true (fun k => k x0) fun t6 =>
  gdK t1 true (fun k => k v7) fun t7 =>
  gdK t1 true (fun k => pv (binV .none .sub t7 (.int .i64 1)) k) fun t8 =>
  gdK t1 true (fun k => pv (iaV none 1 t6 t8) k) fun t9 =>
  gdK t1 true (fun k => ld false 1 t9 k) fun t10 =>
  gdK t1 true (fun k => callv Tryz.prog (.func (.func 127) #[] #[]) #[t5, t10] k E) fun t11 =>
  pv (pickV t1 t11 (.bool false)) fun t12 =>
  cnd t12 (
   pv (binV .none .sub v7 (.int .i64 1)) fun t13 =>
   pv (binV .none .sub v7 (.int .i64 1)) fun t14 =>
   pv (iaV none 1 x0 t14) fun t15 =>
   ld false 1 t15 fun t16 =>
   pv (iaV none 1 x0 v7) fun t17 =>
   ld false 1 t17 fun t18 =>
   pv (iaV none 1 x0 v7) fun t19 =>
   st 1 t19 t16 fun _ =>
   pv (iaV none 1 x0 t13) fun t20 =>
   st 1 t20 t18 fun _ =>
   pv (binV .none .sub v7 (.int .i64 1)) fun t21 =>
   k2 (m121_1_0_0_1_0_0_1_0_0 x0 x1 x2 x3 x4 x5 x6 x8 x9 x10 x11 x12 x13 x14 x15 t21 (jf #[U, U, U, U, U, U, U, U, U, U, U, U, U, U, U, U, v7, x1, t1, t1, t2, t3, t4, t5, t6, t7, t8, t9, t10, t11, t12, v7, t21, x0, v7, x0, v7, t13, x0, v7, t14, t15, t16, x0, v7, t17, t18, t19, t20]))) (
   pv (binV .none .add x6 (.int .i64 1)) fun t22 =>
   k1 (m121_1_0_0 x0 x1 x2 x3 x4 x5 x8 x9 t22 (jf #[U, U, U, U, U, U, U, v7, U, U, x10, x11, x12, x6, t22, x15, v7, x1, t1, t1, t2, t3, t4, t5, t6, t7, t8, t9, t10, t11, t12, (j 31), (j 32), (j 33), (j 34), (j 35), (j 36), (j 37), (j 38), (j 39), (j 40), (j 41), (j 42), (j 43), (j 44), (j 45), (j 46), (j 47), (j 48)]))) := by kernel_rfl
abbrev q127 : QD := bodyQ Tryz.prog Tryz.f127.results.toList K E
abbrev d127 (p : List Nat) : QD → Env → Hp → Prop := den Tryz.prog (sel (bodyOf Tryz.f127) p)
theorem t127 : d127 [] (q127 K E) #[x0, x1, U, U, U, U, U, U, U, U, U, U, U, U, U, U, U] =
  callv Tryz.prog (.func (.func 132) #[] #[]) #[x0] (fun t1 =>
  gdK t1 true (fun k => k x1) fun t2 =>
  gdK t1 true (fun k => callv Tryz.prog (.func (.func 132) #[] #[]) #[t2] k E) fun t3 =>
  gdK t1 true (fun k => pv (unV .not t3) k) fun t4 =>
  pv (pickV t1 t4 (.bool false)) fun t5 =>
  gdK t5 false (fun k => k x0) fun t6 =>
  gdK t5 false (fun k => k x1) fun t7 =>
  gdK t5 false (fun k => pv (binV .none .lss t6 t7) k) fun t8 =>
  pv (pickV t5 (.bool true) t8) fun t9 =>
  K t9) E := by kernel_rfl
abbrev q131 : QD := bodyQ Tryz.prog Tryz.f131.results.toList K E
abbrev d131 (p : List Nat) : QD → Env → Hp → Prop := den Tryz.prog (sel (bodyOf Tryz.f131) p)
theorem t131 : d131 [] (q131 K E) #[x0, U, U, U, U, U, U, U, U, U, U, U, U, U, U, U, U, U, U, U, U, U, U, U, U] =
  pv (binV .none .geq x0 (.int .u64 4294967296)) fun t1 =>
  cnd t1 (
   pv (binV .none .shr x0 (.int .u64 32)) fun t2 =>
   d131 [1, 1] (q131 K E) #[t2, U, (.int .i64 32), x0, t1, x0, t2, U, U, U, U, U, U, U, U, U, U, U, U, U, U, U, U, U, U]) (
   d131 [1, 1] (q131 K E) #[x0, U, (.int .i64 0), x0, t1, U, U, U, U, U, U, U, U, U, U, U, U, U, U, U, U, U, U, U, U]) := by kernel_rfl
theorem t131_1_1 : d131 [1, 1] (q131 K E) #[x0, x1, x2, x3, x4, x5, x6, x7, x8, x9, x10, x11, x12, x13, x14, x15, x16, x17, x18, x19, x20, x21, x22, x23, x24] =
  pv (binV .none .geq x0 (.int .u64 65536)) fun t1 =>
  cnd t1 (
   pv (binV .none .shr x0 (.int .u64 16)) fun t2 =>
   pv (binV .none .add x2 (.int .i64 16)) fun t3 =>
   d131 [1, 1, 1] (q131 K E) #[t2, x1, t3, x3, x4, x5, x6, x0, t1, x0, t2, x2, t3, x13, x14, x15, x16, x17, x18, x19, x20, x21, x22, x23, x24]) (
   d131 [1, 1, 1] (q131 K E) #[x0, x1, x2, x3, x4, x5, x6, x0, t1, x9, x10, x11, x12, x13, x14, x15, x16, x17, x18, x19, x20, x21, x22, x23, x24]) := by kernel_rfl
theorem t131_1_1_1 : d131 [1, 1, 1] (q131 K E) #[x0, x1, x2, x3, x4, x5, x6, x7, x8, x9, x10, x11, x12, x13, x14, x15, x16, x17, x18, x19, x20, x21, x22, x23, x24] =
  pv (binV .none .geq x0 (.int .u64 256)) fun t1 =>
  cnd t1 (
   pv (binV .none .shr x0 (.int .u64 8)) fun t2 =>
   pv (binV .none .add x2 (.int .i64 8)) fun t3 =>
   d131 [1, 1, 1, 1] (q131 K E) #[t2, x1, t3, x3, x4, x5, x6, x7, x8, x9, x10, x11, x12, x0, t1, x0, t2, x2, t3, x19, x20, x21, x22, x23, x24]) (
   d131 [1, 1, 1, 1] (q131 K E) #[x0, x1, x2, x3, x4, x5, x6, x7, x8, x9, x10, x11, x12, x0, t1, x15, x16, x17, x18, x19, x20, x21, x22, x23, x24]) := by kernel_rfl
theorem t131_1_1_1_1 : d131 [1, 1, 1, 1] (q131 K E) #[x0, x1, x2, x3, x4, x5, x6, x7, x8, x9, x10, x11, x12, x13, x14, x15, x16, x17, x18, x19, x20, x21, x22, x23, x24] =
  pv (cvV .u8 x0) fun t1 =>
  pv (ixV (.string ⟨#[0, 1, 2, 2, 3, 3, 3, 3, 4, 4, 4, 4, 4, 4, 4, 4, 5, 5, 5, 5, 5, 5, 5, 5, 5, 5, 5, 5, 5, 5, 5, 5, 6, 6, 6, 6, 6, 6, 6, 6, 6, 6, 6, 6, 6, 6, 6, 6, 6, 6, 6, 6, 6, 6, 6, 6, 6, 6, 6, 6, 6, 6, 6, 6, 7, 7, 7, 7, 7, 7, 7, 7, 7, 7, 7, 7, 7, 7, 7, 7, 7, 7, 7, 7, 7, 7, 7, 7, 7, 7, 7, 7, 7, 7, 7, 7, 7, 7, 7, 7, 7, 7, 7, 7, 7, 7, 7, 7, 7, 7, 7, 7, 7, 7, 7, 7, 7, 7, 7, 7, 7, 7, 7, 7, 7, 7, 7, 7, 8, 8, 8, 8, 8, 8, 8, 8, 8, 8, 8, 8, 8, 8, 8, 8, 8, 8, 8, 8, 8, 8, 8, 8, 8, 8, 8, 8, 8, 8, 8, 8, 8, 8, 8, 8, 8, 8, 8, 8, 8, 8, 8, 8, 8, 8, 8, 8, 8, 8, 8, 8, 8, 8, 8, 8, 8, 8, 8, 8, 8, 8, 8, 8, 8, 8, 8, 8, 8, 8, 8, 8, 8, 8, 8, 8, 8, 8, 8, 8, 8, 8, 8, 8, 8, 8, 8, 8, 8, 8, 8, 8, 8, 8, 8, 8, 8, 8, 8, 8, 8, 8, 8, 8, 8, 8, 8, 8, 8, 8, 8, 8, 8, 8, 8, 8, 8, 8, 8, 8, 8, 8, 8, 8, 8, 8, 8, 8]⟩) t1) fun t2 =>
  pv (cvV .i64 t2) fun t3 =>
  pv (binV .none .add x2 t3) fun t4 =>
  K t4 := by kernel_rfl
abbrev q37 : QD := bodyQ Tryz.prog Tryz.f37.results.toList K E
abbrev d37 (p : List Nat) : QD → Env → Hp → Prop := den Tryz.prog (sel (bodyOf Tryz.f37) p)
def m37_1_1_1_0_1_0_0 (j : Nat → Value) : Env := #[x0, x1, x2, x3, x4, v5, v6, (j 7), x8, x9, x10, x11, x12, x13, x14, x15, (j 16), (j 17), (j 18), (j 19), (j 20), (j 21), (j 22), (j 23), (j 24), (j 25), (j 26), (j 27), (j 28), (j 29), (j 30), (j 31), (j 32), (j 33), (j 34), (j 35), x36, x37, x38, x39, x40, x41]
theorem t37 : d37 [] (q37 K E) #[x0, x1, U, U, U, U, U, U, U, U, U, U, U, U, U, U, U, U, U, U, U, U, U, U, U, U, U, U, U, U, U, U, U, U, U, U, U, U, U, U, U, U] =
  callv Tryz.prog (.func (.func 68) #[] #[]) #[x0, x1] (fun t1 =>
  pv (binV .none .eql t1 (.int .i64 (-1))) fun t2 =>
  cnd t2 (
   K x0) (
   pv (binV .none .add t1 (.int .i64 1)) fun t3 =>
   lp (fun k1 => d37 [1, 1, 1, 0, 1, 0, 0] (thenD k1 (blk 0 (thenD (d37 [1, 1, 1, 1] (q37 K E)) (q37 K E))))) (m37_1_1_1_0_1_0_0 x0 x1 U U (.slice none 0 0) x0 x1 t1 t1 t2 U t1 t3 U U U U U U t1 t3 (jf #[])))) E := by kernel_rfl
theorem t37_1_1_1_0_1_0_0 : d37 [1, 1, 1, 0, 1, 0, 0] (thenD k1 (blk 0 (thenD (d37 [1, 1, 1, 1] (q37 K E)) (q37 K E)))) (m37_1_1_1_0_1_0_0 x0 x1 x2 x3 x4 x8 x9 x10 x11 x12 x13 x14 x15 x36 x37 x38 x39 x40 x41 v5 v6 j) =
  pv (lenV x0) fun t1 =>
  pv (binV .none .lss v6 t1) fun t2 =>
  cnd t2 (
   pv (iaV none 1 x0 v6) fun t3 =>
   ld false 1 t3 fun t4 =>
   callv Tryz.prog x1 #[t4] (fun t5 =>
   pv (unV .not t5) fun t6 =>
   cnd t6 (
    pv (iaV none 1 x0 v5) fun t7 =>
    st 1 t7 t4 fun _ =>
    pv (binV .none .add v5 (.int .i64 1)) fun t8 =>
    d37 [1, 1, 1, 0, 1, 0, 0, 1, 1] (thenD k1 (blk 0 (thenD (d37 [1, 1, 1, 1] (q37 K E)) (q37 K E)))) #[x0, x1, x2, x3, x4, t8, v6, t4, x8, x9, x10, x11, x12, x13, x14, x15, v6, x0, t1, t2, (j 20), (j 21), x0, v6, t3, t4, x1, t4, t5, t6, x0, v5, t4, t7, v5, t8, x36, x37, x38, x39, x40, x41]) (
    d37 [1, 1, 1, 0, 1, 0, 0, 1, 1] (thenD k1 (blk 0 (thenD (d37 [1, 1, 1, 1] (q37 K E)) (q37 K E)))) #[x0, x1, x2, x3, x4, v5, v6, t4, x8, x9, x10, x11, x12, x13, x14, x15, v6, x0, t1, t2, (j 20), (j 21), x0, v6, t3, t4, x1, t4, t5, t6, (j 30), (j 31), (j 32), (j 33), (j 34), (j 35), x36, x37, x38, x39, x40, x41])) E) (
   pv (slV 1 x0 (some v5) none none) fun t9 =>
   clr 30 [(.int .u32 0)] 1 t9 fun _ =>
   pv (slV 1 x0 none (some v5) none) fun t10 =>
   K t10) := by kernel_rfl
theorem t37_1_1_1_0_1_0_0_1_1 : d37 [1, 1, 1, 0, 1, 0, 0, 1, 1] (thenD k1 (blk 0 (thenD (d37 [1, 1, 1, 1] (q37 K E)) (q37 K E)))) #[x0, x1, x2, x3, x4, x5, x6, x7, x8, x9, x10, x11, x12, x13, x14, x15, x16, x17, x18, x19, x20, x21, x22, x23, x24, x25, x26, x27, x28, x29, x30, x31, x32, x33, x34, x35, x36, x37, x38, x39, x40, x41] =
  pv (binV .none .add x6 (.int .i64 1)) fun t1 =>
  k1 (m37_1_1_1_0_1_0_0 x0 x1 x2 x3 x4 x8 x9 x10 x11 x12 x13 x14 x15 x36 x37 x38 x39 x40 x41 x5 t1 (jf #[U, U, U, U, U, U, U, x7, U, U, U, U, U, U, U, U, x16, x17, x18, x19, x6, t1, x22, x23, x24, x25, x26, x27, x28, x29, x30, x31, x32, x33, x34, x35])) := by kernel_rfl
abbrev q68 : QD := bodyQ Tryz.prog Tryz.f68.results.toList K E
abbrev d68 (p : List Nat) : QD → Env → Hp → Prop := den Tryz.prog (sel (bodyOf Tryz.f68) p)
def m68_1_0_1_0_0 (j : Nat → Value) : Env := #[x0, x1, x2, x3, (j 4), (j 5), x6, x7, v8, (j 9), (j 10), (j 11), (j 12), (j 13), (j 14), (j 15), (j 16), (j 17), (j 18)]
theorem t68 : d68 [] (q68 K E) #[x0, x1, U, U, U, U, U, U, U, U, U, U, U, U, U, U, U, U, U] =
  pv (lenV x0) fun t1 =>
  lp (fun k1 => d68 [1, 0, 1, 0, 0] (thenD k1 (blk 0 (thenD (d68 [1, 1] (q68 K E)) (q68 K E))))) (m68_1_0_1_0_0 x0 x1 U U x0 t1 (.int .i64 0) (jf #[U, U, U, U, (.int .i64 0)])) := by kernel_rfl
theorem t68_1_0_1_0_0 : d68 [1, 0, 1, 0, 0] (thenD k1 (blk 0 (thenD (d68 [1, 1] (q68 K E)) (q68 K E)))) (m68_1_0_1_0_0 x0 x1 x2 x3 x6 x7 v8 j) =
  pv (binV .none .lss v8 x7) fun t1 =>
  cnd t1 (
   pv (iaV none 1 x0 v8) fun t2 =>
   ld false 1 t2 fun t3 =>
   callv Tryz.prog x1 #[t3] (fun t4 =>
   cnd t4 (
    K v8) (
    pv (binV .none .add v8 (.int .i64 1)) fun t5 =>
    k1 (m68_1_0_1_0_0 x0 x1 x2 x3 x6 x7 t5 (jf #[U, U, U, U, (j 4), v8, U, U, U, t1, v8, x1, x0, v8, t2, t3, t4, (j 17), t5])))) E) (
   K (.int .i64 (-1))) := by kernel_rfl
end
section
variable {K : Kont} {E : PanK} {k1 k2 k3 k4 k5 : Env → Hp → Prop} {σ : Type} {x0 x1 x2 x3 x4 x5 x6 x7 x8 x9 x10 x11 x12 x13 x14 x15 x16 x17 x18 x19 x20 x21 x22 x23 x24 x25 x26 x27 x28 x29 x30 x31 x32 x33 x34 x35 x36 x37 x38 x39 x40 x41 x42 x43 x44 x45 x46 x47 x48 x49 x50 x51 x52 x53 x54 x55 x56 x57 x58 x59 x60 x61 x62 x63 x64 x65 x66 x67 x68 x69 x70 x71 x72 x73 x74 x75 x76 x77 x78 x79 x80 x81 x82 x83 x84 x85 x86 x87 x88 x89 x90 x91 x92 x93 x94 x95 x96 x97 x98 x99 x100 x101 x102 x103 x104 x105 x106 x107 x108 x109 x110 x111 x112 x113 x114 x115 x116 x117 x118 x119 x120 x121 x122 x123 x124 x125 x126 x127 x128 x129 x130 x131 x132 x133 v0 v1 v2 v3 v4 v5 v6 v7 v8 v9 v10 v11 v12 v13 v14 v15 v16 v17 v18 v19 v20 v21 v22 v23 v24 v25 v26 v27 v28 v29 v30 v31 v32 v33 v34 v35 v36 v37 v38 v39 v40 v41 v42 v43 v44 v45 v46 v47 v48 v49 v50 v51 v52 v53 v54 v55 v56 v57 v58 v59 v60 v61 v62 v63 v64 v65 v66 v67 v68 v69 v70 v71 v72 v73 v74 v75 v76 v77 v78 v79 v80 v81 v82 v83 v84 v85 v86 v87 v88 v89 v90 v91 v92 v93 v94 v95 v96 v97 v98 v99 v100 v101 v102 v103 v104 v105 v106 v107 v108 v109 v110 v111 v112 v113 v114 v115 v116 v117 v118 v119 v120 v121 v122 v123 v124 v125 v126 v127 v128 v129 v130 v131 v132 v133 : Value} {h : Hp} {j : Nat → Value}
theorem l98_1_1_0_0 (f1 f2 f3 f8 f9 : σ → Value) (I : σ → Hp → Prop) (μ : σ → Nat) (s0 : σ) (e1 : v1 = f1 s0) (e2 : v2 = f2 s0) (e3 : v3 = f3 s0) (e8 : v8 = f8 s0) (e9 : v9 = f9 s0) (h0 : h.wf → ∃ h', h.wk h' ∧ I s0 h')
 (round : ∀ (k1 : Env → Hp → Prop) (s : σ) (j : Nat → Value) (h : Hp), I s h → h.wf → (∀ s' j' h', μ s' < μ s → (h'.wf → ∃ h'', h'.wk h'' ∧ I s' h'') → k1 (m98_1_1_0_0 x0 x4 x5 x6 x7 (f1 s') (f2 s') (f3 s') (f8 s') (f9 s') j') h') → d98 [1, 1, 0, 0] (thenD k1 (blk 0 (q98 K E))) (m98_1_1_0_0 x0 x4 x5 x6 x7 (f1 s) (f2 s) (f3 s) (f8 s) (f9 s) j) h) :
 lp (fun k1 => d98 [1, 1, 0, 0] (thenD k1 (blk 0 (q98 K E)))) (m98_1_1_0_0 x0 x4 x5 x6 x7 v1 v2 v3 v8 v9 j) h := by
 subst e1
 subst e2
 subst e3
 subst e8
 subst e9
 exact loop_r (fun s j => m98_1_1_0_0 x0 x4 x5 x6 x7 (f1 s) (f2 s) (f3 s) (f8 s) (f9 s) j) I μ round s0 j h0
theorem l121_1_0_0 (f6 : σ → Value) (I : σ → Hp → Prop) (μ : σ → Nat) (s0 : σ) (e6 : v6 = f6 s0) (h0 : h.wf → ∃ h', h.wk h' ∧ I s0 h')
 (round : ∀ (k1 : Env → Hp → Prop) (s : σ) (j : Nat → Value) (h : Hp), I s h → h.wf → (∀ s' j' h', μ s' < μ s → (h'.wf → ∃ h'', h'.wk h'' ∧ I s' h'') → k1 (m121_1_0_0 x0 x1 x2 x3 x4 x5 x8 x9 (f6 s') j') h') → d121 [1, 0, 0] (thenD k1 (blk 0 (q121 K E))) (m121_1_0_0 x0 x1 x2 x3 x4 x5 x8 x9 (f6 s) j) h) :
 lp (fun k1 => d121 [1, 0, 0] (thenD k1 (blk 0 (q121 K E)))) (m121_1_0_0 x0 x1 x2 x3 x4 x5 x8 x9 v6 j) h := by
 subst e6
 exact loop_r (fun s j => m121_1_0_0 x0 x1 x2 x3 x4 x5 x8 x9 (f6 s) j) I μ round s0 j h0
theorem l121_1_0_0_1_0_0_1_0_0 (f7 : σ → Value) (I : σ → Hp → Prop) (μ : σ → Nat) (s0 : σ) (e7 : v7 = f7 s0) (h0 : h.wf → ∃ h', h.wk h' ∧ I s0 h')
 (round : ∀ (k2 : Env → Hp → Prop) (s : σ) (j : Nat → Value) (h : Hp), I s h → h.wf → (∀ s' j' h', μ s' < μ s → (h'.wf → ∃ h'', h'.wk h'' ∧ I s' h'') → k2 (m121_1_0_0_1_0_0_1_0_0 x0 x1 x2 x3 x4 x5 x6 x8 x9 x10 x11 x12 x13 x14 x15 (f7 s') j') h') → d121 [1, 0, 0, 1, 0, 0, 1, 0, 0] (thenD k2 (blk 2 (blk 1 (thenD (d121 [1, 0, 0, 1, 1] (thenD k1 (blk 0 (q121 K E)))) (thenD k1 (blk 0 (q121 K E))))))) (m121_1_0_0_1_0_0_1_0_0 x0 x1 x2 x3 x4 x5 x6 x8 x9 x10 x11 x12 x13 x14 x15 (f7 s) j) h) :
 lp (fun k2 => d121 [1, 0, 0, 1, 0, 0, 1, 0, 0] (thenD k2 (blk 2 (blk 1 (thenD (d121 [1, 0, 0, 1, 1] (thenD k1 (blk 0 (q121 K E)))) (thenD k1 (blk 0 (q121 K E)))))))) (m121_1_0_0_1_0_0_1_0_0 x0 x1 x2 x3 x4 x5 x6 x8 x9 x10 x11 x12 x13 x14 x15 v7 j) h := by
 subst e7
 exact loop_r (fun s j => m121_1_0_0_1_0_0_1_0_0 x0 x1 x2 x3 x4 x5 x6 x8 x9 x10 x11 x12 x13 x14 x15 (f7 s) j) I μ round s0 j h0
theorem l37_1_1_1_0_1_0_0 (f5 f6 : σ → Value) (I : σ → Hp → Prop) (μ : σ → Nat) (s0 : σ) (e5 : v5 = f5 s0) (e6 : v6 = f6 s0) (h0 : h.wf → ∃ h', h.wk h' ∧ I s0 h')
 (round : ∀ (k1 : Env → Hp → Prop) (s : σ) (j : Nat → Value) (h : Hp), I s h → h.wf → (∀ s' j' h', μ s' < μ s → (h'.wf → ∃ h'', h'.wk h'' ∧ I s' h'') → k1 (m37_1_1_1_0_1_0_0 x0 x1 x2 x3 x4 x8 x9 x10 x11 x12 x13 x14 x15 x36 x37 x38 x39 x40 x41 (f5 s') (f6 s') j') h') → d37 [1, 1, 1, 0, 1, 0, 0] (thenD k1 (blk 0 (thenD (d37 [1, 1, 1, 1] (q37 K E)) (q37 K E)))) (m37_1_1_1_0_1_0_0 x0 x1 x2 x3 x4 x8 x9 x10 x11 x12 x13 x14 x15 x36 x37 x38 x39 x40 x41 (f5 s) (f6 s) j) h) :
 lp (fun k1 => d37 [1, 1, 1, 0, 1, 0, 0] (thenD k1 (blk 0 (thenD (d37 [1, 1, 1, 1] (q37 K E)) (q37 K E))))) (m37_1_1_1_0_1_0_0 x0 x1 x2 x3 x4 x8 x9 x10 x11 x12 x13 x14 x15 x36 x37 x38 x39 x40 x41 v5 v6 j) h := by
 subst e5
 subst e6
 exact loop_r (fun s j => m37_1_1_1_0_1_0_0 x0 x1 x2 x3 x4 x8 x9 x10 x11 x12 x13 x14 x15 x36 x37 x38 x39 x40 x41 (f5 s) (f6 s) j) I μ round s0 j h0
theorem l68_1_0_1_0_0 (f8 : σ → Value) (I : σ → Hp → Prop) (μ : σ → Nat) (s0 : σ) (e8 : v8 = f8 s0) (h0 : h.wf → ∃ h', h.wk h' ∧ I s0 h')
 (round : ∀ (k1 : Env → Hp → Prop) (s : σ) (j : Nat → Value) (h : Hp), I s h → h.wf → (∀ s' j' h', μ s' < μ s → (h'.wf → ∃ h'', h'.wk h'' ∧ I s' h'') → k1 (m68_1_0_1_0_0 x0 x1 x2 x3 x6 x7 (f8 s') j') h') → d68 [1, 0, 1, 0, 0] (thenD k1 (blk 0 (thenD (d68 [1, 1] (q68 K E)) (q68 K E)))) (m68_1_0_1_0_0 x0 x1 x2 x3 x6 x7 (f8 s) j) h) :
 lp (fun k1 => d68 [1, 0, 1, 0, 0] (thenD k1 (blk 0 (thenD (d68 [1, 1] (q68 K E)) (q68 K E))))) (m68_1_0_1_0_0 x0 x1 x2 x3 x6 x7 v8 j) h := by
 subst e8
 exact loop_r (fun s j => m68_1_0_1_0_0 x0 x1 x2 x3 x6 x7 (f8 s) j) I μ round s0 j h0
end
end Go.Proofs.YtgcmbkoejjcjlaaGreatDoor.T
open Go Go.RowKit Go.Proofs.YtgcmbkoejjcjlaaGreatDoor.K Go.Proofs.YtgcmbkoejjcjlaaGreatDoor.T
set_option linter.unusedVariables false
set_option linter.unusedSimpArgs false
namespace Go.Proofs.YtgcmbkoejjcjlaaGreatDoor.A
variable {F F' : Nat → Option (List Value)} {M M' : Nat → Option Chunk} {N N' : Nat} {K : Kont} {E : PanK}
noncomputable def frzP (F : Nat → Option (List Value)) (M : Nat → Option Chunk) (p : Nat → Prop) : Nat → Option (List Value) := fun b => open Classical in if p b then (match M b with | some (.cells _ cs _) => some cs | _ => F b) else F b
theorem subF_frzP {p : Nat → Prop} (hc : (Hp.mk F M N).wf) : subF F (frzP F M p) := fun b cs hb => by
  unfold frzP
  split
  · rw [show M b = none from hc.d b cs hb]; exact hb
  · exact hb
theorem wk_P {p : Nat → Prop} (hc : (Hp.mk F M N).wf) : (Hp.mk F M N).wk ⟨frzP F M p, keepM M (fun q => ¬ p q), N⟩ := by
  refine ⟨rfl, keepM_sub _ _, fun b cs hb => ?_, fun b cs hb => ?_⟩
  · simp only [frzP] at hb
    split at hb
    · rename_i hp
      split at hb
      · rename_i e cs' tot he; cases hb; exact .inr ⟨by simp [keepM, hp], e, cs, tot, he, List.prefix_refl _⟩
      · exact .inl hb
    · exact .inl hb
  · simp only [frzP] at hb
    split at hb
    · rename_i hp; simp [keepM, hp]
    · have : M b = none := hc.d b cs hb
      simp only [keepM, this]; split <;> rfl
theorem own.frzP {B : Nat} {e : TypeId} {sz n : Nat} {v : Value} {cs : List Value} {p : Nat → Prop} (h : own M B e sz v n cs) (hp : ∀ q, v.ownBlock = some q → p q) : sF (A.frzP F M p) sz v n cs := by
  refine ⟨h.1, ?_⟩
  rcases h.2 with ⟨rfl, rfl⟩ | ⟨b, c, rest, rfl, h2, h3, h4, h5⟩
  · exact .inl ⟨_, _, rfl, rfl⟩
  · refine .inr ⟨b, 0, c, cs ++ rest, rfl, h2, ?_, by rw [List.drop_zero, ← h.1, List.take_left]⟩
    have := hp b rfl
    simp [A.frzP, this, h5]
theorem own.far {B : Nat} {e : TypeId} {sz n : Nat} {u v v' : Value} {cs : List Value} (h : own M B e sz u n cs) (hf : fr M M' N v v') (hm : clean M N) (hne : ∀ q, u.ownBlock = some q → v.ownBlock ≠ some q) : own M' B e sz u n cs ∧ ∀ q, u.ownBlock = some q → v'.ownBlock ≠ some q :=
  ⟨h.keep (fun q hq => (hf q (hne q hq) (h.lt hm q hq)).1) (Nat.le_refl _), fun q hq => (hf q (hne q hq) (h.lt hm q hq)).2⟩
def divA : Nat → List Nat → Nat
  | a, [] => a
  | a, b :: l => divA (a * (2 + b % 4)) l
def divL : Nat → List Nat → List Nat
  | _, [] => []
  | a, b :: l => (a * (2 + b % 4)) :: divL (a * (2 + b % 4)) l
theorem divA_snoc (l : List Nat) (b : Nat) : ∀ a, divA a (l ++ [b]) = divA a l * (2 + b % 4) := by
  induction l with
  | nil => intro a; rfl
  | cons x l ih => intro a; exact ih _
theorem divL_snoc (l : List Nat) (b : Nat) : ∀ a, divL a (l ++ [b]) = divL a l ++ [divA a l * (2 + b % 4)] := by
  induction l with
  | nil => intro a; rfl
  | cons x l ih => intro a; simp only [List.cons_append, divL]; rw [ih]; rfl
theorem divA_le (l : List Nat) : ∀ a, divA a l ≤ a * 5 ^ l.length := by
  induction l with
  | nil => intro a; simp [divA]
  | cons x l ih =>
    intro a
    simp only [divA, List.length_cons]
    have h1 := ih (a * (2 + x % 4))
    have h2 : a * (2 + x % 4) ≤ a * 5 := Nat.mul_le_mul_left _ (by omega)
    have h3 : a * (2 + x % 4) * 5 ^ l.length ≤ a * 5 * 5 ^ l.length := Nat.mul_le_mul_right _ h2
    rw [Nat.pow_succ, Nat.mul_comm (5 ^ l.length) 5, ← Nat.mul_assoc]
    omega
theorem divL_len (l : List Nat) : ∀ a, (divL a l).length = l.length := by
  induction l with
  | nil => intro a; rfl
  | cons x l ih => intro a; simp [divL, ih]
def dimOf (c : Int × List Int) : Dm := (1 + c.1 % 200, (divL 1 ((c.2.take 4).map Int.toNat)).map (fun n : Nat => (n : Int)))
def dimsOf (m : List (Int × List Int)) : List Dm := if m = [] then [(100, [10])] else (m.take 4).map dimOf
def cutD (F : Nat → Option (List Value)) (cs : List Value) (c : Int × List Int) : Prop := ∃ v, cs = [.int .u16 c.1, v] ∧ sF F 1 v c.2.length (ick .u8 c.2) ∧ c.2.length ≤ 140737488351232
theorem cutD.mono {cs : List Value} {d : Int × List Int} (h : cutD F cs d) (hF : subF F F') : cutD F' cs d := let ⟨v, h1, h2, h3⟩ := h; ⟨v, h1, h2.mono hF, h3⟩
def cutsD (F : Nat → Option (List Value)) (v : Value) (l : List (Int × List Int)) : Prop := ∃ rows, sF F 2 v l.length rows.flatten ∧ rowsF (cutD F) 2 rows l
theorem cutsD.mono {v : Value} {t : List (Int × List Int)} (h : cutsD F v t) (hF : subF F F') : cutsD F' v t := let ⟨rows, h1, h2⟩ := h; ⟨rows, h1.mono hF, h2.mono fun _ _ hr => hr.mono hF⟩
set_option maxRecDepth 10000 in
theorem dof_c {u : Value} {m : List (Int × List Int)} (hu : cutsD F u m) (hml : m.length ≤ 140737488351232) (hc : ∀ c ∈ m, (0 ≤ c.1 ∧ c.1 < 65536) ∧ ∀ x ∈ c.2, 0 ≤ x ∧ x < 256)
    (k : ∀ v' F' N', (Hp.mk F' M N').wf → subF F F' → N ≤ N' → dimsD F' v' (dimsOf m) → K v' ⟨F', M, N'⟩) :
    callv Tryz.prog (.func (.func 12) #[] #[]) #[u] K E ⟨F, M, N⟩ := by
  refine callv_of_text mixed Tryz.func12 (by kernel_rfl) (t12 _ E _) (fun hw => ?_)
  have hm : clean M N := hw.m
  obtain ⟨crows, hu1, hu2⟩ := hu
  have hlu : lenV u = some (.int .i64 (m.length : Nat)) := by obtain ⟨a, c, rfl, _⟩ := hu1.form; rfl
  refine l12_1_1_0_1_0_0 (σ := Nat × Value) (fun s => s.2) (fun s => .int .i64 (s.1 : Nat))
    (fun s h => ∃ F' M' N' rows, h = ⟨F', M', N'⟩ ∧ subF F F' ∧ N ≤ N' ∧ (∀ q, q < N → M' q = M q) ∧ clean M' N' ∧ s.1 ≤ m.length ∧ s.1 ≤ 4 ∧ own M' N 88 2 s.2 s.1 rows.flatten ∧ rowsF (dimD F') 2 rows ((m.take s.1).map dimOf)) (fun s => 4 - s.1) (0, .slice none 0 0) rfl rfl
    (fun hw2 => ⟨_, wk_refl hw2, F, M, N, [], rfl, subF.refl _, Nat.le_refl _, fun _ _ => rfl, hm, Nat.zero_le _, Nat.zero_le _, own.nil, rowsF.nil _ _⟩) (fun k1 s j h1 hI hw2 next => ?_)
  rw [t12_1_1_0_1_0_0]
  obtain ⟨F2, M2, N2, rows, rfl, hF2, hN2, hM2, hm2, hi, hi2, ho2, hr2⟩ := hI
  have hu1' := hu1.mono hF2
  have hu2' : rowsF (cutD F2) 2 crows m := hu2.mono fun _ _ h => h.mono hF2
  try simp only [hlu]
  try simp only [sS]
  by_cases hgo : s.1 < m.length ∧ s.1 < 4
  · obtain ⟨h1, h2⟩ := hgo
    refine lss_t (by omega) ?_
    try simp only [sS]
    refine lss_t (by omega) ?_
    try simp only [sS]
    obtain ⟨⟨c0, c1⟩, cb⟩ := hc m[s.1] (List.getElem_mem _)
    refine fld_r hu1' hu2' (by decide) h1 (off := 0) (by decide) fun p q r x hR _ hx => ?_
    obtain ⟨bv, rfl, hbv, hbl⟩ := hR
    simp at hx
    subst hx
    rw [show m[s.1].1 = ((m[s.1].1.toNat : Nat) : Int) by omega]
    refine rem_n (b := 200) (by decide) (cv_i64 (by omega) (add_n (a := 1) (by omega) ?_))
    obtain ⟨sz, hsz⟩ : ∃ sz : Int, ((1 + m[s.1].1.toNat % 200 : Nat) : Int) = sz := ⟨_, rfl⟩
    rw [hsz]
    refine pv_r (v := .agg #[.int .i64 sz, .slice none 0 0]) (by kernel_rfl) ?_
    refine nw_r (fun bx hbx => ?_)
    refine stM (cs' := [.int .i64 sz, .slice none 0 0]) ?_ (upd_same _ _ _)
    rw [upd_upd]
    have hs1 : (dimOf m[s.1]).1 = sz := by
      rw [← hsz]
      simp only [dimOf]
      omega
    refine l12_1_1_0_1_0_0_1_0_0_1_1_0_1_0_0 (σ := Nat × Nat) (fun s => .int .i64 (s.2 : Nat)) (fun s => .int .i64 (s.1 : Nat))
      (fun t h => ∃ M' N' dv, h = ⟨F2, M', N'⟩ ∧ bx < N' ∧ (∀ q, q < N → M' q = M q) ∧ clean M' N' ∧ t.1 ≤ m[s.1].2.length ∧ t.1 ≤ 4 ∧ t.2 = divA 1 ((m[s.1].2.take t.1).map Int.toNat) ∧ M' bx = some (.cells 88 [.int .i64 sz, dv] 2) ∧
        own M' N 3 1 dv t.1 (ic ((divL 1 ((m[s.1].2.take t.1).map Int.toNat)).map (fun n : Nat => (n : Int)))) ∧ own M' N 88 2 s.2 s.1 rows.flatten ∧ dv.ownBlock ≠ some bx ∧ s.2.ownBlock ≠ some bx ∧ (∀ q, s.2.ownBlock = some q → dv.ownBlock ≠ some q)) (fun t => 4 - t.1) (0, 1) rfl rfl
      (fun hw3 => ⟨_, wk_refl hw3, _, _, .slice none 0 0, rfl, Nat.lt_succ_self _, fun q hq => (upd_ne _ _ (by omega)).trans (hM2 q hq), hm2.new hbx _, Nat.zero_le _, Nat.zero_le _, by simp [divA], by rw [upd_same]; rfl, by simpa [divL, ic] using own.nil, ho2.box hm2 hbx _, by simp [Value.ownBlock], fun e => by have := ho2.lt hm2 bx e; omega, fun q _ => by simp [Value.ownBlock]⟩) (fun k2 t j2 h2' hI2 hw3 next2 => ?_)
    rw [t12_1_1_0_1_0_0_1_0_0_1_1_0_1_0_0]
    obtain ⟨M3, N3, dv, rfl, hbN, hM3, hm3, ht1, ht2, ht3, hbx3, hdv, hout, hd1, hd2, hd3⟩ := hI2
    obtain ⟨da, dc, hdf, _⟩ := hdv.form
    have hbl4 : t.1 < m[s.1].2.length → t.1 < 4 → ∀ x, x = t.2 → x ≤ 625 := fun _ _ x e => by
      rw [e, ht3]
      have h5 := divA_le ((m[s.1].2.take t.1).map Int.toNat) 1
      rw [List.length_map, List.length_take, Nat.min_eq_left ht1, Nat.one_mul] at h5
      exact Nat.le_trans h5 (Nat.le_trans (Nat.pow_le_pow_right (by decide) ht2) (by decide))
    refine fld_r hu1' hu2' (by decide) h1 (off := 1) (by decide) fun p q r x hR _ hx => ?_
    obtain ⟨bv, rfl, hbv, hbl⟩ := hR
    simp at hx
    subst hx
    refine lenF_r hbv ?_
    by_cases hgo2 : t.1 < m[s.1].2.length ∧ t.1 < 4
    · obtain ⟨h3, h4⟩ := hgo2
      have h625 := hbl4 h3 h4 t.2 rfl
      refine lss_t (by omega) ?_
      try simp only [sS]
      refine lss_t (by omega) ?_
      try simp only [sS]
      refine fld_r hu1' hu2' (by decide) h1 (off := 1) (by decide) fun p q r x hR _ hx => ?_
      obtain ⟨bv, rfl, hbv, hbl⟩ := hR
      simp at hx
      subst hx
      refine ixk_r hbv h3 fun p => ?_
      obtain ⟨b0, b1⟩ := cb m[s.1].2[t.1] (List.getElem_mem _)
      obtain ⟨bn, hbn, hbn2⟩ : ∃ n : Nat, m[s.1].2[t.1] = (n : Int) ∧ n < 256 := ⟨m[s.1].2[t.1].toNat, by omega, by omega⟩
      rw [hbn]
      refine rem_n (b := 4) (by decide) (cv_i64 (by omega) (add_n (a := 2) (by omega) ?_))
      have hmul : t.2 * (2 + bn % 4) ≤ 625 * 5 := Nat.mul_le_mul h625 (by omega)
      refine mul_n (by omega) ?_
      refine ldM (v := dv) ?_ hbx3
      have hlast : ((m[s.1].2.take (t.1 + 1)).map Int.toNat) = (m[s.1].2.take t.1).map Int.toNat ++ [bn] := by
        rw [List.take_add_one, List.getElem?_eq_getElem h3, Option.toList_some, List.map_append, hbn]; simp
      refine push_r (new := [.int .i64 ((t.2 * (2 + bn % 4) : Nat) : Int)]) hdv hm3 (by omega) (by kernel_rfl) rfl (List.all_eq_true.1 rfl) (by omega) (by unfold maxLen; omega) (fun p v' M4 N4 h4' h5 h6 h7 => ?_)
      obtain ⟨va, vc, hvf, _⟩ := h4'.form
      have hb4 : M4 bx = some (.cells 88 [.int .i64 sz, dv] 2) := ((h5 bx hd1 hbN).1).trans hbx3
      refine stM (cs' := [.int .i64 sz, v']) ?_ hb4 (by rw [hvf]; rfl) (by rw [hvf]; rfl) (by rw [hvf]; exact List.all_eq_true.1 rfl)
      refine inc_r (by omega) ?_
      obtain ⟨hout4, hne4⟩ := hout.far h5 hm3 hd3
      have hv'b := (h5 bx hd1 hbN).2
      refine next2 (t.1 + 1, t.2 * (2 + bn % 4)) _ _ (by simp only; omega) (fun hw4 => ⟨_, wk_refl hw4, _, N4, v', rfl, by omega, fun q hq => ?_, h7.set (by omega) _, h3, by simp only; omega, ?_, upd_same _ _ _, ?_, ?_, hv'b, hd2, hne4⟩)
      · exact (upd_ne _ _ (by omega)).trans (((h5 q (fun e => by have := (hdv.ge q e).1; omega) (by omega)).1).trans (hM3 q hq))
      · simp only
        rw [hlast, divA_snoc, ht3]
      · simp only
        rw [hlast, divL_snoc, List.map_append, ← ht3]
        have h8 := h4'.keep (M' := upd M4 bx (some (.cells 88 [.int .i64 sz, v'] 2))) (fun q hq => upd_ne _ _ (fun e => hv'b (e ▸ hq))) (Nat.le_refl _)
        simpa [ic] using h8
      · exact hout4.keep (fun q hq => upd_ne _ _ (fun e => hd2 (e ▸ hq))) (Nat.le_refl _)
    · have hend : t.1 = min m[s.1].2.length 4 := by omega
      have e1 : m[s.1].2.take t.1 = m[s.1].2.take 4 := by
        rcases Nat.lt_or_ge m[s.1].2.length 4 with h | h
        · rw [List.take_of_length_le (by omega), List.take_of_length_le (by omega)]
        · rw [show t.1 = 4 by omega]
      rw [e1] at hdv
      have hx5 : dimOf m[s.1] = (sz, (divL 1 ((m[s.1].2.take 4).map Int.toNat)).map (fun n : Nat => (n : Int))) := by rw [← hs1]; rfl
      have hdl : t.1 = (dimOf m[s.1]).2.length := by rw [hx5, ← e1]; simp [divL_len]; omega
      refine lss_r (fun hl1 => ?_) (fun hl1 => ?_)
      try simp only [sS]
      refine lss_f (by omega) ?_
      all_goals
        try simp only [sS]
        refine ldMa (vs := [.int .i64 sz, dv]) ?_ hbx3
        refine push_r (new := [.int .i64 sz, dv]) hout hm3 (by omega) (by rw [hdf]; kernel_rfl) rfl (by rw [hdf]; exact List.all_eq_true.1 rfl) (by omega) (by unfold maxLen; omega) (fun p v' M4 N4 h4' h5 h6 h7 => ?_)
        refine inc_r (by omega) ?_
        obtain ⟨hdv4, hne4⟩ := hdv.far h5 hm3 (fun q hq e => hd3 q e hq)
        refine next (s.1 + 1, v') _ _ (by simp only; omega) (fun hw4 => ⟨_, wk_P (p := fun q => N ≤ q ∧ v'.ownBlock ≠ some q) hw4, _, _, N4, rows ++ [[.int .i64 sz, dv]], rfl, hF2.trans (subF_frzP hw4), by omega, fun q hq => ?_, keepM_clean h7, h1, by simp only; omega, ?_, ?_⟩)
        · rw [keepM_in (by omega)]
          exact ((h5 q (fun e => by have := (hout.ge q e).1; omega) (by omega)).1).trans (hM3 q hq)
        · have h8 := h4'.keep (M' := keepM M4 (fun q => ¬ (N ≤ q ∧ v'.ownBlock ≠ some q))) (fun q hq => keepM_in (fun h => h.2 hq)) (Nat.le_refl _)
          simpa using h8
        · simp only
          rw [List.take_add_one, List.getElem?_eq_getElem h1, Option.toList_some, List.map_append, List.map_singleton]
          have hr1 : dimD (frzP F2 M4 (fun q => N ≤ q ∧ v'.ownBlock ≠ some q)) [.int .i64 sz, dv] (dimOf m[s.1]) := ⟨dv, by rw [hs1], by
            have h9 := hdv4.frzP (F := F2) (p := fun q => N ≤ q ∧ v'.ownBlock ≠ some q) (fun q hq => ⟨(hdv.ge q hq).1, hne4 q hq⟩)
            rw [← hdl]
            rw [hx5]; exact h9, by rw [← hdl]; omega⟩
          exact rowsF_snoc1 (hr2.mono fun _ _ h => h.mono (subF_frzP hw4)) hr1.one hr1
  · obtain ⟨oa, oc, hof, _⟩ := ho2.form
    have hlo : lenV s.2 = some (.int .i64 (s.1 : Nat)) := by rw [hof]; rfl
    have hend : s.1 = min m.length 4 := by omega
    have e1 : m.take s.1 = m.take 4 := by
      rcases Nat.lt_or_ge m.length 4 with h | h
      · rw [List.take_of_length_le (by omega), List.take_of_length_le (by omega)]
      · rw [show s.1 = 4 by omega]
    refine lss_r (fun hl1 => ?_) (fun hl1 => ?_)
    try simp only [sS]
    refine lss_f (by omega) ?_
    all_goals
      try simp only [sS]
      try simp only [hlo]
      try simp only [sS]
      by_cases h0 : s.1 = 0
      · have hm0 : m = [] := List.eq_nil_of_length_eq_zero (by omega)
        refine eql_t (by omega) ?_
        try simp only [sS]
        refine nws_r (cs := [.int .i64 10]) (by kernel_rfl) (fun b1 hb1 => ?_)
        refine pv_r (v := .agg #[.int .i64 100, .slice (some ⟨b1, 0, none⟩) 1 1]) (by kernel_rfl) ?_
        have hb1v : s.2.ownBlock ≠ some b1 := fun e => by have := ho2.lt hm2 b1 e; omega
        refine push_r (new := [.int .i64 100, .slice (some ⟨b1, 0, none⟩) 1 1]) (ho2.box hm2 hb1 _) (hm2.new hb1 _) (by omega) (by kernel_rfl) rfl (List.all_eq_true.1 rfl) (by omega) (by unfold maxLen; omega) (fun p v' M4 N4 h4' h5 h6 h7 => ?_)
        rw [t12_1_1_1_1]
        have hMM : ∀ q, q < N → M4 q = M q := fun q hq => ((h5 q (fun e => by have := (ho2.ge q e).1; omega) (by omega)).1).trans ((upd_ne _ _ (by omega)).trans (hM2 q hq))
        have hb4 : M4 b1 = some (.cells 3 [.int .i64 10] 1) := ((h5 b1 hb1v (by omega)).1).trans (upd_same _ _ _)
        refine fun hc' => ⟨_, frz_wf hm hMM hc', fun hw' => k v' _ N4 hw' (hF2.trans (subF_frzAll hc')) (by omega) ⟨rows ++ [[.int .i64 100, .slice (some ⟨b1, 0, none⟩) 1 1]], ?_, ?_⟩⟩
        · have := h4'.rd.frz hc' (fun b hb => .inl (h4'.ge b hb).1)
          rw [hm0] at hr2 ⊢
          have hr0 : rows = [] := List.eq_nil_of_length_eq_zero (by have := hr2.all.1; simpa using this)
          subst hr0
          rw [h0] at this
          simpa [dimsOf] using this
        · rw [hm0] at hr2 ⊢
          have hr1 : dimD (frzAll F2 M4 N) [.int .i64 100, .slice (some ⟨b1, 0, none⟩) 1 1] (100, [10]) := ⟨_, rfl, sF_lit (frz_at (by omega) hb4) rfl (by decide), by decide⟩
          have hr0 : rows = [] := List.eq_nil_of_length_eq_zero (by have := hr2.all.1; simpa using this)
          subst hr0
          exact rowsF_snoc1 (rowsF.nil _ _) hr1.one hr1
      · refine eql_f (by omega) ?_
        try simp only [sS]
        rw [t12_1_1_1_1]
        have hne : m ≠ [] := fun e => by rw [e] at hend; simp at hend; omega
        refine fun hc' => ⟨_, frz_wf hm hM2 hc', fun hw' => k s.2 _ N2 hw' (hF2.trans (subF_frzAll hc')) hN2 ⟨rows, ?_, ?_⟩⟩
        · have := ho2.rd.frz hc' (fun b hb => .inl (ho2.ge b hb).1)
          unfold dimsOf
          rw [if_neg hne, List.length_map, List.length_take, show min 4 m.length = s.1 by omega]; exact this
        · unfold dimsOf
          rw [if_neg hne, ← e1]; exact hr2.mono fun _ _ h => h.mono (subF_frzAll hc')
end Go.Proofs.YtgcmbkoejjcjlaaGreatDoor.A
open Go Go.RowKit Go.Proofs.YtgcmbkoejjcjlaaGreatDoor.K Go.Proofs.YtgcmbkoejjcjlaaGreatDoor.T
set_option linter.unusedVariables false
set_option linter.unusedSimpArgs false
namespace Go.Proofs.YtgcmbkoejjcjlaaGreatDoor.A
variable {F F' : Nat → Option (List Value)} {M M' : Nat → Option Chunk} {N N' : Nat} {K : Kont} {E : PanK}
def chk (last : Int) : List Int → Bool
  | [] => true
  | x :: l => decide (¬ (x ≤ last ∨ x > 10000 ∨ x % last ≠ 0)) && chk x l
def okDim (d : Dm) : Bool := decide (1 ≤ d.1 ∧ d.1 ≤ 10000 ∧ d.2.length ≤ 4) && chk 1 d.2
theorem chk_cons {last x : Int} {l : List Int} (h : chk last (x :: l) = true) : last < x ∧ x ≤ 10000 ∧ last ∣ x ∧ chk x l = true := by
  simp only [chk, Bool.and_eq_true] at h
  have := of_decide_eq_true h.1
  exact ⟨by omega, by omega, Int.dvd_of_emod_eq_zero (by omega), h.2⟩
theorem chk_get : ∀ {l : List Int} {last : Int}, chk last l = true → ∀ (i : Nat) (h : i < l.length), last < l[i] ∧ l[i] ≤ 10000 ∧ last ∣ l[i] ∧ chk l[i] (l.drop (i + 1)) = true
  | [], _, _, i, h => by simp at h
  | x :: l, last, hc, 0, h => by obtain ⟨a, b, c, d⟩ := chk_cons hc; exact ⟨a, b, c, by simpa using d⟩
  | x :: l, last, hc, i + 1, h => by
    obtain ⟨a, b, c, d⟩ := chk_cons hc
    obtain ⟨e, f, g, k⟩ := chk_get d i (by simpa using h)
    simp only [List.getElem_cons_succ, List.drop_succ_cons]
    exact ⟨by omega, f, Int.dvd_trans c g, k⟩
theorem chk_lt {l : List Int} (hc : chk 1 l = true) {i j : Nat} (hij : i < j) (hj : j < l.length) : l[i] < l[j] ∧ l[i] ∣ l[j] ∧ 0 < l[i] := by
  obtain ⟨a, b, c, d⟩ := chk_get hc i (by omega)
  have h := chk_get d (j - (i + 1)) (by rw [List.length_drop]; omega)
  simp only [List.getElem_drop] at h
  have e : i + 1 + (j - (i + 1)) = j := by omega
  simp only [e] at h
  exact ⟨h.1, h.2.2.1, by omega⟩
def prevD (l : List Int) (i : Nat) : Int := if h : 0 < i ∧ i ≤ l.length then l[i - 1] else 1
theorem chk_at {l : List Int} {i : Nat} (h : i < l.length) : chk (prevD l i) (l.drop i) = (decide (¬ (l[i] ≤ prevD l i ∨ l[i] > 10000 ∨ l[i] % prevD l i ≠ 0)) && chk (prevD l (i + 1)) (l.drop (i + 1))) := by
  rw [List.drop_eq_getElem_cons h]
  simp only [chk]
  congr 2
  unfold prevD
  rw [dif_pos ⟨by omega, by omega⟩]
  simp
theorem rem_i {e : EqK} {k : IntKind} {a b : Int} {h : Hp} (ha : 0 ≤ a) (hb : 0 < b) (kk : K (.int k (a % b)) h) : pv (binV e .rem (.int k a) (.int k b)) K h :=
  ⟨_, by rw [inV]; simp only [intV]; rw [if_neg (by omega)], by rw [Int.tmod_eq_emod_of_nonneg ha]; exact kk⟩
theorem quo_i {e : EqK} {a b : Int} {h : Hp} (ha : 0 ≤ a) (ha2 : a ≤ 9223372036854775807) (hb : 0 < b) (kk : K (.int .i64 (a / b)) h) : pv (binV e .quo (.int .i64 a) (.int .i64 b)) K h :=
  ⟨_, by rw [inV]; simp only [intV]; rw [if_neg (by omega)], by
    rw [Int.tdiv_eq_ediv_of_nonneg ha, wrap_in (by have := Int.ediv_nonneg ha (Int.le_of_lt hb); omega) (by have := Int.ediv_le_self b ha; omega)]; exact kk⟩
theorem dright_c {cs : List Value} {d : Dm} (hd : dimD F cs d) (k : ∀ N', N ≤ N' → (Hp.mk F M N').wf → K (.bool (okDim d)) ⟨F, M, N'⟩) :
    callv Tryz.prog (.func (.func 92) #[] #[]) #[.agg cs.toArray] K E ⟨F, M, N⟩ := by
  refine callv_of_text mixed Tryz.func92 (by kernel_rfl) (t92 _ E _) (fun hw => ?_)
  have hm := hw.m
  obtain ⟨v, rfl, hv, hvl⟩ := hd
  refine nw_r (cs := [.int .i64 d.1, v]) (fun b hb => ?_)
  have fin : ∀ v', v' = okDim d → ∀ h', h' = (⟨F, upd M b (some (.cells 88 [.int .i64 d.1, v] 2)), b + 1⟩ : Hp) → h'.wf → ∃ h'', h'.wk h'' ∧ (h''.wf → K (.bool v') h'') := fun v' e h' e' hc => by
    subst e; subst e'
    exact ⟨⟨F, M, b + 1⟩, wk_end hc, fun hw' => k _ (by omega) hw'⟩
  unfold okDim at fin
  have no : ¬ (1 ≤ d.1 ∧ d.1 ≤ 10000 ∧ d.2.length ≤ 4) → false = (decide (1 ≤ d.1 ∧ d.1 ≤ 10000 ∧ d.2.length ≤ 4) && chk 1 d.2) := fun h => by rw [decide_eq_false h]; rfl
  try simp only [sS]
  refine ldM (v := .int .i64 d.1) ?_
  refine lss_r (fun h1 => ?_) (fun h1 => ?_)
  · try simp only [sS]
    exact fin _ (no (by omega)) _ rfl
  try simp only [sS]
  refine ldM (v := .int .i64 d.1) ?_
  refine gtr_r (fun h2 => ?_) (fun h2 => ?_)
  · try simp only [sS]
    exact fin _ (no (by omega)) _ rfl
  try simp only [sS]
  refine ldM (v := v) (lenF_r hv ?_)
  refine gtr_r (fun h3 => ?_) (fun h3 => ?_)
  · try simp only [sS]
    exact fin _ (no (by omega)) _ rfl
  try simp only [sS]
  refine ldM (v := v) (lenF_r hv ?_)
  rw [decide_eq_true ⟨by omega, by omega, by omega⟩, Bool.true_and] at fin
  refine l92_1_1_1_0_1_0_0 (σ := Nat) (fun i => .int .i64 (prevD d.2 i)) (fun i => .int .i64 (i : Nat)) (fun i h => h = ⟨F, upd M b (some (.cells 88 [.int .i64 d.1, v] 2)), b + 1⟩ ∧ i ≤ d.2.length ∧ chk 1 d.2 = chk (prevD d.2 i) (d.2.drop i) ∧ 1 ≤ prevD d.2 i) (fun i => d.2.length - i) 0 rfl rfl
    (fun hw1 => ⟨_, wk_refl hw1, rfl, Nat.zero_le _, rfl, by simp [prevD]⟩) (fun k1 i j h1' hI hw1 next => ?_)
  rw [t92_1_1_1_0_1_0_0]
  obtain ⟨rfl, hi, he, hp⟩ := hI
  refine lss_r (fun hlt => ?_) (fun hge => ?_)
  · have h4 : i < d.2.length := by omega
    rw [chk_at h4] at he
    try simp only [sS]
    refine ixn_r hv h4 fun p => ?_
    refine leq_r (fun h5 => ?_) (fun h5 => ?_)
    · try simp only [sS]
      exact fin _ (by rw [he, decide_eq_false (by omega)]; rfl) _ rfl
    try simp only [sS]
    refine gtr_r (fun h6 => ?_) (fun h6 => ?_)
    · try simp only [sS]
      exact fin _ (by rw [he, decide_eq_false (by omega)]; rfl) _ rfl
    try simp only [sS]
    refine rem_i (by omega) (by omega) ?_
    refine neq_r (fun h7 => ?_) (fun h7 => ?_)
    · try simp only [sS]
      exact fin _ (by rw [he, decide_eq_false (by omega)]; rfl) _ rfl
    try simp only [sS]
    refine inc_r (by omega) ?_
    have e2 : prevD d.2 (i + 1) = d.2[i] := by unfold prevD; rw [dif_pos ⟨by omega, by omega⟩]; simp
    rw [← e2]
    exact next (i + 1) _ _ (by omega) (fun hw2 => ⟨_, wk_refl hw2, rfl, h4, by rw [he, decide_eq_true (by omega)]; rfl, by rw [e2]; omega⟩)
  · try simp only [sS]
    exact fin _ (by rw [he, List.drop_eq_nil_of_le (by omega)]; rfl) _ rfl
end Go.Proofs.YtgcmbkoejjcjlaaGreatDoor.A
open Go Go.RowKit Go.Proofs.YtgcmbkoejjcjlaaGreatDoor.K Go.Proofs.YtgcmbkoejjcjlaaGreatDoor.T
set_option linter.unusedVariables false
set_option linter.unusedSimpArgs false
namespace Go.Proofs.YtgcmbkoejjcjlaaGreatDoor.A
variable {F F' : Nat → Option (List Value)} {M M' : Nat → Option Chunk} {N N' : Nat} {K : Kont} {E : PanK}
theorem levels_c {cs : List Value} {d : Dm} (hd : dimD F cs d) (k : ∀ N', N ≤ N' → (Hp.mk F M N').wf → K (.int .i64 ((d.2.length + 2 : Nat) : Int)) ⟨F, M, N'⟩) :
    callv Tryz.prog (.func (.func 134) #[] #[]) #[.agg cs.toArray] K E ⟨F, M, N⟩ := by
  refine callv_of_text mixed Tryz.func134 (by kernel_rfl) (t134 _ E _) (fun hw => ?_)
  have hm := hw.m
  obtain ⟨v, rfl, hv, hvl⟩ := hd
  refine nw_r (cs := [.int .i64 d.1, v]) (fun b hb => ?_)
  try simp only [sS]
  refine ldM (v := v) (lenF_r hv ?_)
  refine add_n (b := 2) (by omega) fun hc => ?_
  exact ⟨⟨F, M, b + 1⟩, wk_end hc, fun hw' => k _ (by omega) hw'⟩
theorem nright_c {cs : List Value} {d : Dm} (hd : dimD F cs d) (k : ∀ N', N ≤ N' → (Hp.mk F M N').wf → K (.bool (!okDim d)) ⟨F, M, N'⟩) :
    callv Tryz.prog (.func (.func 91) #[] #[]) #[.agg cs.toArray] K E ⟨F, M, N⟩ := by
  refine callv_of_text mixed Tryz.func91 (by kernel_rfl) (t91 _ E _) (fun hw => ?_)
  have hm := hw.m
  have hd' := hd
  obtain ⟨v, rfl, hv, hvl⟩ := hd
  refine nw_r (cs := [.int .i64 d.1, v]) (fun b hb => ?_)
  refine ldMa (vs := [.int .i64 d.1, v]) ?_
  refine dright_c hd' (fun N1 hN1 hw1 => ?_)
  try simp only [sS]
  exact fun hc => ⟨⟨F, M, N1⟩, wk_end hc, fun hw' => k _ (by omega) hw'⟩
def okDims (l : List Dm) : Bool := decide (0 < l.length ∧ l.length ≤ 4) && l.all okDim
theorem dimidx_c {v : Value} {l : List Dm} (hv : dimsD F v l) (hl : l.length ≤ 140737488351232) (k : ∀ (r : Int) N', N ≤ N' → (Hp.mk F M N').wf → (decide (r ≥ 0) = !l.all okDim) → K (.int .i64 r) ⟨F, M, N'⟩) :
    callv Tryz.prog (.func (.func 117) #[] #[]) #[v, .func (.func 91) #[] #[]] K E ⟨F, M, N⟩ := by
  refine callv_of_text mixed Tryz.func117 (by kernel_rfl) (t117 _ E _ _) (fun hw => ?_)
  obtain ⟨rows, hv1, hv2⟩ := hv
  refine lenF_r hv1 ?_
  refine l117_1_0_1_0_0 (σ := Nat) (fun i => .int .i64 (i : Nat)) (fun i h => ∃ N', h = ⟨F, M, N'⟩ ∧ N ≤ N' ∧ i ≤ l.length ∧ l.all okDim = (l.drop i).all okDim) (fun i => l.length - i) 0 rfl
    (fun hw1 => ⟨_, wk_refl hw1, N, rfl, Nat.le_refl _, Nat.zero_le _, rfl⟩) (fun k1 i j h1 hI hw1 next => ?_)
  rw [t117_1_0_1_0_0]
  obtain ⟨N1, rfl, hN1, hi, he⟩ := hI
  refine lss_r (fun hlt => ?_) (fun hge => ?_)
  · have h1 : i < l.length := by omega
    try simp only [sS]
    refine row_r hv1 hv2 (by decide) h1 fun p r _ hR _ _ => nright_c hR (fun N2 hN2 hw2 => ?_)
    rw [List.drop_eq_getElem_cons h1, List.all_cons] at he
    cases hn : okDim l[i]
    · try simp only [sS]
      refine fun hc => ⟨_, wk_refl hc, fun hw' => k _ _ (by omega) hw' ?_⟩
      rw [he, hn, decide_eq_true (by omega)]; rfl
    · try simp only [sS]
      refine inc_r (by omega) ?_
      refine next (i + 1) _ _ (by omega) (fun hw3 => ⟨_, wk_refl hw3, N2, rfl, by omega, by omega, ?_⟩)
      rw [he, hn, Bool.true_and]
  · try simp only [sS]
    refine fun hc => ⟨_, wk_refl hc, fun hw' => k _ _ hN1 hw' ?_⟩
    rw [he, List.drop_eq_nil_of_le (by omega)]; rfl
theorem dsound_c {v : Value} {l : List Dm} (hv : dimsD F v l) (hl : l.length ≤ 140737488351232) (k : ∀ N', N ≤ N' → (Hp.mk F M N').wf → K (.bool (okDims l)) ⟨F, M, N'⟩) :
    callv Tryz.prog (.func (.func 64) #[] #[]) #[v] K E ⟨F, M, N⟩ := by
  refine callv_of_text mixed Tryz.func64 (by kernel_rfl) (t64 _ E _) (fun hw => ?_)
  have hlv : lenV v = some (.int .i64 (l.length : Nat)) := by obtain ⟨a, c, rfl⟩ := hv.form; rfl
  have fin : ∀ v', v' = okDims l → ∀ N', N ≤ N' → ∀ h', h' = (⟨F, M, N'⟩ : Hp) → h'.wf → ∃ h'', h'.wk h'' ∧ (h''.wf → K (.bool v') h'') := fun v' e N' hN h' e' hc => by
    subst e; subst e'
    exact ⟨_, wk_refl hc, fun hw' => k _ hN hw'⟩
  unfold okDims at fin
  try simp only [hlv]
  try simp only [sS]
  refine gtr_r (fun h1 => ?_) (fun h1 => ?_)
  · try simp only [sS]
    try simp only [hlv]
    try simp only [sS]
    refine leq_r (fun h2 => ?_) (fun h2 => ?_)
    · rw [decide_eq_true ⟨by omega, by omega⟩, Bool.true_and] at fin
      try simp only [sS]
      refine callv_of_text mixed Tryz.func90 (by kernel_rfl) (t90 _ E _ _) (fun hw => ?_)
      refine dimidx_c hv hl (fun r N1 hN1 hw1 hr => ?_)
      cases ha : l.all okDim
      · rw [ha] at hr
        refine geq_t (by simpa using hr) fun hc => ⟨_, wk_refl hc, fun hw' => ?_⟩
        try simp only [sS]
        exact fin _ (by rw [ha]) _ hN1 _ rfl
      · rw [ha] at hr
        refine geq_f (by simpa using hr) fun hc => ⟨_, wk_refl hc, fun hw' => ?_⟩
        try simp only [sS]
        exact fin _ (by rw [ha]) _ hN1 _ rfl
    · try simp only [sS]
      exact fin _ (by rw [decide_eq_false (by omega)]; rfl) _ (Nat.le_refl _) _ rfl
  · try simp only [sS]
    exact fin _ (by rw [decide_eq_false (by omega)]; rfl) _ (Nat.le_refl _) _ rfl
def byF (d : Dm) (lv : Int) : Int := if lv = 0 then 1 else if lv > d.2.length then 0 else d.2.getD (lv - 1).toNat 0
theorem by_c {cs : List Value} {d : Dm} {lv : Int} (hd : dimD F cs d) (h0 : 0 ≤ lv) (k : ∀ N', N ≤ N' → (Hp.mk F M N').wf → K (.int .i64 (byF d lv)) ⟨F, M, N'⟩) :
    callv Tryz.prog (.func (.func 183) #[] #[]) #[.agg cs.toArray, .int .i64 lv] K E ⟨F, M, N⟩ := by
  refine callv_of_text mixed Tryz.func183 (by kernel_rfl) (t183 _ E _ _) (fun hw => ?_)
  have hm := hw.m
  obtain ⟨v, rfl, hv, hvl⟩ := hd
  refine nw_r (cs := [.int .i64 d.1, v]) (fun b hb => ?_)
  have fin : ∀ v', v' = byF d lv → ∀ h', h' = (⟨F, upd M b (some (.cells 88 [.int .i64 d.1, v] 2)), b + 1⟩ : Hp) → h'.wf → ∃ h'', h'.wk h'' ∧ (h''.wf → K (.int .i64 v') h'') := fun v' e h' e' hc => by
    subst e; subst e'
    exact ⟨⟨F, M, b + 1⟩, wk_end hc, fun hw' => k _ (by omega) hw'⟩
  unfold byF at fin
  refine eql_r (fun h1 => ?_) (fun h1 => ?_)
  · try simp only [sS]
    exact fin _ (by rw [if_pos h1]) _ rfl
  · rw [if_neg h1] at fin
    try simp only [sS]
    refine ldM (v := v) (lenF_r hv ?_)
    refine gtr_r (fun h2 => ?_) (fun h2 => ?_)
    · try simp only [sS]
      exact fin _ (by rw [if_pos h2]) _ rfl
    · try simp only [sS]
      refine ldM (v := v) (sub_r (by omega) (by omega) ?_)
      have h3 : (lv - 1).toNat < d.2.length := by omega
      rw [show lv - 1 = (((lv - 1).toNat : Nat) : Int) by omega]
      refine ixn_r hv h3 fun p => ?_
      exact fin _ (by rw [if_neg h2, List.getD_eq_getElem?_getD, List.getElem?_eq_getElem h3]; rfl) _ rfl
def upF (d : Dm) (a b v : Int) : Int := if okDim d = false ∨ a < 0 ∨ b < a ∨ b ≥ d.2.length + 2 ∨ v < 0 then -1 else if a = b then v else if byF d b = 0 then 0 else v / (byF d b / byF d a)
theorem byF_pos {d : Dm} (hd : okDim d = true) {a : Int} (h0 : 0 ≤ a) (h1 : a ≤ d.2.length) : 0 < byF d a ∧ byF d a ≤ 10000 := by
  unfold okDim at hd
  rw [Bool.and_eq_true] at hd
  unfold byF
  split
  · decide
  · rename_i hne
    rw [if_neg (by omega)]
    have h3 : (a - 1).toNat < d.2.length := by omega
    rw [List.getD_eq_getElem?_getD, List.getElem?_eq_getElem h3]
    obtain ⟨x, y, _, _⟩ := chk_get hd.2 _ h3
    simp only [Option.getD_some]; omega
theorem byF_lt {d : Dm} (hd : okDim d = true) {a b : Int} (h0 : 0 ≤ a) (h1 : a < b) (h2 : b ≤ d.2.length) : byF d a < byF d b ∧ byF d a ∣ byF d b := by
  have hd' := hd
  unfold okDim at hd
  rw [Bool.and_eq_true] at hd
  have h3 : (b - 1).toNat < d.2.length := by omega
  have eb : byF d b = d.2[(b - 1).toNat] := by
    unfold byF
    rw [if_neg (by omega), if_neg (by omega), List.getD_eq_getElem?_getD, List.getElem?_eq_getElem h3]; rfl
  obtain ⟨x, y, z, _⟩ := chk_get hd.2 _ h3
  by_cases ha : a = 0
  · have ea : byF d a = 1 := by unfold byF; rw [if_pos ha]
    rw [ea, eb]
    exact ⟨x, z⟩
  · have h4 : (a - 1).toNat < d.2.length := by omega
    have ea : byF d a = d.2[(a - 1).toNat] := by
      unfold byF
      rw [if_neg ha, if_neg (by omega), List.getD_eq_getElem?_getD, List.getElem?_eq_getElem h4]; rfl
    rw [ea, eb]
    obtain ⟨p, q, _⟩ := chk_lt hd.2 (i := (a - 1).toNat) (j := (b - 1).toNat) (by omega) h3
    exact ⟨p, q⟩
theorem byF_div {d : Dm} (hd : okDim d = true) {a b : Int} (h0 : 0 ≤ a) (h1 : a < b) (h2 : b ≤ d.2.length) : 0 < byF d b / byF d a ∧ byF d b / byF d a ≤ 10000 := by
  obtain ⟨x, y⟩ := byF_pos hd (a := a) h0 (by omega)
  obtain ⟨z, w⟩ := byF_pos hd (a := b) (by omega) h2
  obtain ⟨p, q⟩ := byF_lt hd h0 h1 h2
  refine ⟨?_, ?_⟩
  · obtain ⟨c, hc⟩ := q
    rw [hc, Int.mul_ediv_cancel_left _ (by omega)]
    rw [hc] at z
    exact Int.pos_of_mul_pos_right z (by omega)
  · have := Int.ediv_le_self (byF d a) (show 0 ≤ byF d b by omega); omega
end Go.Proofs.YtgcmbkoejjcjlaaGreatDoor.A
open Go Go.RowKit Go.Proofs.YtgcmbkoejjcjlaaGreatDoor.K Go.Proofs.YtgcmbkoejjcjlaaGreatDoor.T
set_option linter.unusedVariables false
set_option linter.unusedSimpArgs false
namespace Go.Proofs.YtgcmbkoejjcjlaaGreatDoor.A
variable {F F' : Nat → Option (List Value)} {M M' : Nat → Option Chunk} {N N' : Nat} {K : Kont} {E : PanK}
theorem upF_no {d : Dm} {a b v : Int} (h : okDim d = false ∨ a < 0 ∨ b < a ∨ b ≥ d.2.length + 2 ∨ v < 0) : upF d a b v = -1 := if_pos h
theorem up_c {cs : List Value} {d : Dm} {a b v : Int} (hd : dimD F cs d) (hb : i64 b) (hv : v ≤ 9223372036854775807) (k : ∀ N', N ≤ N' → (Hp.mk F M N').wf → K (.int .i64 (upF d a b v)) ⟨F, M, N'⟩) :
    callv Tryz.prog (.func (.func 166) #[] #[]) #[.agg cs.toArray, .int .i64 a, .int .i64 b, .int .i64 v] K E ⟨F, M, N⟩ := by
  refine callv_of_text mixed Tryz.func166 (by kernel_rfl) (t166 _ E _ _ _ _) (fun hw => ?_)
  have hm := hw.m
  have hd' := hd
  obtain ⟨u, rfl, hu, hul⟩ := hd
  refine nw_r (cs := [.int .i64 d.1, u]) (fun bx hbx => ?_)
  have fin : ∀ v', v' = upF d a b v → ∀ N', bx + 1 ≤ N' → ∀ h', h' = (⟨F, upd M bx (some (.cells 88 [.int .i64 d.1, u] 2)), N'⟩ : Hp) → h'.wf → ∃ h'', h'.wk h'' ∧ (h''.wf → K (.int .i64 v') h'') := fun v' e N' hN h' e' hc => by
    subst e; subst e'
    exact ⟨⟨F, M, N'⟩, wk_end hc, fun hw' => k _ (by omega) hw'⟩
  refine ldMa (vs := [.int .i64 d.1, u]) ?_
  refine dright_c hd' (fun N1 hN1 hw1 => ?_)
  cases hok : okDim d
  · try simp only [sS]
    exact fin _ (upF_no (.inl hok)).symm _ hN1 _ rfl
  try simp only [sS]
  refine lss_r (fun h1 => ?_) (fun h1 => ?_)
  · try simp only [sS]
    exact fin _ (upF_no (.inr (.inl h1))).symm _ hN1 _ rfl
  try simp only [sS]
  refine lss_r (fun h2 => ?_) (fun h2 => ?_)
  · try simp only [sS]
    exact fin _ (upF_no (.inr (.inr (.inl h2)))).symm _ hN1 _ rfl
  try simp only [sS]
  refine ldMa (vs := [.int .i64 d.1, u]) ?_
  refine levels_c hd' (fun N2 hN2 hw2 => ?_)
  refine geq_r (fun h3 => ?_) (fun h3 => ?_)
  · try simp only [sS]
    exact fin _ (upF_no (.inr (.inr (.inr (.inl (by omega)))))).symm _ (by omega) _ rfl
  try simp only [sS]
  refine lss_r (fun h4 => ?_) (fun h4 => ?_)
  · try simp only [sS]
    exact fin _ (upF_no (.inr (.inr (.inr (.inr h4))))).symm _ (by omega) _ rfl
  try simp only [sS]
  have e0 : upF d a b v = if a = b then v else if byF d b = 0 then 0 else v / (byF d b / byF d a) := by
    unfold upF
    rw [if_neg (by rw [hok]; simp; omega)]
  rw [e0] at fin
  refine ldMa (vs := [.int .i64 d.1, u]) ?_
  refine by_c hd' (by omega) (fun N3 hN3 hw3 => ?_)
  refine eql_r (fun h5 => ?_) (fun h5 => ?_)
  · try simp only [sS]
    exact fin _ (by rw [if_pos h5]) _ (by omega) _ rfl
  rw [if_neg h5] at fin
  try simp only [sS]
  refine eql_r (fun h6 => ?_) (fun h6 => ?_)
  · try simp only [sS]
    exact fin _ (by rw [if_pos h6]) _ (by omega) _ rfl
  rw [if_neg h6] at fin
  try simp only [sS]
  refine ldMa (vs := [.int .i64 d.1, u]) ?_
  refine by_c hd' (by omega) (fun N4 hN4 hw4 => ?_)
  have hbl : b ≤ d.2.length := by
    by_cases h : b ≤ d.2.length
    · exact h
    · exact absurd (by unfold byF; rw [if_neg (by omega), if_pos (by omega)]) h6
  obtain ⟨p, q⟩ := byF_pos hok (a := b) (by omega) hbl
  obtain ⟨p', q'⟩ := byF_pos hok (a := a) (by omega) (by omega)
  obtain ⟨r, s⟩ := byF_div hok (a := a) (b := b) (by omega) (by omega) hbl
  refine quo_i (by omega) (by omega) p' (quo_i (by omega) (by omega) r ?_)
  exact fin _ rfl _ (by omega) _ rfl
end Go.Proofs.YtgcmbkoejjcjlaaGreatDoor.A
open Go Go.RowKit Go.Proofs.YtgcmbkoejjcjlaaGreatDoor.K Go.Proofs.YtgcmbkoejjcjlaaGreatDoor.T
set_option linter.unusedVariables false
set_option linter.unusedSimpArgs false
namespace Go.Proofs.YtgcmbkoejjcjlaaGreatDoor.A
variable {F F' : Nat → Option (List Value)} {M M' : Nat → Option Chunk} {N N' : Nat} {K : Kont} {E : PanK}
def atL (l : List Dm) (a b c : List Int) : List Int := l.mapIdx fun i d => upF d (a.getD i 0) (b.getD i 0) (c.getD i 0)
def atOK (l : List Dm) (a b c : List Int) : Bool := okDims l && decide (a.length = l.length ∧ b.length = l.length ∧ c.length = l.length)
def atF (l : List Dm) (a b c : List Int) : List Int := if atOK l a b c = true then atL l a b c else []
theorem atL_len (l : List Dm) (a b c : List Int) : (atL l a b c).length = l.length := by simp [atL]
theorem upF_rng {d : Dm} {a b v : Int} (hv : i64 v) : i64 (upF d a b v) := by
  unfold upF
  split
  · exact ⟨by omega, by omega⟩
  · split
    · exact hv
    · split
      · exact ⟨by omega, by omega⟩
      · rename_i h1 h2 h3
        have hok : okDim d = true := by cases h : okDim d; exact absurd (.inl h) h1; rfl
        have h1' : ¬ (a < 0 ∨ b < a ∨ b ≥ d.2.length + 2 ∨ v < 0) := fun h => h1 (.inr h)
        have hbl : b ≤ d.2.length := by
          by_cases h : b ≤ d.2.length
          · exact h
          · exact absurd (by unfold byF; rw [if_neg (by omega), if_pos (by omega)]) h3
        obtain ⟨r, s⟩ := byF_div hok (a := a) (b := b) (by omega) (by omega) hbl
        have x := Int.ediv_nonneg (show 0 ≤ v by omega) (show 0 ≤ byF d b / byF d a by omega)
        have y := Int.ediv_le_self (byF d b / byF d a) (show 0 ≤ v by omega)
        have := hv.2
        exact ⟨by omega, by omega⟩
theorem rep_set {X : List Int} {i n : Nat} (hX : X.length = n) (hi : i < n) : (ic (X.take i) ++ List.replicate (n - i) (Value.int .i64 0)).set i (.int .i64 (X[i]'(by omega))) = ic (X.take (i + 1)) ++ List.replicate (n - (i + 1)) (.int .i64 0) := by
  have hl : (ic (X.take i)).length = i := by simp [ic]; omega
  rw [List.set_append_right _ _ (by omega), hl, Nat.sub_self, show n - i = (n - (i + 1)) + 1 by omega, List.replicate_succ, List.set_cons_zero, List.take_add_one, List.getElem?_eq_getElem (by omega), Option.toList_some]
  unfold ic
  rw [List.map_append, List.append_assoc]
  rfl
set_option maxRecDepth 10000 in
theorem at_c {u va vb vc : Value} {l : List Dm} {a b c : List Int} (hu : dimsD F u l) (hl : l.length ≤ 140737488351232) (ha : sF F 1 va a.length (ic a)) (hb : sF F 1 vb b.length (ic b)) (hc : sF F 1 vc c.length (ic c)) (hbi : ∀ x ∈ b, i64 x) (hci : ∀ x ∈ c, i64 x)
    (k : ∀ v' F' N', (Hp.mk F' M N').wf → subF F F' → N ≤ N' → sF F' 1 v' (atF l a b c).length (ic (atF l a b c)) → K v' ⟨F', M, N'⟩) :
    callv Tryz.prog (.func (.func 141) #[] #[]) #[u, va, vb, vc] K E ⟨F, M, N⟩ := by
  refine callv_of_text mixed Tryz.func141 (by kernel_rfl) (t141 _ E _ _ _ _) (fun hw => ?_)
  have hm : clean M N := hw.m
  have hlu : lenV u = some (.int .i64 (l.length : Nat)) := by obtain ⟨a, c, rfl⟩ := hu.form; rfl
  have hla : lenV va = some (.int .i64 (a.length : Nat)) := by obtain ⟨a, c, rfl, _⟩ := ha.form; rfl
  have hlb : lenV vb = some (.int .i64 (b.length : Nat)) := by obtain ⟨a, c, rfl, _⟩ := hb.form; rfl
  have hlc : lenV vc = some (.int .i64 (c.length : Nat)) := by obtain ⟨a, c, rfl, _⟩ := hc.form; rfl
  refine dsound_c hu hl (fun N1 hN1 hw1 => ?_)
  have no : atOK l a b c = false → ∀ h', h' = (⟨F, M, N1⟩ : Hp) → h'.wf → ∃ h'', h'.wk h'' ∧ (h''.wf → K (.slice none 0 0) h'') := fun e h' e' hc => by
    subst e'
    have e2 : atF l a b c = [] := by unfold atF; rw [e]; rfl
    exact ⟨_, wk_refl hc, fun hw' => k _ _ _ hw' (subF.refl _) hN1 (by rw [e2]; exact sF.nil _ _ _)⟩
  cases hok : okDims l
  · try simp only [sS]
    exact no (by unfold atOK; rw [hok]; rfl) _ rfl
  try simp only [sS]
  try simp only [hla, hlu]
  try simp only [sS]
  refine neq_r (fun h1 => ?_) (fun h1 => ?_)
  · try simp only [sS]
    exact no (by unfold atOK; rw [decide_eq_false (by omega)]; simp) _ rfl
  try simp only [sS]
  try simp only [hlb, hlu]
  try simp only [sS]
  refine neq_r (fun h2 => ?_) (fun h2 => ?_)
  · try simp only [sS]
    exact no (by unfold atOK; rw [decide_eq_false (by omega)]; simp) _ rfl
  try simp only [sS]
  try simp only [hlc, hlu]
  try simp only [sS]
  refine neq_r (fun h3 => ?_) (fun h3 => ?_)
  · try simp only [sS]
    exact no (by unfold atOK; rw [decide_eq_false (by omega)]; simp) _ rfl
  have hat : atF l a b c = atL l a b c := by unfold atF atOK; rw [hok, decide_eq_true ⟨by omega, by omega, by omega⟩]; rfl
  have hl4 : l.length ≤ 4 := by unfold okDims at hok; rw [Bool.and_eq_true] at hok; exact (of_decide_eq_true hok.1).2
  rw [hat] at k
  try simp only [sS]
  refine ⟨_, l.length, _, l.length, rfl, rfl, Nat.le_refl _, by omega, by unfold maxLen; omega, fun b0 hb0' => ?_⟩
  have hb0 : N1 ≤ b0 := hb0'
  obtain ⟨rows, hu1, hu2⟩ := hu
  have hAl := atL_len l a b c
  try simp only [hlu]
  try simp only [sS]
  have hflat : ∀ n : Nat, (List.replicate n [(Value.int .i64 0)]).flatten = List.replicate n (Value.int .i64 0) := fun n => by
    induction n with
    | zero => rfl
    | succ n ih => rw [List.replicate_succ, List.flatten_cons, ih]; rfl
  refine l141_1_1_1_0_1_0_0 (σ := Nat) (fun i => .int .i64 (i : Nat))
    (fun i h => ∃ M' N', h = ⟨F, M', N'⟩ ∧ b0 < N' ∧ (∀ q, q < N → M' q = M q) ∧ clean M' N' ∧ i ≤ l.length ∧ M' b0 = some (.cells 3 (ic ((atL l a b c).take i) ++ List.replicate (l.length - i) (.int .i64 0)) l.length)) (fun i => l.length - i) 0 rfl
    (fun hw2 => ⟨_, wk_refl hw2, _, _, rfl, Nat.lt_succ_self _, fun q hq => upd_ne _ _ (by omega), (hm.up hN1).new hb0 _, Nat.zero_le _, by
      show upd M b0 _ b0 = _
      rw [upd_same, hflat]
      simp [ic]⟩) (fun k1 i j h1' hI hw2 next => ?_)
  rw [t141_1_1_1_0_1_0_0]
  obtain ⟨M2, N2, rfl, hbN, hM2, hm2, hi, hb2⟩ := hI
  refine lss_r (fun hlt => ?_) (fun hge => ?_)
  · have h4 : i < l.length := by omega
    try simp only [sS]
    refine row_r hu1 hu2 (by decide) h4 fun p r _ hR hr2 hr1 => ?_
    have hR' := hR
    obtain ⟨kv, rfl, hkv, hkl⟩ := hR
    refine nw_r (fun b1 hb1 => ?_)
    refine stM (cs' := [.int .i64 l[i].1, kv]) ?_ (upd_same _ _ _) rfl rfl hr1
    rw [upd_upd]
    refine ldMa (vs := [.int .i64 l[i].1, kv]) ?_ (upd_same _ _ _)
    refine ixn_r ha (show i < a.length by omega) fun p => ixn_r hb (show i < b.length by omega) fun p => ixn_r hc (show i < c.length by omega) fun p => ?_
    refine up_c hR' (hbi _ (List.getElem_mem _)) (hci _ (List.getElem_mem _)).2 (fun N3 hN3 hw3 => ?_)
    have hXi : (atL l a b c)[i]'(by omega) = upF l[i] a[i] b[i] c[i] := by
      simp only [atL, List.getElem_mapIdx, List.getD_eq_getElem?_getD, List.getElem?_eq_getElem (show i < a.length by omega), List.getElem?_eq_getElem (show i < b.length by omega), List.getElem?_eq_getElem (show i < c.length by omega), Option.getD_some]
    rw [← hXi]
    refine iaN_r (by omega) ?_
    have hlen : (ic ((atL l a b c).take i) ++ List.replicate (l.length - i) (Value.int .i64 0)).length = l.length := by simp [ic, hAl]; omega
    refine stM (cs' := ic ((atL l a b c).take (i + 1)) ++ List.replicate (l.length - (i + 1)) (.int .i64 0)) ?_ ((upd_ne _ _ (by omega)).trans hb2) (by
      rw [Nat.zero_add, Nat.mul_one]
      exact (splice_one (by omega) _).trans (rep_set hAl h4)) rfl (List.all_eq_true.1 rfl) (by rw [hlen]; omega)
    refine inc_r (by omega) ?_
    exact next (i + 1) _ _ (by omega) (fun hw4 => ⟨_, wk_refl hw4, _, N3, rfl, by omega, fun q hq => (upd_ne _ _ (by omega)).trans ((upd_ne _ _ (by omega)).trans (hM2 q hq)), hw4.m, h4, upd_same _ _ _⟩)
  · try simp only [sS]
    have e : i = l.length := by omega
    rw [e, List.take_of_length_le (by omega), Nat.sub_self, List.replicate_zero, List.append_nil] at hb2
    refine fun hc' => ⟨_, frz_wf hm hM2 hc', fun hw' => k _ _ _ hw' (subF_frzAll hc') (by omega) ?_⟩
    rw [hAl]
    exact sF_lit (frz_at (by omega) hb2) (by simp [ic, hAl]) (Nat.le_refl _)
end Go.Proofs.YtgcmbkoejjcjlaaGreatDoor.A
open Go Go.RowKit Go.Proofs.YtgcmbkoejjcjlaaGreatDoor.K Go.Proofs.YtgcmbkoejjcjlaaGreatDoor.T
set_option linter.unusedVariables false
set_option linter.unusedSimpArgs false
namespace Go.Proofs.YtgcmbkoejjcjlaaGreatDoor.A
variable {F F' : Nat → Option (List Value)} {M M' : Nat → Option Chunk} {N N' : Nat} {K : Kont} {E : PanK}
end Go.Proofs.YtgcmbkoejjcjlaaGreatDoor.A
open Go
set_option linter.unusedVariables false
set_option linter.unusedSimpArgs false
namespace Go.Proofs.YtgcmbkoejjcjlaaGreatDoor.A
def isMin (m : Int) (l : List Int) : Prop := m ∈ l ∧ ∀ x ∈ l, m ≤ x
def isMax (m : Int) (l : List Int) : Prop := m ∈ l ∧ ∀ x ∈ l, x ≤ m
structure isCell (c : CE) (l : List Int) : Prop where
  n : c.n = l.length
  s : c.s = IntKind.i64.wrap l.sum
  lo : isMin c.lo l
  hi : isMax c.hi l
theorem isCell.ne {c : CE} {l : List Int} (h : isCell c l) : l ≠ [] := fun e => by have := h.lo.1; rw [e] at this; cases this
theorem isCell.pos {c : CE} {l : List Int} (h : isCell c l) : 0 < c.n := by
  have := List.length_pos_iff.2 h.ne
  rw [h.n]; omega
theorem isCell.one {v : Int} (h0 : -9223372036854775808 ≤ v) (h1 : v ≤ 9223372036854775807) : isCell ⟨1, v, v, v⟩ [v] :=
  ⟨rfl, by simp only [List.sum_cons, List.sum_nil]; rw [IntKind.wrap_i64]; omega, ⟨by simp, fun x hx => by simp at hx; simp only; omega⟩, ⟨by simp, fun x hx => by simp at hx; simp only; omega⟩⟩
theorem wrap_add (a b : Int) : IntKind.i64.wrap (IntKind.i64.wrap a + IntKind.i64.wrap b) = IntKind.i64.wrap (a + b) := by
  simp only [IntKind.wrap_i64]; omega
theorem sum_app (a b : List Int) : (a ++ b).sum = a.sum + b.sum := by simp
theorem isCell.merge {a b : CE} {la lb : List Int} (ha : isCell a la) (hb : isCell b lb) (hl : la.length + lb.length < 9223372036854775808) : isCell (a.merge b) (la ++ lb) := by
  have h1 := ha.pos
  have h2 := hb.pos
  have e : a.merge b = ⟨IntKind.i64.wrap (a.n + b.n), IntKind.i64.wrap (a.s + b.s), if b.lo < a.lo then b.lo else a.lo, if b.hi > a.hi then b.hi else a.hi⟩ := by
    unfold CE.merge CE.add
    rw [if_neg (by omega), if_neg (by omega), if_neg (fun e => by rw [e] at h2; simp at h2), if_neg (fun e => by rw [e] at h1; simp at h1)]
  rw [e]
  refine ⟨?_, ?_, ⟨?_, fun x hx => ?_⟩, ⟨?_, fun x hx => ?_⟩⟩
  · simp only
    rw [ha.n, hb.n, IntKind.wrap_i64, List.length_append]; omega
  · simp only
    rw [ha.s, hb.s, wrap_add, sum_app]
  · simp only
    split
    · exact List.mem_append_right _ hb.lo.1
    · exact List.mem_append_left _ ha.lo.1
  · simp only
    rcases List.mem_append.1 hx with hx | hx
    · have := ha.lo.2 x hx; split <;> omega
    · have := hb.lo.2 x hx; split <;> omega
  · simp only
    split
    · exact List.mem_append_right _ hb.hi.1
    · exact List.mem_append_left _ ha.hi.1
  · simp only
    rcases List.mem_append.1 hx with hx | hx
    · have := ha.hi.2 x hx; split <;> omega
    · have := hb.hi.2 x hx; split <;> omega
theorem isCell.perm {c d : CE} {l m : List Int} (h : isCell c l) (k : isCell d m) (p : l.Perm m) : c = d := by
  obtain ⟨c1, c2, c3, c4⟩ := c
  obtain ⟨d1, d2, d3, d4⟩ := d
  have e1 : c1 = d1 := by have a := h.n; have b := k.n; simp only at a b; rw [a, b, p.length_eq]
  have e2 : c2 = d2 := by
    have a := h.s; have b := k.s; simp only at a b
    rw [a, b]
    congr 1
    exact p.foldr_eq' (fun x _ y _ z => by omega) 0
  have e3 : c3 = d3 := by
    have a := h.lo.2 d3 (p.mem_iff.2 k.lo.1)
    have b := k.lo.2 c3 (p.mem_iff.1 h.lo.1)
    simp only at a b; omega
  have e4 : c4 = d4 := by
    have a := h.hi.2 d4 (p.mem_iff.2 k.hi.1)
    have b := k.hi.2 c4 (p.mem_iff.1 h.hi.1)
    simp only at a b; omega
  rw [e1, e2, e3, e4]
abbrev KV := List Int × List Int
def valsAt (ls : List KV) (k : List Int) : List Int := (ls.filter fun x => decide (x.1 = k)).flatMap (·.2)
theorem valsAt_cons (x : KV) (ls : List KV) (k : List Int) : valsAt (x :: ls) k = (if x.1 = k then x.2 else []) ++ valsAt ls k := by
  unfold valsAt
  rw [List.filter_cons]
  by_cases h : x.1 = k
  · simp [h]
  · simp [h]
theorem valsAt_app (a b : List KV) (k : List Int) : valsAt (a ++ b) k = valsAt a k ++ valsAt b k := by simp [valsAt]
theorem valsAt_snoc (ls : List KV) (x : KV) (k : List Int) : valsAt (ls ++ [x]) k = valsAt ls k ++ (if x.1 = k then x.2 else []) := by
  rw [valsAt_app, valsAt_cons]; simp [valsAt]
def sizeL (ls : List KV) : Nat := (ls.map (·.2.length)).sum
theorem sizeL_app (a b : List KV) : sizeL (a ++ b) = sizeL a + sizeL b := by simp [sizeL]
theorem valsAt_len (ls : List KV) (k : List Int) : (valsAt ls k).length ≤ sizeL ls := by
  induction ls with
  | nil => simp [valsAt, sizeL]
  | cons x ls ih =>
    rw [valsAt_cons]
    simp only [sizeL, List.map_cons, List.sum_cons, List.length_append] at ih ⊢
    split
    · omega
    · simp; omega
def tells (rows : List Rw) (ls : List KV) : Prop := rows.length = ls.length ∧ ∀ (i : Nat) (r : Rw) (l : KV), rows[i]? = some r → ls[i]? = some l → r.1 = l.1 ∧ isCell r.2 l.2
theorem tells.nil : tells [] [] := ⟨rfl, fun i r l h => by simp at h⟩
theorem tells.cons {r : Rw} {l : KV} {rows : List Rw} {ls : List KV} (h1 : r.1 = l.1) (h2 : isCell r.2 l.2) (h : tells rows ls) : tells (r :: rows) (l :: ls) := by
  refine ⟨by simp [h.1], fun i r' l' hr hl => ?_⟩
  cases i with
  | zero => simp at hr hl; subst hr; subst hl; exact ⟨h1, h2⟩
  | succ i => exact h.2 i r' l' (by simpa using hr) (by simpa using hl)
theorem tells.uncons {r : Rw} {l : KV} {rows : List Rw} {ls : List KV} (h : tells (r :: rows) (l :: ls)) : r.1 = l.1 ∧ isCell r.2 l.2 ∧ tells rows ls :=
  ⟨(h.2 0 r l rfl rfl).1, (h.2 0 r l rfl rfl).2, by have := h.1; simp at this; exact this, fun i r' l' hr hl => h.2 (i + 1) r' l' (by simpa using hr) (by simpa using hl)⟩
theorem tells.app {r1 r2 : List Rw} {l1 l2 : List KV} (h1 : tells r1 l1) (h2 : tells r2 l2) : tells (r1 ++ r2) (l1 ++ l2) := by
  induction r1 generalizing l1 with
  | nil =>
    cases l1 with
    | nil => simpa using h2
    | cons _ _ => have := h1.1; simp at this
  | cons r r1 ih =>
    cases l1 with
    | nil => have := h1.1; simp at this
    | cons l l1 => obtain ⟨a, b, c⟩ := h1.uncons; exact .cons a b (ih c)
def hasAt (t : List Rw) (ls : List KV) : Prop := ∀ k, match look t k with
  | none => valsAt ls k = []
  | some c => isCell c (valsAt ls k)
theorem hasAt.layR {t : List Rw} {ls : List KV} (h : hasAt t ls) (hs : srt t) {k : List Int} {c : CE} {l : List Int} (hc : isCell c l) (hn : sizeL ls + l.length < 9223372036854775808) : hasAt (layR t k c) (ls ++ [(k, l)]) := by
  intro q
  rw [layR_look k c q hs, valsAt_snoc]
  have hq := h q
  by_cases e : k = q
  · subst e
    simp only [if_true]
    cases hl : look t k with
    | none => rw [hl] at hq; simp only at hq; simp only [mrg]; rw [hq, List.nil_append]; exact hc
    | some c' =>
      rw [hl] at hq; simp only at hq; simp only [mrg]
      exact hq.merge hc (by have := valsAt_len ls k; omega)
  · simp only [if_neg e, List.append_nil]
    exact hq
theorem hasAt.nil : hasAt [] [] := fun k => by simp [look, valsAt]
theorem fold_hasAt : ∀ (rows : List Rw) (ls : List KV) (t : List Rw) (ls0 : List KV), tells rows ls → hasAt t ls0 → srt t → sizeL ls0 + sizeL ls < 9223372036854775808 → hasAt (rows.foldl (fun t r => layR t r.1 r.2) t) (ls0 ++ ls)
  | [], [], t, ls0, _, h, _, _ => by simpa using h
  | [], _ :: _, _, _, h, _, _, _ => by have := h.1; simp at this
  | _ :: _, [], _, _, h, _, _, _ => by have := h.1; simp at this
  | r :: rows, (k, l) :: ls, t, ls0, h, ht, hs, hn => by
    obtain ⟨a, b, c⟩ := h.uncons
    simp only at a b
    have hn' : sizeL ls0 + (l.length + sizeL ls) < 9223372036854775808 := by simpa [sizeL] using hn
    subst a
    have h1 := ht.layR hs (k := r.1) b (by omega)
    have h2 := fold_hasAt rows ls _ _ c h1 (layR_srt hs) (by rw [sizeL_app]; simp [sizeL] at hn' ⊢; omega)
    rw [List.append_assoc] at h2
    exact h2
theorem tab_hasAt {rows : List Rw} {ls : List KV} (h : tells rows ls) (hn : sizeL ls < 9223372036854775808) : hasAt (tab rows) ls := by
  have := fold_hasAt rows ls [] [] h hasAt.nil .nil (by simpa [sizeL] using hn)
  rw [List.nil_append] at this
  exact this
theorem hasAt.tells {t : List Rw} {ls : List KV} (h : hasAt t ls) (hs : srt t) : tells t (t.map fun r => (r.1, valsAt ls r.1)) := by
  refine ⟨by simp, fun i r l hr hl => ?_⟩
  rw [List.getElem?_map, hr] at hl
  simp at hl
  subst hl
  refine ⟨rfl, ?_⟩
  have := h r.1
  rw [(look_some hs.nodup (c := r.2)).2 (List.mem_of_getElem? hr)] at this
  exact this
theorem hasAt.ext {t u : List Rw} {ls ms : List KV} (h : hasAt t ls) (k : hasAt u ms) (ht : srt t) (hu : srt u) (hp : ∀ q, (valsAt ls q).Perm (valsAt ms q)) : t = u := by
  refine srt_ext ht hu fun q => ?_
  have h1 := h q
  have h2 := k q
  have hpq := hp q
  cases a : look t q with
  | none =>
    rw [a] at h1; simp only at h1
    cases b : look u q with
    | none => rfl
    | some d => rw [b] at h2; simp only at h2; rw [h1] at hpq; exact absurd hpq.symm.eq_nil h2.ne
  | some c =>
    rw [a] at h1; simp only at h1
    cases b : look u q with
    | none => rw [b] at h2; simp only at h2; rw [h2] at hpq; exact absurd hpq.eq_nil h1.ne
    | some d => rw [b] at h2; simp only at h2; rw [h1.perm h2 hpq]
def kvF (f : List Int × Int) : KV := (f.1, [f.2])
theorem tells_facts : ∀ {l : List (List Int × Int)}, (∀ f ∈ l, -9223372036854775808 ≤ f.2 ∧ f.2 ≤ 9223372036854775807) → tells (l.map fun f => (f.1, (⟨1, f.2, f.2, f.2⟩ : CE))) (l.map kvF)
  | [], _ => .nil
  | f :: l, h => .cons rfl (isCell.one (h f (by simp)).1 (h f (by simp)).2) (tells_facts fun x hx => h x (by simp [hx]))
theorem sizeL_facts (l : List (List Int × Int)) : sizeL (l.map kvF) = l.length := by
  induction l with
  | nil => rfl
  | cons f l ih => simp only [sizeL, kvF, List.map_cons, List.sum_cons, List.length_cons, List.length_nil] at ih ⊢; omega
theorem mem_keys {t : List Rw} {ls : List KV} (h : hasAt t ls) (hs : srt t) {r : Rw} (hr : r ∈ t) : (∃ x ∈ ls, x.1 = r.1) ∧ isCell r.2 (valsAt ls r.1) := by
  have h1 := h r.1
  rw [(look_some hs.nodup (c := r.2)).2 hr] at h1
  simp only at h1
  refine ⟨?_, h1⟩
  have hne := h1.ne
  unfold valsAt at hne
  cases hf : ls.filter (fun x => decide (x.1 = r.1)) with
  | nil => rw [hf] at hne; exact absurd rfl hne
  | cons x m =>
    have hx : x ∈ ls.filter (fun x => decide (x.1 = r.1)) := by rw [hf]; simp
    obtain ⟨a, b⟩ := List.mem_filter.1 hx
    exact ⟨x, a, of_decide_eq_true b⟩
end Go.Proofs.YtgcmbkoejjcjlaaGreatDoor.A
open Go Go.RowKit Go.Proofs.YtgcmbkoejjcjlaaGreatDoor.K Go.Proofs.YtgcmbkoejjcjlaaGreatDoor.T
set_option linter.unusedVariables false
set_option linter.unusedSimpArgs false
namespace Go.Proofs.YtgcmbkoejjcjlaaGreatDoor.A
variable {F F' : Nat → Option (List Value)} {M M' : Nat → Option Chunk} {N N' : Nat} {K : Kont} {E : PanK}
theorem isCell.ok {c : CE} {l : List Int} (h : isCell c l) (hl : ∀ x ∈ l, i64 x) : c.ok = true := by
  have hp := h.pos
  unfold CE.ok
  rw [if_neg (by omega)]
  refine decide_eq_true ⟨h.hi.2 _ h.lo.1, ?_⟩
  by_cases h1 : c.n > 1
  · exact .inl h1
  · right
    have hn := h.n
    match l, h, hl, hn with
    | [], h, _, _ => exact absurd rfl h.ne
    | [x], h, hl, _ =>
      have a := h.lo.1; have b := h.hi.1; have s := h.s
      simp at a b
      have hx := hl x (by simp)
      simp only [List.sum_cons, List.sum_nil] at s
      rw [show x + 0 = x by omega, wrap_in hx.1 hx.2] at s
      exact ⟨by rw [s, a], by rw [a, b]⟩
    | x :: y :: l, _, _, hn => simp at hn; omega
theorem soundT_of {p : Int} : ∀ {t : List Rw}, (∀ r ∈ t, okRow p r = true) → srt t → soundT p t = true := by
  have key : ∀ (t : List Rw) (o : Option (List Int)), (∀ r ∈ t, okRow p r = true) → srt t → (∀ k, o = some k → ∀ r ∈ t, kcmp k r.1 < 0) → soundL p o t = true := by
    intro t
    induction t with
    | nil => intro o _ _ _; rfl
    | cons r t ih =>
      intro o h hs ho
      have hs' := List.pairwise_cons.1 hs
      simp only [soundL]
      rw [h r (by simp), ih (some r.1) (fun x hx => h x (by simp [hx])) hs'.2 (fun k e x hx => by cases e; exact hs'.1 x hx)]
      cases o with
      | none => rfl
      | some k => simp only; rw [decide_eq_true (ho k rfl r (by simp))]; rfl
  intro t h hs
  exact key t none h hs (fun k e => by cases e)
theorem okRow_of {r : Rw} {p : Int} {l : List Int} (h1 : (r.1.length : Int) = p) (h2 : ∀ x ∈ r.1, 0 ≤ x) (h3 : isCell r.2 l) (h4 : ∀ x ∈ l, i64 x) : okRow p r = true := by
  unfold okRow
  have hn : anyNeg r.1 = false := by
    unfold anyNeg
    rw [List.any_eq_false]
    intro x hx; have := h2 x hx; simp; omega
  rw [decide_eq_true h1, decide_eq_true h3.pos, h3.ok h4, hn]; rfl
def goodDims (l : List Dm) : Prop := 0 < l.length ∧ l.length ≤ 4 ∧ ∀ d ∈ l, 0 < d.1 ∧ d.1 ≤ 200
theorem dimsOf_good (m : List (Int × List Int)) (hc : ∀ c ∈ m, 0 ≤ c.1 ∧ c.1 < 65536) : goodDims (dimsOf m) := by
  unfold dimsOf
  split
  · exact ⟨by decide, by decide, fun d hd => by simp at hd; subst hd; decide⟩
  · rename_i h
    refine ⟨?_, by rw [List.length_map, List.length_take]; omega, fun d hd => ?_⟩
    · have := List.length_pos_iff.2 h
      rw [List.length_map, List.length_take]; omega
    · obtain ⟨c, hc', rfl⟩ := List.mem_map.1 hd
      have := hc c (List.mem_of_mem_take hc')
      simp only [dimOf]; omega
theorem keyOf_get {l : List Dm} {c : List Int} {x : Int} (h : x ∈ keyOf l c) : ∃ (i : Nat) (hi : i < l.length), x = (c.getD i 0) % l[i].1 := by
  obtain ⟨i, hi, rfl⟩ := List.mem_iff_getElem.1 h
  rw [keyOf_len] at hi
  exact ⟨i, hi, by simp [keyOf]⟩
theorem keyOf_ok {l : List Dm} (hl : goodDims l) (c : List Int) : ∀ x ∈ keyOf l c, 0 ≤ x ∧ x < 200 := fun x hx => by
  obtain ⟨i, hi, rfl⟩ := keyOf_get hx
  obtain ⟨h1, h2⟩ := hl.2.2 l[i] (List.getElem_mem _)
  have a := Int.emod_nonneg (c.getD i 0) (show l[i].1 ≠ 0 by omega)
  have b := Int.emod_lt_of_pos (c.getD i 0) h1
  omega
theorem factsOf_mem {l : List Dm} {ks : List (List Int)} {v : List Int} {f : Fc} (h : f ∈ factsOf l ks v) : (∃ c, f.1 = keyOf l c) ∧ (f.2 = 0 ∨ f.2 ∈ v) := by
  obtain ⟨i, hi, rfl⟩ := List.mem_iff_getElem.1 h
  refine ⟨⟨(ks.take 200)[i]'(by simpa [factsOf] using hi), by simp [factsOf]⟩, ?_⟩
  simp only [factsOf, List.getElem_mapIdx]
  rw [List.getD_eq_getElem?_getD]
  cases hv : v[i % v.length]? with
  | none => exact .inl rfl
  | some x => exact .inr (List.mem_of_getElem? hv)
theorem facts_i64 {l : List Dm} {ks : List (List Int)} {v : List Int} (hv : ∀ x ∈ v, i64 x) : ∀ f ∈ factsOf l ks v, i64 f.2 := fun f hf => by
  rcases (factsOf_mem hf).2 with h | h
  · rw [h]; exact ⟨by omega, by omega⟩
  · exact hv _ h
theorem valsAt_mem {ls : List KV} {k : List Int} {x : Int} (h : x ∈ valsAt ls k) : ∃ l ∈ ls, l.1 = k ∧ x ∈ l.2 := by
  unfold valsAt at h
  obtain ⟨l, hl, hx⟩ := List.mem_flatMap.1 h
  obtain ⟨h1, h2⟩ := List.mem_filter.1 hl
  exact ⟨l, h1, of_decide_eq_true h2, hx⟩
theorem tabF_hasAt {l : List Fc} (h : ∀ f ∈ l, i64 f.2) (hn : l.length < 9223372036854775808) : hasAt (tab (l.map fr1)) (l.map kvF) :=
  tab_hasAt (tells_facts h) (by rw [sizeL_facts]; exact hn)
end Go.Proofs.YtgcmbkoejjcjlaaGreatDoor.A
open Go Go.RowKit Go.Proofs.YtgcmbkoejjcjlaaGreatDoor.K Go.Proofs.YtgcmbkoejjcjlaaGreatDoor.T
set_option linter.unusedVariables false
set_option linter.unusedSimpArgs false
namespace Go.Proofs.YtgcmbkoejjcjlaaGreatDoor.A
variable {F F' : Nat → Option (List Value)} {M M' : Nat → Option Chunk} {N N' : Nat} {K : Kont} {E : PanK}
def lvs : List Dm → List Int → List Int → Bool
  | d :: l, a :: x, b :: y => decide (¬ (a < 0 ∨ b < a ∨ b ≥ d.2.length + 2)) && lvs l x y
  | _, _, _ => true
def levF (l : List Dm) (a b : List Int) : Bool := decide (a.length = l.length ∧ b.length = l.length) && lvs l a b
theorem lvs_at {l : List Dm} {a b : List Int} {i : Nat} (h : i < l.length) (ha : i < a.length) (hb : i < b.length) : lvs (l.drop i) (a.drop i) (b.drop i) = (decide (¬ (a[i] < 0 ∨ b[i] < a[i] ∨ b[i] ≥ l[i].2.length + 2)) && lvs (l.drop (i + 1)) (a.drop (i + 1)) (b.drop (i + 1))) := by
  rw [List.drop_eq_getElem_cons h, List.drop_eq_getElem_cons ha, List.drop_eq_getElem_cons hb]
  rfl
theorem goes_c {u va vb : Value} {l : List Dm} {a b : List Int} (hu : dimsD F u l) (hl : l.length ≤ 140737488351232) (ha : sF F 1 va a.length (ic a)) (hb : sF F 1 vb b.length (ic b)) (k : ∀ N', N ≤ N' → (Hp.mk F M N').wf → K (.bool (levF l a b)) ⟨F, M, N'⟩) :
    callv Tryz.prog (.func (.func 138) #[] #[]) #[u, va, vb] K E ⟨F, M, N⟩ := by
  refine callv_of_text mixed Tryz.func138 (by kernel_rfl) (t138 _ E _ _ _) (fun hw => ?_)
  have hm : clean M N := hw.m
  have hlu : lenV u = some (.int .i64 (l.length : Nat)) := by obtain ⟨a, c, rfl⟩ := hu.form; rfl
  have hla : lenV va = some (.int .i64 (a.length : Nat)) := by obtain ⟨a, c, rfl, _⟩ := ha.form; rfl
  have hlb : lenV vb = some (.int .i64 (b.length : Nat)) := by obtain ⟨a, c, rfl, _⟩ := hb.form; rfl
  have fin0 : ∀ v', v' = levF l a b → ∀ N', N ≤ N' → ∀ h', h' = (⟨F, M, N'⟩ : Hp) → h'.wf → ∃ h'', h'.wk h'' ∧ (h''.wf → K (.bool v') h'') := fun v' e N' hN h' e' hc => by
    subst e; subst e'
    exact ⟨_, wk_refl hc, fun hw' => k _ hN hw'⟩
  unfold levF at fin0
  try simp only [hla, hlu]
  try simp only [sS]
  refine neq_r (fun h1 => ?_) (fun h1 => ?_)
  · try simp only [sS]
    exact fin0 _ (by rw [decide_eq_false (by omega)]; rfl) _ (Nat.le_refl _) _ rfl
  try simp only [sS]
  try simp only [hlb, hlu]
  try simp only [sS]
  refine neq_r (fun h2 => ?_) (fun h2 => ?_)
  · try simp only [sS]
    exact fin0 _ (by rw [decide_eq_false (by omega)]; rfl) _ (Nat.le_refl _) _ rfl
  have e3 : levF l a b = lvs l a b := by unfold levF; rw [decide_eq_true ⟨by omega, by omega⟩, Bool.true_and]
  rw [e3] at k
  clear fin0
  try simp only [sS]
  obtain ⟨rows, hu1, hu2⟩ := hu
  try simp only [hlu]
  try simp only [sS]
  refine l138_1_1_0_1_0_0 (σ := Nat) (fun i => .int .i64 (i : Nat)) (fun i h => ∃ N', h = ⟨F, M, N'⟩ ∧ N ≤ N' ∧ i ≤ l.length ∧ lvs l a b = lvs (l.drop i) (a.drop i) (b.drop i)) (fun i => l.length - i) 0 rfl
    (fun hw1 => ⟨_, wk_refl hw1, N, rfl, Nat.le_refl _, Nat.zero_le _, rfl⟩) (fun k1 i j h1' hI hw1 next => ?_)
  rw [t138_1_1_0_1_0_0]
  obtain ⟨N1, rfl, hN1, hi, he⟩ := hI
  refine lss_r (fun hlt => ?_) (fun hge => ?_)
  · have h3 : i < l.length := by omega
    have h4 : i < a.length := by omega
    have h5 : i < b.length := by omega
    rw [lvs_at h3 h4 h5] at he
    try simp only [sS]
    refine row_r hu1 hu2 (by decide) h3 fun p r _ hR hr2 hr1 => ?_
    have hR' := hR
    obtain ⟨kv, rfl, hkv, hkl⟩ := hR
    refine nw_r (fun b1 hb1 => ?_)
    refine stM (cs' := [.int .i64 l[i].1, kv]) ?_ (upd_same _ _ _) rfl rfl hr1
    rw [upd_upd]
    have fin : ∀ v', v' = lvs l a b → ∀ N', b1 + 1 ≤ N' → ∀ h', h' = (⟨F, upd M b1 (some (.cells 88 [.int .i64 l[i].1, kv] 2)), N'⟩ : Hp) → h'.wf → ∃ h'', h'.wk h'' ∧ (h''.wf → K (.bool v') h'') := fun v' e N' hN h' e' hc => by
      subst e; subst e'
      exact ⟨⟨F, M, N'⟩, wk_drop hc (subM_drop (subM_refl _) (hm _ (by omega))), fun hw' => k _ (by omega) hw'⟩
    refine ixn_r ha h4 fun p => ?_
    refine lss_r (fun h6 => ?_) (fun h6 => ?_)
    · try simp only [sS]
      refine ⟨fun h => by simp [isB] at h, ?_⟩
      exact fin _ (by rw [he, decide_eq_false (by omega)]; rfl) _ (Nat.le_refl _) _ rfl
    try simp only [sS]
    refine ixn_r hb h5 fun p => ixn_r ha h4 fun p => ?_
    refine lss_r (fun h7 => ?_) (fun h7 => ?_)
    · try simp only [sS]
      refine ⟨fun h => by simp [isB] at h, ?_⟩
      exact fin _ (by rw [he, decide_eq_false (by omega)]; rfl) _ (Nat.le_refl _) _ rfl
    try simp only [sS]
    obtain ⟨bb, bo, bc, bcs, hvb, hbF, hbx⟩ := ints_at hb h5
    subst hvb
    refine iaN_r h5 (ld_r (ldV_c (row_F hbF) hbx) ?_)
    refine ldMa (vs := [.int .i64 l[i].1, kv]) ?_ (upd_same _ _ _)
    refine levels_c hR' (fun N2 hN2 hw2 => ?_)
    refine ⟨fun _ => ldV_c (row_F hbF) hbx, ?_⟩
    refine geq_r (fun h8 => ?_) (fun h8 => ?_)
    · try simp only [sS]
      exact fin _ (by rw [he, decide_eq_false (by omega)]; rfl) _ hN2 _ rfl
    try simp only [sS]
    refine inc_r (by omega) ?_
    exact next (i + 1) _ _ (by omega) (fun hw3 => ⟨_, wk_drop hw3 (subM_drop (subM_refl M) (hm _ (by omega))), N2, rfl, by omega, h3, by rw [he, decide_eq_true (by omega)]; rfl⟩)
  · try simp only [sS]
    rw [show lvs l a b = true by rw [he, List.drop_eq_nil_of_le (show l.length ≤ i by omega)]; rfl] at k
    exact fun hc => ⟨_, wk_refl hc, fun hw' => k _ hN1 hw'⟩
end Go.Proofs.YtgcmbkoejjcjlaaGreatDoor.A
open Go Go.RowKit Go.Proofs.YtgcmbkoejjcjlaaGreatDoor.K Go.Proofs.YtgcmbkoejjcjlaaGreatDoor.T
set_option linter.unusedVariables false
set_option linter.unusedSimpArgs false
namespace Go.Proofs.YtgcmbkoejjcjlaaGreatDoor.A
variable {F F' : Nat → Option (List Value)} {M M' : Nat → Option Chunk} {N N' : Nat} {K : Kont} {E : PanK}
def rollE (l : List Dm) (t : List Rw) (a b : List Int) : Nat := if okDims l = false then 30 else if levF l a b = false then 40 else if soundT l.length t = false then 1 else 0
def rollRows (l : List Dm) (t : List Rw) (a b : List Int) : List Rw := t.map fun r => (atF l a b r.1, r.2)
def rollT (l : List Dm) (t : List Rw) (a b : List Int) : List Rw := if rollE l t a b = 0 then tab (rollRows l t a b) else []
theorem atF_len (l : List Dm) (a b c : List Int) : (atF l a b c).length ≤ l.length := by unfold atF; split; rw [atL_len]; omega; simp
theorem atF_rng {l : List Dm} {a b c : List Int} (hc : ∀ x ∈ c, i64 x) : ∀ x ∈ atF l a b c, i64 x := by
  unfold atF
  split
  · intro x hx
    obtain ⟨i, hi, rfl⟩ := List.mem_iff_getElem.1 hx
    simp only [atL, List.getElem_mapIdx]
    refine upF_rng ?_
    rw [List.getD_eq_getElem?_getD]
    cases h : c[i]? with
    | none => exact ⟨by simp, by simp⟩
    | some x => exact hc _ (List.mem_of_getElem? h)
  · intro x hx; cases hx
theorem okDims_len {l : List Dm} (h : okDims l = true) : l.length ≤ 4 := by unfold okDims at h; rw [Bool.and_eq_true] at h; exact (of_decide_eq_true h.1).2
theorem rollk_c {b1 b2 b3 : Nat} {u va vb kv : Value} {l : List Dm} {a b c : List Int} {e1 e2 e3 : TypeId} (h1 : M b1 = some (.cells e1 [u] 1)) (h2 : M b2 = some (.cells e2 [va] 1)) (h3 : M b3 = some (.cells e3 [vb] 1)) (hu : dimsD F u l) (hl : l.length ≤ 140737488351232) (ha : sF F 1 va a.length (ic a)) (hb : sF F 1 vb b.length (ic b)) (hc : sF F 1 kv c.length (ic c)) (hbi : ∀ x ∈ b, i64 x) (hci : ∀ x ∈ c, i64 x)
    (k : ∀ v' F' N', (Hp.mk F' M N').wf → subF F F' → N ≤ N' → sF F' 1 v' (atF l a b c).length (ic (atF l a b c)) → K v' ⟨F', M, N'⟩) :
    callv Tryz.prog (.func (.func 140) #[] #[.pointer (some ⟨b1, 0, none⟩), .pointer (some ⟨b2, 0, none⟩), .pointer (some ⟨b3, 0, none⟩)]) #[kv] K E ⟨F, M, N⟩ := by
  refine callv_of_text mixed Tryz.func140 (by kernel_rfl) (t140 _ E _ _ _ _) (fun hw => ?_)
  refine ldM (v := u) (ldM (v := va) (ldM (v := vb) ?_))
  refine at_c hu hl ha hb hc hbi hci (fun v' F' N' hw' hF hN h4 hc' => ⟨_, wk_refl hc', fun hw'' => k v' F' N' hw'' hF hN h4⟩)
theorem troll_c {u vt va vb : Value} {l : List Dm} {t : List Rw} {a b : List Int} (hu : dimsD F u l) (hl : l.length ≤ 140737488351232) (ht : tblD F vt t) (htl : t.length ≤ 1000000000) (ha : sF F 1 va a.length (ic a)) (hb : sF F 1 vb b.length (ic b)) (hbi : ∀ x ∈ b, i64 x) (hti : ∀ r ∈ t, ∀ x ∈ r.1, i64 x)
    (k : ∀ v' F' N', (Hp.mk F' M N').wf → subF F F' → N ≤ N' → tblD F' v' (rollT l t a b) → K (.tuple #[v', .int .u16 ((rollE l t a b : Nat) : Int)]) ⟨F', M, N'⟩) :
    callv Tryz.prog (.func (.func 105) #[] #[]) #[u, vt, va, vb] K E ⟨F, M, N⟩ := by
  refine callv_of_text mixed Tryz.func105 (by kernel_rfl) (t105 _ E _ _ _ _) (fun hw => ?_)
  have hm : clean M N := hw.m
  have hlu : lenV u = some (.int .i64 (l.length : Nat)) := by obtain ⟨a, c, rfl⟩ := hu.form; rfl
  obtain ⟨ua, uc, hup⟩ := hu.form
  obtain ⟨aa, ac, hap, _⟩ := ha.form
  obtain ⟨ba, bc, hbp, _⟩ := hb.form
  refine nw_r (cs := [u]) (fun b1 hb1 => ?_) (by rw [hup]; rfl)
  refine nw_r (cs := [va]) (fun b2 hb2 => ?_) (by rw [hap]; rfl)
  refine nw_r (cs := [vb]) (fun b3 hb3 => ?_) (by rw [hbp]; rfl)
  generalize hM3 : upd (upd (upd M b1 _) b2 _) b3 _ = M3
  have g1 : M3 b1 = some (.cells 26 [u] 1) := by rw [← hM3]; exact (upd_ne _ _ (by omega)).trans ((upd_ne _ _ (by omega)).trans (upd_same _ _ _))
  have g2 : M3 b2 = some (.cells 37 [va] 1) := by rw [← hM3]; exact (upd_ne _ _ (by omega)).trans (upd_same _ _ _)
  have g3 : M3 b3 = some (.cells 37 [vb] 1) := by rw [← hM3]; exact upd_same _ _ _
  have hMM : ∀ q, q < N → M3 q = M q := fun q hq => by rw [← hM3]; exact (upd_ne _ _ (by omega)).trans ((upd_ne _ _ (by omega)).trans (upd_ne _ _ (by omega)))
  have bad : ∀ e, rollE l t a b = e → e ≠ 0 → ∀ N', N ≤ N' → ∀ h', h' = (⟨F, M3, N'⟩ : Hp) → h'.wf → ∃ h'', h'.wk h'' ∧ (h''.wf → K (.tuple #[.slice none 0 0, .int .u16 (e : Nat)]) h'') := fun e h1 h2 N' hN h' e' hc => by
    subst e'
    refine ⟨_, frz_wf hm hMM hc, fun hw' => ?_⟩
    have e2 : rollT l t a b = [] := by unfold rollT; rw [if_neg (by rw [h1]; exact h2)]
    have := k (.slice none 0 0) _ N' hw' (subF_frzAll hc) hN (by rw [e2]; exact tblD.nil)
    rw [h1] at this; exact this
  refine ldM (v := u) ?_ g1
  refine dsound_c hu hl (fun N1 hN1 hw1 => ?_)
  cases hok : okDims l
  · try simp only [sS]
    exact bad 30 (by unfold rollE; rw [hok]; rfl) (by decide) _ (by omega) _ rfl
  try simp only [sS]
  refine ldM (v := u) (ldM (v := va) (ldM (v := vb) ?_ g3) g2) g1
  refine goes_c hu hl ha hb (fun N2 hN2 hw2 => ?_)
  cases hlv : levF l a b
  · try simp only [sS]
    exact bad 40 (by unfold rollE; rw [hok, hlv]; rfl) (by decide) _ (by omega) _ rfl
  try simp only [sS]
  refine ldM (v := u) ?_ g1
  try simp only [hlu]
  try simp only [sS]
  refine tsound_c ht (by omega) (fun N3 hN3 hw3 => ?_)
  cases hst : soundT l.length t
  · try simp only [sS]
    exact bad 1 (by unfold rollE; rw [hok, hlv, hst]; rfl) (by decide) _ (by omega) _ rfl
  try simp only [sS]
  have e0 : rollE l t a b = 0 := by unfold rollE; rw [hok, hlv, hst]; rfl
  have e1 : rollT l t a b = tab (rollRows l t a b) := by unfold rollT; rw [if_pos e0]
  rw [e0, e1] at k
  have hl4 := okDims_len hok
  refine tof_c (f := fun q => atF l a b q) ht htl (fun r hr => ⟨by have := atF_len l a b r.1; omega, atF_rng (hti r hr)⟩) (fun F1 M1 N1' r kv hr hF1 hM1 hN1' hm1 hkv hkl hK => ?_) (fun v' F' N' hw' hF hN ht' => ?_)
  · exact rollk_c ((hM1 b1 (by omega)).trans g1) ((hM1 b2 (by omega)).trans g2) ((hM1 b3 (by omega)).trans g3) (hu.mono hF1) hl (ha.mono hF1) (hb.mono hF1) hkv hbi (hti r hr) hK
  · refine fun hc => ⟨_, frz_wf hm hMM hc, fun hw'' => k v' _ N' hw'' (hF.trans (subF_frzAll hc)) (by omega) (ht'.mono (subF_frzAll hc))⟩
end Go.Proofs.YtgcmbkoejjcjlaaGreatDoor.A
open Go Go.RowKit Go.Proofs.YtgcmbkoejjcjlaaGreatDoor.K Go.Proofs.YtgcmbkoejjcjlaaGreatDoor.T
set_option linter.unusedVariables false
set_option linter.unusedSimpArgs false
namespace Go.Proofs.YtgcmbkoejjcjlaaGreatDoor.A
variable {F F' : Nat → Option (List Value)} {M M' : Nat → Option Chunk} {N N' : Nat} {K : Kont} {E : PanK}
theorem rollT_len (l : List Dm) (t : List Rw) (a b : List Int) : (rollT l t a b).length ≤ t.length := by
  unfold rollT
  split
  · have := tab_len (rollRows l t a b); simp only [rollRows, List.length_map] at this ⊢; exact this
  · simp
def levOf (l : List Dm) (c least : List Int) : List Int := l.mapIdx fun i d => least.getD i 0 + (c.getD i 0) % (d.2.length + 2 - least.getD i 0)
theorem levOf_len (l : List Dm) (c m : List Int) : (levOf l c m).length = l.length := by simp [levOf]
theorem levOf_take (l : List Dm) (c m : List Int) {i : Nat} (h : i < l.length) : levOf (l.take (i + 1)) c m = levOf (l.take i) c m ++ [m.getD i 0 + (c.getD i 0) % (l[i].2.length + 2 - m.getD i 0)] := by
  unfold levOf
  rw [List.take_add_one, List.getElem?_eq_getElem h, Option.toList_some, List.mapIdx_concat, List.length_take, Nat.min_eq_left (by omega)]
def okLev (l : List Dm) (m : List Int) : Prop := ∀ (i : Nat) (h : i < l.length), 0 ≤ m.getD i 0 ∧ m.getD i 0 < l[i].2.length + 2
theorem levOf_ok {l : List Dm} {c m : List Int} (hm : okLev l m) : okLev l (levOf l c m) ∧ ∀ (i : Nat) (h : i < l.length), m.getD i 0 ≤ (levOf l c m).getD i 0 := by
  have key : ∀ (i : Nat) (h : i < l.length), (levOf l c m).getD i 0 = m.getD i 0 + (c.getD i 0) % (l[i].2.length + 2 - m.getD i 0) := fun i h => by
    rw [List.getD_eq_getElem?_getD (l := levOf l c m), List.getElem?_eq_getElem (by rw [levOf_len]; exact h)]
    simp [levOf]
  refine ⟨fun i h => ?_, fun i h => ?_⟩
  · obtain ⟨a, b⟩ := hm i h
    rw [key i h]
    have x := Int.emod_nonneg (c.getD i 0) (show (l[i].2.length + 2 - m.getD i 0 : Int) ≠ 0 by omega)
    have y := Int.emod_lt_of_pos (c.getD i 0) (show (0 : Int) < l[i].2.length + 2 - m.getD i 0 by omega)
    omega
  · obtain ⟨a, b⟩ := hm i h
    rw [key i h]
    have x := Int.emod_nonneg (c.getD i 0) (show (l[i].2.length + 2 - m.getD i 0 : Int) ≠ 0 by omega)
    omega
end Go.Proofs.YtgcmbkoejjcjlaaGreatDoor.A
open Go Go.RowKit Go.Proofs.YtgcmbkoejjcjlaaGreatDoor.K Go.Proofs.YtgcmbkoejjcjlaaGreatDoor.T
set_option linter.unusedVariables false
set_option linter.unusedSimpArgs false
namespace Go.Proofs.YtgcmbkoejjcjlaaGreatDoor.A
variable {F F' : Nat → Option (List Value)} {M M' : Nat → Option Chunk} {N N' : Nat} {K : Kont} {E : PanK}
theorem lgen_fin {B s len : Nat} {n lo g h : Int} {v : Value} {pre : List Int} {X : Value → Value → Value → Value → Value → Kont} (ho : own M B 3 1 v s (ic pre)) (hm : clean M N) (hB : B ≤ N) (hs : s ≤ 1000000) (hlen : len ≤ 1000000) (hn : g = n) (hlo : h = lo) (g0 : 0 ≤ g) (g1 : g < 65536) (h0 : 0 ≤ h) (h1 : h < len + 2)
    (k : ∀ a b c d e v' M' N', own M' B 3 1 v' (s + 1) (ic (pre ++ [h + g % (len + 2 - h)])) → (∀ q, q < B → M' q = M q) → N ≤ N' → clean M' N' → X a b c d e v' ⟨F, M', N'⟩) :
    pv (binV .none .add (.int .i64 (len : Nat)) (.int .i64 2)) (fun t5 => pv (binV .none .sub t5 (.int .i64 lo)) fun t6 => pv (binV .none .rem (.int .i64 n) t6) fun t7 => pv (binV .none .add (.int .i64 lo) t7) fun t8 =>
      nws 3 1 (bsC #[(.int .i64 0)] 1 1 #[(0, t8)]) fun t9 => appX 3 1 8 v t9 fun t10 => X t5 t6 t7 t8 t9 t10) ⟨F, M, N⟩ := by
  subst hn; subst hlo
  refine add_n (b := 2) (by omega) (sub_r (by omega) (by omega) ?_)
  have y0 := Int.emod_nonneg g (show ((len + 2 : Nat) : Int) - h ≠ 0 by omega)
  have y1 := Int.emod_lt_of_pos g (show 0 < ((len + 2 : Nat) : Int) - h by omega)
  refine rem_i (by omega) (by omega) (add_r (by omega) (by omega) ?_)
  refine push_r (new := [.int .i64 (h + g % (((len + 2 : Nat) : Int) - h))]) ho hm hB (by kernel_rfl) rfl (List.all_eq_true.1 rfl) (by omega) (by unfold maxLen; omega) (fun p v' M3 N3 h4 h5 h6 h7 => ?_)
  refine k _ _ _ _ _ v' M3 N3 (by simpa [ic] using h4) (fun q hq => (h5 q (fun e => by have := (ho.ge q e).1; omega) (by omega)).1) h6 h7
set_option maxRecDepth 10000 in
theorem lgen_c {u v w : Value} {l : List Dm} {c m : List Int} (hu : dimsD F u l) (hv : sF F 1 v c.length (ick .u8 c)) (hw' : sF F 1 w m.length (ic m)) (hl : l.length ≤ 1000000) (hdv : ∀ d ∈ l, d.2.length ≤ 1000000) (hc : ∀ x ∈ c, 0 ≤ x ∧ x < 256) (hm' : okLev l m) (hcl : c.length ≤ 140737488351232) (hml : m.length ≤ 140737488351232)
    (k : ∀ v' F' N', (Hp.mk F' M N').wf → subF F F' → N ≤ N' → sF F' 1 v' (levOf l c m).length (ic (levOf l c m)) → K v' ⟨F', M, N'⟩) :
    callv Tryz.prog (.func (.func 36) #[] #[]) #[u, v, w] K E ⟨F, M, N⟩ := by
  refine callv_of_text mixed Tryz.func36 (by kernel_rfl) (t36 _ E _ _ _) (fun hw => ?_)
  have hm : clean M N := hw.m
  obtain ⟨rows, hu1, hu2⟩ := hu
  have hlu : lenV u = some (.int .i64 (l.length : Nat)) := by obtain ⟨a, c, rfl, _⟩ := hu1.form; rfl
  have hlv : lenV v = some (.int .i64 (c.length : Nat)) := by obtain ⟨a, c, rfl, _⟩ := hv.form; rfl
  have hlw : lenV w = some (.int .i64 (m.length : Nat)) := by obtain ⟨a, c, rfl, _⟩ := hw'.form; rfl
  refine l36_1_1_0_1_0_0 (σ := Nat × Value) (fun s => s.2) (fun s => .int .i64 (s.1 : Nat))
    (fun s h => ∃ M' N', h = ⟨F, M', N'⟩ ∧ N ≤ N' ∧ (∀ q, q < N → M' q = M q) ∧ clean M' N' ∧ s.1 ≤ l.length ∧ own M' N 3 1 s.2 s.1 (ic (levOf (l.take s.1) c m))) (fun s => l.length - s.1) (0, .slice none 0 0) rfl rfl
    (fun hw2 => ⟨_, wk_refl hw2, M, N, rfl, Nat.le_refl _, fun _ _ => rfl, hm, Nat.zero_le _, own.nil⟩) (fun k1 s j h1 hI hw2 next => ?_)
  rw [t36_1_1_0_1_0_0]
  obtain ⟨M2, N2, rfl, hN2, hM2, hm2, hi, ho2⟩ := hI
  try simp only [hlu, hlv]
  try simp only [sS]
  refine lss_r (fun hlt => ?_) (fun hge => ?_)
  · have h1 : s.1 < l.length := by omega
    obtain ⟨l0, l1⟩ := hm' s.1 h1
    have hdl := hdv l[s.1] (List.getElem_mem _)
    have hg : 0 ≤ c.getD s.1 0 ∧ c.getD s.1 0 < 65536 := by
      rw [List.getD_eq_getElem?_getD]
      cases h : c[s.1]? with
      | none => simp
      | some x => have := hc x (List.mem_of_getElem? h); simp only [Option.getD_some]; omega
    try simp only [sS]
    refine lss_r (fun hlt2 => ?_) (fun hge2 => ?_)
    have h2 : s.1 < c.length := by omega
    try simp only [sS]
    refine ixk_r hv h2 fun p => ?_
    obtain ⟨x0, x1⟩ := hc c[s.1] (List.getElem_mem _)
    obtain ⟨n, hn, hnc⟩ : ∃ n : Nat, c[s.1] = (n : Int) ∧ c.getD s.1 0 = (n : Int) := ⟨c[s.1].toNat, by omega, by rw [List.getD_eq_getElem?_getD, List.getElem?_eq_getElem h2, Option.getD_some]; omega⟩
    rw [hn]
    refine cv_i64 (a := n) (by omega) ?_
    rotate_left
    try simp only [sS]
    have hnc : c.getD s.1 0 = (0 : Int) := by rw [List.getD_eq_getElem?_getD, List.getElem?_eq_none (by omega)]; rfl
    all_goals
      rw [t36_1_1_0_1_0_0_1_0_0_1_1_1]
      try simp only [hlw]
      try simp only [sS]
      refine lss_r (fun hlt3 => ?_) (fun hge3 => ?_)
      have h3 : s.1 < m.length := by omega
      try simp only [sS]
      refine ixn_r hw' h3 fun p => ?_
      have hlo2 : m.getD s.1 0 = m[s.1] := by rw [List.getD_eq_getElem?_getD, List.getElem?_eq_getElem h3, Option.getD_some]
      rotate_left
      try simp only [sS]
      have hlo2 : m.getD s.1 0 = (0 : Int) := by rw [List.getD_eq_getElem?_getD, List.getElem?_eq_none (by omega)]; rfl
      all_goals
        rw [t36_1_1_0_1_0_0_1_0_0_1_1_1_1]
        refine fld_r hu1 hu2 (by decide) h1 (off := 1) (by decide) fun p q r x hR _ hx => ?_
        obtain ⟨kv, rfl, hkv', hkl⟩ := hR
        simp at hx
        subst hx
        refine lenF_r hkv' ?_
        refine lgen_fin ho2 hm2 hN2 (by omega) hdl hnc hlo2 hg.1 hg.2 l0 l1 (fun _ _ _ _ _ v' M3 N3 h4 h5 h6 h7 => ?_)
        refine inc_r (by omega) ?_
        refine next (s.1 + 1, v') _ _ (by simp only; omega) (fun hw3 => ⟨_, wk_refl hw3, M3, N3, rfl, by omega, fun q hq => (h5 q hq).trans (hM2 q hq), h7, h1, ?_⟩)
        simp only
        rw [levOf_take l c m h1]
        exact h4
  · try simp only [sS]
    rw [List.take_of_length_le (by omega)] at ho2
    refine fun hc' => ⟨_, frz_wf hm hM2 hc', fun hw' => k _ _ _ hw' (subF_frzAll hc') hN2 ?_⟩
    have := ho2.rd.frz hc' (fun b hb => .inl (ho2.ge b hb).1)
    rw [levOf_len]
    rw [show s.1 = l.length by omega] at this
    exact this
end Go.Proofs.YtgcmbkoejjcjlaaGreatDoor.A
open Go
set_option linter.unusedVariables false
set_option linter.unusedSimpArgs false
namespace Go.Proofs.YtgcmbkoejjcjlaaGreatDoor.A
theorem hasAt.congr {t : List Rw} {ls ms : List KV} (h : hasAt t ls) (e : ∀ k, valsAt ls k = valsAt ms k) : hasAt t ms := fun k => by rw [← e k]; exact h k
theorem valsAt_map (g : List Int → List Int) : ∀ {t : List Rw}, nodup t → ∀ k, valsAt (t.map fun r => (r.1, g r.1)) k = (look t k).elim [] (fun _ => g k)
  | [], _, k => by simp [valsAt, look]
  | (k1, c1) :: t, h, k => by
    have h' := List.pairwise_cons.1 h
    have ih := valsAt_map g h'.2 k
    rw [List.map_cons, valsAt_cons, ih]
    by_cases e : k1 = k
    · subst e
      have hn : look t k1 = none := look_none.2 fun x hx e => h'.1 x hx e.symm
      simp [look, hn]
    · simp [look, e]
def toldBy (t : List Rw) (ls : List KV) : List KV := t.map fun r => (r.1, valsAt ls r.1)
theorem toldBy_vals {t : List Rw} {ls : List KV} (h : hasAt t ls) (hs : srt t) (k : List Int) : valsAt (toldBy t ls) k = valsAt ls k := by
  unfold toldBy
  rw [valsAt_map (fun q => valsAt ls q) hs.nodup k]
  have := h k
  cases hl : look t k with
  | none => rw [hl] at this; simp only at this; rw [this]; rfl
  | some c => rfl
theorem toldBy_size (t : List Rw) (ls : List KV) : sizeL (toldBy t ls) ≤ t.length * sizeL ls := by
  induction t with
  | nil => simp [toldBy, sizeL]
  | cons r t ih =>
    have h1 := valsAt_len ls r.1
    simp only [toldBy, List.map_cons, sizeL, List.sum_cons, List.length_cons, Nat.succ_mul] at ih h1 ⊢
    omega
theorem merge_hasAt {t u : List Rw} {ls ms : List KV} (h : hasAt t ls) (k : hasAt u ms) (ht : srt t) (hu : srt u) (hn : t.length * sizeL ls + u.length * sizeL ms < 9223372036854775808) : hasAt (tab (t ++ u)) (ls ++ ms) := by
  have h1 := h.tells ht
  have h2 := k.tells hu
  have h3 := tab_hasAt (h1.app h2) (by
    rw [sizeL_app]
    have := toldBy_size t ls
    have := toldBy_size u ms
    unfold toldBy at *
    omega)
  refine h3.congr fun q => ?_
  have a := toldBy_vals h ht q
  have b := toldBy_vals k hu q
  unfold toldBy at a b
  rw [valsAt_app, valsAt_app, a, b]
def total (t : List Rw) : Int := (t.map fun r => r.2.n).sum
end Go.Proofs.YtgcmbkoejjcjlaaGreatDoor.A
open Go Go.RowKit Go.Proofs.YtgcmbkoejjcjlaaGreatDoor.K Go.Proofs.YtgcmbkoejjcjlaaGreatDoor.T
set_option linter.unusedVariables false
set_option linter.unusedSimpArgs false
namespace Go.Proofs.YtgcmbkoejjcjlaaGreatDoor.A
variable {F F' : Nat → Option (List Value)} {M M' : Nat → Option Chunk} {N N' : Nat} {K : Kont} {E : PanK}
theorem isMin.perm {m : Int} {l l' : List Int} (h : isMin m l) (p : l.Perm l') : isMin m l' := ⟨p.mem_iff.1 h.1, fun x hx => h.2 x (p.mem_iff.2 hx)⟩
theorem isMax.perm {m : Int} {l l' : List Int} (h : isMax m l) (p : l.Perm l') : isMax m l' := ⟨p.mem_iff.1 h.1, fun x hx => h.2 x (p.mem_iff.2 hx)⟩
theorem isCell.swap {c : CE} {l m : List Int} (h : isCell c l) (p : l.Perm m) : isCell c m :=
  ⟨by rw [h.n, p.length_eq], by rw [h.s]; congr 1; exact p.foldr_eq' (fun x _ y _ z => by omega) 0, h.lo.perm p, h.hi.perm p⟩
theorem hasAt.perm {t : List Rw} {ls ms : List KV} (h : hasAt t ls) (e : ∀ k, (valsAt ls k).Perm (valsAt ms k)) : hasAt t ms := fun k => by
  have h1 := h k
  have h2 := e k
  cases hl : look t k with
  | none => rw [hl] at h1; simp only at h1; simp only; rw [h1] at h2; exact h2.symm.eq_nil
  | some c => rw [hl] at h1; exact h1.swap h2
def reK (f : List Int → List Int) (ls : List KV) : List KV := ls.map fun x => (f x.1, x.2)
theorem reK_size (f : List Int → List Int) (ls : List KV) : sizeL (reK f ls) = sizeL ls := by
  induction ls with
  | nil => rfl
  | cons x ls ih => simp only [sizeL, reK, List.map_cons, List.sum_cons] at ih ⊢; rw [ih]
theorem regroup (f : List Int → List Int) (ls : List KV) (k : List Int) : ∀ (t : List Rw), nodup t →
    (valsAt (reK f (t.map fun r => (r.1, valsAt ls r.1))) k).Perm (valsAt (reK f (ls.filter fun x => decide (∃ r ∈ t, r.1 = x.1))) k)
  | [], _ => by
    have : ls.filter (fun x => decide (∃ r ∈ ([] : List Rw), r.1 = x.1)) = [] := by simp
    rw [this]; exact List.Perm.refl _
  | r :: t, h => by
    have h' := List.pairwise_cons.1 h
    have ih := regroup f ls k t h'.2
    rw [List.map_cons]
    have e1 : reK f ((r.1, valsAt ls r.1) :: t.map fun r => (r.1, valsAt ls r.1)) = (f r.1, valsAt ls r.1) :: reK f (t.map fun r => (r.1, valsAt ls r.1)) := rfl
    rw [e1, valsAt_cons]
    have key : ∀ (ls : List KV), (valsAt (reK f (ls.filter fun x => decide (∃ q ∈ r :: t, q.1 = x.1))) k).Perm ((if f r.1 = k then valsAt ls r.1 else []) ++ valsAt (reK f (ls.filter fun x => decide (∃ q ∈ t, q.1 = x.1))) k) := by
      intro ls
      induction ls with
      | nil => simp [reK, valsAt]
      | cons x ls ih2 =>
        rw [List.filter_cons, List.filter_cons, valsAt_cons]
        by_cases hx : x.1 = r.1
        · have a1 : (∃ q ∈ r :: t, q.1 = x.1) := ⟨r, by simp, hx.symm⟩
          have a2 : ¬ ∃ q ∈ t, q.1 = x.1 := fun ⟨q, hq, e⟩ => h'.1 q hq (by rw [e, hx])
          simp only [decide_eq_true a1, decide_eq_false a2, if_true, Bool.false_eq_true, if_false]
          rw [if_pos hx]
          have e2 : reK f (x :: ls.filter fun x => decide (∃ q ∈ r :: t, q.1 = x.1)) = (f x.1, x.2) :: reK f (ls.filter fun x => decide (∃ q ∈ r :: t, q.1 = x.1)) := rfl
          rw [e2, valsAt_cons]
          try simp only [hx]
          by_cases hk : f r.1 = k
          · rw [if_pos hk, if_pos hk] at *
            rw [List.append_assoc]
            exact List.Perm.append_left _ ih2
          · rw [if_neg hk, if_neg hk] at *
            exact ih2
        · rw [if_neg hx, List.nil_append]
          by_cases h2 : ∃ q ∈ t, q.1 = x.1
          · have a1 : (∃ q ∈ r :: t, q.1 = x.1) := by obtain ⟨q, hq, e⟩ := h2; exact ⟨q, by simp [hq], e⟩
            simp only [decide_eq_true a1, decide_eq_true h2, if_true]
            have e2 : ∀ (l : List KV), reK f (x :: l) = (f x.1, x.2) :: reK f l := fun _ => rfl
            rw [e2, e2, valsAt_cons, valsAt_cons]
            refine (List.Perm.append_left _ ih2).trans ?_
            rw [← List.append_assoc, ← List.append_assoc]
            exact List.Perm.append_right _ List.perm_append_comm
          · have a1 : ¬ (∃ q ∈ r :: t, q.1 = x.1) := fun ⟨q, hq, e⟩ => by
              rcases List.mem_cons.1 hq with rfl | hq
              · exact hx e.symm
              · exact h2 ⟨q, hq, e⟩
            simp only [decide_eq_false a1, decide_eq_false h2, Bool.false_eq_true, if_false]
            exact ih2
    exact (List.Perm.append_left _ ih).trans (key ls).symm
theorem valsAt_empties (f : List Int → List Int) (p : KV → Bool) (k : List Int) : ∀ (ls : List KV), (∀ x ∈ ls, p x = false → x.2 = []) → valsAt (reK f (ls.filter p)) k = valsAt (reK f ls) k
  | [], _ => rfl
  | x :: ls, h => by
    have ih := valsAt_empties f p k ls (fun y hy => h y (by simp [hy]))
    have e2 : ∀ (l : List KV), reK f (x :: l) = (f x.1, x.2) :: reK f l := fun _ => rfl
    rw [List.filter_cons, e2, valsAt_cons]
    cases hp : p x
    · rw [h x (by simp) hp]
      simpa using ih
    · simp only [if_true]
      rw [e2, valsAt_cons, ih]
theorem hasAt.regroup {t : List Rw} {ls : List KV} (h : hasAt t ls) (hs : srt t) (f : List Int → List Int) (k : List Int) : (valsAt (reK f (toldBy t ls)) k).Perm (valsAt (reK f ls) k) := by
  have h1 := A.regroup f ls k t hs.nodup
  rw [valsAt_empties f _ k ls] at h1
  · exact h1
  · intro x hx hp
    have hn : ¬ ∃ r ∈ t, r.1 = x.1 := of_decide_eq_false hp
    have h2 := h x.1
    rw [look_none.2 (fun r hr e => hn ⟨r, hr, e⟩)] at h2
    simp only at h2
    cases hx2 : x.2 with
    | nil => rfl
    | cons v vs =>
      have : v ∈ valsAt ls x.1 := by
        unfold valsAt
        exact List.mem_flatMap.2 ⟨x, List.mem_filter.2 ⟨hx, by simp⟩, by rw [hx2]; simp⟩
      rw [h2] at this; cases this
theorem roll_hasAt {t : List Rw} {ls : List KV} (h : hasAt t ls) (hs : srt t) (f : List Int → List Int) (hn : t.length * sizeL ls < 9223372036854775808) : hasAt (tab (t.map fun r => (f r.1, r.2))) (reK f ls) := by
  have h1 := h.tells hs
  have h2 : tells (t.map fun r => (f r.1, r.2)) (reK f (toldBy t ls)) := by
    refine ⟨by simp [reK, toldBy], fun i r l hr hl => ?_⟩
    rw [List.getElem?_map] at hr
    unfold reK at hl
    rw [List.getElem?_map] at hl
    cases ht : t[i]? with
    | none => rw [ht] at hr; cases hr
    | some x =>
      cases ho : (toldBy t ls)[i]? with
      | none => rw [ho] at hl; cases hl
      | some y =>
        rw [ht] at hr; rw [ho] at hl
        simp at hr hl
        subst hr; subst hl
        obtain ⟨a, b⟩ := h1.2 i x y ht ho
        exact ⟨by simp only; rw [a], b⟩
  have h3 := tab_hasAt h2 (by
    rw [reK_size]
    have := toldBy_size t ls
    omega)
  exact h3.perm (fun k => h.regroup hs f k)
def goodKey (l : List Dm) (k : List Int) : Prop := k.length = l.length ∧ ∀ x ∈ k, 0 ≤ x ∧ x ≤ 1000000
structure goodT (l : List Dm) (t : List Rw) (ls : List KV) : Prop where
  has : hasAt t ls
  srt : srt t
  key : ∀ x ∈ ls, goodKey l x.1
  val : ∀ x ∈ ls, ∀ v ∈ x.2, i64 v
theorem goodT.row {l : List Dm} {t : List Rw} {ls : List KV} (h : goodT l t ls) {r : Rw} (hr : r ∈ t) : goodKey l r.1 ∧ isCell r.2 (valsAt ls r.1) ∧ ∀ v ∈ valsAt ls r.1, i64 v := by
  obtain ⟨⟨x, hx, e⟩, h2⟩ := mem_keys h.has h.srt hr
  refine ⟨e ▸ h.key x hx, h2, fun v hv => ?_⟩
  obtain ⟨y, hy, _, hv'⟩ := valsAt_mem hv
  exact h.val y hy v hv'
theorem goodT.sound {l : List Dm} {t : List Rw} {ls : List KV} (h : goodT l t ls) : soundT l.length t = true := by
  refine soundT_of (fun r hr => ?_) h.srt
  obtain ⟨a, b, c⟩ := h.row hr
  exact okRow_of (by rw [a.1]) (fun x hx => (a.2 x hx).1) b c
theorem goodT.i64 {l : List Dm} {t : List Rw} {ls : List KV} (h : goodT l t ls) : ∀ r ∈ t, ∀ x ∈ r.1, A.i64 x := fun r hr x hx => by
  have := (h.row hr).1.2 x hx
  exact ⟨by omega, by omega⟩
theorem goodT.okK {l : List Dm} (hl : l.length ≤ 1000) {t : List Rw} {ls : List KV} (h : goodT l t ls) : ∀ r ∈ t, A.okK r.1 := fun r hr =>
  ⟨by rw [(h.row hr).1.1]; omega, h.i64 r hr⟩
theorem goodT.ext {l : List Dm} {t u : List Rw} {ls ms : List KV} (h : goodT l t ls) (k : goodT l u ms) (hp : ∀ q, (valsAt ls q).Perm (valsAt ms q)) : t = u := h.has.ext k.has h.srt k.srt hp
theorem goodT.facts {l : List Dm} (hl : goodDims l) {ks : List (List Int)} {v : List Int} (hv : ∀ x ∈ v, A.i64 x) : goodT l (tab ((factsOf l ks v).map fr1)) ((factsOf l ks v).map kvF) := by
  refine ⟨tabF_hasAt (facts_i64 hv) (by rw [factsOf_len]; omega), tab_srt _, fun x hx => ?_, fun x hx y hy => ?_⟩
  · obtain ⟨f, hf, rfl⟩ := List.mem_map.1 hx
    obtain ⟨c, hc⟩ := (factsOf_mem hf).1
    simp only [kvF]
    rw [hc]
    exact ⟨keyOf_len l c, fun x hx => by have := keyOf_ok hl c x hx; omega⟩
  · obtain ⟨f, hf, rfl⟩ := List.mem_map.1 hx
    simp [kvF] at hy
    rw [hy]; exact facts_i64 hv f hf
theorem goodT.merge {l : List Dm} {t u : List Rw} {ls ms : List KV} (h : goodT l t ls) (k : goodT l u ms) (hn : t.length * sizeL ls + u.length * sizeL ms < 9223372036854775808) : goodT l (tab (t ++ u)) (ls ++ ms) :=
  ⟨merge_hasAt h.has k.has h.srt k.srt hn, tab_srt _, fun x hx => (List.mem_append.1 hx).elim (h.key x) (k.key x), fun x hx => (List.mem_append.1 hx).elim (h.val x) (k.val x)⟩
theorem goodT.roll {l : List Dm} {t : List Rw} {ls : List KV} (h : goodT l t ls) (f : List Int → List Int) (hf : ∀ k, goodKey l k → goodKey l (f k)) (hn : t.length * sizeL ls < 9223372036854775808) : goodT l (tab (t.map fun r => (f r.1, r.2))) (reK f ls) :=
  ⟨roll_hasAt h.has h.srt f hn, tab_srt _, fun x hx => by obtain ⟨y, hy, rfl⟩ := List.mem_map.1 hx; exact hf _ (h.key y hy), fun x hx => by obtain ⟨y, hy, rfl⟩ := List.mem_map.1 hx; exact h.val y hy⟩
end Go.Proofs.YtgcmbkoejjcjlaaGreatDoor.A
open Go Go.RowKit Go.Proofs.YtgcmbkoejjcjlaaGreatDoor.K Go.Proofs.YtgcmbkoejjcjlaaGreatDoor.T
set_option linter.unusedVariables false
set_option linter.unusedSimpArgs false
namespace Go.Proofs.YtgcmbkoejjcjlaaGreatDoor.A
variable {F F' : Nat → Option (List Value)} {M M' : Nat → Option Chunk} {N N' : Nat} {K : Kont} {E : PanK}
theorem divL_chk : ∀ (l : List Nat) (a : Nat), 1 ≤ a → a * 5 ^ l.length ≤ 10000 → chk a ((divL a l).map (fun n : Nat => (n : Int))) = true
  | [], a, _, _ => rfl
  | b :: l, a, h, hn => by
    have h1 : a * (2 + b % 4) ≤ a * 5 := Nat.mul_le_mul_left _ (by omega)
    have h2 : a * 2 ≤ a * (2 + b % 4) := Nat.mul_le_mul_left _ (by omega)
    have h5 : 1 ≤ 5 ^ l.length := Nat.one_le_pow _ _ (by decide)
    have h3 : a * 5 * 5 ^ l.length ≤ 10000 := by rw [List.length_cons, Nat.pow_succ, Nat.mul_comm (5 ^ l.length) 5, ← Nat.mul_assoc] at hn; exact hn
    have h4 : a * (2 + b % 4) * 5 ^ l.length ≤ 10000 := Nat.le_trans (Nat.mul_le_mul_right _ h1) h3
    have h6 : a * 5 * 1 ≤ 10000 := Nat.le_trans (Nat.mul_le_mul_left _ h5) h3
    simp only [divL, List.map_cons, chk]
    rw [divL_chk l (a * (2 + b % 4)) (by omega) h4, Bool.and_true]
    refine decide_eq_true ?_
    have h7 : ((a * (2 + b % 4) : Nat) : Int) % (a : Int) = 0 := by rw [← Int.natCast_emod, Nat.mul_mod_right]; rfl
    omega
theorem dimOf_ok {c : Int × List Int} (hc : 0 ≤ c.1 ∧ c.1 < 65536) : okDim (dimOf c) = true := by
  unfold okDim
  have hl : ((c.2.take 4).map Int.toNat).length ≤ 4 := by simp; omega
  have h1 : chk 1 (dimOf c).2 = true := by
    refine divL_chk _ 1 (Nat.le_refl _) ?_
    rw [Nat.one_mul]
    exact Nat.le_trans (Nat.pow_le_pow_right (by decide) hl) (by decide)
  have h2 : (dimOf c).2.length ≤ 4 := by simp only [dimOf, List.length_map, divL_len]; simp; omega
  have h3 : 1 ≤ (dimOf c).1 ∧ (dimOf c).1 ≤ 10000 := by simp only [dimOf]; omega
  rw [h1, decide_eq_true ⟨h3.1, h3.2, h2⟩]; rfl
theorem dimsOf_ok {m : List (Int × List Int)} (hc : ∀ c ∈ m, 0 ≤ c.1 ∧ c.1 < 65536) : okDims (dimsOf m) = true := by
  have hg := dimsOf_good m hc
  unfold okDims
  rw [decide_eq_true ⟨hg.1, hg.2.1⟩, Bool.true_and, List.all_eq_true]
  intro d hd
  unfold dimsOf at hd
  split at hd
  · simp at hd; subst hd; decide +kernel
  · obtain ⟨c, hc', rfl⟩ := List.mem_map.1 hd
    exact dimOf_ok (hc c (List.mem_of_mem_take hc'))
def upLev (l : List Dm) (a b : List Int) : Prop := a.length = l.length ∧ b.length = l.length ∧ ∀ (i : Nat) (h : i < l.length), 0 ≤ a.getD i 0 ∧ a.getD i 0 ≤ b.getD i 0 ∧ b.getD i 0 < l[i].2.length + 2
theorem lvs_of : ∀ {l : List Dm} {a b : List Int}, upLev l a b → lvs l a b = true
  | [], _, _, _ => by simp [lvs]
  | d :: l, [], _, h => by have := h.1; simp at this
  | d :: l, _ :: _, [], h => by have := h.2.1; simp at this
  | d :: l, x :: a, y :: b, h => by
    simp only [lvs]
    have h0 := h.2.2 0 (by simp)
    simp at h0
    rw [lvs_of (l := l) (a := a) (b := b) ⟨by have := h.1; simp at this; exact this, by have := h.2.1; simp at this; exact this, fun i hi => by
      have := h.2.2 (i + 1) (by simp; exact hi)
      simpa using this⟩, Bool.and_true]
    exact decide_eq_true (by omega)
theorem levF_of {l : List Dm} {a b : List Int} (h : upLev l a b) : levF l a b = true := by
  unfold levF
  rw [lvs_of h, decide_eq_true ⟨h.1, h.2.1⟩]; rfl
def zeros (n : Nat) : List Int := List.replicate n 0
theorem zeros_get (n i : Nat) : (zeros n).getD i 0 = 0 := by
  unfold zeros
  rw [List.getD_eq_getElem?_getD, List.getElem?_replicate]
  split <;> rfl
theorem zeros_up {l : List Dm} {m : List Int} (hl : m.length = l.length) (h : okLev l m) : upLev l (zeros l.length) m :=
  ⟨by simp [zeros], hl, fun i hi => by rw [zeros_get]; have := h i hi; omega⟩
theorem nil_ok (l : List Dm) : okLev l [] := fun i h => by simp; omega
theorem okDims_all {l : List Dm} (h : okDims l = true) : ∀ d ∈ l, okDim d = true := by
  unfold okDims at h
  rw [Bool.and_eq_true] at h
  exact List.all_eq_true.1 h.2
theorem upF_of {d : Dm} (hd : okDim d = true) {a b v : Int} (h0 : 0 ≤ a) (h1 : a ≤ b) (h2 : b < d.2.length + 2) (hv : 0 ≤ v) : upF d a b v = if a = b then v else if byF d b = 0 then 0 else v / (byF d b / byF d a) := by
  unfold upF
  rw [if_neg (by rw [hd]; simp; omega)]
theorem byF_zero {d : Dm} (hd : okDim d = true) {b : Int} (h0 : 0 ≤ b) : byF d b = 0 ↔ b > d.2.length := by
  constructor
  · intro h
    by_cases hb : b ≤ d.2.length
    · have := (byF_pos hd h0 hb).1; omega
    · omega
  · intro h
    unfold byF
    rw [if_neg (by omega), if_pos h]
theorem upF_good {d : Dm} (hd : okDim d = true) {a b v : Int} (h0 : 0 ≤ a) (h1 : a ≤ b) (h2 : b < d.2.length + 2) (hv : 0 ≤ v) : 0 ≤ upF d a b v ∧ upF d a b v ≤ v := by
  rw [upF_of hd h0 h1 h2 hv]
  split
  · exact ⟨hv, Int.le_refl _⟩
  · split
    · exact ⟨Int.le_refl _, hv⟩
    · rename_i h3 h4
      have hb : b ≤ d.2.length := by
        by_cases h : b ≤ d.2.length
        · exact h
        · exact absurd ((byF_zero hd (by omega)).2 (by omega)) h4
      obtain ⟨r, s⟩ := byF_div hd (a := a) (b := b) h0 (by omega) hb
      exact ⟨Int.ediv_nonneg hv (by omega), Int.ediv_le_self _ hv⟩
theorem atF_eq {l : List Dm} (hl : okDims l = true) {a b k : List Int} (h : upLev l a b) (hk : k.length = l.length) : atF l a b k = atL l a b k := by
  unfold atF atOK
  rw [hl, decide_eq_true ⟨h.1, h.2.1, hk⟩]; rfl
theorem atL_get {l : List Dm} {a b k : List Int} {i : Nat} (h : i < l.length) : (atL l a b k)[i]? = some (upF l[i] (a.getD i 0) (b.getD i 0) (k.getD i 0)) := by
  simp [atL, h]
theorem atF_good {l : List Dm} (hl : okDims l = true) {a b : List Int} (h : upLev l a b) (k : List Int) (hk : goodKey l k) : goodKey l (atF l a b k) := by
  rw [atF_eq hl h hk.1]
  refine ⟨atL_len l a b k, fun x hx => ?_⟩
  obtain ⟨i, hi, rfl⟩ := List.mem_iff_getElem.1 hx
  rw [atL_len] at hi
  have e := atL_get (a := a) (b := b) (k := k) hi
  rw [List.getElem?_eq_getElem (by rw [atL_len]; exact hi)] at e
  injection e with e
  rw [e]
  obtain ⟨h1, h2, h3⟩ := h.2.2 i hi
  have hki := hk.2 (k[i]'(by rw [hk.1]; exact hi)) (List.getElem_mem _)
  have e2 : k.getD i 0 = k[i]'(by rw [hk.1]; exact hi) := by rw [List.getD_eq_getElem?_getD, List.getElem?_eq_getElem (by rw [hk.1]; exact hi)]; rfl
  rw [e2]
  have := upF_good (okDims_all hl l[i] (List.getElem_mem _)) h1 h2 h3 hki.1
  omega
theorem goodT.rolled {l : List Dm} (hl : okDims l = true) {t : List Rw} {ls : List KV} (h : goodT l t ls) {a b : List Int} (hab : upLev l a b) (hn : t.length * sizeL ls < 9223372036854775808) : rollE l t a b = 0 ∧ goodT l (rollT l t a b) (reK (atF l a b) ls) := by
  have e0 : rollE l t a b = 0 := by unfold rollE; rw [hl, levF_of hab, h.sound]; rfl
  refine ⟨e0, ?_⟩
  unfold rollT
  rw [if_pos e0]
  exact h.roll (atF l a b) (fun k hk => atF_good hl hab k hk) hn
end Go.Proofs.YtgcmbkoejjcjlaaGreatDoor.A
open Go Go.RowKit Go.Proofs.YtgcmbkoejjcjlaaGreatDoor.K Go.Proofs.YtgcmbkoejjcjlaaGreatDoor.T
set_option linter.unusedVariables false
set_option linter.unusedSimpArgs false
namespace Go.Proofs.YtgcmbkoejjcjlaaGreatDoor.A
variable {F F' : Nat → Option (List Value)} {M M' : Nat → Option Chunk} {N N' : Nat} {K : Kont} {E : PanK}
theorem mkz_r {n : Nat} (hn : n ≤ 1000000) (k : ∀ b, N ≤ b → K (.slice (some ⟨b, 0, none⟩) n n) ⟨F, upd M b (some (.cells 3 (ic (zeros n)) n)), b + 1⟩) : mks 3 [(.int .i64 0)] 1 8 (.int .i64 (n : Nat)) (.int .i64 (n : Nat)) K ⟨F, M, N⟩ := by
  refine ⟨_, n, _, n, rfl, rfl, Nat.le_refl _, by omega, by unfold maxLen; omega, fun b hb => ?_⟩
  have hflat : ∀ n : Nat, (List.replicate n [(Value.int .i64 0)]).flatten = ic (zeros n) := fun n => by
    induction n with
    | zero => rfl
    | succ n ih => rw [List.replicate_succ, List.flatten_cons, ih]; rfl
  rw [hflat, Nat.mul_one]
  exact k b hb
theorem small2 {a b : Nat} (h1 : a ≤ 1000) (h2 : b ≤ 1000) : a * b < 9223372036854775808 := by
  have := Nat.mul_le_mul h1 h2
  omega
theorem zeros_len (n : Nat) : (zeros n).length = n := by simp [zeros]
theorem okLev_i64 {l : List Dm} {m : List Int} (hl : m.length = l.length) (h : okLev l m) (hd : ∀ d ∈ l, d.2.length ≤ 1000000) : ∀ x ∈ m, i64 x := fun x hx => by
  obtain ⟨i, hi, rfl⟩ := List.mem_iff_getElem.1 hx
  have h1 := h i (by omega)
  have h2 := hd (l[i]'(by omega)) (List.getElem_mem _)
  rw [List.getD_eq_getElem?_getD, List.getElem?_eq_getElem hi] at h1
  simp only [Option.getD_some] at h1
  exact ⟨by omega, by omega⟩
theorem okDim_div {d : Dm} (h : okDim d = true) : d.2.length ≤ 4 := by unfold okDim at h; rw [Bool.and_eq_true] at h; exact (of_decide_eq_true h.1).2.2
end Go.Proofs.YtgcmbkoejjcjlaaGreatDoor.A
open Go Go.RowKit Go.Proofs.YtgcmbkoejjcjlaaGreatDoor.K Go.Proofs.YtgcmbkoejjcjlaaGreatDoor.T
set_option linter.unusedVariables false
set_option linter.unusedSimpArgs false
namespace Go.Proofs.YtgcmbkoejjcjlaaGreatDoor.A
variable {F F' : Nat → Option (List Value)} {M M' : Nat → Option Chunk} {N N' : Nat} {K : Kont} {E : PanK}
end Go.Proofs.YtgcmbkoejjcjlaaGreatDoor.A
open Go Go.RowKit Go.Proofs.YtgcmbkoejjcjlaaGreatDoor.K Go.Proofs.YtgcmbkoejjcjlaaGreatDoor.T
set_option linter.unusedVariables false
set_option linter.unusedSimpArgs false
namespace Go.Proofs.YtgcmbkoejjcjlaaGreatDoor.A
variable {F F' : Nat → Option (List Value)} {M M' : Nat → Option Chunk} {N N' : Nat} {K : Kont} {E : PanK}
theorem all_range_no {p : Nat → Bool} {n i : Nat} (hi : i < n) (h : p i = false) : (List.range n).all p = false := by
  rw [List.all_eq_false]
  exact ⟨i, List.mem_range.2 hi, by simp [h]⟩
theorem all_range_succ {p : Nat → Bool} {i : Nat} (h : (List.range i).all p = true) (hp : p i = true) : (List.range (i + 1)).all p = true := by
  rw [List.range_succ, List.all_append, h]; simp [hp]
theorem every_c {v fv : Value} {ls : List (List Int)} {p : Nat → Bool} {n : Nat} (hv : kksD .i64 F v ls) (hl : ls.length ≤ 1000000) (h0 : 0 < ls.length) (hn : ls[0].length = n) (hnl : n ≤ 140737488351232)
    (hf : (∀ x ∈ ls, x.length = n) → ∀ {K : Kont} (N1 i : Nat), N ≤ N1 → i < n → (∀ N', N1 ≤ N' → (Hp.mk F M N').wf → K (.bool (p i)) ⟨F, M, N'⟩) → callv Tryz.prog fv #[.int .i64 (i : Nat)] K E ⟨F, M, N1⟩)
    (k : ∀ N', N ≤ N' → (Hp.mk F M N').wf → K (.bool ((ls.all fun x => decide (x.length = n)) && (List.range n).all p)) ⟨F, M, N'⟩) :
    callv Tryz.prog (.func (.func 160) #[] #[]) #[fv, v] K E ⟨F, M, N⟩ := by
  refine callv_of_text mixed Tryz.func160 (by kernel_rfl) (t160 _ E _ _) (fun hw => ?_)
  have hlv : lenV v = some (.int .i64 (ls.length : Nat)) := by obtain ⟨rows, h1, _⟩ := hv; obtain ⟨a, c, rfl, _⟩ := h1.form; rfl
  have fin : ∀ v', v' = ((ls.all fun x => decide (x.length = n)) && (List.range n).all p) → ∀ N', N ≤ N' → ∀ h', h' = (⟨F, M, N'⟩ : Hp) → h'.wf → ∃ h'', h'.wk h'' ∧ (h''.wf → K (.bool v') h'') := fun v' e N' hN h' e' hc => by
    subst e; subst e'
    exact ⟨_, wk_refl hc, fun hw' => k _ hN hw'⟩
  try simp only [hlv]
  try simp only [sS]
  refine l160_1_0_1_0_0 (σ := Nat) (fun i => .int .i64 (i : Nat)) (fun i h => h = ⟨F, M, N⟩ ∧ i ≤ ls.length ∧ ∀ x ∈ ls.take i, x.length = n) (fun i => ls.length - i) 0 rfl
    (fun hw1 => ⟨_, wk_refl hw1, rfl, Nat.zero_le _, by simp⟩) (fun k1 i j h1 hI hw1 next => ?_)
  rw [t160_1_0_1_0_0]
  obtain ⟨rfl, hi, he⟩ := hI
  refine lss_r (fun hlt => ?_) (fun hge => ?_)
  · have h1 : i < ls.length := by omega
    try simp only [sS]
    refine kk_r hv h1 fun q u hu hul => lenF_r hu ?_
    refine kk_r (i := 0) hv h0 fun q' u' hu' hul' => lenF_r hu' ?_
    refine neq_r (fun h2 => ?_) (fun h2 => ?_)
    · try simp only [sS]
      refine fin _ ?_ _ (Nat.le_refl _) _ rfl
      have : (ls.all fun x => decide (x.length = n)) = false := by
        rw [List.all_eq_false]
        exact ⟨ls[i], List.getElem_mem _, by rw [decide_eq_false (by omega)]; simp⟩
      rw [this]; rfl
    · try simp only [sS]
      refine inc_r (by omega) ?_
      refine next (i + 1) _ _ (by omega) (fun hw2 => ⟨_, wk_refl hw2, rfl, h1, fun x hx => ?_⟩)
      rw [List.take_add_one, List.getElem?_eq_getElem h1] at hx
      rcases List.mem_append.1 hx with hx | hx
      · exact he x hx
      · simp at hx; rw [hx]; omega
  · try simp only [sS]
    rw [List.take_of_length_le (by omega)] at he
    have hall : (ls.all fun x => decide (x.length = n)) = true := List.all_eq_true.2 fun x hx => decide_eq_true (he x hx)
    rw [hall, Bool.true_and] at fin
    refine kk_r (i := 0) hv h0 fun q' u' hu' hul' => lenF_r hu' ?_
    rw [hn]
    refine l160_1_1_0_1_0_0 (σ := Nat) (fun i => .int .i64 (i : Nat)) (fun i h => ∃ N', h = ⟨F, M, N'⟩ ∧ N ≤ N' ∧ i ≤ n ∧ (List.range i).all p = true) (fun i => n - i) 0 rfl
      (fun hw1 => ⟨_, wk_refl hw1, N, rfl, Nat.le_refl _, Nat.zero_le _, rfl⟩) (fun k1 i j h1 hI hw1 next => ?_)
    rw [t160_1_1_0_1_0_0]
    obtain ⟨N1, rfl, hN1, hi2, hp⟩ := hI
    refine lss_r (fun hlt => ?_) (fun hge => ?_)
    · have h1 : i < n := by omega
      try simp only [sS]
      refine hf he N1 i hN1 h1 (fun N2 hN2 hw2 => ?_)
      cases hpi : p i
      · try simp only [sS]
        exact fin _ (all_range_no h1 hpi).symm _ (by omega) _ rfl
      · try simp only [sS]
        refine inc_r (by omega) ?_
        exact next (i + 1) _ _ (by omega) (fun hw3 => ⟨_, wk_refl hw3, N2, rfl, by omega, h1, all_range_succ hp hpi⟩)
    · try simp only [sS]
      rw [show i = n by omega] at hp
      exact fin _ hp.symm _ hN1 _ rfl
def withinF (lo hi key : List Int) : Bool := decide (hi.length = lo.length ∧ key.length = lo.length) && (List.range lo.length).all fun i => decide (lo.getD i 0 ≤ key.getD i 0 ∧ key.getD i 0 < hi.getD i 0)
def boxOK (l : List Dm) (lo hi : List Int) : Bool := decide (lo.length = l.length ∧ hi.length = l.length) && (List.range lo.length).all fun i => decide (0 ≤ lo.getD i 0 ∧ lo.getD i 0 ≤ hi.getD i 0 ∧ hi.getD i 0 ≤ (l.getD i (0, [])).1)
theorem getD_at {α : Type} {l : List α} {i : Nat} (h : i < l.length) (d : α) : l.getD i d = l[i] := by rw [List.getD_eq_getElem?_getD, List.getElem?_eq_getElem h]; rfl
theorem lits_D {ks : List (List Int)} {b : Nat} {cells : List Value} (hF : F b = some cells) (hl : cells.length = ks.length) (hr : rowsF (fun r c => ∃ u, r = [u] ∧ sF F 1 u c.length (ick .i64 c) ∧ c.length ≤ 140737488351232) 1 (cells.map fun x => [x]) ks) : kksD .i64 F (.slice (some ⟨b, 0, none⟩) ks.length ks.length) ks := by
  refine ⟨_, sF_lit (cells := (cells.map fun x => [x]).flatten) ?_ ?_ (Nat.le_refl _), hr⟩
  · rw [hF]
    congr 1
    clear hF hl hr
    induction cells with
    | nil => rfl
    | cons x xs ih => simp only [List.map_cons, List.flatten_cons]; rw [← ih]; rfl
  · have := flatten_len (sz := 1) (cells.map fun x => [x]) (by simp)
    rw [this, List.length_map, hl]
theorem frzP_at {p : Nat → Prop} {b : Nat} {e : TypeId} {cs : List Value} {tot : Nat} (hp : p b) (hM : M b = some (.cells e cs tot)) : frzP F M p b = some cs := by simp [frzP, hp, hM]
theorem within1_c {b1 b2 b3 : Nat} {ul uh uk : Value} {lo hi key : List Int} {e1 e2 e3 : TypeId} {i : Nat} (h1 : M b1 = some (.cells e1 [ul] 1)) (h2 : M b2 = some (.cells e2 [uh] 1)) (h3 : M b3 = some (.cells e3 [uk] 1)) (hl : sF F 1 ul lo.length (ic lo)) (hh : sF F 1 uh hi.length (ic hi)) (hk : sF F 1 uk key.length (ic key)) (i1 : i < lo.length) (i2 : i < hi.length) (i3 : i < key.length)
    (k : ∀ N', N ≤ N' → (Hp.mk F M N').wf → K (.bool (decide (lo.getD i 0 ≤ key.getD i 0 ∧ key.getD i 0 < hi.getD i 0))) ⟨F, M, N'⟩) :
    callv Tryz.prog (.func (.func 167) #[] #[.pointer (some ⟨b3, 0, none⟩), .pointer (some ⟨b1, 0, none⟩), .pointer (some ⟨b2, 0, none⟩)]) #[.int .i64 (i : Nat)] K E ⟨F, M, N⟩ := by
  refine callv_of_text mixed Tryz.func167 (by kernel_rfl) (t167 _ E _ _ _ _) (fun hw => ?_)
  rw [getD_at i1, getD_at i2, getD_at i3] at k
  refine ldM (v := uk) (ixn_r hk i3 fun p => ?_)
  refine ldM (v := ul) (ixn_r hl i1 fun p => ?_)
  refine geq_r (fun h4 => ?_) (fun h4 => ?_)
  · try simp only [sS]
    refine ldM (v := uk) (ixn_r hk i3 fun p => ?_)
    refine ldM (v := uh) (ixn_r hh i2 fun p => ?_)
    refine lss_r (fun h5 => ?_) (fun h5 => ?_)
    · try simp only [sS]
      rw [decide_eq_true ⟨h4, h5⟩] at k
      exact fun hc => ⟨_, wk_refl hc, fun hw' => k _ (Nat.le_refl _) hw'⟩
    · try simp only [sS]
      rw [decide_eq_false fun q => h5 q.2] at k
      exact fun hc => ⟨_, wk_refl hc, fun hw' => k _ (Nat.le_refl _) hw'⟩
  · try simp only [sS]
    rw [decide_eq_false fun q => h4 q.1] at k
    exact fun hc => ⟨_, wk_refl hc, fun hw' => k _ (Nat.le_refl _) hw'⟩
theorem kk_row {u : Value} {c : List Int} (h : sF F 1 u c.length (ic c)) (hl : c.length ≤ 140737488351232) : ∃ w, [u] = [w] ∧ sF F 1 w c.length (ick .i64 c) ∧ c.length ≤ 140737488351232 := ⟨u, rfl, h, hl⟩
theorem sF_one {sz m : Nat} {v : Value} {cells : List Value} (h : sF F sz v m cells) : [v].length = 1 ∧ ∀ c ∈ [v], c.oneCell' = true := by
  obtain ⟨a, c, rfl, _⟩ := h.form
  exact ⟨rfl, List.all_eq_true.1 rfl⟩
theorem within_c {ul uh uk : Value} {lo hi key : List Int} (hl : sF F 1 ul lo.length (ic lo)) (hh : sF F 1 uh hi.length (ic hi)) (hk : sF F 1 uk key.length (ic key)) (hll : lo.length ≤ 140737488351232) (hhl : hi.length ≤ 140737488351232) (hkl : key.length ≤ 140737488351232)
    (k : ∀ F' N', (Hp.mk F' M N').wf → subF F F' → N ≤ N' → K (.bool (withinF lo hi key)) ⟨F', M, N'⟩) :
    callv Tryz.prog (.func (.func 142) #[] #[]) #[ul, uh, uk] K E ⟨F, M, N⟩ := by
  refine callv_of_text mixed Tryz.func142 (by kernel_rfl) (t142 _ E _ _ _) (fun hw => ?_)
  have hm : clean M N := hw.m
  obtain ⟨la, lc, hlf, _⟩ := hl.form
  obtain ⟨ha, hc0, hhf, _⟩ := hh.form
  obtain ⟨ka, kc, hkf, _⟩ := hk.form
  refine nw_r (cs := [ul]) (fun b1 hb1 => ?_) (by rw [hlf]; rfl)
  refine nw_r (cs := [uh]) (fun b2 hb2 => ?_) (by rw [hhf]; rfl)
  refine nw_r (cs := [uk]) (fun b3 hb3 => ?_) (by rw [hkf]; rfl)
  refine ldM (v := ul) (ldM (v := uh) (ldM (v := uk) ?_))
  refine nws_r (cs := [ul, uh, uk]) (by rw [hlf, hhf, hkf]; kernel_rfl) (fun b4 hb4 => ?_)
  refine callv_go (fun hc => ⟨_, wk_P (p := fun q => q = b4) hc, ?_⟩)
  have hs := subF_frzP (p := fun q => q = b4) hc
  have g4 := frzP_at (F := F) (p := fun q => q = b4) rfl (upd_same (upd (upd (upd M b1 (some (.cells 37 [ul] [ul].length))) b2 (some (.cells 37 [uh] [uh].length))) b3 (some (.cells 37 [uk] [uk].length))) b4 (some (.cells 37 [ul, uh, uk] [ul, uh, uk].length)))
  generalize hM4 : upd (upd (upd (upd M b1 _) b2 _) b3 _) b4 _ = M4 at *
  have hk4 : ∀ q, q ≠ b4 → keepM M4 (fun q => ¬ q = b4) q = M4 q := fun q hq => keepM_in hq
  have g1 : keepM M4 (fun q => ¬ q = b4) b1 = some (.cells 37 [ul] 1) := (hk4 _ (by omega)).trans (by rw [← hM4]; exact (upd_ne _ _ (by omega)).trans ((upd_ne _ _ (by omega)).trans ((upd_ne _ _ (by omega)).trans (upd_same _ _ _))))
  have g2 : keepM M4 (fun q => ¬ q = b4) b2 = some (.cells 37 [uh] 1) := (hk4 _ (by omega)).trans (by rw [← hM4]; exact (upd_ne _ _ (by omega)).trans ((upd_ne _ _ (by omega)).trans (upd_same _ _ _)))
  have g3 : keepM M4 (fun q => ¬ q = b4) b3 = some (.cells 37 [uk] 1) := (hk4 _ (by omega)).trans (by rw [← hM4]; exact (upd_ne _ _ (by omega)).trans (upd_same _ _ _))
  have hMM : ∀ q, q < N → keepM M4 (fun q => ¬ q = b4) q = M q := fun q hq => (hk4 _ (by omega)).trans (by rw [← hM4]; exact (upd_ne _ _ (by omega)).trans ((upd_ne _ _ (by omega)).trans ((upd_ne _ _ (by omega)).trans (upd_ne _ _ (by omega)))))
  generalize keepM M4 (fun q => ¬ q = b4) = M5 at *
  generalize frzP F M4 (fun q => q = b4) = F5 at *
  have hl5 := hl.mono hs
  have hh5 := hh.mono hs
  have hk5 := hk.mono hs
  have hks : kksD .i64 F5 (.slice (some ⟨b4, 0, none⟩) 3 3) [lo, hi, key] := by
    have h0 := rowsF.nil (fun (r : List Value) (c : List Int) => ∃ u, r = [u] ∧ sF F5 1 u c.length (ick .i64 c) ∧ c.length ≤ 140737488351232) 1
    exact lits_D (ks := [lo, hi, key]) g4 rfl (rowsF_snoc1 (rowsF_snoc1 (rowsF_snoc1 h0 (sF_one hl5) (kk_row hl5 hll)) (sF_one hh5) (kk_row hh5 hhl)) (sF_one hk5) (kk_row hk5 hkl))
  refine every_c (n := lo.length) (p := fun i => decide (lo.getD i 0 ≤ key.getD i 0 ∧ key.getD i 0 < hi.getD i 0)) hks (by simp) (by simp) rfl hll (fun hlen K1 N1 i hN1 hi1 hK => ?_) (fun N' hN' hw' hc => ?_)
  · exact within1_c g1 g2 g3 hl5 hh5 hk5 hi1 (by rw [hlen hi (by simp)]; exact hi1) (by rw [hlen key (by simp)]; exact hi1) hK
  · refine ⟨_, frz_wf hm hMM hc, fun hw'' => ?_⟩
    have e : withinF lo hi key = (([lo, hi, key].all fun x => decide (x.length = lo.length)) && (List.range lo.length).all fun i => decide (lo.getD i 0 ≤ key.getD i 0 ∧ key.getD i 0 < hi.getD i 0)) := by
      unfold withinF
      congr 1
      simp
    have := k _ _ hw'' (hs.trans (subF_frzAll hc)) (by omega)
    rw [e] at this; exact this
end Go.Proofs.YtgcmbkoejjcjlaaGreatDoor.A
open Go Go.RowKit Go.Proofs.YtgcmbkoejjcjlaaGreatDoor.K Go.Proofs.YtgcmbkoejjcjlaaGreatDoor.T
set_option linter.unusedVariables false
set_option linter.unusedSimpArgs false
namespace Go.Proofs.YtgcmbkoejjcjlaaGreatDoor.A
variable {F F' : Nat → Option (List Value)} {M M' : Nat → Option Chunk} {N N' : Nat} {K : Kont} {E : PanK}
theorem dims_at {v : Value} {l : List Dm} {K : Value → Value → Kont} (hv : dimsD F v l) {i : Nat} (hi : i < l.length) (k : ∀ p q, K p q (.int .i64 l[i].1) ⟨F, M, N⟩) :
    pv (iaV none 2 v (.int .i64 (i : Nat))) (fun p => pv (faV 0 p) fun q => ld false 1 q (K p q)) ⟨F, M, N⟩ := by
  obtain ⟨rows, h1, h2⟩ := hv
  refine fld_r h1 h2 (by decide) hi (off := 0) (by decide) fun p q r x hR _ hx => ?_
  obtain ⟨kv, rfl, hkv, hkl⟩ := hR
  simp at hx
  subst hx
  exact k p q
def boxP (l : List Dm) (lo hi : List Int) (i : Nat) : Bool := decide (0 ≤ lo.getD i 0 ∧ lo.getD i 0 ≤ hi.getD i 0 ∧ hi.getD i 0 ≤ (l.getD i (0, [])).1)
theorem dsound1_c {b1 b2 b3 : Nat} {ul uh ud : Value} {lo hi : List Int} {l : List Dm} {e1 e2 e3 : TypeId} {i : Nat} (h1 : M b1 = some (.cells e1 [ul] 1)) (h2 : M b2 = some (.cells e2 [uh] 1)) (h3 : M b3 = some (.cells e3 [ud] 1)) (hl : sF F 1 ul lo.length (ic lo)) (hh : sF F 1 uh hi.length (ic hi)) (hd : dimsD F ud l) (i1 : i < lo.length) (i2 : i < hi.length) (i3 : i < l.length)
    (k : ∀ N', N ≤ N' → (Hp.mk F M N').wf → K (.bool (boxP l lo hi i)) ⟨F, M, N'⟩) :
    callv Tryz.prog (.func (.func 161) #[] #[.pointer (some ⟨b1, 0, none⟩), .pointer (some ⟨b2, 0, none⟩), .pointer (some ⟨b3, 0, none⟩)]) #[.int .i64 (i : Nat)] K E ⟨F, M, N⟩ := by
  refine callv_of_text mixed Tryz.func161 (by kernel_rfl) (t161 _ E _ _ _ _) (fun hw => ?_)
  unfold boxP at k
  rw [getD_at i1, getD_at i2, getD_at i3] at k
  refine ldM (v := ul) (ixn_r hl i1 fun p => ?_)
  refine geq_r (fun h4 => ?_) (fun h4 => ?_)
  · try simp only [sS]
    refine ldM (v := ul) (ixn_r hl i1 fun p => ?_)
    refine ldM (v := uh) (ixn_r hh i2 fun p => ?_)
    refine leq_r (fun h5 => ?_) (fun h5 => ?_)
    · try simp only [sS]
      refine ldM (v := uh) (ixn_r hh i2 fun p => ?_)
      refine ldM (v := ud) (dims_at hd i3 fun p q => ?_)
      refine leq_r (fun h6 => ?_) (fun h6 => ?_)
      · try simp only [sS]
        rw [decide_eq_true ⟨h4, h5, h6⟩] at k
        exact fun hc => ⟨_, wk_refl hc, fun hw' => k _ (Nat.le_refl _) hw'⟩
      · try simp only [sS]
        rw [decide_eq_false fun q => h6 q.2.2] at k
        exact fun hc => ⟨_, wk_refl hc, fun hw' => k _ (Nat.le_refl _) hw'⟩
    · try simp only [sS]
      rw [decide_eq_false fun q => h5 q.2.1] at k
      exact fun hc => ⟨_, wk_refl hc, fun hw' => k _ (Nat.le_refl _) hw'⟩
  · try simp only [sS]
    rw [decide_eq_false fun q => h4 q.1] at k
    exact fun hc => ⟨_, wk_refl hc, fun hw' => k _ (Nat.le_refl _) hw'⟩
theorem dcsound_c {ud ul uh : Value} {l : List Dm} {lo hi : List Int} (hd : dimsD F ud l) (hl : sF F 1 ul lo.length (ic lo)) (hh : sF F 1 uh hi.length (ic hi)) (hll : lo.length ≤ 140737488351232) (hhl : hi.length ≤ 140737488351232)
    (k : ∀ F' N', (Hp.mk F' M N').wf → subF F F' → N ≤ N' → K (.bool (boxOK l lo hi)) ⟨F', M, N'⟩) :
    callv Tryz.prog (.func (.func 135) #[] #[]) #[ud, ul, uh] K E ⟨F, M, N⟩ := by
  refine callv_of_text mixed Tryz.func135 (by kernel_rfl) (t135 _ E _ _ _) (fun hw => ?_)
  have hm : clean M N := hw.m
  obtain ⟨la, lc, hlf, _⟩ := hl.form
  obtain ⟨ha, hc0, hhf, _⟩ := hh.form
  obtain ⟨da, dc, hdf⟩ := hd.form
  have hlv : lenV ul = some (.int .i64 (lo.length : Nat)) := by rw [hlf]; rfl
  have hdv : lenV ud = some (.int .i64 (l.length : Nat)) := by rw [hdf]; rfl
  refine nw_r (cs := [ud]) (fun b1 hb1 => ?_) (by rw [hdf]; rfl)
  refine nw_r (cs := [ul]) (fun b2 hb2 => ?_) (by rw [hlf]; rfl)
  refine nw_r (cs := [uh]) (fun b3 hb3 => ?_) (by rw [hhf]; rfl)
  refine ldM (v := ul) ?_
  refine pv_r hlv ?_
  refine ldM (v := ud) (pv_r hdv ?_)
  refine eql_r (fun hq => ?_) (fun hq => ?_)
  · try simp only [sS]
    refine ldM (v := ul) (ldM (v := uh) ?_)
    refine nws_r (cs := [ul, uh]) (by rw [hlf, hhf]; kernel_rfl) (fun b4 hb4 => ?_)
    refine callv_go (fun hc => ⟨_, wk_P (p := fun q => q = b4) hc, ?_⟩)
    have hs := subF_frzP (p := fun q => q = b4) hc
    have g4 := frzP_at (F := F) (p := fun q => q = b4) rfl (upd_same (upd (upd (upd M b1 (some (.cells 26 [ud] [ud].length))) b2 (some (.cells 37 [ul] [ul].length))) b3 (some (.cells 37 [uh] [uh].length))) b4 (some (.cells 37 [ul, uh] [ul, uh].length)))
    generalize hM4 : upd (upd (upd (upd M b1 _) b2 _) b3 _) b4 _ = M4 at *
    have hk4 : ∀ q, q ≠ b4 → keepM M4 (fun q => ¬ q = b4) q = M4 q := fun q hq => keepM_in hq
    have g1 : keepM M4 (fun q => ¬ q = b4) b1 = some (.cells 26 [ud] 1) := (hk4 _ (by omega)).trans (by rw [← hM4]; exact (upd_ne _ _ (by omega)).trans ((upd_ne _ _ (by omega)).trans ((upd_ne _ _ (by omega)).trans (upd_same _ _ _))))
    have g2 : keepM M4 (fun q => ¬ q = b4) b2 = some (.cells 37 [ul] 1) := (hk4 _ (by omega)).trans (by rw [← hM4]; exact (upd_ne _ _ (by omega)).trans ((upd_ne _ _ (by omega)).trans (upd_same _ _ _)))
    have g3 : keepM M4 (fun q => ¬ q = b4) b3 = some (.cells 37 [uh] 1) := (hk4 _ (by omega)).trans (by rw [← hM4]; exact (upd_ne _ _ (by omega)).trans (upd_same _ _ _))
    have hMM : ∀ q, q < N → keepM M4 (fun q => ¬ q = b4) q = M q := fun q hq => (hk4 _ (by omega)).trans (by rw [← hM4]; exact (upd_ne _ _ (by omega)).trans ((upd_ne _ _ (by omega)).trans ((upd_ne _ _ (by omega)).trans (upd_ne _ _ (by omega)))))
    generalize keepM M4 (fun q => ¬ q = b4) = M5 at *
    generalize frzP F M4 (fun q => q = b4) = F5 at *
    have hl5 := hl.mono hs
    have hh5 := hh.mono hs
    have hd5 := hd.mono hs
    have hks : kksD .i64 F5 (.slice (some ⟨b4, 0, none⟩) 2 2) [lo, hi] := by
      have h0 := rowsF.nil (fun (r : List Value) (c : List Int) => ∃ u, r = [u] ∧ sF F5 1 u c.length (ick .i64 c) ∧ c.length ≤ 140737488351232) 1
      exact lits_D (ks := [lo, hi]) g4 rfl (rowsF_snoc1 (rowsF_snoc1 h0 (sF_one hl5) (kk_row hl5 hll)) (sF_one hh5) (kk_row hh5 hhl))
    refine every_c (n := lo.length) (p := boxP l lo hi) hks (by simp) (by simp) rfl hll (fun hlen K1 N1 i hN1 hi1 hK => ?_) (fun N' hN' hw' => ?_)
    · exact dsound1_c g2 g3 g1 hl5 hh5 hd5 hi1 (by rw [hlen hi (by simp)]; exact hi1) (by omega) hK
    · try simp only [sS]
      refine fun hc => ⟨_, frz_wf hm hMM hc, fun hw'' => ?_⟩
      have e : boxOK l lo hi = (([lo, hi].all fun x => decide (x.length = lo.length)) && (List.range lo.length).all (boxP l lo hi)) := by
        have e0 : decide (lo.length = l.length ∧ hi.length = l.length) = decide (hi.length = lo.length) := decide_eq_decide.2 ⟨fun q => by omega, fun q => by omega⟩
        unfold boxOK boxP
        rw [e0]
        congr 1
        simp
      have := k _ _ hw'' (hs.trans (subF_frzAll hc)) (by omega)
      rw [e] at this; exact this
  · try simp only [sS]
    refine fun hc => ⟨⟨F, M, b3 + 1⟩, wk_drop hc (subM_drop (subM_drop (subM_drop (subM_refl _) (hm _ (by omega))) (hm _ (by omega))) (hm _ (by omega))), fun hw' => ?_⟩
    have e : boxOK l lo hi = false := by unfold boxOK; rw [decide_eq_false (by omega)]; rfl
    have := k _ _ hw' (subF.refl _) (by omega)
    rw [e] at this; exact this
end Go.Proofs.YtgcmbkoejjcjlaaGreatDoor.A
open Go Go.RowKit Go.Proofs.YtgcmbkoejjcjlaaGreatDoor.K Go.Proofs.YtgcmbkoejjcjlaaGreatDoor.T
set_option linter.unusedVariables false
set_option linter.unusedSimpArgs false
namespace Go.Proofs.YtgcmbkoejjcjlaaGreatDoor.A
variable {F F' : Nat → Option (List Value)} {M M' : Nat → Option Chunk} {N N' : Nat} {K : Kont} {E : PanK}
def cutF (lo hi : List Int) (t : List Rw) : List Rw := t.filter fun r => withinF lo hi r.1
theorem cutF_len (lo hi : List Int) (t : List Rw) : (cutF lo hi t).length ≤ t.length := List.length_filter_le _ _
theorem cutF_t {lo hi : List Int} {t : List Rw} {i : Nat} (h : i < t.length) (hp : withinF lo hi t[i].1 = true) : cutF lo hi (t.take (i + 1)) = cutF lo hi (t.take i) ++ [t[i]] := by
  unfold cutF
  rw [List.take_add_one, List.getElem?_eq_getElem h, Option.toList_some, List.filter_append]
  simp [hp]
theorem cutF_f {lo hi : List Int} {t : List Rw} {i : Nat} (h : i < t.length) (hp : withinF lo hi t[i].1 = false) : cutF lo hi (t.take (i + 1)) = cutF lo hi (t.take i) := by
  unfold cutF
  rw [List.take_add_one, List.getElem?_eq_getElem h, Option.toList_some, List.filter_append]
  simp [hp]
set_option maxRecDepth 10000 in
theorem dcut_c {v ul uh : Value} {t : List Rw} {lo hi : List Int} (hv : tblD F v t) (hl : sF F 1 ul lo.length (ic lo)) (hh : sF F 1 uh hi.length (ic hi)) (hll : lo.length ≤ 140737488351232) (hhl : hi.length ≤ 140737488351232) (htl : t.length ≤ 1000000000) (hk : ∀ r ∈ t, r.1.length ≤ 10000000000)
    (k : ∀ v' F' N', (Hp.mk F' M N').wf → subF F F' → N ≤ N' → tblD F' v' (cutF lo hi t) → K v' ⟨F', M, N'⟩) :
    callv Tryz.prog (.func (.func 106) #[] #[]) #[v, ul, uh] K E ⟨F, M, N⟩ := by
  refine callv_of_text mixed Tryz.func106 (by kernel_rfl) (t106 _ E _ _ _) (fun hw => ?_)
  have hm : clean M N := hw.m
  obtain ⟨trs, hvs, hrs⟩ := hv
  refine lenF_r hvs ?_
  refine l106_1_1_0_1_0_0 (σ := Nat × Value) (fun s => s.2) (fun s => .int .i64 (s.1 : Nat))
    (fun s h => ∃ F' M' N' rows, h = ⟨F', M', N'⟩ ∧ subF F F' ∧ N ≤ N' ∧ (∀ q, q < N → M' q = M q) ∧ clean M' N' ∧ s.1 ≤ t.length ∧ own M' N 110 5 s.2 (cutF lo hi (t.take s.1)).length rows.flatten ∧ rowsF (rowD F') 5 rows (cutF lo hi (t.take s.1))) (fun s => t.length - s.1) (0, .slice none 0 0) rfl rfl
    (fun hw1 => ⟨_, wk_refl hw1, F, M, N, [], rfl, subF.refl _, Nat.le_refl _, fun _ _ => rfl, hm, Nat.zero_le _, own.nil, rowsF.nil _ _⟩) (fun k1 s j h1 hI hw1 next => ?_)
  rw [t106_1_1_0_1_0_0]
  obtain ⟨F1, M1, N1, rows, rfl, hF1, hN1, hM1, hm1, hi', ho, hr⟩ := hI
  have hcl := cutF_len lo hi (t.take s.1)
  rw [List.length_take] at hcl
  refine lss_r (fun hlt => ?_) (fun hge => ?_)
  · have h1 : s.1 < t.length := by omega
    try simp only [sS]
    refine row_r (hvs.mono hF1) (hrs.mono fun _ _ h => h.mono hF1) (by decide) h1 (fun p r _ hR hrl hr1 => ?_)
    obtain ⟨kv, hre, hkv, hkl⟩ := hR
    subst hre
    refine nw_r (fun b1 hb1 => ?_)
    refine stM (cs' := kv :: t[s.1].2.cs) ?_ (upd_same _ _ _) rfl rfl hr1
    refine pv_r rfl (ldM (v := kv) ?_)
    rw [upd_upd]
    have hM2 : ∀ q, q < N → upd M1 b1 (some (.cells 110 (kv :: t[s.1].2.cs) 5)) q = M q := fun q hq => (upd_ne _ _ (by omega)).trans (hM1 q hq)
    have hb2 := upd_same M1 b1 (some (.cells 110 (kv :: t[s.1].2.cs) 5))
    have ho2 := ho.box hm1 hb1 (some (.cells 110 (kv :: t[s.1].2.cs) 5))
    refine within_c (hl.mono hF1) (hh.mono hF1) hkv hll hhl hkl (fun F2 N2 hw2 hF2 hN2 => ?_)
    have hm2 : clean (upd M1 b1 (some (.cells 110 (kv :: t[s.1].2.cs) 5))) N2 := hw2.m
    generalize upd M1 b1 _ = M2 at *
    cases hp : withinF lo hi t[s.1].1
    · try simp only [sS]
      rw [t106_1_1_0_1_0_0_1_1_1]
      refine inc_r (by omega) ?_
      refine next (s.1 + 1, s.2) _ _ (by simp only; omega) (fun hw3 => ⟨_, wk_refl hw3, F2, M2, N2, rows, rfl, hF1.trans hF2, by omega, hM2, hm2, h1, ?_, ?_⟩)
      · simp only; rw [cutF_f h1 hp]; exact ho2
      · simp only; rw [cutF_f h1 hp]; exact hr.mono fun _ _ h => h.mono hF2
    · try simp only [sS]
      refine ldM (v := kv) ?_ hb2
      try simp only [sS]
      refine ldMa (vs := t[s.1].2.cs) ?_ hb2
      refine clone_f hm2 (hkv.mono hF2).sR (by have := hk _ (List.getElem_mem h1); omega) (fun kv' F3 N3 hw3 hF3 hN3 hkv' => ?_)
      refine ⟨ldV_a (row_M hb2) (by exact Nat.le_of_ble_eq_true rfl) rfl, ?_⟩
      have hrc := row_cells (c := t[s.1].2) hkv'
      obtain ⟨ak, ck, hkf, hck⟩ := hkv'.form
      refine pv_r (v := .agg (kv' :: t[s.1].2.cs).toArray) (by rw [hkf]; kernel_rfl) ?_
      refine push_r (new := kv' :: t[s.1].2.cs) ho2 hw3.m (by omega) (by rw [hkf]; kernel_rfl) hrc.1 hrc.2 (by omega) (by unfold maxLen; omega) (fun p v' M4 N4 h4 h5 h6 h7 => ?_)
      rw [t106_1_1_0_1_0_0_1_1_1]
      refine inc_r (by omega) ?_
      refine next (s.1 + 1, v') _ _ (by simp only; omega) (fun hw5 => ⟨_, wk_refl hw5, F3, M4, N4, rows ++ [kv' :: t[s.1].2.cs], rfl, (hF1.trans hF2).trans hF3, by omega, fun q hq => ?_, h7, h1, ?_, ?_⟩)
      · exact ((h5 q (fun e => by have := (ho2.ge q e).1; omega) (by omega)).1).trans (hM2 q hq)
      · simp only; rw [cutF_t h1 hp, List.length_append]; simpa using h4
      · simp only
        rw [cutF_t h1 hp]
        exact rowsF_snoc1 (hr.mono fun _ _ h => h.mono (hF2.trans hF3)) hrc ⟨kv', rfl, hkv', hkl⟩
  · try simp only [sS]
    rw [List.take_of_length_le (by omega)] at ho hr
    exact fun hc => ⟨_, frz_wf hm hM1 hc, fun hw' => k _ _ _ hw' (hF1.trans (subF_frzAll hc)) hN1 (tbl_frz hc ho hr)⟩
end Go.Proofs.YtgcmbkoejjcjlaaGreatDoor.A
