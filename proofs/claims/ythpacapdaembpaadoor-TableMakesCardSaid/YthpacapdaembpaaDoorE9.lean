import Derived.Test.YthpacapdaembpaaDoorE8
open Go Go.RowKit Go.Proofs.YthpacapdaembpaaDoor.K Go.Proofs.YthpacapdaembpaaDoor.T
set_option linter.unusedVariables false
set_option linter.unusedSimpArgs false
namespace Go.Proofs.YthpacapdaembpaaDoor.A
variable {F F' : Nat → Option (List Value)} {M M' : Nat → Option Chunk} {N N' : Nat} {K : Kont} {E : PanK}
theorem keyD {kv : Value} {l : List Int} (h : sF F 1 kv l.length (ic l)) (hl : l.length ≤ 1000) (x : Int) : fctD F [kv, .int .i64 x] (l, x) := ⟨kv, rfl, h, by simp only; omega⟩
theorem fcts_cons {kv : Value} {l : List Int} {x : Int} {rows : List (List Value)} {fs : List Fc} (h : sF F 1 kv l.length (ic l)) (hl : l.length ≤ 1000) (hr : rowsF (fctD F) 2 rows fs) : rowsF (fctD F) 2 ([kv, .int .i64 x] :: rows) ((l, x) :: fs) := by
  have h1 := keyD h hl x
  have := rows_app ((rowsF.nil (fctD F) 2).snoc h1.one.1 h1.one.2 h1) hr
  simpa using this
/-- known -/
theorem known_c (k : ∀ F' N', subF F F' → N ≤ N' → (Hp.mk F' M N').wf → K (.bool true) ⟨F', M, N'⟩) : callv Tryd.prog (.func (.func 18) #[] #[]) #[] K E ⟨F, M, N⟩ := by
  refine callv_of_text mixed Tryd.func18 (by kernel_rfl) (t18 _ E) (fun hw => ?_)
  have hm : clean M N := hw.m
  refine nws_r (cs := [.int .i64 1, .int .i64 0]) (by kernel_rfl) (fun b1 hb1 => ?_)
  refine pv_r (v := .agg #[.slice (some ⟨b1, 0, none⟩) 2 2, .int .i64 3]) (by kernel_rfl) ?_
  refine nws_r (cs := [.int .i64 0, .int .i64 2]) (by kernel_rfl) (fun b2 hb2 => ?_)
  refine pv_r (v := .agg #[.slice (some ⟨b2, 0, none⟩) 2 2, .int .i64 4]) (by kernel_rfl) ?_
  refine nws_r (cs := [.int .i64 1, .int .i64 0]) (by kernel_rfl) (fun b3 hb3 => ?_)
  refine pv_r (v := .agg #[.slice (some ⟨b3, 0, none⟩) 2 2, .int .i64 5]) (by kernel_rfl) ?_
  refine nws_r (cs := [.slice (some ⟨b1, 0, none⟩) 2 2, .int .i64 3, .slice (some ⟨b2, 0, none⟩) 2 2, .int .i64 4, .slice (some ⟨b3, 0, none⟩) 2 2, .int .i64 5]) (by kernel_rfl) (fun b4 hb4 => ?_)
  refine callv_go (fun hc => ⟨_, frz_wf hm (fun q hq => (upd_ne _ _ (by omega)).trans ((upd_ne _ _ (by omega)).trans ((upd_ne _ _ (by omega)).trans (upd_ne _ _ (by omega))))) hc, ?_⟩)
  have f4 := frz_at (F := F) (N := N) (by omega) (upd_same (upd (upd (upd M b1 (some (.cells 3 [.int .i64 1, .int .i64 0] [Value.int .i64 1, .int .i64 0].length))) b2 (some (.cells 3 [.int .i64 0, .int .i64 2] [Value.int .i64 0, .int .i64 2].length))) b3 (some (.cells 3 [.int .i64 1, .int .i64 0] [Value.int .i64 1, .int .i64 0].length))) b4 (some (.cells 39 [.slice (some ⟨b1, 0, none⟩) 2 2, .int .i64 3, .slice (some ⟨b2, 0, none⟩) 2 2, .int .i64 4, .slice (some ⟨b3, 0, none⟩) 2 2, .int .i64 5] [Value.slice (some ⟨b1, 0, none⟩) 2 2, .int .i64 3, .slice (some ⟨b2, 0, none⟩) 2 2, .int .i64 4, .slice (some ⟨b3, 0, none⟩) 2 2, .int .i64 5].length)))
  have hs := subF_frzAll (N := N) hc
  generalize hM4 : upd (upd (upd (upd M b1 _) b2 _) b3 _) b4 _ = M4 at *
  have f3 : frzAll F M4 N b3 = some [.int .i64 1, .int .i64 0] := frz_at (by omega) (by rw [← hM4]; exact (upd_ne _ _ (by omega)).trans (upd_same _ _ _))
  have f2 : frzAll F M4 N b2 = some [.int .i64 0, .int .i64 2] := frz_at (by omega) (by rw [← hM4]; exact (upd_ne _ _ (by omega)).trans ((upd_ne _ _ (by omega)).trans (upd_same _ _ _)))
  have f1 : frzAll F M4 N b1 = some [.int .i64 1, .int .i64 0] := frz_at (by omega) (by rw [← hM4]; exact (upd_ne _ _ (by omega)).trans ((upd_ne _ _ (by omega)).trans ((upd_ne _ _ (by omega)).trans (upd_same _ _ _))))
  have hfc : fctsD (frzAll F M4 N) (.slice (some ⟨b4, 0, none⟩) 3 3) [([1, 0], 3), ([0, 2], 4), ([1, 0], 5)] :=
    ⟨[[.slice (some ⟨b1, 0, none⟩) 2 2, .int .i64 3], [.slice (some ⟨b2, 0, none⟩) 2 2, .int .i64 4], [.slice (some ⟨b3, 0, none⟩) 2 2, .int .i64 5]], sF_lit f4 rfl (by decide),
      fcts_cons (sF_lit f1 rfl (by decide)) (by decide) (fcts_cons (sF_lit f2 rfl (by decide)) (by decide) (fcts_cons (sF_lit f3 rfl (by decide)) (by decide) (rowsF.nil _ _)))⟩
  refine make_c hfc (by decide) (fun f hf => ?_) (fun v' F' N' hw' hF hN ht => ?_)
  · simp at hf
    rcases hf with rfl | rfl | rfl <;> exact ⟨by decide, by simp [i64]⟩
  rw [tab_known] at ht
  obtain ⟨rows, ht1, ht2⟩ := ht
  have htt : tblD F' v' [([0, 2], ⟨1, 4, 4, 4⟩), ([1, 0], ⟨2, 8, 3, 5⟩)] := ⟨rows, ht1, ht2⟩
  refine lenF_r ht1 ?_
  refine eql_t rfl ?_
  try simp only [gdTT, gdFF, gdTF, gdFT, pvS, pickT, pickF, faP, lenS, nilP, exA, exB, exC, notB, cndT, cndF, Bool.not_true, Bool.not_false, Nat.zero_add, Nat.add_zero]
  refine cf_r 1 (i := 0) (x := .int .i64 4) ht1 ht2 (by decide) rfl fun p q q' => ?_
  refine eql_t rfl ?_
  try simp only [gdTT, gdFF, gdTF, gdFT, pvS, pickT, pickF, faP, lenS, nilP, exA, exB, exC, notB, cndT, cndF, Bool.not_true, Bool.not_false, Nat.zero_add, Nat.add_zero]
  refine cf_r 0 (i := 1) (x := .int .i64 2) ht1 ht2 (by decide) rfl fun p q q' => ?_
  refine eql_t rfl ?_
  try simp only [gdTT, gdFF, gdTF, gdFT, pvS, pickT, pickF, faP, lenS, nilP, exA, exB, exC, notB, cndT, cndF, Bool.not_true, Bool.not_false, Nat.zero_add, Nat.add_zero]
  refine cf_r 1 (i := 1) (x := .int .i64 8) ht1 ht2 (by decide) rfl fun p q q' => ?_
  refine eql_t rfl ?_
  try simp only [gdTT, gdFF, gdTF, gdFT, pvS, pickT, pickF, faP, lenS, nilP, exA, exB, exC, notB, cndT, cndF, Bool.not_true, Bool.not_false, Nat.zero_add, Nat.add_zero]
  refine tsound_c htt (by decide) (fun N2 hN2 hw2 => ?_)
  rw [show soundT 2 [([0, 2], ⟨1, 4, 4, 4⟩), ([1, 0], ⟨2, 8, 3, 5⟩)] = true by decide +kernel]
  try simp only [gdTT, gdFF, gdTF, gdFT, pvS, pickT, pickF, faP, lenS, nilP, exA, exB, exC, notB, cndT, cndF, Bool.not_true, Bool.not_false, Nat.zero_add, Nat.add_zero]
  refine tsound_c htt (by decide) (fun N3 hN3 hw3 => ?_)
  rw [show soundT 1 [([0, 2], ⟨1, 4, 4, 4⟩), ([1, 0], ⟨2, 8, 3, 5⟩)] = false by decide +kernel]
  try simp only [gdTT, gdFF, gdTF, gdFT, pvS, pickT, pickF, faP, lenS, nilP, exA, exB, exC, notB, cndT, cndF, Bool.not_true, Bool.not_false, Nat.zero_add, Nat.add_zero]
  exact fun hc => ⟨_, wk_refl hc, fun hw' => k F' N3 (hs.trans hF) (by omega) hw'⟩
/-- What comes in: facts that are looked at. -/
theorem light {l : List Fc} (h : wt (l.map (·.1)) ≤ 2000) (hk : ∀ f ∈ l, ∀ x ∈ f.1, i64 x) : ∀ f ∈ l, okK f.1 := fun f hf =>
  ⟨by have := wt_mem (List.mem_map_of_mem (f := (·.1)) hf); omega, hk f hf⟩
/-- TableMakes -/
theorem tableMakes_c {v : Value} {l : List Fc} (hv : fctsD F v l) (hl : l.length ≤ 140737488351232) (hk : ∀ f ∈ l, ∀ x ∈ f.1, i64 x) (k : ∀ h, K (.bool true) h) :
    call Tryd.prog 4 #[v] K E ⟨F, M, N⟩ := by
  refine call_text mixed Tryd.func4 (by kernel_rfl) (t4 _ E _) (fun hw => ?_)
  refine heavy_c tblD.nil hv (by decide) hl (fun r hr => ?_)
  cases r with
  | true =>
    try simp only [gdTT, gdFF, gdTF, gdFT, pvS, pickT, pickF, faP, lenS, nilP, exA, exB, exC, notB, cndT, cndF, Bool.not_true, Bool.not_false, Nat.zero_add, Nat.add_zero]
    exact known_c (fun F' N' _ _ _ hc => ⟨_, wk_refl hc, fun _ => k _⟩)
  | false =>
    obtain ⟨_, h1, h2⟩ := hr rfl
    have hok := light (l := l) (by omega) hk
    try simp only [gdTT, gdFF, gdTF, gdFT, pvS, pickT, pickF, faP, lenS, nilP, exA, exB, exC, notB, cndT, cndF, Bool.not_true, Bool.not_false, Nat.zero_add, Nat.add_zero]
    refine known_c (fun F1 N1 hF1 hN1 hw1 => ?_)
    try simp only [gdTT, gdFF, gdTF, gdFT, pvS, pickT, pickF, faP, lenS, nilP, exA, exB, exC, notB, cndT, cndF, Bool.not_true, Bool.not_false, Nat.zero_add, Nat.add_zero]
    refine make_c (hv.mono hF1) (by omega) hok (fun u F2 N2 hw2 hF2 hN2 hu => ?_)
    refine rmake_c ((hv.mono hF1).mono hF2) (by omega) (fun f hf => by have := (hok f hf).1; omega) (fun u' F3 N3 hw3 hF3 hN3 hu' => ?_)
    refine same_c (hu.mono hF3) hu' (by have := tab_len (l.map fr1); simp at this; omega) ?_
    rw [decide_eq_true rfl]
    exact fun hc => ⟨_, wk_refl hc, fun _ => k _⟩
end Go.Proofs.YthpacapdaembpaaDoor.A
