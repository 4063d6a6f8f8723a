import Derived.Test.YtgjdjdjhoipfmaaGreatDoorZ3
import Derived.Lib.Overlaps
import Derived.Laws.Externs
import Derived.Test.YtgjdjdjhoipfmaaGreatDoorProg
import Derived.Test.YtgjdjdjhoipfmaaGreatDoorZ1
set_option maxHeartbeats 4000000
open Go Go.RowKit Go.Proofs.YtgjdjdjhoipfmaaGreatDoor.K Go.Proofs.YtgjdjdjhoipfmaaGreatDoor.T
set_option linter.unusedVariables false
set_option linter.unusedSimpArgs false
namespace Go.Proofs.YtgjdjdjhoipfmaaGreatDoor.A
variable {F F' : Nat → Option (List Value)} {M M' : Nat → Option Chunk} {N N' : Nat} {K : Kont} {E : PanK}
set_option maxRecDepth 100000 in
theorem szE : ∀ w, (Go.sizeOf 52).run Tryz.prog w = .ok 2 w := fun w => run_sizeOf' (i := (Tryz.prog.info? 52).getD default) (by kernel_rfl) w
theorem overlaps_c {b o l c b2 l2 c2 : Nat} {e e2 : TypeId} {cs cs2 : List Value} {tot tot2 : Nat} (h1 : M b2 = some (.cells e2 cs2 tot2)) (h2 : M b = some (.cells e cs tot)) (hne : b2 ≠ b) (ht : 0 < tot) (k : K (.bool false) ⟨F, M, N⟩) :
    callv Tryz.prog (.func (.func 98) #[] #[]) #[.slice (some ⟨b2, 0, none⟩) l2 c2, .slice (some ⟨b, o, none⟩) l c] K E ⟨F, M, N⟩ := by
  refine .inr fun w0 w r => ⟨.bool false, w, ⟨F, M, N⟩, ?_, r, k⟩
  obtain ⟨_, _, _, arr2, a1, a2, _⟩ := r.cl b2 e2 cs2 tot2 h1
  obtain ⟨_, _, _, arr, a3, a4, _⟩ := r.cl b e cs tot h2
  rw [run_callFunc_extern Tryz.func98 (by kernel_rfl) (by kernel_rfl) (by kernel_rfl) (e := Extern.SlicesOverlaps.overlaps #[49, 49] #[4]) (by kernel_rfl)]
  have := Lib.run_overlaps_apart (P := Tryz.prog) w 49 4 52 Tryz.underlying49 2 szE ⟨b2, 0, none⟩ ⟨b, o, none⟩ l2 c2 l c hne e2 e arr2.size arr.size (by simp [World.shape?, a1]) (by simp [World.shape?, a3]) (by omega) (by simp [World.frozen?, a1]) (by simp [World.frozen?, a1])
  have h3 : appA (appA #[] #[.slice (some ⟨b2, 0, none⟩) l2 c2, .slice (some ⟨b, o, none⟩) l c]) #[] = #[Value.slice (some ⟨b2, 0, none⟩) l2 c2, .slice (some ⟨b, o, none⟩) l c] := rfl
  rw [h3, this]
  rfl
theorem cut3 {α : Type} (L : List α) (n : Nat) (h : n ≤ L.length) : ∃ X Y, L = X ++ Y ∧ X.length = n := ⟨L.take n, L.drop n, (List.take_append_drop n L).symm, by simp; omega⟩
theorem insert_c {b b2 n c : Nat} {A B : List (List Value)} {r rest : List Value} (hM : M b = some (.cells 52 ((A ++ B).flatten ++ rest) (c * 2))) (hM2 : M b2 = some (.cells 52 r 2)) (hne : b2 ≠ b) (hl : ∀ r ∈ A ++ B, r.length = 2) (h1 : ∀ r ∈ A ++ B, ∀ c ∈ r, c.oneCell' = true)
    (hr : r.length = 2) (hr1 : ∀ c ∈ r, c.oneCell' = true) (hn : (A ++ B).length = n) (hc : n ≤ c) (hcm : c ≤ maxLen) (hi : A.length < n) (hn2 : n < 100000000000)
    (k : ∀ rest' b' c' N' X, (b' = b ∨ N ≤ b') → (∀ k, k ≠ b → k < N → X k = M k) → X b' = some (.cells 52 ((A ++ r :: B).flatten ++ rest') (c' * 2)) → n + 1 ≤ c' → c' ≤ maxLen → N ≤ N' → (Hp.mk F X N').wf → K (.slice (some ⟨b', 0, none⟩) (n + 1) c') ⟨F, X, N'⟩) :
    callv Tryz.prog (.func (.func 67) #[] #[]) #[.slice (some ⟨b, 0, none⟩) n c, .int .i64 (A.length : Nat), .slice (some ⟨b2, 0, none⟩) 1 1] K E ⟨F, M, N⟩ := by
  refine callv_reveal hM rfl (by kernel_rfl) (fun ext hext => ?_)
  obtain ⟨R, hR⟩ : ∃ R, R = rest ++ ext := ⟨_, rfl⟩
  rw [List.append_assoc, ← hR] at hext
  obtain ⟨M1, hM1⟩ : ∃ M1, M1 = upd M b (some (.cells 52 ((A ++ B).flatten ++ R) (c * 2))) := ⟨_, rfl⟩
  rw [show (Hp.mk F M N).set b (.cells 52 ((A ++ B).flatten ++ rest ++ ext) (c * 2)) = ⟨F, M1, N⟩ by rw [hM1, hR, ← List.append_assoc]; rfl]
  clear hM
  have hM : M1 b = some (.cells 52 ((A ++ B).flatten ++ R) (c * 2)) := by rw [hM1, upd_same]
  have hM2' : M1 b2 = some (.cells 52 r 2) := by rw [hM1, upd_ne _ _ hne]; exact hM2
  have hMo : ∀ k, k ≠ b → M1 k = M k := fun k hk => by rw [hM1, upd_ne _ _ hk]
  clear hM1
  refine call_text mixed Tryz.func67 (by kernel_rfl) (t67 _ E _ _ _) (fun hw => ?_)
  have hA : A.flatten.length = A.length * 2 := flatten_len _ (fun r hr => hl r (by simp [hr]))
  have hB : B.flatten.length = B.length * 2 := flatten_len _ (fun r hr => hl r (by simp [hr]))
  have hBl : B.length = n - A.length := by simp at hn; omega
  rw [List.flatten_append] at hM hext
  simp only [List.length_append, hA, hB] at hext
  have hm := hw.m
  have key : ∀ b, M1 b ≠ none → b < N := fun q hq => by
    rcases Nat.lt_or_ge q N with h | h
    · exact h
    · exact absurd (hm q h) hq
  have hbN := key b (by rw [hM]; simp)
  have hb2N := key b2 (by rw [hM2']; simp)
  have h1B : ∀ c ∈ B.flatten, c.oneCell' = true := fun c hc => by
    obtain ⟨q, hq, hc⟩ := List.mem_flatten.1 hc
    exact h1 q (by simp [hq]) c hc
  refine sl_suf A.length (by omega) hc ?_
  refine pv_r rfl (eql_f (by omega) (cnd_f ?_))
  refine pv_r rfl (eql_f (by omega) (cnd_f ?_))
  refine inc_r (by omega) (pv_r rfl ?_)
  by_cases hgt : n + 1 > c
  · refine gtr_t (by omega) (cnd_t ?_)
    refine sl_pre A.length (by omega) ?_
    refine inc_r (by omega) ?_
    refine sub_r (by omega) (by omega) ?_
    have e0 : ((n + 1 : Nat) : Int) - (A.length : Nat) = ((n + 1 - A.length : Nat) : Int) := by omega
    rw [e0]
    refine ⟨some ⟨b, 0, none⟩, A.length, c, A.flatten, n + 1 - A.length, .i64, rfl, rfl, ⟨by rw [hA], .inr ⟨b, 0, c, _, rfl, .inr ⟨.inr ⟨_, _, hM⟩, by rw [List.drop_zero, ← hA, List.append_assoc, List.take_left]⟩⟩⟩, by omega, by omega, by omega, by simp [maxLen]; omega, fun b' c' hb' hc' hcm' => ?_⟩
    have e1 : A.length + (n + 1 - A.length) = n + 1 := by omega
    rw [e1] at hc' ⊢
    have hb'b : b' ≠ b := by simp only at hb'; omega
    have hb'2 : b' ≠ b2 := by simp only at hb'; omega
    have hZ : ((List.replicate (n + 1 - A.length) [Value.int .u32 0, .slice none 0 0]).flatten).length = 2 + B.length * 2 := by
      rw [flatten_len (sz := 2) _ (fun r hr => by rw [(List.mem_replicate.1 hr).2]; rfl), List.length_replicate]; omega
    obtain ⟨Z1, Z2, hZe, hZ1⟩ := cut3 _ 2 (by rw [hZ]; omega)
    rw [hZe] at hZ ⊢
    simp only [List.length_append, hZ1] at hZ
    show pv _ _ (Hp.mk F (upd M1 b' (some (.cells 52 (A.flatten ++ (Z1 ++ Z2)) (c' * 2)))) (b' + 1))
    refine sl_suf A.length (by omega) hc' ?_
    rw [if_neg (by omega)]
    refine ⟨b', _, _, _, 52, _, _, 1, r, rfl, upd_same _ _ _, ⟨by rw [hr], .inr ⟨b2, 0, 1, r, rfl, .inr ⟨.inr ⟨_, _, (upd_ne _ _ (Ne.symm hb'2)).trans hM2'⟩, by rw [List.drop_zero, List.take_of_length_le (by omega)]⟩⟩⟩, fun c hc => hr1 c (List.mem_of_mem_take hc), by simp [hA, hZ1]; omega, ?_⟩
    have em : min 1 (n + 1 - A.length) = 1 := by omega
    rw [em, List.take_of_length_le (by omega : r.length ≤ 1 * 2)]
    have es1 : splice (A.flatten ++ (Z1 ++ Z2)) (0 + A.length * 2) r = A.flatten ++ r ++ Z2 := by
      rw [← List.append_assoc, Nat.zero_add, ← hA, splice_at _ _ _ _ (by omega)]
    rw [es1]
    refine inc_r (by omega) ?_
    refine sl_suf (A.length + 1) (by omega) hc' ?_
    rw [if_neg (by omega)]
    refine sl_suf A.length (by omega) hc ?_
    rw [if_neg (by omega)]
    refine ⟨b', _, _, _, 52, _, _, n - A.length, B.flatten, rfl, upd_same _ _ _, ⟨by rw [hB, hBl], .inr ⟨b, _, _, _, rfl, .inr ⟨.inr ⟨_, _, (upd_ne _ _ (Ne.symm hb'b)).trans ((upd_ne _ _ (Ne.symm hb'b)).trans hM)⟩, ?_⟩⟩⟩, fun c hc => h1B c (List.mem_of_mem_take hc), ?_, fun hc2 => ?_⟩
    · rw [Nat.zero_add, ← hA, List.append_assoc, List.drop_left, ← hBl, ← hB, List.take_left]
    · simp [hA, hr]; omega
    have em2 : min (n - A.length) (n + 1 - (A.length + 1)) = B.length := by omega
    rw [em2] at hc2 ⊢
    have es2 : splice (A.flatten ++ r ++ Z2) (0 + (A.length + 1) * 2) (B.flatten.take (B.length * 2)) = A.flatten ++ r ++ B.flatten := by
      have : 0 + (A.length + 1) * 2 = (A.flatten ++ r).length := by simp [hA, hr]; omega
      rw [List.take_of_length_le (by omega), this]
      have h := splice_at (A.flatten ++ r) Z2 B.flatten [] (by omega)
      simpa using h
    rw [es2] at hc2 ⊢
    refine ⟨_, wk_refl hc2, fun hw' => k [] b' c' _ _ (.inr hb') (fun q hq hqN => ?_) ?_ hc' hcm' ?_ hw'⟩
    · simp only at hb'
      exact (upd_ne _ _ (by omega)).trans ((upd_ne _ _ (by omega)).trans ((upd_ne _ _ (by omega)).trans (hMo q hq)))
    · show upd _ _ _ _ = _
      rw [upd_same]; simp
    · simp only at hb'; show N ≤ b' + 1; omega
  · refine gtr_f (by omega) (cnd_f ?_)
    refine inc_r (by omega) ?_
    refine sl_pre (n + 1) (by omega) ?_
    refine inc_r (by omega) ?_
    refine sl_suf (A.length + 1) (by omega) (by omega) ?_
    rw [if_neg (by omega)]
    refine overlaps_c hM2' hM hne (by omega) ?_
    refine pv_r rfl (cnd_t ?_)
    refine inc_r (by omega) ?_
    refine sl_suf (A.length + 1) (by omega) (by omega) ?_
    rw [if_neg (by omega)]
    refine sl_suf A.length (by omega) (by omega) ?_
    rw [if_neg (by omega)]
    obtain ⟨X, Y, hXY, hX⟩ := cut3 (B.flatten ++ R) 2 (by simp [hB]; omega)
    obtain ⟨Y1, R1, hY, hY1⟩ := cut3 Y (B.length * 2) (by have := congrArg List.length hXY; simp [hX, hB] at this; omega)
    subst hY
    have hcs : A.flatten ++ B.flatten ++ R = A.flatten ++ X ++ Y1 ++ R1 := by rw [List.append_assoc, hXY]; simp
    have em : min (n + 1 - A.length) (n + 1 - (A.length + 1)) = B.length := by omega
    have hnews : ((B.flatten ++ R).take ((n + 1 - A.length) * 2)).take (B.length * 2) = B.flatten := by
      rw [List.take_take, Nat.min_eq_left (by omega), ← hB, List.take_left]
    refine ⟨b, _, _, _, 52, _, _, n + 1 - A.length, (B.flatten ++ R).take ((n + 1 - A.length) * 2), rfl, hM, ⟨?_, .inr ⟨b, _, _, _, rfl, .inr ⟨.inr ⟨_, _, hM⟩, ?_⟩⟩⟩, ?_, ?_, ?_⟩
    · rw [List.length_take, List.length_append, hB]; omega
    · rw [Nat.zero_add, ← hA, List.append_assoc, List.drop_left]
    · rw [em, hnews]; exact h1B
    · simp [hA, hB]; omega
    rw [em, hnews]
    have es1 : splice (A.flatten ++ B.flatten ++ R) (0 + (A.length + 1) * 2) B.flatten = A.flatten ++ X ++ B.flatten ++ R1 := by
      have : 0 + (A.length + 1) * 2 = (A.flatten ++ X).length := by simp [hA, hX]; omega
      rw [hcs, this, splice_at _ _ _ _ (by omega)]
    rw [es1]
    refine sl_suf A.length (by omega) (by omega) ?_
    rw [if_neg (by omega)]
    refine ⟨b, _, _, _, 52, _, _, 1, r, rfl, upd_same _ _ _, ⟨by rw [hr], .inr ⟨b2, 0, 1, r, rfl, .inr ⟨.inr ⟨_, _, (upd_ne _ _ hne).trans hM2'⟩, by rw [List.drop_zero, List.take_of_length_le (by omega)]⟩⟩⟩, fun c hc => hr1 c (List.mem_of_mem_take hc), by simp [hA, hB, hX]; omega, fun hc2 => ?_⟩
    have em2 : min 1 (n + 1 - A.length) = 1 := by omega
    rw [em2, List.take_of_length_le (by omega : r.length ≤ 1 * 2)] at hc2 ⊢
    have es2 : splice (A.flatten ++ X ++ B.flatten ++ R1) (0 + A.length * 2) r = A.flatten ++ r ++ B.flatten ++ R1 := by
      have h := splice_at A.flatten X r (B.flatten ++ R1) (by omega)
      rw [Nat.zero_add, ← hA]
      simpa using h
    rw [es2] at hc2 ⊢
    refine ⟨_, wk_refl hc2, fun hw' => k R1 b c _ _ (.inl rfl) (fun q hq hqN => ?_) ?_ (by omega) hcm (Nat.le_refl _) hw'⟩
    · exact (upd_ne _ _ hq).trans ((upd_ne _ _ hq).trans (hMo q hq))
    · show upd _ _ _ _ = _
      rw [upd_same]; simp
end Go.Proofs.YtgjdjdjhoipfmaaGreatDoor.A
open Go Go.RowKit Go.Proofs.YtgjdjdjhoipfmaaGreatDoor.K Go.Proofs.YtgjdjdjhoipfmaaGreatDoor.T
set_option linter.unusedVariables false
set_option linter.unusedSimpArgs false
namespace Go.Proofs.YtgjdjdjhoipfmaaGreatDoor.A
variable {F F' : Nat → Option (List Value)} {M M' : Nat → Option Chunk} {N N' : Nat} {K : Kont} {E : PanK}
set_option maxRecDepth 10000 in
theorem ins_c {B b2 i : Nat} {v : Value} {rows : List (List Value)} {r : List Value} {n : Nat} (hv : own M B 52 2 v n rows.flatten) (hm : clean M N) (hB : B ≤ N) (hlen : rows.length = n) (hl : ∀ q ∈ rows, q.length = 2) (h1 : ∀ q ∈ rows, ∀ c ∈ q, c.oneCell' = true)
    (hM2 : M b2 = some (.cells 52 r 2)) (hne : v.ownBlock ≠ some b2) (hr : r.length = 2) (hr1 : ∀ c ∈ r, c.oneCell' = true) (hi : i ≤ n) (hn : n < 100000000000)
    (k : ∀ v' M' N', own M' B 52 2 v' (n + 1) (rows.take i ++ r :: rows.drop i).flatten → (∀ q, v.ownBlock ≠ some q → q < N → M' q = M q ∧ v'.ownBlock ≠ some q) → N ≤ N' → clean M' N' → (Hp.mk F M' N').wf → K v' ⟨F, M', N'⟩) :
    callv Tryz.prog (.func (.func 67) #[] #[]) #[v, .int .i64 (i : Nat), .slice (some ⟨b2, 0, none⟩) 1 1] K E ⟨F, M, N⟩ := by
  have hrw : rows.flatten.length = n * 2 := hv.1
  by_cases hin : i < n
  · rcases hv.2 with ⟨rfl, h0⟩ | ⟨b, c, rest, rfl, g1, g2, g3, g4⟩
    · omega
    have hA : (rows.take i).length = i := by rw [List.length_take]; omega
    have hsp : rows.take i ++ rows.drop i = rows := List.take_append_drop i rows
    have hbN : b < N := hm.lt g4
    have hne' : b2 ≠ b := fun e => hne (by rw [e]; rfl)
    have := insert_c (F := F) (N := N) (K := K) (E := E) (A := rows.take i) (B := rows.drop i) (n := n) (c := c) (rest := rest) (by rw [hsp]; exact g4) hM2 hne' (by rw [hsp]; exact hl) (by rw [hsp]; exact h1) hr hr1 (by rw [hsp]; exact hlen) g1 g2 (by omega) hn (fun rest' b' c' N' X q1 q2 q3 q4 q5 q6 q7 => ?_)
    · rw [hA] at this; exact this
    · refine k _ X N' ⟨?_, .inr ⟨b', c', rest', rfl, q4, q5, ?_, q3⟩⟩ (fun q hq hqN => ⟨q2 q (fun e => hq (by rw [e]; rfl)) hqN, fun e => ?_⟩) q6 q7.m q7
      · have h2 : ∀ q ∈ rows.take i ++ r :: rows.drop i, q.length = 2 := fun q hq => by
          rcases List.mem_append.1 hq with hq | hq
          · exact hl q (List.mem_of_mem_take hq)
          · rcases List.mem_cons.1 hq with rfl | hq
            · exact hr
            · exact hl q (List.mem_of_mem_drop hq)
        rw [flatten_len _ h2, List.length_append, List.length_cons, List.length_take, List.length_drop]; omega
      · rcases q1 with rfl | q1
        · exact g3
        · omega
      · have e' : b' = q := by simpa [Value.ownBlock] using e
        rcases q1 with q1 | q1
        · exact hq (by rw [← e', q1]; rfl)
        · omega
  · have e : i = n := by omega
    subst e
    have hform := hv.form
    obtain ⟨a, c, hvf, hc⟩ := hform
    subst hvf
    refine callv_of_text mixed Tryz.func67 (by kernel_rfl) (t67 _ E _ _ _) (fun hw => ?_)
    refine sl_r i i c (Nat.le_refl _) hc (Nat.le_refl _) ?_ (h4 := fun _ => ⟨rfl, hc⟩)
    try simp only [sS]
    refine eql_f (by omega) ?_
    try simp only [sS]
    refine eql_t rfl ?_
    try simp only [sS]
    refine hv.app (m := 1) (news := r) hm hB ⟨by rw [hr], .inr ⟨b2, 0, 1, r, rfl, Nat.le_refl _, .inr ⟨_, _, hM2⟩, by rw [List.drop_zero, List.take_of_length_le (by omega)]⟩⟩ hr1 (by omega) (by unfold maxLen; omega) (fun v' M' N' h4 h5 h6 h7 => ?_)
    refine fun hc' => ⟨_, wk_refl hc', fun hw' => k v' M' N' ?_ h5 h6 h7 hw'⟩
    rw [List.take_of_length_le (by omega), List.drop_eq_nil_of_le (by omega), List.flatten_append]
    simpa using h4
end Go.Proofs.YtgjdjdjhoipfmaaGreatDoor.A
open Go Go.RowKit Go.Proofs.YtgjdjdjhoipfmaaGreatDoor.K Go.Proofs.YtgjdjdjhoipfmaaGreatDoor.T
set_option linter.unusedVariables false
set_option linter.unusedSimpArgs false
namespace Go.Proofs.YtgjdjdjhoipfmaaGreatDoor.A
variable {F F' : Nat → Option (List Value)} {M M' : Nat → Option Chunk} {N N' : Nat} {K : Kont} {E : PanK}
def inP (l : List Dm) (key : List Int) (i : Nat) : Bool := decide (0 ≤ key.getD i 0 ∧ key.getD i 0 < (l.getD i (0, [])).1)
def inF (l : List Dm) (key : List Int) : Bool := decide (key.length = l.length) && (List.range l.length).all (inP l key)
theorem in1_c {cs : List Value} {d : Dm} {n : Int} (hd : dimD F cs d) (k : ∀ N', N ≤ N' → (Hp.mk F M N').wf → K (.bool (decide (0 ≤ n ∧ n < d.1))) ⟨F, M, N'⟩) :
    callv Tryz.prog (.func (.func 96) #[] #[]) #[.agg cs.toArray, .int .i64 n] K E ⟨F, M, N⟩ := by
  refine callv_of_text mixed Tryz.func96 (by kernel_rfl) (t96 _ E _ _) (fun hw => ?_)
  have hm := hw.m
  obtain ⟨v, rfl, hv, hvl⟩ := hd
  refine nw_r (cs := [.int .i64 d.1, v]) (fun b hb => ?_)
  refine geq_r (fun h1 => ?_) (fun h1 => ?_)
  · try simp only [sS]
    refine ldM (v := .int .i64 d.1) ?_
    refine lss_r (fun h2 => ?_) (fun h2 => ?_)
    · try simp only [sS]
      rw [decide_eq_true ⟨h1, h2⟩] at k
      exact fun hc => ⟨⟨F, M, b + 1⟩, wk_end hc, fun hw' => k _ (by omega) hw'⟩
    · try simp only [sS]
      rw [decide_eq_false fun q => h2 q.2] at k
      exact fun hc => ⟨⟨F, M, b + 1⟩, wk_end hc, fun hw' => k _ (by omega) hw'⟩
  · try simp only [sS]
    rw [decide_eq_false fun q => h1 q.1] at k
    exact fun hc => ⟨⟨F, M, b + 1⟩, wk_end hc, fun hw' => k _ (by omega) hw'⟩
set_option maxRecDepth 10000 in
theorem din_c {v u : Value} {l : List Dm} {m : List Int} (hv : dimsD F v l) (hu : sF F 1 u m.length (ic m)) (hl : l.length ≤ 140737488351232) (k : ∀ N', N ≤ N' → (Hp.mk F M N').wf → K (.bool (inF l m)) ⟨F, M, N'⟩) :
    callv Tryz.prog (.func (.func 64) #[] #[]) #[v, u] K E ⟨F, M, N⟩ := by
  refine callv_of_text mixed Tryz.func64 (by kernel_rfl) (t64 _ E _ _) (fun hw => ?_)
  refine callv_of_text mixed Tryz.func95 (by kernel_rfl) (t95 _ E _ _ _) (fun hw => ?_)
  have hm : clean M N := hw.m
  have hlv : lenV v = some (.int .i64 (l.length : Nat)) := by obtain ⟨a, c, rfl⟩ := hv.form; rfl
  have hlu : lenV u = some (.int .i64 (m.length : Nat)) := by obtain ⟨a, c, rfl, _⟩ := hu.form; rfl
  refine pv_r hlv (pv_r hlu ?_)
  refine neq_r (fun h1 => ?_) (fun h1 => ?_)
  · try simp only [sS]
    refine fun hc => ⟨_, wk_refl hc, fun hw' hc => ⟨_, wk_refl hc, fun hw' => ?_⟩⟩
    have := k _ (Nat.le_refl _) hw'
    rw [show inF l m = false by unfold inF; rw [decide_eq_false (by omega)]; rfl] at this
    exact this
  try simp only [sS]
  refine pv_r hlv ?_
  obtain ⟨rows, hv1, hv2⟩ := hv
  refine l95_1_1_0_1_0_0 (σ := Nat) (fun i => .int .i64 (i : Nat)) (fun i h => ∃ N', h = ⟨F, M, N'⟩ ∧ N ≤ N' ∧ i ≤ l.length ∧ (List.range i).all (inP l m) = true) (fun i => l.length - i) 0 rfl
    (fun hw1 => ⟨_, wk_refl hw1, N, rfl, Nat.le_refl _, Nat.zero_le _, rfl⟩) (fun k1 i j h1' hI hw1 next => ?_)
  rw [t95_1_1_0_1_0_0]
  obtain ⟨N1, rfl, hN1, hi, he⟩ := hI
  have hm1 : clean M N1 := hw1.m
  refine lss_r (fun hlt => ?_) (fun hge => ?_)
  · have i1 : i < l.length := by omega
    have i2 : i < m.length := by omega
    try simp only [sS]
    refine row_r hv1 hv2 (by decide) i1 fun p r _ hR hr2 hr1 => ?_
    have hR' := hR
    obtain ⟨kv, hre, hkv, hkl⟩ := hR
    subst hre
    refine nw_r (fun b1 hb1 => ?_)
    refine stM (cs' := [.int .i64 l[i].1, kv]) ?_ (upd_same _ _ _) rfl rfl hr1
    rw [upd_upd]
    refine ixn_r hu i2 fun p => ?_
    refine ldMa (vs := [.int .i64 l[i].1, kv]) ?_
    refine in1_c hR' (fun N2 hN2 hw2 => ?_)
    have hp : inP l m i = decide (0 ≤ m[i] ∧ m[i] < l[i].1) := by
      unfold inP
      rw [getD_at i1, getD_at i2]
    rw [← hp]
    have hdrop : ∀ {h : Hp}, h = (⟨F, upd M b1 (some (.cells 74 [.int .i64 l[i].1, kv] 2)), N2⟩ : Hp) → h.wf → h.wk ⟨F, M, N2⟩ := fun e hc => by subst e; exact wk_drop hc (subM_drop (subM_refl _) (hm1 _ hb1))
    cases hpi : inP l m i
    · try simp only [sS]
      refine fun hc => ⟨⟨F, M, N2⟩, hdrop rfl hc, fun hw' hc => ⟨_, wk_refl hc, fun hw' => ?_⟩⟩
      have := k N2 (by omega) hw'
      rw [show inF l m = false by unfold inF; rw [all_range_no i1 hpi]; simp] at this
      exact this
    · try simp only [sS]
      refine inc_r (by omega) ?_
      exact next (i + 1) _ _ (by omega) (fun hw3 => ⟨⟨F, M, N2⟩, hdrop rfl hw3, N2, rfl, by omega, i1, all_range_succ he hpi⟩)
  · try simp only [sS]
    rw [show i = l.length by omega] at he
    refine fun hc => ⟨_, wk_refl hc, fun hw' hc => ⟨_, wk_refl hc, fun hw' => ?_⟩⟩
    have := k _ hN1 hw'
    rw [show inF l m = true by unfold inF; rw [he, decide_eq_true (by omega)]; rfl] at this
    exact this
theorem fits1_c {b g : Nat} {e1 : TypeId} {t1 : Nat} {hv dv : Value} {cs : List Value} {l : List Dm} {f : Fc} (hb : M b = some (.cells e1 [.pointer (some ⟨g, 0, none⟩)] t1)) (hg : M g = some (.cells 84 [hv, dv] 2)) (hd : dimsD F dv l) (hl : l.length ≤ 140737488351232) (hf : fctD F cs f)
    (k : ∀ N', N ≤ N' → (Hp.mk F M N').wf → K (.bool (!inF l f.1)) ⟨F, M, N'⟩) : callv Tryz.prog (.func (.func 63) #[] #[.pointer (some ⟨b, 0, none⟩)]) #[.agg cs.toArray] K E ⟨F, M, N⟩ := by
  refine callv_of_text mixed Tryz.func63 (by kernel_rfl) (t63 _ E _ _) (fun hw => ?_)
  have hm : clean M N := hw.m
  have hbN := hm.lt hb
  have hgN := hm.lt hg
  obtain ⟨kv, rfl, hkv, hkl⟩ := hf
  refine nw_r (cs := [kv, .int .i64 f.2]) (fun b2 hb2 => ?_)
  refine ldM (v := .pointer (some ⟨g, 0, none⟩)) ?_ ((upd_ne _ _ (by omega)).trans hb)
  try simp only [sS]
  refine ldM (v := dv) ?_ ((upd_ne _ _ (by omega)).trans hg)
  try simp only [sS]
  refine ldM (v := kv) ?_
  refine din_c hd hkv hl (fun N2 hN2 hw2 => ?_)
  try simp only [sS]
  exact fun hc => ⟨⟨F, M, N2⟩, wk_drop hc (subM_drop (subM_refl _) (hm _ hb2)), fun hw' => k _ (by omega) hw'⟩
end Go.Proofs.YtgjdjdjhoipfmaaGreatDoor.A
open Go Go.RowKit Go.Proofs.YtgjdjdjhoipfmaaGreatDoor.K Go.Proofs.YtgjdjdjhoipfmaaGreatDoor.T
set_option linter.unusedVariables false
set_option linter.unusedSimpArgs false
namespace Go.Proofs.YtgjdjdjhoipfmaaGreatDoor.A
variable {F F' : Nat → Option (List Value)} {M M' : Nat → Option Chunk} {N N' : Nat} {K : Kont} {E : PanK}
def fitsF (l : List Dm) (fs : List Fc) : Bool := decide (fs.length ≤ 200) && fs.all fun f => inF l f.1
theorem fidx_c {b g : Nat} {e1 : TypeId} {t1 : Nat} {v hv dv : Value} {l : List Dm} {fs : List Fc} (hb : M b = some (.cells e1 [.pointer (some ⟨g, 0, none⟩)] t1)) (hg : M g = some (.cells 84 [hv, dv] 2)) (hd : dimsD F dv l) (hl : l.length ≤ 140737488351232) (hf : fctsD F v fs) (hfl : fs.length ≤ 140737488351232)
    (k : ∀ (r : Int) N', N ≤ N' → (Hp.mk F M N').wf → (decide (r ≥ 0) = !fs.all fun f => inF l f.1) → K (.int .i64 r) ⟨F, M, N'⟩) :
    callv Tryz.prog (.func (.func 94) #[] #[]) #[v, .func (.func 63) #[] #[.pointer (some ⟨b, 0, none⟩)]] K E ⟨F, M, N⟩ := by
  refine callv_of_text mixed Tryz.func94 (by kernel_rfl) (t94 _ E _ _) (fun hw => ?_)
  obtain ⟨rows, hv1, hv2⟩ := hf
  refine lenF_r hv1 ?_
  refine l94_1_0_1_0_0 (σ := Nat) (fun i => .int .i64 (i : Nat)) (fun i h => ∃ N', h = ⟨F, M, N'⟩ ∧ N ≤ N' ∧ i ≤ fs.length ∧ (fs.all fun f => inF l f.1) = ((fs.drop i).all fun f => inF l f.1)) (fun i => fs.length - i) 0 rfl
    (fun hw1 => ⟨_, wk_refl hw1, N, rfl, Nat.le_refl _, Nat.zero_le _, rfl⟩) (fun k1 i j h1 hI hw1 next => ?_)
  rw [t94_1_0_1_0_0]
  obtain ⟨N1, rfl, hN1, hi, he⟩ := hI
  refine lss_r (fun hlt => ?_) (fun hge => ?_)
  · have h1 : i < fs.length := by omega
    try simp only [sS]
    refine row_r hv1 hv2 (by decide) h1 fun p r _ hR _ _ => fits1_c hb hg hd hl hR (fun N2 hN2 hw2 => ?_)
    rw [List.drop_eq_getElem_cons h1, List.all_cons] at he
    cases hn : inF l fs[i].1
    · try simp only [sS]
      refine fun hc => ⟨_, wk_refl hc, fun hw' => k _ _ (by omega) hw' ?_⟩
      rw [he, hn, decide_eq_true (by omega)]; rfl
    · try simp only [sS]
      refine inc_r (by omega) ?_
      refine next (i + 1) _ _ (by omega) (fun hw3 => ⟨_, wk_refl hw3, N2, rfl, by omega, by omega, ?_⟩)
      rw [he, hn, Bool.true_and]
  · try simp only [sS]
    refine fun hc => ⟨_, wk_refl hc, fun hw' => k _ _ hN1 hw' ?_⟩
    rw [he, List.drop_eq_nil_of_le (by omega)]; rfl
theorem fits_c {g : Nat} {v hv dv : Value} {l : List Dm} {fs : List Fc} (hg : M g = some (.cells 84 [hv, dv] 2)) (hd : dimsD F dv l) (hl : l.length ≤ 140737488351232) (hf : fctsD F v fs) (hfl : fs.length ≤ 140737488351232)
    (k : ∀ N', N ≤ N' → (Hp.mk F M N').wf → K (.bool (fitsF l fs)) ⟨F, M, N'⟩) :
    callv Tryz.prog (.func (.func 34) #[] #[]) #[.pointer (some ⟨g, 0, none⟩), v] K E ⟨F, M, N⟩ := by
  refine callv_of_text mixed Tryz.func34 (by kernel_rfl) (t34 _ E _ _) (fun hw => ?_)
  have hm : clean M N := hw.m
  have hgN := hm.lt hg
  have hlv : lenV v = some (.int .i64 (fs.length : Nat)) := by obtain ⟨a, c, h⟩ := hf.form; rw [h]; rfl
  unfold fitsF at k
  refine nw_r (cs := [.pointer (some ⟨g, 0, none⟩)]) (fun b1 hb1 => ?_)
  refine pv_r hlv ?_
  refine leq_r (fun h1 => ?_) (fun h1 => ?_)
  · rw [decide_eq_true (by omega), Bool.true_and] at k
    try simp only [sS]
    refine callv_of_text mixed Tryz.func62 (by kernel_rfl) (t62 _ E _ _) (fun hw => ?_)
    refine fidx_c (upd_same _ _ _) ((upd_ne _ _ (by omega)).trans hg) hd hl hf hfl (fun r N2 hN2 hw2 hr => ?_)
    cases ha : fs.all fun f => inF l f.1
    · rw [ha] at hr k
      refine geq_t (by simpa using hr) fun hc => ⟨_, wk_refl hc, fun hw' => ?_⟩
      try simp only [sS]
      exact fun hc => ⟨⟨F, M, N2⟩, wk_drop hc (subM_drop (subM_refl _) (hm _ hb1)), fun hw' => k _ (by omega) hw'⟩
    · rw [ha] at hr k
      refine geq_f (by simpa using hr) fun hc => ⟨_, wk_refl hc, fun hw' => ?_⟩
      try simp only [sS]
      exact fun hc => ⟨⟨F, M, N2⟩, wk_drop hc (subM_drop (subM_refl _) (hm _ hb1)), fun hw' => k _ (by omega) hw'⟩
  · rw [decide_eq_false (by omega), Bool.false_and] at k
    try simp only [sS]
    exact fun hc => ⟨⟨F, M, b1 + 1⟩, wk_drop hc (subM_drop (subM_refl _) (hm _ hb1)), fun hw' => k _ (by omega) hw'⟩
end Go.Proofs.YtgjdjdjhoipfmaaGreatDoor.A
open Go Go.RowKit Go.Proofs.YtgjdjdjhoipfmaaGreatDoor.K Go.Proofs.YtgjdjdjhoipfmaaGreatDoor.T
set_option linter.unusedVariables false
set_option linter.unusedSimpArgs false
namespace Go.Proofs.YtgjdjdjhoipfmaaGreatDoor.A
variable {F F' : Nat → Option (List Value)} {M M' : Nat → Option Chunk} {N N' : Nat} {K : Kont} {E : PanK}
def layE (h : List En) (t : Int) (fs : List Fc) : List En := h.take (place h t) ++ (t, fs) :: h.drop (place h t)
theorem layE_len (h : List En) (t : Int) (fs : List Fc) : (layE h t fs).length = h.length + 1 := by
  have := place_le h t
  unfold layE
  rw [List.length_append, List.length_cons, List.length_take, List.length_drop]; omega
theorem layE_risen {h : List En} {t : Int} {fs : List Fc} (hs : risen h) (ht : there h t = false) : risen (layE h t fs) := by
  have hpl := place_le h t
  unfold layE risen
  have hgt : ∀ x ∈ h.drop (place h t), t < x.1 := fun x hx => by
    obtain ⟨j, hj, rfl⟩ := List.mem_iff_getElem.1 hx
    rw [List.getElem_drop]
    have hj2 : place h t + j < h.length := by rw [List.length_drop] at hj; omega
    have h1 := place_ge (t := t) hs hj2 (by omega)
    have h2 : h[place h t + j].1 ≠ t := fun e => by
      have h3 : place h t < h.length := by omega
      rw [there_in h3] at ht
      have h4 := of_decide_eq_false ht
      have h5 := place_ge (t := t) hs h3 (Nat.le_refl _)
      rcases Nat.eq_zero_or_pos j with h0 | h0
      · subst h0; exact h4 e
      · have := List.pairwise_iff_getElem.1 hs (place h t) (place h t + j) h3 hj2 (by omega)
        omega
    omega
  have hlt : ∀ x ∈ h.take (place h t), x.1 < t := fun x hx => by
    obtain ⟨j, hj, rfl⟩ := List.mem_iff_getElem.1 hx
    rw [List.length_take] at hj
    rw [List.getElem_take]
    exact place_lt (by omega) (by omega)
  refine List.pairwise_append.2 ⟨hs.sublist (List.take_sublist _ _), List.pairwise_cons.2 ⟨fun x hx => hgt x hx, hs.sublist (List.drop_sublist _ _)⟩, fun x hx y hy => ?_⟩
  have h1 := hlt x hx
  rcases List.mem_cons.1 hy with rfl | hy
  · exact h1
  · have := hgt y hy; omega
set_option maxRecDepth 10000 in
theorem hwith_c {B : Nat} {v fv : Value} {rows : List (List Value)} {h : List En} {t : Int} {fs : List Fc} (hv : own M B 52 2 v h.length rows.flatten) (hB : B ≤ N) (hr : rowsF (entD F) 2 rows h) (hs : risen h) (hl : h.length ≤ 10000000000) (ht : there h t = false) (hf : fctsD F fv fs) (hfl : fs.length ≤ 1000000) (hk : ∀ f ∈ fs, f.1.length ≤ 10000000000)
    (k : ∀ v' F' M' N' rows', subF F F' → own M' B 52 2 v' (layE h t fs).length rows'.flatten → rowsF (entD F') 2 rows' (layE h t fs) → (∀ q, v.ownBlock ≠ some q → q < N → M' q = M q ∧ v'.ownBlock ≠ some q) → N ≤ N' → clean M' N' → (Hp.mk F' M' N').wf → K v' ⟨F', M', N'⟩) :
    callv Tryz.prog (.func (.func 35) #[] #[]) #[v, .int .u32 t, fv] K E ⟨F, M, N⟩ := by
  refine callv_of_text mixed Tryz.func35 (by kernel_rfl) (t35 _ E _ _ _) (fun hw => ?_)
  have hm : clean M N := hw.m
  have hpl := place_le h t
  refine find_c hv hr hs (by omega) (fun N1 hN1 hw1 => ?_)
  rw [ht]
  try simp only [sS]
  refine cclone_c hf (by omega) hk (fun v2 F2 N2 hw2 hF2 hN2 hf2 => ?_)
  have hm2 : clean M N2 := hw2.m
  have he : entD F2 [.int .u32 t, v2] (t, fs) := ⟨v2, rfl, hf2, by simp only; omega⟩
  obtain ⟨a2, c2, e2⟩ := hf2.form
  refine pv_r (v := .agg #[.int .u32 t, v2]) (by rw [e2]; kernel_rfl) ?_
  refine nws_r (cs := [.int .u32 t, v2]) (by rw [e2]; kernel_rfl) (fun b3 hb3 => ?_)
  have hr2 : rowsF (entD F2) 2 rows h := hr.mono fun _ _ h => h.mono hF2
  have hvb : v.ownBlock ≠ some b3 := fun e => by have := hv.lt hm _ e; omega
  refine ins_c (i := place h t) (r := [.int .u32 t, v2]) (hv.box hm (by omega) _) (hm2.new hb3 _) (by omega) hr.all.1 hr.len hr.one (upd_same _ _ _) hvb rfl he.one.2 hpl (by omega) (fun v4 M4 N4 g1 g2 g3 g4 g5 => ?_)
  refine fun hc => ⟨_, wk_refl hc, fun hw' => k v4 F2 M4 N4 _ hF2 (by rw [layE_len]; exact g1) ?_ (fun q hq hqN => ?_) (by omega) g4 hw'⟩
  · have h1 := rowsF_snoc1 (rowsF.nil (entD F2) 2) he.one he
    exact rows_app (rows_take hr2 (place h t)) (by have := rows_app h1 (rows_drop hr2 (place h t)); simpa using this)
  · obtain ⟨x1, x2⟩ := g2 q hq (by omega)
    exact ⟨x1.trans (upd_ne _ _ (by omega)), x2⟩
structure isCube (F : Nat → Option (List Value)) (M : Nat → Option Chunk) (B g : Nat) (hv dv : Value) (rows : List (List Value)) (l : List Dm) (h : List En) : Prop where
  gg : M g = some (.cells 84 [hv, dv] 2)
  gB : B ≤ g
  oo : own M B 52 2 hv h.length rows.flatten
  rr : rowsF (entD F) 2 rows h
  vg : hv.ownBlock ≠ some g
  dd : dimsD F dv l
  rs : risen h
def addE (l : List Dm) (h : List En) (t : Int) (fs : List Fc) : Nat := if fitsF l fs = false then 1 else if t = 0 ∨ there h t = true then 130 else if h.length ≥ 5000 then 3 else 0
def addH (l : List Dm) (h : List En) (t : Int) (fs : List Fc) : List En := if addE l h t fs = 0 then layE h t fs else h
end Go.Proofs.YtgjdjdjhoipfmaaGreatDoor.A
open Go Go.RowKit Go.Proofs.YtgjdjdjhoipfmaaGreatDoor.K Go.Proofs.YtgjdjdjhoipfmaaGreatDoor.T
set_option linter.unusedVariables false
set_option linter.unusedSimpArgs false
namespace Go.Proofs.YtgjdjdjhoipfmaaGreatDoor.A
variable {F F' : Nat → Option (List Value)} {M M' : Nat → Option Chunk} {N N' : Nat} {K : Kont} {E : PanK}
theorem fitsF_of {l : List Dm} {fs : List Fc} (h : fitsF l fs = true) : fs.length ≤ 200 ∧ ∀ f ∈ fs, inF l f.1 = true := by
  unfold fitsF at h
  rw [Bool.and_eq_true] at h
  exact ⟨of_decide_eq_true h.1, fun f hf => List.all_eq_true.1 h.2 f hf⟩
theorem of_fitsF {l : List Dm} {fs : List Fc} (h1 : fs.length ≤ 200) (h2 : ∀ f ∈ fs, inF l f.1 = true) : fitsF l fs = true := by
  unfold fitsF
  rw [decide_eq_true h1, List.all_eq_true.2 h2]; rfl
theorem inF_len {l : List Dm} {k : List Int} (h : inF l k = true) : k.length = l.length := by
  unfold inF at h
  rw [Bool.and_eq_true] at h
  exact of_decide_eq_true h.1
set_option maxRecDepth 10000 in
theorem add_to_c {B g : Nat} {hv dv fv : Value} {rows : List (List Value)} {l : List Dm} {h : List En} {t : Int} {fs : List Fc} (hC : isCube F M B g hv dv rows l h) (hB : B ≤ N) (hdl : l.length ≤ 1000) (hl : h.length ≤ 5000) (ht0 : 0 ≤ t) (hf : fctsD F fv fs) (hfl : fs.length ≤ 140737488351232)
    (k : ∀ hv' F' M' N' rows', subF F F' → isCube F' M' B g hv' dv rows' l (addH l h t fs) → (∀ q, hv.ownBlock ≠ some q → q ≠ g → q < N → M' q = M q ∧ hv'.ownBlock ≠ some q) → N ≤ N' → clean M' N' → (Hp.mk F' M' N').wf → K (.int .u16 ((addE l h t fs : Nat) : Int)) ⟨F', M', N'⟩) :
    callv Tryz.prog (.func (.func 15) #[] #[]) #[.pointer (some ⟨g, 0, none⟩), .int .u32 t, fv] K E ⟨F, M, N⟩ := by
  refine callv_of_text mixed Tryz.func15 (by kernel_rfl) (t15 _ E _ _ _) (fun hw => ?_)
  have hm : clean M N := hw.m
  have hlv : lenV hv = some (.int .i64 (h.length : Nat)) := by obtain ⟨a, c, e, _⟩ := hC.oo.form; rw [e]; rfl
  have fin : ∀ n : Nat, n ≠ 0 → n = addE l h t fs → ∀ N', N ≤ N' → ∀ h', h' = (⟨F, M, N'⟩ : Hp) → h'.wf → ∃ h'', h'.wk h'' ∧ (h''.wf → K (.int .u16 ((n : Nat) : Int)) h'') := fun n n0 e N' hN h' e' hc => by
    subst e'
    refine ⟨_, wk_refl hc, fun hw' => ?_⟩
    rw [e]
    refine k hv F M N' rows (subF.refl _) ?_ (fun _ h _ _ => ⟨rfl, h⟩) hN hw'.m hw'
    unfold addH; rw [if_neg (by omega)]; exact hC
  try simp only [sS]
  refine ldM (v := hv) ?_ hC.gg
  refine find_c hC.oo hC.rr hC.rs (by omega) (fun N1 hN1 hw1 => ?_)
  try simp only [sS]
  refine fits_c hC.gg hC.dd (by omega) hf hfl (fun N2 hN2 hw2 => ?_)
  cases h1 : fitsF l fs
  · try simp only [sS]
    exact fin 1 (by decide) (by unfold addE; rw [if_pos h1]) N2 (by omega) _ rfl
  try simp only [sS]
  have last : (h2 : ¬ t = 0) → addE l h t fs = (if there h t = true then 130 else if h.length ≥ 5000 then 3 else 0) := fun h2 => by
    unfold addE; rw [if_neg (by rw [h1]; decide)]
    by_cases h3 : there h t = true
    · rw [if_pos (.inr h3), if_pos h3]
    · rw [if_neg (by rintro (q | q); exact h2 q; exact h3 q), if_neg h3]
  refine eql_r (fun h2 => ?_) (fun h2 => ?_)
  · try simp only [sS]
    rw [t15_1_1_0_0_1_1_1]
    try simp only [sS]
    exact fin 130 (by decide) (by unfold addE; rw [if_neg (by rw [h1]; decide), if_pos (.inl h2)]) N2 (by omega) _ rfl
  · try simp only [sS]
    rw [t15_1_1_0_0_1_1_1]
    cases h3 : there h t
    · try simp only [sS]
      refine ldM (v := hv) ?_ hC.gg
      refine pv_r hlv ?_
      refine geq_r (fun h4 => ?_) (fun h4 => ?_)
      · try simp only [sS]
        exact fin 3 (by decide) (by rw [last h2, if_neg (by rw [h3]; decide), if_pos (by omega)]) N2 (by omega) _ rfl
      · try simp only [sS]
        try simp only [sS]
        refine ldM (v := hv) ?_ hC.gg
        obtain ⟨f1, f2⟩ := fitsF_of h1
        refine hwith_c hC.oo (by omega) hC.rr hC.rs (by omega) h3 hf (by omega) (fun f hf => by have := inF_len (f2 f hf); omega) (fun v' F3 M3 N3 rows' hF3 g1 g2 g3 g4 g5 g6 => ?_)
        have hgN := hm.lt hC.gg
        obtain ⟨x1, x2⟩ := g3 g hC.vg (by omega)
        have hg3 : M3 g = some (.cells 84 [hv, dv] 2) := x1.trans hC.gg
        obtain ⟨a, c, e, _⟩ := g1.form
        try simp only [sS]
        refine stM (cs' := [v', dv]) ?_ hg3 (by rw [e]; rfl) (by rw [e]; rfl) (by rw [e]; exact List.all_eq_true.1 rfl)
        have e0 : addE l h t fs = 0 := by rw [last h2, if_neg (by rw [h3]; decide), if_neg (by omega)]
        refine fun hc => ⟨_, wk_refl hc, fun hw' => ?_⟩
        rw [e0] at k
        refine k v' F3 _ N3 rows' hF3 ?_ (fun q hq hqg hqN => ?_) (by omega) (g5.set (g5.lt hg3) _) hw'
        · unfold addH; rw [if_pos e0]
          exact ⟨upd_same _ _ _, hC.gB, g1.keep (fun q hq => upd_ne _ _ (fun e => x2 (e ▸ hq))) (Nat.le_refl _), g2, x2, hC.dd.mono hF3, layE_risen hC.rs h3⟩
        · obtain ⟨y1, y2⟩ := g3 q hq (by omega)
          exact ⟨(upd_ne _ _ hqg).trans y1, y2⟩
    · try simp only [sS]
      exact fin 130 (by decide) (by rw [last h2, if_pos h3]) N2 (by omega) _ rfl
end Go.Proofs.YtgjdjdjhoipfmaaGreatDoor.A
open Go Go.RowKit Go.Proofs.YtgjdjdjhoipfmaaGreatDoor.K Go.Proofs.YtgjdjdjhoipfmaaGreatDoor.T
set_option linter.unusedVariables false
set_option linter.unusedSimpArgs false
namespace Go.Proofs.YtgjdjdjhoipfmaaGreatDoor.A
variable {F F' : Nat → Option (List Value)} {M M' : Nat → Option Chunk} {N N' : Nat} {K : Kont} {E : PanK}
set_option maxRecDepth 10000 in
theorem new_c {v : Value} {l : List Dm} (hv : dimsD F v l) (hl : l.length ≤ 140737488351232)
    (k1 : okDims l = false → ∀ N', N ≤ N' → (Hp.mk F M N').wf → K (.pointer none) ⟨F, M, N'⟩)
    (k2 : okDims l = true → ∀ g dv F' M' N', subF F F' → isCube F' M' N g (.slice none 0 0) dv [] l [] → (∀ q, q < N → M' q = M q) → N ≤ N' → clean M' N' → (Hp.mk F' M' N').wf → K (.pointer (some ⟨g, 0, none⟩)) ⟨F', M', N'⟩) :
    callv Tryz.prog (.func (.func 13) #[] #[]) #[v] K E ⟨F, M, N⟩ := by
  refine callv_of_text mixed Tryz.func13 (by kernel_rfl) (t13 _ E _) (fun hw => ?_)
  have hm : clean M N := hw.m
  have hlv : lenV v = some (.int .i64 (l.length : Nat)) := by obtain ⟨a, c, rfl⟩ := hv.form; rfl
  refine dsound_c hv hl (fun N1 hN1 hw1 => ?_)
  cases hok : okDims l
  · try simp only [sS]
    exact fun hc => ⟨_, wk_refl hc, fun hw' => k1 hok _ hN1 hw'⟩
  have hl4 := okDims_len hok
  try simp only [sS]
  refine pv_r (v := .agg #[.slice none 0 0, .slice none 0 0]) (by kernel_rfl) ?_
  refine nw_r (cs := [.slice none 0 0, .slice none 0 0]) (fun g hg => ?_)
  refine pv_r hlv ?_
  obtain ⟨drs, hv1, hv2⟩ := hv
  refine l13_1_1_1_0_1_0_0 (σ := Nat) (fun i => .int .i64 (i : Nat))
    (fun i h => ∃ F' M' N' dv rows, h = ⟨F', M', N'⟩ ∧ subF F F' ∧ g < N' ∧ (∀ q, q < N → M' q = M q) ∧ clean M' N' ∧ i ≤ l.length ∧ M' g = some (.cells 84 [.slice none 0 0, dv] 2) ∧ own M' (g + 1) 74 2 dv i rows.flatten ∧ rowsF (dimD F') 2 rows (l.take i)) (fun i => l.length - i) 0 rfl
    (fun hw2 => ⟨_, wk_refl hw2, F, _, g + 1, .slice none 0 0, [], rfl, subF.refl _, Nat.lt_succ_self _, fun q hq => upd_ne _ _ (by omega), (hm.up hN1).new hg _, Nat.zero_le _, upd_same _ _ _, own.nil, rowsF.nil _ _⟩) (fun kk i j h1 hI hw2 next => ?_)
  rw [t13_1_1_1_0_1_0_0]
  obtain ⟨F1, M1, N2, dv, rows, rfl, hF1, hgN, hM1, hm1, hi, hbox, ho, hr⟩ := hI
  obtain ⟨da, dc, hdf, _⟩ := ho.form
  refine lss_r (fun hlt => ?_) (fun hge => ?_)
  · have i1 : i < l.length := by omega
    try simp only [sS]
    refine row_r (hv1.mono hF1) (hv2.mono fun _ _ h => h.mono hF1) (by decide) i1 (fun p r _ hR hrl hr1 => ?_)
    obtain ⟨kv, hre, hkv, hkl⟩ := hR
    subst hre
    refine nw_r (fun b1 hb1 => ?_)
    refine stM (cs' := [.int .i64 l[i].1, kv]) ?_ (upd_same _ _ _) rfl rfl hr1
    rw [upd_upd]
    have hb2 := upd_same M1 b1 (some (.cells 74 [.int .i64 l[i].1, kv] [Value.int .i64 0, Value.slice none 0 0].length))
    have hg2 := (upd_ne M1 (b := b1) (k := g) (some (.cells 74 [.int .i64 l[i].1, kv] [Value.int .i64 0, Value.slice none 0 0].length)) (by omega)).trans hbox
    have hM2 : ∀ q, q < N → upd M1 b1 (some (.cells 74 [.int .i64 l[i].1, kv] [Value.int .i64 0, Value.slice none 0 0].length)) q = M q := fun q hq => (upd_ne _ _ (by omega)).trans (hM1 q hq)
    have ho2 := ho.box hm1 hb1 (some (.cells 74 [.int .i64 l[i].1, kv] [Value.int .i64 0, Value.slice none 0 0].length))
    have hm2 := hm1.new hb1 (some (.cells 74 [.int .i64 l[i].1, kv] [Value.int .i64 0, Value.slice none 0 0].length))
    generalize upd M1 b1 _ = M2 at *
    try simp only [sS]
    refine ldM (v := dv) ?_ hg2
    try simp only [sS]
    refine ldM (v := .int .i64 l[i].1) ?_ hb2
    try simp only [sS]
    refine ldM (v := kv) ?_ hb2
    have hdl := okDim_div (okDims_all hok _ (List.getElem_mem i1))
    refine clone_f hm2 hkv.sR (by omega) (fun kv' F3 N3 hw3 hF3 hN3 hkv' => ?_)
    refine ⟨ldV_c (row_M hb2) rfl, ldV_c (row_M hg2) rfl, ?_⟩
    have h1f : dimD F3 [.int .i64 l[i].1, kv'] l[i] := ⟨kv', rfl, hkv', hkl⟩
    obtain ⟨ak, ck, hkf, hck⟩ := hkv'.form
    refine pv_r (v := .agg #[.int .i64 l[i].1, kv']) (by rw [hkf]; kernel_rfl) ?_
    refine nws_r (cs := [.int .i64 l[i].1, kv']) (by rw [hkf]; kernel_rfl) (fun b4 hb4 => ?_)
    have hg4 := (upd_ne M2 (b := b4) (k := g) (some (.cells 74 [.int .i64 l[i].1, kv'] [Value.int .i64 l[i].1, kv'].length)) (by omega)).trans hg2
    have hM4 : ∀ q, q < N → upd M2 b4 (some (.cells 74 [.int .i64 l[i].1, kv'] [Value.int .i64 l[i].1, kv'].length)) q = M q := fun q hq => (upd_ne _ _ (by omega)).trans (hM2 q hq)
    have hm3 : clean M2 N3 := hw3.m
    have ho4 := ho2.box hm3 hb4 (some (.cells 74 [.int .i64 l[i].1, kv'] [Value.int .i64 l[i].1, kv'].length))
    have hm4 := hm3.new hb4 (some (.cells 74 [.int .i64 l[i].1, kv'] [Value.int .i64 l[i].1, kv'].length))
    have hx := upd_same M2 b4 (some (.cells 74 [.int .i64 l[i].1, kv'] [Value.int .i64 l[i].1, kv'].length))
    refine ⟨ldV_c (row_M hg4) rfl, ?_⟩
    generalize upd M2 b4 _ = M4 at *
    refine ho4.app (m := 1) (news := [.int .i64 l[i].1, kv']) hm4 (by omega) ⟨rfl, .inr ⟨b4, 0, 1, _, rfl, Nat.le_refl _, .inr ⟨_, _, hx⟩, rfl⟩⟩ h1f.one.2 (by omega) (by unfold maxLen; omega) (fun dv' M5 N5 g1 g2 g3 g4 => ?_)
    have hgd : dv.ownBlock ≠ some g := fun e => by have := (ho4.ge g e).1; omega
    obtain ⟨y1, y2⟩ := g2 g hgd (by omega)
    obtain ⟨a5, c5, e5, _⟩ := g1.form
    try simp only [sS]
    refine stM (cs' := [.slice none 0 0, dv']) ?_ (y1.trans hg4) (by rw [e5]; rfl) (by rw [e5]; rfl) (by rw [e5]; exact List.all_eq_true.1 rfl)
    refine inc_r (by omega) ?_
    refine next (i + 1) _ _ (by omega) (fun hw6 => ⟨_, wk_refl hw6, F3, _, N5, dv', rows ++ [[.int .i64 l[i].1, kv']], rfl, hF1.trans hF3, by omega, fun q hq => ?_, g4.set (by omega) _, i1, upd_same _ _ _, ?_, ?_⟩)
    · exact (upd_ne _ _ (by omega)).trans (((g2 q (fun e => by have := (ho4.ge q e).1; omega) (by omega)).1).trans (hM4 q hq))
    · refine own.keep (M := M5) ?_ (fun q hq => upd_ne _ _ (fun e => y2 (e ▸ hq))) (Nat.le_refl _)
      simpa using g1
    · rw [List.take_add_one, List.getElem?_eq_getElem i1, Option.toList_some]
      exact rowsF_snoc1 (hr.mono fun _ _ h => h.mono hF3) h1f.one h1f
  · try simp only [sS]
    rw [show i = l.length by omega] at ho
    rw [List.take_of_length_le (by omega)] at hr
    have hne : ¬ dv.ownBlock = some g := fun e => by have := (ho.ge g e).1; omega
    refine fun hc => ⟨_, wk_P (p := fun q => dv.ownBlock = some q) hc, fun hw' => k2 hok g dv _ _ N2 (hF1.trans (subF_frzP hc)) ⟨(keepM_in hne).trans hbox, by omega, own.nil, rowsF.nil _ _, by simp [Value.ownBlock], ⟨rows, ho.frzP (fun q h => h), hr.mono fun _ _ h => h.mono (subF_frzP hc)⟩, .nil⟩ (fun q hq => (keepM_in (fun e => by have := (ho.ge q e).1; omega)).trans (hM1 q hq)) (by omega) (keepM_clean hm1) hw'⟩
end Go.Proofs.YtgjdjdjhoipfmaaGreatDoor.A
open Go Go.RowKit Go.Proofs.YtgjdjdjhoipfmaaGreatDoor.K
set_option linter.unusedVariables false
set_option maxRecDepth 100000
namespace Go.Proofs.YtgjdjdjhoipfmaaGreatDoor.T
theorem q0 (Q : QD) (x0 x1 x2 : Value) : den Tryz.prog (sel (bodyOf Tryz.f17) [0]) Q #[x0, x1, x2, undef, undef, undef, undef, undef, undef, undef, undef, undef, undef, undef, undef, undef, undef, undef, undef, undef, undef, undef, undef, undef, undef, undef, undef, undef, undef, undef, undef, undef, undef, undef, undef, undef, undef, undef, undef, undef, undef, undef, undef, undef, undef, undef, undef, undef, undef, undef, undef] = nw 36 (Value.cells x1).toList fun t1 => Q .normal #[x0, x1, x2, undef, t1, undef, (.slice none 0 0), (.int .u16 0), undef, undef, undef, undef, undef, undef, undef, undef, undef, undef, undef, undef, undef, undef, undef, undef, undef, undef, undef, undef, undef, undef, undef, undef, undef, undef, undef, undef, undef, undef, undef, undef, undef, undef, undef, undef, undef, undef, undef, undef, undef, undef, undef] := by kernel_rfl
theorem q1 (Q : QD) (x0 x1 x2 t1 : Value) : den Tryz.prog (sel (bodyOf Tryz.f17) [1, 0]) Q #[x0, x1, x2, undef, t1, undef, (.slice none 0 0), (.int .u16 0), undef, undef, undef, undef, undef, undef, undef, undef, undef, undef, undef, undef, undef, undef, undef, undef, undef, undef, undef, undef, undef, undef, undef, undef, undef, undef, undef, undef, undef, undef, undef, undef, undef, undef, undef, undef, undef, undef, undef, undef, undef, undef, undef] = pv (nilV x0) fun t2 => pv (faV 0 t2) fun t3 => ld false 1 t3 fun t4 => callv Tryz.prog (.func (.func 33) #[] #[]) #[t4, x2] (fun t5 => pv (exV 0 t5) fun t6 => pv (exV 1 t5) fun t7 => Q .normal #[x0, x1, x2, undef, t1, undef, (.slice none 0 0), (.int .u16 0), t6, t7, undef, undef, undef, t5, x0, t2, t3, t4, x2, t5, t6, t7, undef, undef, undef, undef, undef, undef, undef, undef, undef, undef, undef, undef, undef, undef, undef, undef, undef, undef, undef, undef, undef, undef, undef, undef, undef, undef, undef, undef, undef]) (fun c => Q (.panic c) #[x0, x1, x2, undef, t1, undef, (.slice none 0 0), (.int .u16 0), undef, undef, undef, undef, undef, undef, x0, t2, t3, t4, x2, undef, undef, undef, undef, undef, undef, undef, undef, undef, undef, undef, undef, undef, undef, undef, undef, undef, undef, undef, undef, undef, undef, undef, undef, undef, undef, undef, undef, undef, undef, undef, undef]) := by kernel_rfl
theorem q2 (Q : QD) (x0 x1 x2 t1 t2 t3 t4 t5 t6 t7 : Value) : den Tryz.prog (sel (bodyOf Tryz.f17) [1, 1, 0]) Q #[x0, x1, x2, undef, t1, undef, (.slice none 0 0), (.int .u16 0), t6, t7, undef, undef, undef, t5, x0, t2, t3, t4, x2, t5, t6, t7, undef, undef, undef, undef, undef, undef, undef, undef, undef, undef, undef, undef, undef, undef, undef, undef, undef, undef, undef, undef, undef, undef, undef, undef, undef, undef, undef, undef, undef] = cnd t7 (pv (binV .none .add t6 (.int .i64 1)) fun t8 => Q .normal #[x0, x1, x2, undef, t1, undef, (.slice none 0 0), (.int .u16 0), t8, t7, undef, undef, undef, t5, x0, t2, t3, t4, x2, t5, t6, t7, t7, t6, t8, undef, undef, undef, undef, undef, undef, undef, undef, undef, undef, undef, undef, undef, undef, undef, undef, undef, undef, undef, undef, undef, undef, undef, undef, undef, undef]) (Q .normal #[x0, x1, x2, undef, t1, undef, (.slice none 0 0), (.int .u16 0), t6, t7, undef, undef, undef, t5, x0, t2, t3, t4, x2, t5, t6, t7, t7, undef, undef, undef, undef, undef, undef, undef, undef, undef, undef, undef, undef, undef, undef, undef, undef, undef, undef, undef, undef, undef, undef, undef, undef, undef, undef, undef, undef]) := by kernel_rfl
theorem t17 (K : Kont) (E : PanK) (x0 x1 x2 : Value)  : den Tryz.prog (sel (bodyOf Tryz.f17) []) (bodyQ Tryz.prog Tryz.f17.results.toList K E) #[x0, x1, x2, undef, undef, undef, undef, undef, undef, undef, undef, undef, undef, undef, undef, undef, undef, undef, undef, undef, undef, undef, undef, undef, undef, undef, undef, undef, undef, undef, undef, undef, undef, undef, undef, undef, undef, undef, undef, undef, undef, undef, undef, undef, undef, undef, undef, undef, undef, undef, undef] =
  nw 36 (Value.cells x1).toList fun t1 =>
  pv (nilV x0) fun t2 =>
  pv (faV 0 t2) fun t3 =>
  ld false 1 t3 fun t4 =>
  callv Tryz.prog (.func (.func 33) #[] #[]) #[t4, x2] (fun t5 =>
  pv (exV 0 t5) fun t6 =>
  pv (exV 1 t5) fun t7 =>
  cnd t7 (
    pv (binV .none .add t6 (.int .i64 1)) fun t8 =>
    den Tryz.prog (sel (bodyOf Tryz.f17) [1, 1, 1]) (bodyQ Tryz.prog Tryz.f17.results.toList K E) #[x0, x1, x2, undef, t1, undef, (.slice none 0 0), (.int .u16 0), t8, t7, undef, undef, undef, t5, x0, t2, t3, t4, x2, t5, t6, t7, t7, t6, t8, undef, undef, undef, undef, undef, undef, undef, undef, undef, undef, undef, undef, undef, undef, undef, undef, undef, undef, undef, undef, undef, undef, undef, undef, undef, undef]) (
    den Tryz.prog (sel (bodyOf Tryz.f17) [1, 1, 1]) (bodyQ Tryz.prog Tryz.f17.results.toList K E) #[x0, x1, x2, undef, t1, undef, (.slice none 0 0), (.int .u16 0), t6, t7, undef, undef, undef, t5, x0, t2, t3, t4, x2, t5, t6, t7, t7, undef, undef, undef, undef, undef, undef, undef, undef, undef, undef, undef, undef, undef, undef, undef, undef, undef, undef, undef, undef, undef, undef, undef, undef, undef, undef, undef, undef])) E := by
  refine (show _ = den Tryz.prog (sel (bodyOf Tryz.f17) [0]) (thenD (den Tryz.prog (sel (bodyOf Tryz.f17) [1]) (bodyQ Tryz.prog Tryz.f17.results.toList K E)) (bodyQ Tryz.prog Tryz.f17.results.toList K E)) #[x0, x1, x2, undef, undef, undef, undef, undef, undef, undef, undef, undef, undef, undef, undef, undef, undef, undef, undef, undef, undef, undef, undef, undef, undef, undef, undef, undef, undef, undef, undef, undef, undef, undef, undef, undef, undef, undef, undef, undef, undef, undef, undef, undef, undef, undef, undef, undef, undef, undef, undef] from by kernel_rfl).trans ?_
  rw [q0]
  refine congrArg (nw 36 (Value.cells x1).toList) (funext fun t1 => ?_)
  show den Tryz.prog (sel (bodyOf Tryz.f17) [1]) (bodyQ Tryz.prog Tryz.f17.results.toList K E) #[x0, x1, x2, undef, t1, undef, (.slice none 0 0), (.int .u16 0), undef, undef, undef, undef, undef, undef, undef, undef, undef, undef, undef, undef, undef, undef, undef, undef, undef, undef, undef, undef, undef, undef, undef, undef, undef, undef, undef, undef, undef, undef, undef, undef, undef, undef, undef, undef, undef, undef, undef, undef, undef, undef, undef] = _
  refine (show _ = den Tryz.prog (sel (bodyOf Tryz.f17) [1, 0]) (thenD (den Tryz.prog (sel (bodyOf Tryz.f17) [1, 1]) (bodyQ Tryz.prog Tryz.f17.results.toList K E)) (bodyQ Tryz.prog Tryz.f17.results.toList K E)) #[x0, x1, x2, undef, t1, undef, (.slice none 0 0), (.int .u16 0), undef, undef, undef, undef, undef, undef, undef, undef, undef, undef, undef, undef, undef, undef, undef, undef, undef, undef, undef, undef, undef, undef, undef, undef, undef, undef, undef, undef, undef, undef, undef, undef, undef, undef, undef, undef, undef, undef, undef, undef, undef, undef, undef] from by kernel_rfl).trans ?_
  rw [q1]
  refine congrArg (pv (nilV x0)) (funext fun t2 => congrArg (pv (faV 0 t2)) (funext fun t3 => congrArg (ld false 1 t3) (funext fun t4 => ?_)))
  refine congrArg (fun X => callv Tryz.prog (.func (.func 33) #[] #[]) #[t4, x2] X E) (funext fun t5 => congrArg (pv (exV 0 t5)) (funext fun t6 => congrArg (pv (exV 1 t5)) (funext fun t7 => ?_)))
  show den Tryz.prog (sel (bodyOf Tryz.f17) [1, 1]) (bodyQ Tryz.prog Tryz.f17.results.toList K E) #[x0, x1, x2, undef, t1, undef, (.slice none 0 0), (.int .u16 0), t6, t7, undef, undef, undef, t5, x0, t2, t3, t4, x2, t5, t6, t7, undef, undef, undef, undef, undef, undef, undef, undef, undef, undef, undef, undef, undef, undef, undef, undef, undef, undef, undef, undef, undef, undef, undef, undef, undef, undef, undef, undef, undef] = _
  refine (show _ = den Tryz.prog (sel (bodyOf Tryz.f17) [1, 1, 0]) (thenD (den Tryz.prog (sel (bodyOf Tryz.f17) [1, 1, 1]) (bodyQ Tryz.prog Tryz.f17.results.toList K E)) (bodyQ Tryz.prog Tryz.f17.results.toList K E)) #[x0, x1, x2, undef, t1, undef, (.slice none 0 0), (.int .u16 0), t6, t7, undef, undef, undef, t5, x0, t2, t3, t4, x2, t5, t6, t7, undef, undef, undef, undef, undef, undef, undef, undef, undef, undef, undef, undef, undef, undef, undef, undef, undef, undef, undef, undef, undef, undef, undef, undef, undef, undef, undef, undef, undef] from by kernel_rfl).trans ?_
  rw [q2]
  rfl
theorem t17_1_1_1 (K : Kont) (E : PanK) (x0 x1 x2 x3 x4 x5 x6 x7 x8 x9 x10 x11 x12 x13 x14 x15 x16 x17 x18 x19 x20 x21 x22 x23 x24 x25 x26 x27 x28 x29 x30 x31 x32 x33 x34 x35 x36 x37 x38 x39 x40 x41 x42 x43 x44 x45 x46 x47 x48 x49 x50 : Value)  : den Tryz.prog (sel (bodyOf Tryz.f17) [1, 1, 1]) (bodyQ Tryz.prog Tryz.f17.results.toList K E) #[x0, x1, x2, x3, x4, x5, x6, x7, x8, x9, x10, x11, x12, x13, x14, x15, x16, x17, x18, x19, x20, x21, x22, x23, x24, x25, x26, x27, x28, x29, x30, x31, x32, x33, x34, x35, x36, x37, x38, x39, x40, x41, x42, x43, x44, x45, x46, x47, x48, x49, x50] =
  pv (nilV x0) fun t1 =>
  pv (faV 0 t1) fun t2 =>
  ld false 1 t2 fun t3 =>
  pv (slV 2 t3 none (some x8) none) fun t4 =>
  pv (lenV t4) fun t5 =>
  lp (fun k1 => den Tryz.prog (sel (bodyOf Tryz.f17) [1, 1, 1, 1, 0, 1, 0, 0]) (thenD k1 (blk 0 (thenD (den Tryz.prog (sel (bodyOf Tryz.f17) [1, 1, 1, 1, 1]) (bodyQ Tryz.prog Tryz.f17.results.toList K E)) (bodyQ Tryz.prog Tryz.f17.results.toList K E))))) #[x0, x1, x2, x3, x4, x5, x6, x7, x8, x9, (.slice none 0 0), x11, x12, x13, x14, x15, x16, x17, x18, x19, x20, x21, x22, x23, x24, x0, t1, t2, t3, x8, t4, t5, (.int .i64 0), x33, x34, x35, x36, x37, x38, x39, x40, x41, x42, x43, x44, x45, x46, x47, x48, x49, x50] := by kernel_rfl
def m17_1_1_1_1_0_1_0_0 (x0 x1 x2 x3 x4 x5 x6 x7 x8 x9 x11 x13 x14 x15 x16 x17 x18 x19 x20 x21 x22 x23 x24 x25 x26 x27 x28 x29 x30 x31 x41 x42 x43 x44 x45 x46 x47 x48 x49 x50 : Value) (v10 v32 : Value) (j : Nat → Value) : Env := #[x0, x1, x2, x3, x4, x5, x6, x7, x8, x9, v10, x11, (j 12), x13, x14, x15, x16, x17, x18, x19, x20, x21, x22, x23, x24, x25, x26, x27, x28, x29, x30, x31, v32, (j 33), (j 34), (j 35), (j 36), (j 37), (j 38), (j 39), (j 40), x41, x42, x43, x44, x45, x46, x47, x48, x49, x50]
theorem t17_1_1_1_1_0_1_0_0 (K : Kont) (E : PanK) (k1 : Env → Hp → Prop) (x0 x1 x2 x3 x4 x5 x6 x7 x8 x9 x11 x13 x14 x15 x16 x17 x18 x19 x20 x21 x22 x23 x24 x25 x26 x27 x28 x29 x30 x31 x41 x42 x43 x44 x45 x46 x47 x48 x49 x50 v10 v32 : Value) (j : Nat → Value) : den Tryz.prog (sel (bodyOf Tryz.f17) [1, 1, 1, 1, 0, 1, 0, 0]) (thenD k1 (blk 0 (thenD (den Tryz.prog (sel (bodyOf Tryz.f17) [1, 1, 1, 1, 1]) (bodyQ Tryz.prog Tryz.f17.results.toList K E)) (bodyQ Tryz.prog Tryz.f17.results.toList K E)))) (m17_1_1_1_1_0_1_0_0 x0 x1 x2 x3 x4 x5 x6 x7 x8 x9 x11 x13 x14 x15 x16 x17 x18 x19 x20 x21 x22 x23 x24 x25 x26 x27 x28 x29 x30 x31 x41 x42 x43 x44 x45 x46 x47 x48 x49 x50 v10 v32 j) =
  pv (binV .none .lss v32 x31) fun t1 =>
  cnd t1 (
    pv (iaV none 2 x30 v32) fun t2 =>
    ld true 2 t2 fun t3 =>
    nw 52 [(.int .u32 0), (.slice none 0 0)] fun t4 =>
    st 2 t4 t3 fun _ =>
    pv (faV 1 t4) fun t5 =>
    ld false 1 t5 fun t6 =>
    appX 48 2 32 v10 t6 fun t7 =>
    pv (binV .none .add v32 (.int .i64 1)) fun t8 =>
    k1 (m17_1_1_1_1_0_1_0_0 x0 x1 x2 x3 x4 x5 x6 x7 x8 x9 x11 x13 x14 x15 x16 x17 x18 x19 x20 x21 x22 x23 x24 x25 x26 x27 x28 x29 x30 x31 x41 x42 x43 x44 x45 x46 x47 x48 x49 x50 t7 t8 (jf #[x0, x1, x2, x3, x4, x5, x6, x7, x8, x9, t7, x11, t4, x13, x14, x15, x16, x17, x18, x19, x20, x21, x22, x23, x24, x25, x26, x27, x28, x29, x30, x31, t8, t1, t2, t3, v10, t5, t6, t7, t8, x41, x42, x43, x44, x45, x46, x47, x48, x49, x50]))) (
    den Tryz.prog (sel (bodyOf Tryz.f17) [1, 1, 1, 1, 1]) (bodyQ Tryz.prog Tryz.f17.results.toList K E) #[x0, x1, x2, x3, x4, x5, x6, x7, x8, x9, v10, x11, (j 12), x13, x14, x15, x16, x17, x18, x19, x20, x21, x22, x23, x24, x25, x26, x27, x28, x29, x30, x31, v32, t1, (j 34), (j 35), (j 36), (j 37), (j 38), (j 39), (j 40), x41, x42, x43, x44, x45, x46, x47, x48, x49, x50]) := by kernel_rfl
theorem t17_1_1_1_1_1 (K : Kont) (E : PanK) (x0 x1 x2 x3 x4 x5 x6 x7 x8 x9 x10 x11 x12 x13 x14 x15 x16 x17 x18 x19 x20 x21 x22 x23 x24 x25 x26 x27 x28 x29 x30 x31 x32 x33 x34 x35 x36 x37 x38 x39 x40 x41 x42 x43 x44 x45 x46 x47 x48 x49 x50 : Value)  : den Tryz.prog (sel (bodyOf Tryz.f17) [1, 1, 1, 1, 1]) (bodyQ Tryz.prog Tryz.f17.results.toList K E) #[x0, x1, x2, x3, x4, x5, x6, x7, x8, x9, x10, x11, x12, x13, x14, x15, x16, x17, x18, x19, x20, x21, x22, x23, x24, x25, x26, x27, x28, x29, x30, x31, x32, x33, x34, x35, x36, x37, x38, x39, x40, x41, x42, x43, x44, x45, x46, x47, x48, x49, x50] =
  pv (nilV x0) fun t1 =>
  pv (faV 1 t1) fun t2 =>
  ld false 1 t2 fun t3 =>
  ld true 3 x4 fun t4 =>
  callv Tryz.prog (.func (.func 38) #[] #[]) #[x10] (fun t5 h6 => (ldV h6 true 3 x4 t4) ∧ (ldV h6 false 1 t2 t3) ∧ (
    callv Tryz.prog (.func (.func 37) #[] #[]) #[t3, t5, t4] (fun t7 =>
    pv (exV 0 t7) fun t8 =>
    pv (exV 1 t7) fun t9 =>
    K (.tuple #[t8, t9])) E) h6) E := by kernel_rfl
theorem l17_1_1_1_1_0_1_0_0 {K : Kont} {E : PanK} {σ : Type} {x0 x1 x2 x3 x4 x5 x6 x7 x8 x9 x11 x13 x14 x15 x16 x17 x18 x19 x20 x21 x22 x23 x24 x25 x26 x27 x28 x29 x30 x31 x41 x42 x43 x44 x45 x46 x47 x48 x49 x50 v10 v32 y12 y33 y34 y35 y36 y37 y38 y39 y40 : Value} {h : Hp} (f10 f32 : σ → Value) (I : σ → Hp → Prop) (μ : σ → Nat) (s0 : σ) (e10 : v10 = f10 s0) (e32 : v32 = f32 s0) (h0 : h.wf → ∃ h', h.wk h' ∧ I s0 h')
  (round : ∀ (k1 : Env → Hp → Prop) (s : σ) (j : Nat → Value) (h : Hp), I s h → h.wf → (∀ s' j' h', μ s' < μ s → (h'.wf → ∃ h'', h'.wk h'' ∧ I s' h'') → k1 (m17_1_1_1_1_0_1_0_0 x0 x1 x2 x3 x4 x5 x6 x7 x8 x9 x11 x13 x14 x15 x16 x17 x18 x19 x20 x21 x22 x23 x24 x25 x26 x27 x28 x29 x30 x31 x41 x42 x43 x44 x45 x46 x47 x48 x49 x50 (f10 s') (f32 s') j') h') → (
  pv (binV .none .lss (f32 s) x31) fun t1 =>
  cnd t1 (
    pv (iaV none 2 x30 (f32 s)) fun t2 =>
    ld true 2 t2 fun t3 =>
    nw 52 [(.int .u32 0), (.slice none 0 0)] fun t4 =>
    st 2 t4 t3 fun _ =>
    pv (faV 1 t4) fun t5 =>
    ld false 1 t5 fun t6 =>
    appX 48 2 32 (f10 s) t6 fun t7 =>
    pv (binV .none .add (f32 s) (.int .i64 1)) fun t8 =>
    k1 (m17_1_1_1_1_0_1_0_0 x0 x1 x2 x3 x4 x5 x6 x7 x8 x9 x11 x13 x14 x15 x16 x17 x18 x19 x20 x21 x22 x23 x24 x25 x26 x27 x28 x29 x30 x31 x41 x42 x43 x44 x45 x46 x47 x48 x49 x50 t7 t8 (jf #[x0, x1, x2, x3, x4, x5, x6, x7, x8, x9, t7, x11, t4, x13, x14, x15, x16, x17, x18, x19, x20, x21, x22, x23, x24, x25, x26, x27, x28, x29, x30, x31, t8, t1, t2, t3, (f10 s), t5, t6, t7, t8, x41, x42, x43, x44, x45, x46, x47, x48, x49, x50]))) (
    den Tryz.prog (sel (bodyOf Tryz.f17) [1, 1, 1, 1, 1]) (bodyQ Tryz.prog Tryz.f17.results.toList K E) #[x0, x1, x2, x3, x4, x5, x6, x7, x8, x9, (f10 s), x11, (j 12), x13, x14, x15, x16, x17, x18, x19, x20, x21, x22, x23, x24, x25, x26, x27, x28, x29, x30, x31, (f32 s), t1, (j 34), (j 35), (j 36), (j 37), (j 38), (j 39), (j 40), x41, x42, x43, x44, x45, x46, x47, x48, x49, x50])) h) :
  lp (fun k1 => den Tryz.prog (sel (bodyOf Tryz.f17) [1, 1, 1, 1, 0, 1, 0, 0]) (thenD k1 (blk 0 (thenD (den Tryz.prog (sel (bodyOf Tryz.f17) [1, 1, 1, 1, 1]) (bodyQ Tryz.prog Tryz.f17.results.toList K E)) (bodyQ Tryz.prog Tryz.f17.results.toList K E))))) #[x0, x1, x2, x3, x4, x5, x6, x7, x8, x9, v10, x11, y12, x13, x14, x15, x16, x17, x18, x19, x20, x21, x22, x23, x24, x25, x26, x27, x28, x29, x30, x31, v32, y33, y34, y35, y36, y37, y38, y39, y40, x41, x42, x43, x44, x45, x46, x47, x48, x49, x50] h := by
  subst e10
  subst e32
  have e : (#[x0, x1, x2, x3, x4, x5, x6, x7, x8, x9, (f10 s0), x11, y12, x13, x14, x15, x16, x17, x18, x19, x20, x21, x22, x23, x24, x25, x26, x27, x28, x29, x30, x31, (f32 s0), y33, y34, y35, y36, y37, y38, y39, y40, x41, x42, x43, x44, x45, x46, x47, x48, x49, x50] : Env) = m17_1_1_1_1_0_1_0_0 x0 x1 x2 x3 x4 x5 x6 x7 x8 x9 x11 x13 x14 x15 x16 x17 x18 x19 x20 x21 x22 x23 x24 x25 x26 x27 x28 x29 x30 x31 x41 x42 x43 x44 x45 x46 x47 x48 x49 x50 (f10 s0) (f32 s0) (jf #[x0, x1, x2, x3, x4, x5, x6, x7, x8, x9, (f10 s0), x11, y12, x13, x14, x15, x16, x17, x18, x19, x20, x21, x22, x23, x24, x25, x26, x27, x28, x29, x30, x31, (f32 s0), y33, y34, y35, y36, y37, y38, y39, y40, x41, x42, x43, x44, x45, x46, x47, x48, x49, x50]) := by kernel_rfl
  rw [e]
  exact loop_r (fun s j => m17_1_1_1_1_0_1_0_0 x0 x1 x2 x3 x4 x5 x6 x7 x8 x9 x11 x13 x14 x15 x16 x17 x18 x19 x20 x21 x22 x23 x24 x25 x26 x27 x28 x29 x30 x31 x41 x42 x43 x44 x45 x46 x47 x48 x49 x50 (f10 s) (f32 s) j) I μ (fun k s j h hI hw next => by rw [t17_1_1_1_1_0_1_0_0]; exact round k s j h hI hw next) s0 (jf #[x0, x1, x2, x3, x4, x5, x6, x7, x8, x9, (f10 s0), x11, y12, x13, x14, x15, x16, x17, x18, x19, x20, x21, x22, x23, x24, x25, x26, x27, x28, x29, x30, x31, (f32 s0), y33, y34, y35, y36, y37, y38, y39, y40, x41, x42, x43, x44, x45, x46, x47, x48, x49, x50]) h0
end Go.Proofs.YtgjdjdjhoipfmaaGreatDoor.T
open Go Go.RowKit Go.Proofs.YtgjdjdjhoipfmaaGreatDoor.K Go.Proofs.YtgjdjdjhoipfmaaGreatDoor.T
set_option linter.unusedVariables false
set_option linter.unusedSimpArgs false
namespace Go.Proofs.YtgjdjdjhoipfmaaGreatDoor.A
variable {F F' : Nat → Option (List Value)} {M M' : Nat → Option Chunk} {N N' : Nat} {K : Kont} {E : PanK}
theorem opre_r {B n : Nat} {v : Value} {len : Nat} {rows : List (List Value)} {K : Kont} (hv : own M B 52 2 v len rows.flatten) (hlen : rows.length = len) (hl : ∀ q ∈ rows, q.length = 2) (hn : n ≤ len) (k : ∀ w, own M B 52 2 w n (rows.take n).flatten → K w ⟨F, M, N⟩) :
    pv (slV 2 v none (some (.int .i64 (n : Nat))) none) K ⟨F, M, N⟩ := by
  have hfl : (rows.take n).flatten.length = n * 2 := by
    rw [flatten_len _ (fun q hq => hl q (List.mem_of_mem_take hq)), List.length_take, hlen, Nat.min_eq_left hn]
  rcases hv.2 with ⟨rfl, h0⟩ | ⟨b, c, rest, rfl, h1, h2, h3, h4⟩
  · have hn0 : n = 0 := by omega
    subst hn0
    refine sl_r 0 0 0 (Nat.le_refl _) (Nat.le_refl _) (Nat.le_refl _) ?_
    exact k _ ⟨by simp, .inl ⟨rfl, rfl⟩⟩
  · refine sl_pre n (by omega) ?_
    refine k _ ⟨hfl, .inr ⟨b, c, (rows.drop n).flatten ++ rest, rfl, by omega, h2, h3, ?_⟩⟩
    rw [h4, ← List.append_assoc, ← List.flatten_append, List.take_append_drop]
def upTo (h : List En) (t : Int) : Nat := place h t + (if there h t = true then 1 else 0)
def allAt (h : List En) (t : Int) : List Fc := ((h.take (upTo h t)).map (·.2)).flatten
theorem upTo_le (h : List En) (t : Int) : upTo h t ≤ h.length := by
  have := place_le h t
  unfold upTo
  split
  · rename_i ht
    rcases Nat.lt_or_ge (place h t) h.length with h1 | h1
    · omega
    · rw [there_out (by omega)] at ht; cases ht
  · omega
end Go.Proofs.YtgjdjdjhoipfmaaGreatDoor.A
open Go Go.RowKit Go.Proofs.YtgjdjdjhoipfmaaGreatDoor.K Go.Proofs.YtgjdjdjhoipfmaaGreatDoor.T
set_option linter.unusedVariables false
set_option linter.unusedSimpArgs false
namespace Go.Proofs.YtgjdjdjhoipfmaaGreatDoor.A
variable {F F' : Nat → Option (List Value)} {M M' : Nat → Option Chunk} {N N' : Nat} {K : Kont} {E : PanK}
def allI (h : List En) (i : Nat) : List Fc := ((h.take i).map (·.2)).flatten
theorem allI_succ {h : List En} {i : Nat} (hi : i < h.length) : allI h (i + 1) = allI h i ++ h[i].2 := by
  unfold allI
  rw [List.take_add_one, List.getElem?_eq_getElem hi, Option.toList_some, List.map_append, List.flatten_append]; simp
theorem allI_le (h : List En) (i : Nat) : (allI h i).length ≤ ((h.map (·.2)).flatten).length := by
  have e : h.map (·.2) = (h.take i).map (·.2) ++ (h.drop i).map (·.2) := by rw [← List.map_append, List.take_append_drop]
  rw [e, List.flatten_append, List.length_append]
  unfold allI; omega
set_option maxRecDepth 10000 in
theorem cquery_c {B g : Nat} {hv dv : Value} {cs : List Value} {rows : List (List Value)} {l : List Dm} {h : List En} {t : Int} {m lo hi : List Int} (hC : isCube F M B g hv dv rows l h) (hdl : l.length ≤ 140737488351232) (hl : h.length ≤ 5000) (hT : ((h.map (·.2)).flatten).length ≤ 1000000) (hk : ∀ e ∈ h, ∀ f ∈ e.2, okK f.1) (hq : queryD F cs m lo hi) (hmi : ∀ x ∈ m, i64 x) (hok : ∀ r ∈ tab ((allI h (upTo h t)).map fr1), okK r.1)
    (k : ∀ v' F' N', (Hp.mk F' M N').wf → subF F F' → N ≤ N' → tblD F' v' (runT l (tab ((allI h (upTo h t)).map fr1)) m lo hi) → K (.tuple #[v', .int .u16 ((runE l (tab ((allI h (upTo h t)).map fr1)) m lo hi : Nat) : Int)]) ⟨F', M, N'⟩) :
    callv Tryz.prog (.func (.func 17) #[] #[]) #[.pointer (some ⟨g, 0, none⟩), .agg cs.toArray, .int .u32 t] K E ⟨F, M, N⟩ := by
  refine callv_of_text mixed Tryz.func17 (by kernel_rfl) (t17 _ E _ _ _) (fun hw => ?_)
  have hm : clean M N := hw.m
  have hq' := hq
  obtain ⟨a, b, c, rfl, ha, hb, hc, hml, hlol, hhil⟩ := hq'
  have hgN := hm.lt hC.gg
  have hup := upTo_le h t
  refine nw_r (cs := [a, b, c]) (fun b1 hb1 => ?_)
  have hbox := upd_same M b1 (some (.cells 36 [a, b, c] 3))
  have hg1 := (upd_ne M (b := b1) (k := g) (some (.cells 36 [a, b, c] 3)) (by omega)).trans hC.gg
  have ho1 := hC.oo.box hm hb1 (some (.cells 36 [a, b, c] 3))
  have hM1 : ∀ q, q < N → upd M b1 (some (.cells 36 [a, b, c] 3)) q = M q := fun q hq => upd_ne _ _ (by omega)
  have go : ∀ x : Value, x = .int .i64 (upTo h t : Nat) → ∀ N1, b1 < N1 → clean (upd M b1 (some (.cells 36 [a, b, c] 3))) N1 → ∀ X : (Value → Hp → Prop) → Hp → Prop, True := fun _ _ _ _ _ _ => trivial
  clear go
  try simp only [sS]
  refine ldM (v := hv) ?_ hg1
  refine find_c ho1 hC.rr hC.rs (by omega) (fun N1 hN1 hw1 => ?_)
  have hm1 : clean (upd M b1 (some (.cells 36 [a, b, c] 3))) N1 := hw1.m
  have hb1N : b1 < N1 := hm1.lt hbox
  generalize upd M b1 _ = M1 at *
  obtain ⟨n, hn⟩ : ∃ n, n = upTo h t := ⟨_, rfl⟩
  have hn2 : upTo h t = place h t + (if there h t = true then 1 else 0) := rfl
  cases hth : there h t
  rotate_left
  rw [hth, if_pos rfl] at hn2
  try simp only [sS]
  refine inc_r (by omega) ?_
  rw [← hn2]
  rw [t17_1_1_1]
  rotate_left
  rw [hth, if_neg (by decide), Nat.add_zero] at hn2
  try simp only [sS]
  rw [← hn2]
  rw [t17_1_1_1]
  all_goals
    clear hn2
    rw [← hn] at hok k hup ⊢
    clear hn
    try simp only [sS]
    refine ldM (v := hv) ?_ hg1
    refine opre_r ho1 hC.rr.all.1 hC.rr.len hup (fun w how => ?_)
    obtain ⟨wa, wc, hwf, _⟩ := how.form
    refine pv_r (v := .int .i64 (n : Nat)) (by rw [hwf]; rfl) ?_
    refine l17_1_1_1_1_0_1_0_0 (σ := Nat × Value) (fun s => s.2) (fun s => .int .i64 (s.1 : Nat))
      (fun s h' => ∃ M' N' frs, h' = ⟨F, M', N'⟩ ∧ N1 ≤ N' ∧ (∀ q, q < N1 → M' q = M1 q) ∧ clean M' N' ∧ s.1 ≤ n ∧ own M' N1 48 2 s.2 (allI h s.1).length frs.flatten ∧ rowsF (fctD F) 2 frs (allI h s.1)) (fun s => n - s.1) (0, .slice none 0 0) rfl rfl
      (fun hw2 => ⟨_, wk_refl hw2, M1, N1, [], rfl, Nat.le_refl _, fun _ _ => rfl, hm1, Nat.zero_le _, own.nil, rowsF.nil _ _⟩) (fun kk s j h1 hI hw2 next => ?_)
    obtain ⟨M2, N2, frs, rfl, hN2, hM2, hm2, hi2, hoa, hra⟩ := hI
    have how2 : own M2 B 52 2 w n (rows.take n).flatten := how.keep (fun q e => hM2 q (how.lt hm1 q e)) (Nat.le_refl _)
    refine lss_r (fun hlt => ?_) (fun hge => ?_)
    · have i1 : s.1 < n := by omega
      have i2 : s.1 < h.length := by omega
      try simp only [sS]
      have htk : (h.take n).length = n := by rw [List.length_take]; omega
      refine orow_r (l := h.take n) (by rw [htk]; exact how2) (rows_take hC.rr n) (by decide) (by omega) fun p r _ hR _ hr1 => ?_
      rw [List.getElem_take] at hR
      obtain ⟨fv, rfl, hfv, hfl⟩ := hR
      refine nw_r (fun b4 hb4 => ?_)
      refine stM (cs' := [.int .u32 h[s.1].1, fv]) ?_ (upd_same _ _ _) rfl rfl hr1
      rw [upd_upd]
      try simp only [sS]
      refine ldM (v := fv) ?_
      obtain ⟨frows, hf1, hf2⟩ := hfv
      have e := allI_succ i2
      have hle := allI_le h (s.1 + 1)
      rw [e, List.length_append] at hle
      refine (hoa.box hm2 hb4 _).app (hm2.new hb4 _) (by omega) hf1.sR hf2.f1 (by omega) (by unfold maxLen; omega) (fun w' M3 N3 h4 h5 h6 h7 => ?_)
      refine inc_r (by omega) ?_
      refine next (s.1 + 1, w') _ _ (by simp only; omega) (fun hw4 => ⟨_, wk_refl hw4, M3, N3, frs ++ frows, rfl, by omega, fun q hq => ?_, h7, i1, ?_, ?_⟩)
      · exact ((h5 q (fun e => by have := (hoa.ge q e).1; omega) (by omega)).1).trans ((upd_ne _ _ (by omega)).trans (hM2 q hq))
      · simp only
        rw [e, List.length_append, List.flatten_append]; exact h4
      · simp only
        rw [e]; exact rows_app hra hf2
    · try simp only [sS]
      rw [t17_1_1_1_1_1]
      rw [show s.1 = n by omega] at hoa hra
      have hgq := (hM2 g (by omega)).trans hg1
      have hbq := (hM2 b1 hb1N).trans hbox
      try simp only [sS]
      refine ldM (v := dv) ?_ hgq
      refine ldMa (vs := [a, b, c]) ?_ hbq
      refine callv_go (fun hc' => ⟨_, wk_P (p := fun q => s.2.ownBlock = some q) hc', ?_⟩)
      have hs9 := subF_frzP (p := fun q => s.2.ownBlock = some q) hc'
      have hfa : fctsD (frzP F M2 (fun q => s.2.ownBlock = some q)) s.2 (allI h n) := ⟨frs, hoa.frzP (fun q h => h), hra.mono fun _ _ h => h.mono hs9⟩
      have hnb : ∀ q, q < N1 → ¬ s.2.ownBlock = some q := fun q hq e => by have := (hoa.ge q e).1; omega
      have hg9 := (keepM_in (M := M2) (p := fun q => ¬ s.2.ownBlock = some q) (hnb g (by omega))).trans hgq
      have hb9 := (keepM_in (M := M2) (p := fun q => ¬ s.2.ownBlock = some q) (hnb b1 hb1N)).trans hbq
      have hM9 : ∀ q, q < N → keepM M2 (fun q => ¬ s.2.ownBlock = some q) q = M q := fun q hq => (keepM_in (hnb q (by omega))).trans ((hM2 q (by omega)).trans (hM1 q hq))
      generalize frzP F M2 _ = F9 at *
      generalize keepM M2 _ = M9 at *
      have hal := allI_le h n
      refine make_c hfa (by omega) (fun f hf => ?_) (fun vt F10 N10 hw10 hF10 hN10 ht => ?_)
      · obtain ⟨x, hx, hfx⟩ := List.mem_flatten.1 hf
        obtain ⟨e, he, rfl⟩ := List.mem_map.1 hx
        exact hk e (List.mem_of_mem_take he) f hfx
      refine ⟨ldV_a (row_M hb9) (by exact Nat.le_of_ble_eq_true rfl) rfl, ldV_c (row_M hg9) rfl, ?_⟩
      have F0A := hs9.trans hF10
      have htl := tab_len ((allI h n).map fr1)
      rw [List.length_map] at htl
      refine run_c (hC.dd.mono F0A) hdl ht (by omega) (hq.mono F0A) hmi (fun r hr => (hok r hr).2) (fun _ r hr => (hok r hr).1) (fun v11 F11 N11 hw11 hF11 hN11 h11 => ?_)
      try simp only [sS]
      exact fun hc => ⟨_, frz_wf hm hM9 hc, fun hw' => k _ _ _ hw' ((F0A.trans hF11).trans (subF_frzAll hc)) (by omega) (h11.mono (subF_frzAll hc))⟩
end Go.Proofs.YtgjdjdjhoipfmaaGreatDoor.A
open Go Go.RowKit Go.Proofs.YtgjdjdjhoipfmaaGreatDoor.K Go.Proofs.YtgjdjdjhoipfmaaGreatDoor.T
set_option linter.unusedVariables false
set_option linter.unusedSimpArgs false
namespace Go.Proofs.YtgjdjdjhoipfmaaGreatDoor.A
variable {F F' : Nat → Option (List Value)} {M M' : Nat → Option Chunk} {N N' : Nat} {K : Kont} {E : PanK}
def inR (a b : Int) (f : Fc) : Bool := decide (0 < f.1.length ∧ a ≤ f.1.getD 0 0 ∧ f.1.getD 0 0 < b)
def atT : List En → Int → List Fc
  | [], _ => []
  | e :: h, t => if e.1 = t then e.2 else atT h t
theorem atT_out : ∀ {h : List En} {t : Int}, (∀ e ∈ h, e.1 ≠ t) → atT h t = []
  | [], _, _ => rfl
  | e :: h, t, hn => by
    unfold atT
    rw [if_neg (hn e List.mem_cons_self)]
    exact atT_out fun x hx => hn x (List.mem_cons_of_mem _ hx)
theorem risen_nil : risen [] := List.Pairwise.nil
theorem risen_cons {e : En} {h : List En} : risen (e :: h) ↔ (∀ x ∈ h, e.1 < x.1) ∧ risen h := List.pairwise_cons
def withR : List En → Int → List Fc → List En
  | [], t, fs => [(t, fs)]
  | e :: h, t, fs => if e.1 < t then e :: withR h t fs else if e.1 = t then (t, e.2 ++ fs) :: h else (t, fs) :: e :: h
theorem withR_mem : ∀ {h : List En} {t : Int} {fs : List Fc} {x : En}, x ∈ withR h t fs → x.1 = t ∨ x ∈ h
  | [], t, fs, x, hx => by simp [withR] at hx; exact .inl (by rw [hx])
  | e :: h, t, fs, x, hx => by
    unfold withR at hx
    split at hx
    · rcases List.mem_cons.1 hx with rfl | hx
      · exact .inr List.mem_cons_self
      · exact (withR_mem hx).imp id (List.mem_cons_of_mem _)
    · split at hx
      · rcases List.mem_cons.1 hx with rfl | hx
        · exact .inl rfl
        · exact .inr (List.mem_cons_of_mem _ hx)
      · rcases List.mem_cons.1 hx with rfl | hx
        · exact .inl rfl
        · exact .inr hx
theorem withR_risen : ∀ {h : List En} {t : Int} {fs : List Fc}, risen h → risen (withR h t fs)
  | [], t, fs, _ => risen_cons.2 ⟨by simp, risen_nil⟩
  | e :: h, t, fs, hs => by
    obtain ⟨h1, h2⟩ := risen_cons.1 hs
    unfold withR
    split
    · refine risen_cons.2 ⟨fun x hx => ?_, withR_risen h2⟩
      rcases withR_mem hx with hx | hx
      · omega
      · exact h1 x hx
    · split
      · rename_i he
        exact risen_cons.2 ⟨fun x hx => by have := h1 x hx; simp only; omega, h2⟩
      · refine risen_cons.2 ⟨fun x hx => ?_, hs⟩
        rcases List.mem_cons.1 hx with rfl | hx
        · simp only; omega
        · have := h1 x hx; simp only; omega
theorem withR_at : ∀ {h : List En} {t : Int} {fs : List Fc} (s : Int), risen h → atT (withR h t fs) s = if s = t then atT h t ++ fs else atT h s
  | [], t, fs, s, _ => by
    simp only [withR, atT]
    by_cases h : s = t
    · rw [if_pos h.symm, if_pos h]; rfl
    · rw [if_neg (fun e => h e.symm), if_neg h]
  | e :: h, t, fs, s, hs => by
    obtain ⟨h1, h2⟩ := risen_cons.1 hs
    unfold withR
    split
    · rename_i hlt
      simp only [atT]
      rw [withR_at s h2, if_neg (by omega : ¬ e.1 = t)]
      by_cases hes : e.1 = s
      · rw [if_pos hes, if_neg (by omega), if_pos hes]
      · rw [if_neg hes]
        by_cases hst : s = t
        · rw [if_pos hst, if_pos hst]
        · rw [if_neg hst, if_neg hst, if_neg hes]
    · split
      · rename_i he
        simp only [atT]
        by_cases hst : s = t
        · rw [if_pos hst.symm, if_pos hst, if_pos he]
        · rw [if_neg (fun q => hst q.symm), if_neg hst, if_neg (by omega)]
      · rename_i h3 h4
        have ho : atT (e :: h) t = [] := atT_out fun x hx => by
          rcases List.mem_cons.1 hx with rfl | hx
          · exact h4
          · have := h1 x hx; omega
        rw [ho]
        by_cases hst : s = t
        · subst hst; simp [atT]
        · rw [if_neg hst]
          show (if t = s then fs else atT (e :: h) s) = _
          rw [if_neg (fun q => hst q.symm)]
theorem withR_len : ∀ (h : List En) (t : Int) (fs : List Fc), (withR h t fs).length ≤ h.length + 1
  | [], t, fs => by simp [withR]
  | e :: h, t, fs => by
    unfold withR
    split
    · have := withR_len h t fs; simp only [List.length_cons]; omega
    · split <;> simp
def oldAt (h : List En) (t : Int) : List Fc := if there h t = true then (h.getD (place h t) (0, [])).2 else []
def withH (h : List En) (t : Int) (fs : List Fc) : List En := h.take (place h t) ++ (t, oldAt h t ++ fs) :: h.drop (upTo h t)
theorem place_cons (e : En) (h : List En) (t : Int) : place (e :: h) t = if e.1 < t then place h t + 1 else 0 := rfl
theorem there_cons (e : En) (h : List En) (t : Int) : there (e :: h) t = if e.1 < t then there h t else decide (e.1 = t) := by
  unfold there
  rw [place_cons]
  by_cases h1 : e.1 < t
  · rw [if_pos h1, if_pos h1, List.getElem?_cons_succ]
  · rw [if_neg h1, if_neg h1]; rfl
theorem upTo_cons (e : En) (h : List En) (t : Int) : upTo (e :: h) t = if e.1 < t then upTo h t + 1 else if e.1 = t then 1 else 0 := by
  unfold upTo
  rw [place_cons, there_cons]
  split
  · omega
  · by_cases h : e.1 = t <;> simp [h]
theorem withH_eq : ∀ (h : List En) (t : Int) (fs : List Fc), withH h t fs = withR h t fs
  | [], t, fs => by simp [withH, withR, place, oldAt, there, upTo]
  | e :: h, t, fs => by
    have ih := withH_eq h t fs
    unfold withH oldAt at ih ⊢
    unfold withR
    rw [place_cons, there_cons, upTo_cons]
    by_cases h1 : e.1 < t
    · rw [if_pos h1, if_pos h1, if_pos h1, if_pos h1, ← ih]
      simp
    · rw [if_neg h1, if_neg h1, if_neg h1, if_neg h1]
      by_cases h2 : e.1 = t
      · simp [h2]
      · simp [h2]
theorem withH_new {h : List En} {t : Int} {fs : List Fc} (ht : there h t = false) : withH h t fs = layE h t fs := by
  unfold withH oldAt upTo layE
  rw [ht]; simp
theorem withH_old {h : List En} {t : Int} {fs : List Fc} (ht : there h t = true) (hi : place h t < h.length) : withH h t fs = h.set (place h t) (t, h[place h t].2 ++ fs) := by
  unfold withH oldAt upTo
  rw [ht, if_pos rfl, if_pos rfl, getD_at hi, List.set_eq_take_append_cons_drop, if_pos hi]
theorem there_lt {h : List En} {t : Int} (ht : there h t = true) : place h t < h.length := by
  rcases Nat.lt_or_ge (place h t) h.length with h1 | h1
  · exact h1
  · rw [there_out (by omega)] at ht; cases ht
theorem fm_risen {f : En → Option En} (hf : ∀ e x, f e = some x → x.1 = e.1) {h : List En} (hs : risen h) : risen (h.filterMap f) :=
  List.Pairwise.filterMap f (fun a a' hr b hb b' hb' => by rw [hf a b hb, hf a' b' hb']; exact hr) hs
theorem fm_mem {f : En → Option En} {h : List En} {x : En} (hx : x ∈ h.filterMap f) : ∃ e ∈ h, f e = some x := List.mem_filterMap.1 hx
theorem fm_at {f : En → Option En} {g : List Fc → List Fc} (hg : g [] = []) (hf : ∀ e, (f e = none ∧ g e.2 = []) ∨ f e = some (e.1, g e.2)) : ∀ {h : List En} (s : Int), risen h → atT (h.filterMap f) s = g (atT h s)
  | [], s, _ => hg.symm
  | e :: h, s, hs => by
    obtain ⟨h1, h2⟩ := risen_cons.1 hs
    have ih := fm_at hg hf (h := h) s h2
    have ht : ∀ e x, f e = some x → x.1 = e.1 := fun e x hx => by
      rcases hf e with ⟨h, _⟩ | h
      · rw [h] at hx; cases hx
      · rw [h] at hx; cases hx; rfl
    have ho : e.1 = s → atT (h.filterMap f) s = [] := fun he => atT_out fun x hx => by
      obtain ⟨y, hy, hfy⟩ := fm_mem hx
      rw [ht y x hfy]
      have := h1 y hy; omega
    rcases hf e with ⟨h3, h4⟩ | h3
    · rw [List.filterMap_cons_none h3]
      simp only [atT]
      split
      · rename_i he; rw [ho he, h4]
      · exact ih
    · rw [List.filterMap_cons_some h3]
      simp only [atT]
      split
      · rfl
      · exact ih
def entE (a b : Int) (e : En) : Option En := if 0 < (e.2.filter (inR a b)).length then some (e.1, e.2.filter (inR a b)) else none
def entF (a b : Int) (h : List En) : List En := h.filterMap (entE a b)
def outR (a b : Int) (f : Fc) : Bool := !inR a b f
def restE (a b : Int) (e : En) : Option En := if 0 < (e.2.filter (outR a b)).length ∨ e.2.length = 0 then some (e.1, e.2.filter (outR a b)) else none
def restH (a b : Int) (h : List En) : List En := h.filterMap (restE a b)
theorem entE_or (a b : Int) (e : En) : (entE a b e = none ∧ e.2.filter (inR a b) = []) ∨ entE a b e = some (e.1, e.2.filter (inR a b)) := by
  unfold entE
  by_cases h : 0 < (e.2.filter (inR a b)).length
  · rw [if_pos h]; exact .inr rfl
  · rw [if_neg h]; exact .inl ⟨rfl, List.eq_nil_of_length_eq_zero (by omega)⟩
theorem restE_or (a b : Int) (e : En) : (restE a b e = none ∧ e.2.filter (outR a b) = []) ∨ restE a b e = some (e.1, e.2.filter (outR a b)) := by
  unfold restE
  by_cases h : 0 < (e.2.filter (outR a b)).length ∨ e.2.length = 0
  · rw [if_pos h]; exact .inr rfl
  · rw [if_neg h]; exact .inl ⟨rfl, List.eq_nil_of_length_eq_zero (by omega)⟩
theorem or_time {f : En → Option En} {g : List Fc → List Fc} (hf : ∀ e, (f e = none ∧ g e.2 = []) ∨ f e = some (e.1, g e.2)) (e x : En) (h : f e = some x) : x = (e.1, g e.2) := by
  rcases hf e with ⟨h1, _⟩ | h1
  · rw [h1] at h; cases h
  · rw [h1] at h; cases h; rfl
theorem entF_risen {a b : Int} {h : List En} (hs : risen h) : risen (entF a b h) := fm_risen (fun e x hx => by rw [or_time (entE_or a b) e x hx]) hs
theorem restH_risen {a b : Int} {h : List En} (hs : risen h) : risen (restH a b h) := fm_risen (fun e x hx => by rw [or_time (restE_or a b) e x hx]) hs
theorem entF_at {a b : Int} {h : List En} (s : Int) (hs : risen h) : atT (entF a b h) s = (atT h s).filter (inR a b) := fm_at (g := fun l => l.filter (inR a b)) rfl (entE_or a b) s hs
theorem restH_at {a b : Int} {h : List En} (s : Int) (hs : risen h) : atT (restH a b h) s = (atT h s).filter (outR a b) := fm_at (g := fun l => l.filter (outR a b)) rfl (restE_or a b) s hs
theorem entF_mem {a b : Int} {h : List En} {x : En} (hx : x ∈ entF a b h) : ∃ e ∈ h, x = (e.1, e.2.filter (inR a b)) ∧ x.2 ≠ [] := by
  obtain ⟨e, he, hf⟩ := fm_mem hx
  refine ⟨e, he, or_time (entE_or a b) e x hf, fun h0 => ?_⟩
  unfold entE at hf
  split at hf
  · cases hf; simp only at h0; rename_i h1; rw [h0] at h1; simp at h1
  · cases hf
theorem restH_mem {a b : Int} {h : List En} {x : En} (hx : x ∈ restH a b h) : ∃ e ∈ h, x = (e.1, e.2.filter (outR a b)) := by
  obtain ⟨e, he, hf⟩ := fm_mem hx
  exact ⟨e, he, or_time (restE_or a b) e x hf⟩
theorem hist_ext : ∀ {h k : List En}, risen h → risen k → (∀ e ∈ h, e.2 ≠ []) → (∀ e ∈ k, e.2 ≠ []) → (∀ s, atT h s = atT k s) → h = k
  | [], [], _, _, _, _, _ => rfl
  | [], e :: k, _, _, _, hk, he => by
    have := he e.1
    simp [atT] at this
    exact absurd this (hk e List.mem_cons_self)
  | e :: h, [], _, _, hh, _, he => by
    have := he e.1
    simp [atT] at this
    exact absurd this (hh e List.mem_cons_self)
  | e :: h, d :: k, hs, ks, hh, hk, he => by
    obtain ⟨h1, h2⟩ := risen_cons.1 hs
    obtain ⟨k1, k2⟩ := risen_cons.1 ks
    have out1 : ∀ s, s ≤ e.1 → atT h s = [] := fun s hle => atT_out fun x hx => by have := h1 x hx; omega
    have out2 : ∀ s, s ≤ d.1 → atT k s = [] := fun s hle => atT_out fun x hx => by have := k1 x hx; omega
    have ht : e.1 = d.1 := by
      rcases Int.lt_trichotomy e.1 d.1 with hl | hl | hl
      · have := he e.1
        simp only [atT, if_true] at this
        rw [if_neg (by omega), out2 _ (by omega)] at this
        exact absurd this (hh e List.mem_cons_self)
      · exact hl
      · have := he d.1
        simp only [atT, if_true] at this
        rw [if_neg (by omega), out1 _ (by omega)] at this
        exact absurd this.symm (hk d List.mem_cons_self)
    have hf : e.2 = d.2 := by
      have := he e.1
      simp only [atT, if_true] at this
      rw [if_pos ht.symm] at this
      exact this
    have hed : e = d := Prod.ext ht hf
    subst hed
    refine congrArg (e :: ·) (hist_ext h2 k2 (fun x hx => hh x (List.mem_cons_of_mem _ hx)) (fun x hx => hk x (List.mem_cons_of_mem _ hx)) fun s => ?_)
    by_cases hes : e.1 = s
    · rw [out1 s (by omega), out2 s (by omega)]
    · have := he s
      simp only [atT] at this
      rw [if_neg hes, if_neg hes] at this
      exact this
def lay1 (h : List En) (e : En) : List En := if 0 < e.2.length then withR h e.1 e.2 else h
def layAll (h es : List En) : List En := es.foldl lay1 h
theorem lay1_at {h : List En} {e : En} (hs : risen h) (s : Int) : atT (lay1 h e) s = if s = e.1 then atT h s ++ e.2 else atT h s := by
  unfold lay1
  split
  · rw [withR_at s hs]
    by_cases hse : s = e.1
    · rw [if_pos hse, if_pos hse, hse]
    · rw [if_neg hse, if_neg hse]
  · rename_i h0
    rw [List.eq_nil_of_length_eq_zero (by omega : e.2.length = 0)]
    split <;> simp
theorem lay1_risen {h : List En} {e : En} (hs : risen h) : risen (lay1 h e) := by
  unfold lay1; split
  · exact withR_risen hs
  · exact hs
theorem layAll_risen : ∀ {es h : List En}, risen h → risen (layAll h es)
  | [], h, hs => hs
  | e :: es, h, hs => layAll_risen (es := es) (lay1_risen hs)
theorem layAll_at : ∀ {es h : List En} (s : Int), risen h → risen es → atT (layAll h es) s = atT h s ++ atT es s
  | [], h, s, _, _ => by simp [layAll, atT]
  | e :: es, h, s, hs, he => by
    obtain ⟨h1, h2⟩ := risen_cons.1 he
    have := layAll_at (es := es) s (lay1_risen (e := e) hs) h2
    show atT (layAll (lay1 h e) es) s = _
    rw [this, lay1_at hs]
    simp only [atT]
    by_cases hse : s = e.1
    · rw [if_pos hse, if_pos hse.symm, atT_out (h := es) fun x hx => by have := h1 x hx; omega, List.append_nil]
    · rw [if_neg hse, if_neg (fun q => hse q.symm)]
theorem layAll_len : ∀ (es h : List En), (layAll h es).length ≤ h.length + es.length
  | [], h => by simp [layAll]
  | e :: es, h => by
    have h1 := layAll_len es (lay1 h e)
    have h2 : (lay1 h e).length ≤ h.length + 1 := by
      unfold lay1; split
      · exact withR_len _ _ _
      · omega
    show (layAll (lay1 h e) es).length ≤ _
    simp only [List.length_cons]; omega
end Go.Proofs.YtgjdjdjhoipfmaaGreatDoor.A
open Go Go.RowKit Go.Proofs.YtgjdjdjhoipfmaaGreatDoor.K Go.Proofs.YtgjdjdjhoipfmaaGreatDoor.T
set_option linter.unusedVariables false
set_option linter.unusedSimpArgs false
namespace Go.Proofs.YtgjdjdjhoipfmaaGreatDoor.A
variable {F F' : Nat → Option (List Value)} {M M' : Nat → Option Chunk} {N N' : Nat} {K : Kont} {E : PanK}
def rightF (l : List Dm) (a b : Int) : Int → List En → Bool
  | _, [] => true
  | last, e :: es => decide (last < e.1) && fitsF l e.2 && (e.2.all (inR a b) && rightF l a b e.1 es)
def replH (a b : Int) (h es : List En) : List En := layAll (restH a b h) es
def longH (h : List En) : Bool := h.any fun e => decide (200 < e.2.length)
def replE (l : List Dm) (a b : Int) (h es : List En) : Nat := if rightF l a b 0 es = false then 1 else if 5000 < (replH a b h es).length ∨ longH (replH a b h es) = true then 3 else 0
def replF (l : List Dm) (a b : Int) (h es : List En) : List En := if replE l a b h es = 0 then replH a b h es else h
theorem rightF_cons {l : List Dm} {a b last : Int} {e : En} {es : List En} (h : rightF l a b last (e :: es) = true) : last < e.1 ∧ fitsF l e.2 = true ∧ (∀ f ∈ e.2, inR a b f = true) ∧ rightF l a b e.1 es = true := by
  unfold rightF at h
  rw [Bool.and_eq_true, Bool.and_eq_true, Bool.and_eq_true] at h
  exact ⟨of_decide_eq_true h.1.1, h.1.2, List.all_eq_true.1 h.2.1, h.2.2⟩
theorem rightF_all {l : List Dm} {a b : Int} : ∀ {es : List En} {last : Int}, rightF l a b last es = true → risen es ∧ ∀ e ∈ es, last < e.1 ∧ fitsF l e.2 = true ∧ ∀ f ∈ e.2, inR a b f = true
  | [], _, _ => ⟨risen_nil, by simp⟩
  | e :: es, last, h => by
    obtain ⟨h1, h2, h3, h4⟩ := rightF_cons h
    obtain ⟨g1, g2⟩ := rightF_all h4
    refine ⟨risen_cons.2 ⟨fun x hx => (g2 x hx).1, g1⟩, fun x hx => ?_⟩
    rcases List.mem_cons.1 hx with rfl | hx
    · exact ⟨h1, h2, h3⟩
    · obtain ⟨a1, a2, a3⟩ := g2 x hx
      exact ⟨by omega, a2, a3⟩
theorem rightF_of {l : List Dm} {a b : Int} : ∀ {es : List En} {last : Int}, risen es → (∀ e ∈ es, last < e.1 ∧ fitsF l e.2 = true ∧ ∀ f ∈ e.2, inR a b f = true) → rightF l a b last es = true
  | [], _, _, _ => rfl
  | e :: es, last, hs, h => by
    obtain ⟨h1, h2⟩ := risen_cons.1 hs
    obtain ⟨a1, a2, a3⟩ := h e List.mem_cons_self
    unfold rightF
    rw [decide_eq_true a1, a2, List.all_eq_true.2 a3, rightF_of h2 fun x hx => ⟨h1 x hx, (h x (List.mem_cons_of_mem _ hx)).2⟩]
    rfl
structure okH (l : List Dm) (n m : Nat) (h : List En) : Prop where
  rs : risen h
  ti : ∀ e ∈ h, 0 < e.1
  fi : ∀ e ∈ h, ∀ f ∈ e.2, inF l f.1 = true
  le : h.length ≤ n
  fl : ∀ e ∈ h, e.2.length ≤ m
theorem okH.nil (l : List Dm) (n m : Nat) : okH l n m [] := ⟨risen_nil, by simp, by simp, Nat.zero_le _, by simp⟩
theorem okH.up {l : List Dm} {n m n' m' : Nat} {h : List En} (k : okH l n m h) (h1 : n ≤ n') (h2 : m ≤ m') : okH l n' m' h := ⟨k.rs, k.ti, k.fi, by have := k.le; omega, fun e he => by have := k.fl e he; omega⟩
theorem withR_all {P : En → Prop} {t : Int} {fs : List Fc} (h0 : P (t, fs)) (ha : ∀ e : En, e.1 = t → P e → P (t, e.2 ++ fs)) : ∀ {h : List En}, (∀ e ∈ h, P e) → ∀ e ∈ withR h t fs, P e
  | [], _, e, he => by simp [withR] at he; rw [he]; exact h0
  | d :: h, hp, e, he => by
    unfold withR at he
    split at he
    · rcases List.mem_cons.1 he with rfl | he
      · exact hp _ List.mem_cons_self
      · exact withR_all h0 ha (fun x hx => hp x (List.mem_cons_of_mem _ hx)) e he
    · split at he
      · rename_i hd
        rcases List.mem_cons.1 he with rfl | he
        · exact ha d hd (hp d List.mem_cons_self)
        · exact hp e (List.mem_cons_of_mem _ he)
      · rcases List.mem_cons.1 he with rfl | he
        · exact h0
        · exact hp e he
theorem okH.withR {l : List Dm} {n m k : Nat} {h : List En} (o : okH l n m h) {t : Int} {fs : List Fc} (ht : 0 < t) (hf : ∀ f ∈ fs, inF l f.1 = true) (hk : fs.length ≤ k) : okH l (n + 1) (m + k) (A.withR h t fs) := by
  refine ⟨withR_risen o.rs, ?_, ?_, by have := withR_len h t fs; have := o.le; omega, ?_⟩
  · exact withR_all (P := fun e => 0 < e.1) ht (fun _ _ _ => ht) o.ti
  · refine withR_all (P := fun e => ∀ f ∈ e.2, inF l f.1 = true) hf (fun e _ he f hx => ?_) o.fi
    rcases List.mem_append.1 hx with hx | hx
    · exact he f hx
    · exact hf f hx
  · intro e he
    have key : ∀ {h : List En}, (∀ e ∈ h, e.2.length ≤ m) → ∀ e ∈ A.withR h t fs, e.2.length ≤ m + k := by
      intro h
      induction h with
      | nil => intro _ e he; simp [A.withR] at he; rw [he]; simp only; omega
      | cons d h ih =>
        intro hp e he
        unfold A.withR at he
        split at he
        · rcases List.mem_cons.1 he with rfl | he
          · have := hp _ List.mem_cons_self; omega
          · exact ih (fun x hx => hp x (List.mem_cons_of_mem _ hx)) e he
        · split at he
          · rcases List.mem_cons.1 he with rfl | he
            · have := hp d List.mem_cons_self; simp only [List.length_append]; omega
            · have := hp e (List.mem_cons_of_mem _ he); omega
          · rcases List.mem_cons.1 he with rfl | he
            · simp only; omega
            · have := hp e he; omega
    exact key o.fl e he
theorem addE_eq {l : List Dm} {h : List En} {t : Int} {fs : List Fc} (e : addE l h t fs = 0) : fitsF l fs = true ∧ t ≠ 0 ∧ there h t = false ∧ h.length < 5000 := by
  unfold addE at e
  split at e
  · omega
  · rename_i h1
    split at e
    · omega
    · rename_i h2
      split at e
      · omega
      · refine ⟨by simpa using h1, fun q => h2 (.inl q), ?_, by omega⟩
        cases h3 : there h t
        · rfl
        · exact absurd (.inr h3) h2
theorem addH_eq {l : List Dm} {h : List En} {t : Int} {fs : List Fc} (e : addE l h t fs = 0) : addH l h t fs = withR h t fs := by
  unfold addH
  rw [if_pos e, ← withH_new (addE_eq e).2.2.1, withH_eq]
theorem withR_out {h : List En} {t : Int} {fs : List Fc} (hs : risen h) (ht : there h t = false) {m : Nat} (hm : ∀ e ∈ h, e.2.length ≤ m) (hk : fs.length ≤ m) : ∀ e ∈ withR h t fs, e.2.length ≤ m := by
  intro e he
  rw [← withH_eq, withH_new ht] at he
  unfold layE at he
  rcases List.mem_append.1 he with he | he
  · exact hm e (List.mem_of_mem_take he)
  · rcases List.mem_cons.1 he with rfl | he
    · exact hk
    · exact hm e (List.mem_of_mem_drop he)
theorem okH.add {l : List Dm} {h : List En} (o : okH l 5000 200 h) {t : Int} (ht : 0 ≤ t) (fs : List Fc) : okH l 5000 200 (addH l h t fs) := by
  by_cases e : addE l h t fs = 0
  · obtain ⟨h1, h2, h3, h4⟩ := addE_eq e
    obtain ⟨f1, f2⟩ := fitsF_of h1
    have w := o.withR (t := t) (by omega) f2 f1
    rw [addH_eq e]
    exact ⟨w.rs, w.ti, w.fi, by have := withR_len h t fs; omega, withR_out o.rs h3 o.fl f1⟩
  · unfold addH; rw [if_neg e]; exact o
theorem okH.rest {l : List Dm} {n m : Nat} {h : List En} (o : okH l n m h) (a b : Int) : okH l n m (restH a b h) := by
  refine ⟨restH_risen o.rs, fun x hx => ?_, fun x hx => ?_, ?_, fun x hx => ?_⟩
  · obtain ⟨e, he, rfl⟩ := restH_mem hx; exact o.ti e he
  · obtain ⟨e, he, rfl⟩ := restH_mem hx; exact fun f hf => o.fi e he f (List.mem_filter.1 hf).1
  · have := List.length_filterMap_le (restE a b) h; have := o.le; unfold restH; omega
  · obtain ⟨e, he, rfl⟩ := restH_mem hx
    have := o.fl e he
    have := List.length_filter_le (outR a b) e.2
    simp only; omega
theorem okH.ent {l : List Dm} {n m : Nat} {h : List En} (o : okH l n m h) (a b : Int) : okH l n m (entF a b h) := by
  refine ⟨entF_risen o.rs, fun x hx => ?_, fun x hx => ?_, ?_, fun x hx => ?_⟩
  · obtain ⟨e, he, rfl, _⟩ := entF_mem hx; exact o.ti e he
  · obtain ⟨e, he, rfl, _⟩ := entF_mem hx; exact fun f hf => o.fi e he f (List.mem_filter.1 hf).1
  · have := List.length_filterMap_le (entE a b) h; have := o.le; unfold entF; omega
  · obtain ⟨e, he, rfl, _⟩ := entF_mem hx
    have := o.fl e he
    have := List.length_filter_le (inR a b) e.2
    simp only; omega
theorem layAll_fi {l : List Dm} : ∀ {es h : List En}, (∀ e ∈ h, 0 < e.1 ∧ ∀ f ∈ e.2, inF l f.1 = true) → (∀ e ∈ es, 0 < e.1 ∧ ∀ f ∈ e.2, inF l f.1 = true) → ∀ e ∈ layAll h es, 0 < e.1 ∧ ∀ f ∈ e.2, inF l f.1 = true
  | [], h, h1, _ => h1
  | d :: es, h, h1, h2 => by
    obtain ⟨d1, d2⟩ := h2 d List.mem_cons_self
    refine layAll_fi (es := es) (h := lay1 h d) ?_ fun x hx => h2 x (List.mem_cons_of_mem _ hx)
    unfold lay1
    split
    · refine withR_all (P := fun e => 0 < e.1 ∧ ∀ f ∈ e.2, inF l f.1 = true) ⟨d1, d2⟩ (fun e _ he => ⟨d1, fun f hx => ?_⟩) h1
      rcases List.mem_append.1 hx with hx | hx
      · exact he.2 f hx
      · exact d2 f hx
    · exact h1
theorem replE_zero {l : List Dm} {a b : Int} {h es : List En} (e : replE l a b h es = 0) : rightF l a b 0 es = true ∧ (replH a b h es).length ≤ 5000 ∧ ∀ x ∈ replH a b h es, x.2.length ≤ 200 := by
  unfold replE at e
  split at e
  · omega
  · rename_i h1
    split at e
    · omega
    · rename_i h2
      refine ⟨by simpa using h1, by omega, fun x hx => ?_⟩
      rcases Nat.lt_or_ge 200 x.2.length with h3 | h3
      · exact absurd (.inr (List.any_eq_true.2 ⟨x, hx, decide_eq_true h3⟩)) h2
      · exact h3
theorem okH.repl {l : List Dm} {h : List En} (o : okH l 5000 200 h) (a b : Int) (es : List En) : okH l 5000 200 (replF l a b h es) := by
  unfold replF
  by_cases e : replE l a b h es = 0
  · rw [if_pos e]
    obtain ⟨h1, h2, h3⟩ := replE_zero e
    obtain ⟨g1, g2⟩ := rightF_all h1
    have hr := o.rest a b
    have hf := layAll_fi (l := l) (h := restH a b h) (es := es) (fun e he => ⟨hr.ti e he, hr.fi e he⟩) (fun e he => ⟨(g2 e he).1, (fitsF_of (g2 e he).2.1).2⟩)
    exact ⟨layAll_risen hr.rs, fun e he => (hf e he).1, fun e he => (hf e he).2, h2, h3⟩
  · rw [if_neg e]; exact o
theorem replH_at {a b : Int} {h es : List En} (hs : risen h) (he : risen es) (s : Int) : atT (replH a b h es) s = (atT h s).filter (outR a b) ++ atT es s := by
  unfold replH
  rw [layAll_at s (restH_risen hs) he, restH_at s hs]
theorem filter_out (a b : Int) (l : List Fc) : (l.filter (outR a b)).filter (inR a b) = [] := by
  rw [List.filter_filter]
  exact List.filter_eq_nil_iff.2 fun x _ => by unfold outR; cases inR a b x <;> simp
theorem entF_put {a b : Int} {h c : List En} (hs : risen h) (hc : risen c) : entF a b (replH a b h (entF a b c)) = entF a b c := by
  refine hist_ext (entF_risen (layAll_risen (restH_risen hs))) (entF_risen hc) (fun e he => (entF_mem he).choose_spec.2.2) (fun e he => (entF_mem he).choose_spec.2.2) fun s => ?_
  rw [entF_at s (show risen (replH a b h (entF a b c)) from layAll_risen (restH_risen hs)), replH_at hs (entF_risen hc), List.filter_append, filter_out, List.nil_append, entF_at s hc, List.filter_filter]
  congr 1
  funext x; simp
def allF (h : List En) : List Fc := (h.map (·.2)).flatten
def tillF (h : List En) (t : Int) : List Fc := allF (h.filter fun e => decide (e.1 ≤ t))
theorem upTo_filter : ∀ {h : List En} (t : Int), risen h → h.take (upTo h t) = h.filter fun e => decide (e.1 ≤ t)
  | [], t, _ => by simp
  | e :: h, t, hs => by
    obtain ⟨h1, h2⟩ := risen_cons.1 hs
    rw [upTo_cons]
    have out : t ≤ e.1 → (h.filter fun e => decide (e.1 ≤ t)) = [] := fun hle => List.filter_eq_nil_iff.2 fun x hx => by have := h1 x hx; simp; omega
    by_cases hl : e.1 < t
    · rw [if_pos hl, List.take_succ_cons, upTo_filter t h2, List.filter_cons_of_pos (by simp; omega)]
    · rw [if_neg hl]
      by_cases he : e.1 = t
      · rw [if_pos he, List.filter_cons_of_pos (by simp; omega), out (by omega)]; simp
      · rw [if_neg he, List.filter_cons_of_neg (by simp; omega), out (by omega)]; simp
theorem allI_till {h : List En} (hs : risen h) (t : Int) : allI h (upTo h t) = tillF h t := by
  unfold allI tillF allF
  rw [upTo_filter t hs]
theorem allF_cons (e : En) (h : List En) : allF (e :: h) = e.2 ++ allF h := rfl
theorem entF_allF (a b : Int) : ∀ h : List En, allF (entF a b h) = (allF h).filter (inR a b)
  | [] => rfl
  | e :: h => by
    have ih := entF_allF a b h
    rw [allF_cons, List.filter_append, ← ih]
    show allF (List.filterMap (entE a b) (e :: h)) = _
    rcases entE_or a b e with ⟨h1, h2⟩ | h1
    · rw [List.filterMap_cons_none h1, h2]; rfl
    · rw [List.filterMap_cons_some h1]; rfl
theorem till_ent (a b t : Int) (h : List En) : (tillF h t).filter (inR a b) = tillF (entF a b h) t := by
  unfold tillF
  rw [← entF_allF]
  congr 1
  unfold entF
  induction h with
  | nil => rfl
  | cons e h ih =>
    by_cases he : e.1 ≤ t
    · rw [List.filter_cons_of_pos (by simpa using he)]
      rcases entE_or a b e with ⟨h1, h2⟩ | h1
      · rw [List.filterMap_cons_none h1, List.filterMap_cons_none h1, ih]
      · rw [List.filterMap_cons_some h1, List.filterMap_cons_some h1, List.filter_cons_of_pos (by simpa using he), ih]
    · rw [List.filter_cons_of_neg (by simpa using he)]
      rcases entE_or a b e with ⟨h1, h2⟩ | h1
      · rw [List.filterMap_cons_none h1, ih]
      · rw [List.filterMap_cons_some h1, List.filter_cons_of_neg (by simpa using he), ih]
theorem atT_of : ∀ {h : List En} {e : En}, risen h → e ∈ h → atT h e.1 = e.2
  | [], _, _, he => by simp at he
  | d :: h, e, hs, he => by
    obtain ⟨h1, h2⟩ := risen_cons.1 hs
    unfold atT
    rcases List.mem_cons.1 he with rfl | he
    · rw [if_pos rfl]
    · have := h1 e he
      rw [if_neg (by omega)]; exact atT_of h2 he
theorem atT_len {m : Nat} : ∀ {h : List En} (s : Int), (∀ e ∈ h, e.2.length ≤ m) → (atT h s).length ≤ m
  | [], s, _ => by simp [atT]
  | d :: h, s, hp => by
    unfold atT
    split
    · exact hp d List.mem_cons_self
    · exact atT_len s fun x hx => hp x (List.mem_cons_of_mem _ hx)
theorem layAll_fl {n k : Nat} {es h : List En} (hs : risen h) (he : risen es) (h1 : ∀ e ∈ h, e.2.length ≤ n) (h2 : ∀ e ∈ es, e.2.length ≤ k) : ∀ e ∈ layAll h es, e.2.length ≤ n + k := fun e hx => by
  have h3 := atT_of (layAll_risen (es := es) hs) hx
  rw [layAll_at _ hs he] at h3
  have h4 := congrArg List.length h3
  rw [List.length_append] at h4
  have h5 := atT_len e.1 h1
  have h6 := atT_len e.1 h2
  omega
theorem rightF_len {l : List Dm} {a b T : Int} : ∀ {es : List En} {last : Int}, rightF l a b last es = true → last < T → (∀ e ∈ es, e.1 < T) → (es.length : Int) + last < T
  | [], last, _, h1, _ => by simp; exact h1
  | e :: es, last, h, h1, h2 => by
    obtain ⟨g1, _, _, g4⟩ := rightF_cons h
    have := rightF_len g4 (h2 e List.mem_cons_self) fun x hx => h2 x (List.mem_cons_of_mem _ hx)
    rw [List.length_cons]; omega
end Go.Proofs.YtgjdjdjhoipfmaaGreatDoor.A
open Go Go.RowKit Go.Proofs.YtgjdjdjhoipfmaaGreatDoor.K Go.Proofs.YtgjdjdjhoipfmaaGreatDoor.T
set_option linter.unusedVariables false
set_option linter.unusedSimpArgs false
namespace Go.Proofs.YtgjdjdjhoipfmaaGreatDoor.A
variable {F F' : Nat → Option (List Value)} {M M' : Nat → Option Chunk} {N N' : Nat} {K : Kont} {E : PanK}
section
variable {h : Hp}
theorem h_fa {b o off : Nat} (k : K (.pointer (some ⟨b, o + off, none⟩)) h) : pv (faV off (.pointer (some ⟨b, o, none⟩))) K h := ⟨_, rfl, k⟩
end
end Go.Proofs.YtgjdjdjhoipfmaaGreatDoor.A
open Go Go.RowKit Go.Proofs.YtgjdjdjhoipfmaaGreatDoor.K
set_option linter.unusedVariables false
set_option maxRecDepth 100000
namespace Go.Proofs.YtgjdjdjhoipfmaaGreatDoor.T
section
variable (K : Kont) (E : PanK) (k1 k2 k3 k4 k5 : Env → Hp → Prop) (x0 x1 x2 x3 x4 x5 x6 x7 x8 x9 x10 x11 x12 x13 x14 x15 x16 x17 x18 x19 x20 x21 x22 x23 x24 x25 x26 x27 x28 x29 x30 x31 x32 x33 x34 x35 x36 x37 x38 x39 x40 x41 x42 x43 x44 x45 x46 x47 x48 x49 x50 x51 x52 x53 x54 x55 x56 x57 x58 x59 x60 x61 x62 x63 x64 x65 x66 x67 x68 x69 x70 x71 x72 x73 x74 x75 x76 x77 x78 x79 x80 x81 x82 x83 x84 x85 x86 x87 x88 v0 v1 v2 v3 v4 v5 v6 v7 v8 v9 v10 v11 v12 v13 v14 v15 v16 v17 v18 v19 v20 v21 v22 v23 v24 v25 v26 v27 v28 v29 v30 v31 v32 v33 v34 v35 v36 v37 v38 v39 v40 v41 v42 v43 v44 v45 v46 v47 v48 v49 v50 v51 v52 v53 v54 v55 v56 v57 v58 v59 v60 v61 v62 v63 v64 v65 v66 v67 v68 v69 v70 v71 v72 v73 v74 v75 v76 v77 v78 v79 v80 v81 v82 v83 v84 v85 v86 v87 v88 : Value) (j : Nat → Value)
abbrev q11 : QD := bodyQ Tryz.prog Tryz.f11.results.toList K E
abbrev d11 (p : List Nat) : QD → Env → Hp → Prop := den Tryz.prog (sel (bodyOf Tryz.f11) p)
theorem t11 : d11 [] (q11 K E) #[U, U, U, U, U, U, U, U, U, U, U, U, U, U, U, U, U, U, U, U, U, U, U, U, U, U, U, U, U, U, U, U, U, U, U, U, U, U, U, U, U, U, U, U, U, U, U, U, U, U, U, U, U, U, U, U, U, U, U, U, U, U, U, U, U, U, U, U, U, U, U, U, U, U, U, U, U, U, U, U, U, U, U, U, U, U, U, U, U] =
  pv (bdC #[(.int .i64 0), (.slice none 0 0)] [(0, 1), (1, 1)] #[(0, (.int .i64 5))]) fun t1 =>
  nws 74 1 (bsC #[(.int .i64 0), (.slice none 0 0)] 2 1 #[(0, t1)]) fun t2 =>
  callv Tryz.prog (.func (.func 13) #[] #[]) #[t2] (fun t3 =>
  pv (binV .ptr .eql t3 (.pointer none)) fun t4 =>
  cnd t4 (
   K (.bool false)) (
   nws 3 1 (bsC #[(.int .i64 0)] 1 1 #[(0, (.int .i64 1))]) fun t5 =>
   pv (bdC #[(.slice none 0 0), (.int .i64 0)] [(0, 1), (1, 1)] #[(0, t5), (1, (.int .i64 5))]) fun t6 =>
   nws 48 1 (bsC #[(.slice none 0 0), (.int .i64 0)] 2 1 #[(0, t6)]) fun t7 =>
   callv Tryz.prog (.func (.func 15) #[] #[]) #[t3, (.int .u32 2), t7] (fun t8 =>
   nws 3 1 (bsC #[(.int .i64 0)] 1 1 #[(0, (.int .i64 1))]) fun t9 =>
   pv (bdC #[(.slice none 0 0), (.int .i64 0)] [(0, 1), (1, 1)] #[(0, t9), (1, (.int .i64 7))]) fun t10 =>
   nws 48 1 (bsC #[(.slice none 0 0), (.int .i64 0)] 2 1 #[(0, t10)]) fun t11 =>
   callv Tryz.prog (.func (.func 15) #[] #[]) #[t3, (.int .u32 1), t11] (fun t12 =>
   nws 3 1 (bsC #[(.int .i64 0)] 1 1 #[(0, (.int .i64 0))]) fun t13 =>
   nws 3 1 (bsC #[(.int .i64 0)] 1 1 #[(0, (.int .i64 0))]) fun t14 =>
   nws 3 1 (bsC #[(.int .i64 0)] 1 1 #[(0, (.int .i64 5))]) fun t15 =>
   pv (bdC #[(.slice none 0 0), (.slice none 0 0), (.slice none 0 0)] [(0, 1), (1, 1), (2, 1)] #[(0, t13), (1, t14), (2, t15)]) fun t16 =>
   nw 36 [(.slice none 0 0), (.slice none 0 0), (.slice none 0 0)] fun t17 =>
   st 3 t17 t16 fun _ =>
   ld true 3 t17 fun t18 =>
   callv Tryz.prog (.func (.func 17) #[] #[]) #[t3, t18, (.int .u32 1)] (fun t19 =>
   pv (exV 0 t19) fun t20 =>
   pv (exV 1 t19) fun t21 =>
   ld true 3 t17 fun t22 =>
   callv Tryz.prog (.func (.func 17) #[] #[]) #[t3, t22, (.int .u32 2)] (fun t23 =>
   pv (exV 0 t23) fun t24 =>
   pv (exV 1 t23) fun t25 =>
   pv (binV .none .eql t8 (.int .u16 0)) fun t26 =>
   gdK t26 true (fun k => k t12) fun t27 =>
   gdK t26 true (fun k => pv (binV .none .eql t27 (.int .u16 0)) k) fun t28 =>
   pv (pickV t26 t28 (.bool false)) fun t29 =>
   gdK t29 true (fun k => k t21) fun t30 =>
   gdK t29 true (fun k => pv (binV .none .eql t30 (.int .u16 0)) k) fun t31 =>
   pv (pickV t29 t31 (.bool false)) fun t32 =>
   gdK t32 true (fun k => k t25) fun t33 =>
   gdK t32 true (fun k => pv (binV .none .eql t33 (.int .u16 0)) k) fun t34 =>
   pv (pickV t32 t34 (.bool false)) fun t35 =>
   gdK t35 true (fun k => k t20) fun t36 =>
   gdK t35 true (fun k => pv (lenV t36) k) fun t37 =>
   gdK t35 true (fun k => pv (binV .none .eql t37 (.int .i64 1)) k) fun t38 =>
   pv (pickV t35 t38 (.bool false)) fun t39 =>
   gdK t39 true (fun k => k t20) fun t40 =>
   gdK t39 true (fun k => pv (iaV none 5 t40 (.int .i64 0)) k) fun t41 =>
   gdK t39 true (fun k => pv (faV 1 t41) k) fun t42 =>
   gdK t39 true (fun k => pv (faV 1 t42) k) fun t43 =>
   gdK t39 true (fun k => ld false 1 t43 k) fun t44 =>
   gdK t39 true (fun k => pv (binV .none .eql t44 (.int .i64 7)) k) fun t45 =>
   pv (pickV t39 t45 (.bool false)) fun t46 =>
   gdK t46 true (fun k => k t24) fun t47 =>
   gdK t46 true (fun k => pv (lenV t47) k) fun t48 =>
   gdK t46 true (fun k => pv (binV .none .eql t48 (.int .i64 1)) k) fun t49 =>
   pv (pickV t46 t49 (.bool false)) fun t50 =>
   gdK t50 true (fun k => k t24) fun t51 =>
   gdK t50 true (fun k => pv (iaV none 5 t51 (.int .i64 0)) k) fun t52 =>
   gdK t50 true (fun k => pv (faV 1 t52) k) fun t53 =>
   gdK t50 true (fun k => pv (faV 1 t53) k) fun t54 =>
   gdK t50 true (fun k => ld false 1 t54 k) fun t55 =>
   gdK t50 true (fun k => pv (binV .none .eql t55 (.int .i64 12)) k) fun t56 =>
   pv (pickV t50 t56 (.bool false)) fun t57 =>
   gdK t57 true (fun k => callv Tryz.prog (.func (.func 13) #[] #[]) #[(.slice none 0 0)] k E) fun t58 =>
   gdK t57 true (fun k => pv (binV .ptr .eql t58 (.pointer none)) k) fun t59 =>
   pv (pickV t57 t59 (.bool false)) fun t60 =>
   gdK t60 true (fun k => k t3) fun t61 =>
   gdK t60 true (fun k => callv Tryz.prog (.func (.func 15) #[] #[]) #[t61, (.int .u32 2), (.slice none 0 0)] k E) fun t62 =>
   gdK t60 true (fun k => pv (binV .none .eql t62 (.int .u16 130)) k) fun t63 =>
   pv (pickV t60 t63 (.bool false)) fun t64 =>
   K t64) E) E) E) E)) E := by kernel_rfl
end
section
variable {K : Kont} {E : PanK} {k1 k2 k3 k4 k5 : Env → Hp → Prop} {σ : Type} {x0 x1 x2 x3 x4 x5 x6 x7 x8 x9 x10 x11 x12 x13 x14 x15 x16 x17 x18 x19 x20 x21 x22 x23 x24 x25 x26 x27 x28 x29 x30 x31 x32 x33 x34 x35 x36 x37 x38 x39 x40 x41 x42 x43 x44 x45 x46 x47 x48 x49 x50 x51 x52 x53 x54 x55 x56 x57 x58 x59 x60 x61 x62 x63 x64 x65 x66 x67 x68 x69 x70 x71 x72 x73 x74 x75 x76 x77 x78 x79 x80 x81 x82 x83 x84 x85 x86 x87 x88 v0 v1 v2 v3 v4 v5 v6 v7 v8 v9 v10 v11 v12 v13 v14 v15 v16 v17 v18 v19 v20 v21 v22 v23 v24 v25 v26 v27 v28 v29 v30 v31 v32 v33 v34 v35 v36 v37 v38 v39 v40 v41 v42 v43 v44 v45 v46 v47 v48 v49 v50 v51 v52 v53 v54 v55 v56 v57 v58 v59 v60 v61 v62 v63 v64 v65 v66 v67 v68 v69 v70 v71 v72 v73 v74 v75 v76 v77 v78 v79 v80 v81 v82 v83 v84 v85 v86 v87 v88 : Value} {h : Hp} {j : Nat → Value}
end
end Go.Proofs.YtgjdjdjhoipfmaaGreatDoor.T
open Go Go.RowKit Go.Proofs.YtgjdjdjhoipfmaaGreatDoor.K Go.Proofs.YtgjdjdjhoipfmaaGreatDoor.T
set_option linter.unusedVariables false
set_option linter.unusedSimpArgs false
namespace Go.Proofs.YtgjdjdjhoipfmaaGreatDoor.A
variable {F F' : Nat → Option (List Value)} {M M' : Nat → Option Chunk} {N N' : Nat} {K : Kont} {E : PanK}
theorem isCube.keep {B g : Nat} {hv dv : Value} {rows : List (List Value)} {l : List Dm} {h : List En} (hC : isCube F M B g hv dv rows l h) (hF : subF F F') (hM : ∀ q, q = g ∨ hv.ownBlock = some q → M' q = M q) : isCube F' M' B g hv dv rows l h :=
  ⟨(hM g (.inl rfl)).trans hC.gg, hC.gB, hC.oo.keep (fun q h => hM q (.inr h)) (Nat.le_refl _), hC.rr.mono fun _ _ h => h.mono hF, hC.vg, hC.dd.mono hF, hC.rs⟩
theorem isCube.lt {B g : Nat} {hv dv : Value} {rows : List (List Value)} {l : List Dm} {h : List En} (hC : isCube F M B g hv dv rows l h) (hm : clean M N) : ∀ q, q = g ∨ hv.ownBlock = some q → B ≤ q ∧ q < N := fun q hq => by
  rcases hq with rfl | hq
  · exact ⟨hC.gB, hm.lt hC.gg⟩
  · exact ⟨(hC.oo.ge q hq).1, hC.oo.lt hm q hq⟩
theorem one_fact {b c : Nat} {x v : Int} (h1 : F b = some [.int .i64 x]) (h2 : F c = some [.slice (some ⟨b, 0, none⟩) 1 1, .int .i64 v]) : fctsD F (.slice (some ⟨c, 0, none⟩) 1 1) [([x], v)] :=
  ⟨[[.slice (some ⟨b, 0, none⟩) 1 1, .int .i64 v]], sF_lit h2 rfl (by decide), fcts_cons (int1 h1) (by simp) (rowsF.nil _ _)⟩
theorem fcts_nil {c : Nat} : fctsD F (.slice none 0 c) [] := ⟨[], sF.nil _ _ _, rowsF.nil _ _⟩
theorem lit1_r {x v : Int} {f : FuncId} {A : Value → Array Value} (hm : clean M N) (k : ∀ w F' N', subF F F' → N ≤ N' → fctsD F' w [([x], v)] → callv Tryz.prog (.func (.func f) #[] #[]) (A w) K E ⟨F', M, N'⟩) :
    nws 3 1 (bsC #[(.int .i64 0)] 1 1 #[(0, (.int .i64 x))]) (fun t5 => pv (bdC #[(.slice none 0 0), (.int .i64 0)] [(0, 1), (1, 1)] #[(0, t5), (1, (.int .i64 v))]) fun t6 => nws 48 1 (bsC #[(.slice none 0 0), (.int .i64 0)] 2 1 #[(0, t6)]) fun t7 => callv Tryz.prog (.func (.func f) #[] #[]) (A t7) K E) ⟨F, M, N⟩ := by
  refine nws_r (cs := [.int .i64 x]) (by kernel_rfl) (fun b5 hb5 => ?_)
  refine pv_r (v := .agg #[.slice (some ⟨b5, 0, none⟩) 1 1, .int .i64 v]) (by kernel_rfl) ?_
  refine nws_r (cs := [.slice (some ⟨b5, 0, none⟩) 1 1, .int .i64 v]) (by kernel_rfl) (fun b7 hb7 => ?_)
  refine callv_go (fun hc => ⟨_, frz_wf hm (fun q hq => (upd_ne _ _ (by omega)).trans (upd_ne _ _ (by omega))) hc, ?_⟩)
  have hs := subF_frzAll (N := N) hc
  have f7 := frz_at (F := F) (N := N) (b := b7) (by omega) (upd_same (upd M b5 (some (.cells 3 [.int .i64 x] [Value.int .i64 x].length))) b7 (some (.cells 48 [.slice (some ⟨b5, 0, none⟩) 1 1, .int .i64 v] [Value.slice (some ⟨b5, 0, none⟩) 1 1, .int .i64 v].length)))
  have f5 := frz_at (F := F) (N := N) (b := b5) (by omega) ((upd_ne _ (b := b7) (some (.cells 48 [.slice (some ⟨b5, 0, none⟩) 1 1, .int .i64 v] [Value.slice (some ⟨b5, 0, none⟩) 1 1, .int .i64 v].length)) (by omega)).trans (upd_same M b5 (some (.cells 3 [.int .i64 x] [Value.int .i64 x].length))))
  exact k _ _ _ hs (by omega) (one_fact f5 f7)
theorem addE_zero {l : List Dm} {h : List En} {t : Int} {fs : List Fc} (h1 : fitsF l fs = true) (h2 : t ≠ 0) (h3 : there h t = false) (h4 : h.length < 5000) : addE l h t fs = 0 := by
  unfold addE
  rw [if_neg (by rw [h1]; decide), if_neg (by rintro (q | q); exact h2 q; rw [h3] at q; cases q), if_neg (by omega)]
theorem known13 : addE [(5, [])] [] 2 [([1], 5)] = 0 ∧ addH [(5, [])] [] 2 [([1], 5)] = [(2, [([1], 5)])] ∧ addE [(5, [])] [(2, [([1], 5)])] 1 [([1], 7)] = 0 ∧ addH [(5, [])] [(2, [([1], 5)])] 1 [([1], 7)] = [(1, [([1], 7)]), (2, [([1], 5)])] ∧ addE [(5, [])] [(1, [([1], 7)]), (2, [([1], 5)])] 2 [] = 130 := by decide +kernel
theorem known13q : allI [(1, [([1], 7)]), (2, [([1], 5)])] (upTo [(1, [([1], 7)]), (2, [([1], 5)])] 1) = [([1], 7)] ∧ allI [(1, [([1], 7)]), (2, [([1], 5)])] (upTo [(1, [([1], 7)]), (2, [([1], 5)])] 2) = [([1], 7), ([1], 5)] ∧ tab ([([1], 7)].map fr1) = [([1], ⟨1, 7, 7, 7⟩)] ∧ tab ([([1], 7), ([1], 5)].map fr1) = [([1], ⟨2, 12, 5, 7⟩)] := by decide +kernel
theorem known13r : runE [(5, [])] [([1], ⟨1, 7, 7, 7⟩)] [0] [0] [5] = 0 ∧ runT [(5, [])] [([1], ⟨1, 7, 7, 7⟩)] [0] [0] [5] = [([1], ⟨1, 7, 7, 7⟩)] ∧ runE [(5, [])] [([1], ⟨2, 12, 5, 7⟩)] [0] [0] [5] = 0 ∧ runT [(5, [])] [([1], ⟨2, 12, 5, 7⟩)] [0] [0] [5] = [([1], ⟨2, 12, 5, 7⟩)] := by decide +kernel
set_option maxRecDepth 10000 in
set_option maxHeartbeats 4000000 in
theorem known13_c (k : ∀ F' N', subF F F' → N ≤ N' → (Hp.mk F' M N').wf → K (.bool true) ⟨F', M, N'⟩) : callv Tryz.prog (.func (.func 11) #[] #[]) #[] K E ⟨F, M, N⟩ := by
  refine callv_of_text mixed Tryz.func11 (by kernel_rfl) (t11 _ E) (fun hw => ?_)
  have hm : clean M N := hw.m
  refine pv_r (v := .agg #[.int .i64 5, .slice none 0 0]) (by kernel_rfl) ?_
  refine nws_r (cs := [.int .i64 5, .slice none 0 0]) (by kernel_rfl) (fun b2 hb2 => ?_)
  refine callv_go (fun hc => ⟨_, frz_wf hm (fun q hq => upd_ne _ _ (by omega)) hc, ?_⟩)
  have hs0 := subF_frzAll (N := N) hc
  have f2 := frz_at (F := F) (N := N) (b := b2) (by omega) (upd_same M b2 (some (.cells 74 [.int .i64 5, .slice none 0 0] [Value.int .i64 5, .slice none 0 0].length)))
  generalize frzAll F _ N = F0 at *
  clear hc
  have hd1 : dimD F0 [.int .i64 5, .slice none 0 0] (5, []) := ⟨_, rfl, sF.nil _ _ _, by decide⟩
  have hd : dimsD F0 (.slice (some ⟨b2, 0, none⟩) 1 1) [(5, [])] := ⟨[[.int .i64 5, .slice none 0 0]], sF_lit f2 rfl (by decide), rowsF_snoc1 (rowsF.nil (dimD F0) 2) hd1.one hd1⟩
  refine new_c hd (by decide) (fun h => absurd h (by decide)) (fun _ g dv F1 M1 N1 hF1 hC1 hM1 hN1 hm1 hw1 => ?_)
  try simp only [sS]
  refine pv_r (v := .bool false) rfl ?_
  try simp only [sS]
  refine lit1_r hm1 (fun w1 F2 N2 hF2 hN2 hf1 => ?_)
  have hC2 := hC1.keep (M' := M1) hF2 (fun _ _ => rfl)
  obtain ⟨e1, e2, e3, e4, e5⟩ := known13
  refine add_to_c hC2 (by omega) (by decide) (by decide) (by decide) hf1 (by decide) (fun hv3 F3 M3 N3 rows3 hF3 hC3 hM3 hN3 hm3 hw3 => ?_)
  rw [e1]
  rw [e2] at hC3
  refine lit1_r hm3 (fun w2 F4 N4 hF4 hN4 hf2 => ?_)
  refine add_to_c (hC3.keep (M' := M3) hF4 (fun _ _ => rfl)) (by omega) (by decide) (by decide) (by decide) hf2 (by decide) (fun hv5 F5 M5 N5 rows5 hF5 hC5 hM5 hN5 hm5 hw5 => ?_)
  rw [e3]
  rw [e4] at hC5
  refine nws_r (cs := [.int .i64 0]) (by kernel_rfl) (fun b13 hb13 => ?_)
  refine nws_r (cs := [.int .i64 0]) (by kernel_rfl) (fun b14 hb14 => ?_)
  refine nws_r (cs := [.int .i64 5]) (by kernel_rfl) (fun b15 hb15 => ?_)
  refine pv_r (v := .agg #[.slice (some ⟨b13, 0, none⟩) 1 1, .slice (some ⟨b14, 0, none⟩) 1 1, .slice (some ⟨b15, 0, none⟩) 1 1]) (by kernel_rfl) ?_
  refine nw_r (fun b17 hb17 => ?_)
  refine stM (cs' := [.slice (some ⟨b13, 0, none⟩) 1 1, .slice (some ⟨b14, 0, none⟩) 1 1, .slice (some ⟨b15, 0, none⟩) 1 1]) ?_
  rw [upd_upd]
  refine ldMa (vs := [.slice (some ⟨b13, 0, none⟩) 1 1, .slice (some ⟨b14, 0, none⟩) 1 1, .slice (some ⟨b15, 0, none⟩) 1 1]) ?_
  generalize hM7 : upd (upd (upd (upd M5 b13 _) b14 _) b15 _) b17 _ = M7
  have g17 : M7 b17 = some (.cells 36 [.slice (some ⟨b13, 0, none⟩) 1 1, .slice (some ⟨b14, 0, none⟩) 1 1, .slice (some ⟨b15, 0, none⟩) 1 1] 3) := by rw [← hM7]; exact upd_same _ _ _
  have g15 : M7 b15 = some (.cells 3 [.int .i64 5] 1) := by rw [← hM7]; exact (upd_ne _ _ (by omega)).trans (upd_same _ _ _)
  have g14 : M7 b14 = some (.cells 3 [.int .i64 0] 1) := by rw [← hM7]; exact (upd_ne _ _ (by omega)).trans ((upd_ne _ _ (by omega)).trans (upd_same _ _ _))
  have g13 : M7 b13 = some (.cells 3 [.int .i64 0] 1) := by rw [← hM7]; exact (upd_ne _ _ (by omega)).trans ((upd_ne _ _ (by omega)).trans ((upd_ne _ _ (by omega)).trans (upd_same _ _ _)))
  have hM75 : ∀ q, q < N5 → M7 q = M5 q := fun q hq => by rw [← hM7]; exact (upd_ne _ _ (by omega)).trans ((upd_ne _ _ (by omega)).trans ((upd_ne _ _ (by omega)).trans (upd_ne _ _ (by omega))))
  clear hM7
  obtain ⟨N7, hN7⟩ : ∃ n, n = b17 + 1 := ⟨_, rfl⟩
  rw [← hN7]
  refine callv_go (fun hc => ⟨_, wk_P (p := fun q => q = b13 ∨ q = b14 ∨ q = b15) hc, ?_⟩)
  have hs8 := subF_frzP (p := fun q => q = b13 ∨ q = b14 ∨ q = b15) hc
  have f13 := frzP_at (F := F5) (p := fun q => q = b13 ∨ q = b14 ∨ q = b15) (.inl rfl) g13
  have f14 := frzP_at (F := F5) (p := fun q => q = b13 ∨ q = b14 ∨ q = b15) (.inr (.inl rfl)) g14
  have f15 := frzP_at (F := F5) (p := fun q => q = b13 ∨ q = b14 ∨ q = b15) (.inr (.inr rfl)) g15
  have g17' : keepM M7 (fun q => ¬ (q = b13 ∨ q = b14 ∨ q = b15)) b17 = _ := (keepM_in (by omega)).trans g17
  have hM85 : ∀ q, q < N5 → keepM M7 (fun q => ¬ (q = b13 ∨ q = b14 ∨ q = b15)) q = M5 q := fun q hq => (keepM_in (by omega)).trans (hM75 q hq)
  generalize frzP F5 M7 _ = F8 at *
  generalize keepM M7 _ = M8 at *
  have hq : queryD F8 [.slice (some ⟨b13, 0, none⟩) 1 1, .slice (some ⟨b14, 0, none⟩) 1 1, .slice (some ⟨b15, 0, none⟩) 1 1] [0] [0] [5] := ⟨_, _, _, rfl, int1 f13, int1 f14, int1 f15, by decide, by decide, by decide⟩
  have hC8 := hC5.keep (M' := M8) hs8 (fun q hq => hM85 q (hC5.lt hm5 q hq).2)
  obtain ⟨a1, a2, a3, a4⟩ := known13q
  obtain ⟨r1, r2, r3, r4⟩ := known13r
  refine cquery_c hC8 (by decide) (by decide) (by decide) (by simp [okK, i64]) hq (by simp [i64]) (by rw [a1, a3]; simp [okK, i64]) (fun u9 F9 N9 hw9 hF9 hN9 h9 => ?_)
  rw [a1, a3, r1]
  rw [a1, a3, r2] at h9
  try simp only [sS]
  refine ldMa (vs := [.slice (some ⟨b13, 0, none⟩) 1 1, .slice (some ⟨b14, 0, none⟩) 1 1, .slice (some ⟨b15, 0, none⟩) 1 1]) ?_ g17'
  refine cquery_c (hC8.keep (M' := M8) hF9 (fun _ _ => rfl)) (by decide) (by decide) (by decide) (by simp [okK, i64]) (hq.mono hF9) (by simp [i64]) (by rw [a2, a4]; simp [okK, i64]) (fun u10 F10 N10 hw10 hF10 hN10 h10 => ?_)
  rw [a2, a4, r3]
  rw [a2, a4, r4] at h10
  obtain ⟨p9, h9a, h9b⟩ := h9.mono hF10
  obtain ⟨p10, h10a, h10b⟩ := h10
  try simp only [sS]
  refine eql_t rfl ?_
  try simp only [sS]
  refine eql_t rfl ?_
  try simp only [sS]
  refine eql_t rfl ?_
  try simp only [sS]
  refine eql_t rfl ?_
  try simp only [sS]
  refine lenF_r h9a (eql_t rfl ?_)
  try simp only [sS]
  refine cf_r 1 (i := 0) (x := .int .i64 7) h9a h9b (by decide) rfl fun p q q' => ?_
  refine eql_t rfl ?_
  try simp only [sS]
  refine lenF_r h10a (eql_t rfl ?_)
  try simp only [sS]
  refine cf_r 1 (i := 0) (x := .int .i64 12) h10a h10b (by decide) rfl fun p q q' => ?_
  refine eql_t rfl ?_
  try simp only [sS]
  refine new_c (l := []) ⟨[], sF.nil _ _ _, rowsF.nil _ _⟩ (by decide) (fun _ N11 hN11 hw11 => ?_) (fun h => absurd h (by decide))
  refine pv_r (v := .bool true) rfl ?_
  try simp only [sS]
  refine add_to_c (hC8.keep (M' := M8) (hF9.trans hF10) (fun _ _ => rfl)) (by omega) (by decide) (by decide) (by decide) fcts_nil (by decide) (fun hv12 F12 M12 N12 rows12 hF12 hC12 hM12 hN12 hm12 hw12 => ?_)
  rw [e5]
  refine eql_t rfl ?_
  try simp only [sS]
  have hgN : N ≤ g := by have := hC1.gB; omega
  have hX : ∀ q, q < N → M12 q = M q := fun q hq => by
    have n5 : hv5.ownBlock ≠ some q := fun e => by have := (hC5.oo.ge q e).1; omega
    have n3 : hv3.ownBlock ≠ some q := fun e => by have := (hC3.oo.ge q e).1; omega
    have := (hM12 q n5 (by omega) (by omega)).1
    rw [this, hM85 q (by omega), (hM5 q n3 (by omega) (by omega)).1, (hM3 q (by simp [Value.ownBlock]) (by omega) (by omega)).1, hM1 q (by omega)]
  refine fun hc => ⟨_, frz_wf hm hX hc, fun hw' => k _ _ ((((((((hs0.trans hF1).trans hF2).trans hF3).trans hF4).trans hF5).trans hs8).trans (hF9.trans hF10)).trans (hF12.trans (subF_frzAll hc))) (by omega) hw'⟩
end Go.Proofs.YtgjdjdjhoipfmaaGreatDoor.A
open Go Go.RowKit Go.Proofs.YtgjdjdjhoipfmaaGreatDoor.K
set_option linter.unusedVariables false
set_option maxRecDepth 100000
namespace Go.Proofs.YtgjdjdjhoipfmaaGreatDoor.T
section
variable (K : Kont) (E : PanK) (k1 k2 k3 k4 k5 : Env → Hp → Prop) (x0 x1 x2 x3 x4 x5 x6 x7 x8 x9 x10 x11 x12 x13 x14 x15 x16 x17 x18 x19 x20 x21 x22 x23 x24 x25 x26 x27 x28 x29 x30 x31 x32 x33 x34 x35 x36 x37 x38 x39 x40 x41 x42 x43 x44 x45 x46 x47 x48 x49 x50 x51 x52 x53 x54 x55 x56 x57 x58 x59 x60 x61 x62 x63 x64 x65 x66 x67 x68 x69 x70 x71 x72 x73 x74 x75 x76 x77 x78 x79 x80 x81 x82 x83 x84 x85 x86 x87 x88 x89 x90 x91 x92 x93 x94 x95 x96 x97 x98 x99 x100 x101 x102 x103 x104 x105 x106 x107 x108 x109 x110 x111 x112 x113 x114 x115 x116 x117 x118 x119 x120 v0 v1 v2 v3 v4 v5 v6 v7 v8 v9 v10 v11 v12 v13 v14 v15 v16 v17 v18 v19 v20 v21 v22 v23 v24 v25 v26 v27 v28 v29 v30 v31 v32 v33 v34 v35 v36 v37 v38 v39 v40 v41 v42 v43 v44 v45 v46 v47 v48 v49 v50 v51 v52 v53 v54 v55 v56 v57 v58 v59 v60 v61 v62 v63 v64 v65 v66 v67 v68 v69 v70 v71 v72 v73 v74 v75 v76 v77 v78 v79 v80 v81 v82 v83 v84 v85 v86 v87 v88 v89 v90 v91 v92 v93 v94 v95 v96 v97 v98 v99 v100 v101 v102 v103 v104 v105 v106 v107 v108 v109 v110 v111 v112 v113 v114 v115 v116 v117 v118 v119 v120 : Value) (j : Nat → Value)
abbrev q3 : QD := bodyQ Tryz.prog Tryz.f3.results.toList K E
abbrev d3 (p : List Nat) : QD → Env → Hp → Prop := den Tryz.prog (sel (bodyOf Tryz.f3) p)
end
section
variable {K : Kont} {E : PanK} {k1 k2 k3 k4 k5 : Env → Hp → Prop} {σ : Type} {x0 x1 x2 x3 x4 x5 x6 x7 x8 x9 x10 x11 x12 x13 x14 x15 x16 x17 x18 x19 x20 x21 x22 x23 x24 x25 x26 x27 x28 x29 x30 x31 x32 x33 x34 x35 x36 x37 x38 x39 x40 x41 x42 x43 x44 x45 x46 x47 x48 x49 x50 x51 x52 x53 x54 x55 x56 x57 x58 x59 x60 x61 x62 x63 x64 x65 x66 x67 x68 x69 x70 x71 x72 x73 x74 x75 x76 x77 x78 x79 x80 x81 x82 x83 x84 x85 x86 x87 x88 x89 x90 x91 x92 x93 x94 x95 x96 x97 x98 x99 x100 x101 x102 x103 x104 x105 x106 x107 x108 x109 x110 x111 x112 x113 x114 x115 x116 x117 x118 x119 x120 v0 v1 v2 v3 v4 v5 v6 v7 v8 v9 v10 v11 v12 v13 v14 v15 v16 v17 v18 v19 v20 v21 v22 v23 v24 v25 v26 v27 v28 v29 v30 v31 v32 v33 v34 v35 v36 v37 v38 v39 v40 v41 v42 v43 v44 v45 v46 v47 v48 v49 v50 v51 v52 v53 v54 v55 v56 v57 v58 v59 v60 v61 v62 v63 v64 v65 v66 v67 v68 v69 v70 v71 v72 v73 v74 v75 v76 v77 v78 v79 v80 v81 v82 v83 v84 v85 v86 v87 v88 v89 v90 v91 v92 v93 v94 v95 v96 v97 v98 v99 v100 v101 v102 v103 v104 v105 v106 v107 v108 v109 v110 v111 v112 v113 v114 v115 v116 v117 v118 v119 v120 : Value} {h : Hp} {j : Nat → Value}
end
end Go.Proofs.YtgjdjdjhoipfmaaGreatDoor.T
open Go Go.RowKit Go.Proofs.YtgjdjdjhoipfmaaGreatDoor.K Go.Proofs.YtgjdjdjhoipfmaaGreatDoor.T
set_option linter.unusedVariables false
set_option linter.unusedSimpArgs false
namespace Go.Proofs.YtgjdjdjhoipfmaaGreatDoor.A
variable {F F' : Nat → Option (List Value)} {M M' : Nat → Option Chunk} {N N' : Nat} {K : Kont} {E : PanK}
theorem runT_len (l : List Dm) (t : List Rw) (m lo hi : List Int) : (runT l t m lo hi).length ≤ t.length := by
  have h1 := rollT_len l (cutF lo hi t) (zeros l.length) m
  have h2 := cutF_len lo hi t
  unfold runT
  split
  · unfold runRows; omega
  · simp
theorem keyOf_in {l : List Dm} (hs : ∀ d ∈ l, 0 < d.1 ∧ d.1 ≤ 1000000) (c : List Int) : inF l (keyOf l c) = true := by
  have hkl := keyOf_len l c
  unfold inF
  rw [decide_eq_true hkl, Bool.true_and, List.all_eq_true]
  intro i hi
  have hi' : i < l.length := List.mem_range.1 hi
  have := keyOf_at (c := c) hs (by omega : i < (keyOf l c).length) hi'
  unfold inP
  rw [getD_at (by omega : i < (keyOf l c).length), getD_at hi']
  exact decide_eq_true this
theorem goodDims_sz {l : List Dm} (h : goodDims l) : ∀ d ∈ l, 0 < d.1 ∧ d.1 ≤ 1000000 := fun d hd => by have := h.2.2 d hd; omega
theorem facts_fit {l : List Dm} (hl : goodDims l) (ks : List (List Int)) (v : List Int) : fitsF l (factsOf l ks v) = true := by
  refine of_fitsF (by rw [factsOf_len]; omega) fun f hf => ?_
  obtain ⟨c, hc⟩ := (factsOf_mem hf).1
  rw [hc]; exact keyOf_in (goodDims_sz hl) c
theorem u32w {x : Int} (h0 : 0 ≤ x) (h1 : x < 4294967296) : IntKind.u32.wrap x = x := by
  unfold IntKind.wrap
  simp [IntKind.bits, IntKind.signed]
  omega
theorem u32_cv {k : IntKind} {x : Int} {h : Hp} (h0 : 0 ≤ x) (h1 : x < 4294967296) (kk : K (.int .u32 x) h) : pv (cvV .u32 (.int k x)) K h := ⟨_, rfl, by rw [u32w h0 h1]; exact kk⟩
theorem u32_add {e : EqK} {a b : Int} {h : Hp} (h0 : 0 ≤ a + b) (h1 : a + b < 4294967296) (kk : K (.int .u32 (a + b)) h) : pv (binV e .add (.int .u32 a) (.int .u32 b)) K h := ⟨_, by rw [inV]; rfl, by rw [u32w h0 h1]; exact kk⟩
theorem ptr_ne {b : Nat} {h : Hp} (k : K (.bool false) h) : pv (binV .ptr .eql (.pointer (some ⟨b, 0, none⟩)) (.pointer none)) K h := ⟨_, rfl, k⟩
end Go.Proofs.YtgjdjdjhoipfmaaGreatDoor.A
open Go Go.RowKit Go.Proofs.YtgjdjdjhoipfmaaGreatDoor.K Go.Proofs.YtgjdjdjhoipfmaaGreatDoor.T
set_option linter.unusedVariables false
set_option linter.unusedSimpArgs false
namespace Go.Proofs.YtgjdjdjhoipfmaaGreatDoor.A
variable {F F' : Nat → Option (List Value)} {M M' : Nat → Option Chunk} {N N' : Nat} {K : Kont} {E : PanK}
end Go.Proofs.YtgjdjdjhoipfmaaGreatDoor.A
open Go Go.RowKit Go.Proofs.YtgjdjdjhoipfmaaGreatDoor.K
set_option linter.unusedVariables false
set_option maxRecDepth 100000
namespace Go.Proofs.YtgjdjdjhoipfmaaGreatDoor.T
section
variable (K : Kont) (E : PanK) (k1 k2 k3 k4 k5 : Env → Hp → Prop) (x0 x1 x2 x3 x4 x5 x6 x7 x8 x9 x10 x11 x12 x13 x14 x15 x16 x17 x18 x19 x20 x21 x22 x23 x24 x25 x26 x27 x28 x29 x30 x31 x32 x33 x34 x35 x36 x37 x38 x39 x40 x41 x42 x43 x44 x45 x46 x47 x48 x49 x50 x51 x52 x53 x54 x55 x56 x57 x58 x59 x60 x61 x62 x63 x64 x65 x66 x67 x68 x69 x70 x71 x72 x73 x74 x75 x76 x77 x78 x79 x80 x81 x82 x83 v0 v1 v2 v3 v4 v5 v6 v7 v8 v9 v10 v11 v12 v13 v14 v15 v16 v17 v18 v19 v20 v21 v22 v23 v24 v25 v26 v27 v28 v29 v30 v31 v32 v33 v34 v35 v36 v37 v38 v39 v40 v41 v42 v43 v44 v45 v46 v47 v48 v49 v50 v51 v52 v53 v54 v55 v56 v57 v58 v59 v60 v61 v62 v63 v64 v65 v66 v67 v68 v69 v70 v71 v72 v73 v74 v75 v76 v77 v78 v79 v80 v81 v82 v83 : Value) (j : Nat → Value)
abbrev q19 : QD := bodyQ Tryz.prog Tryz.f19.results.toList K E
abbrev d19 (p : List Nat) : QD → Env → Hp → Prop := den Tryz.prog (sel (bodyOf Tryz.f19) p)
def m19_1_1_0_1_0_0 (j : Nat → Value) : Env := #[x0, x1, x2, x3, x4, x5, x6, v7, x8, (j 9), (j 10), x11, x12, x13, x14, x15, v16, (j 17), (j 18), (j 19), (j 20), (j 21), (j 22), (j 23), (j 24), (j 25), (j 26), (j 27), (j 28), (j 29), (j 30), (j 31), (j 32), (j 33), (j 34), (j 35), (j 36), x37]
theorem t19 : d19 [] (q19 K E) #[x0, x1, x2, U, U, U, U, U, U, U, U, U, U, U, U, U, U, U, U, U, U, U, U, U, U, U, U, U, U, U, U, U, U, U, U, U, U, U] =
  pv (nilV x0) fun t1 =>
  pv (faV 0 t1) fun t2 =>
  ld false 1 t2 fun t3 =>
  pv (lenV t3) fun t4 =>
  lp (fun k1 => d19 [1, 1, 0, 1, 0, 0] (thenD k1 (blk 0 (thenD (d19 [1, 1, 1] (q19 K E)) (q19 K E))))) (m19_1_1_0_1_0_0 x0 x1 x2 U U U (.slice none 0 0) U x0 t1 t2 t3 t4 U (.slice none 0 0) (.int .i64 0) (jf #[])) := by kernel_rfl
theorem t19_1_1_0_1_0_0 : d19 [1, 1, 0, 1, 0, 0] (thenD k1 (blk 0 (thenD (d19 [1, 1, 1] (q19 K E)) (q19 K E)))) (m19_1_1_0_1_0_0 x0 x1 x2 x3 x4 x5 x6 x8 x11 x12 x13 x14 x15 x37 v7 v16 j) =
  pv (binV .none .lss v16 x15) fun t1 =>
  cnd t1 (
   pv (iaV none 2 x14 v16) fun t2 =>
   ld true 2 t2 fun t3 =>
   nw 52 [(.int .u32 0), (.slice none 0 0)] fun t4 =>
   st 2 t4 t3 fun _ =>
   pv (faV 1 t4) fun t5 =>
   ld false 1 t5 fun t6 =>
   callv Tryz.prog (.func (.func 41) #[] #[]) #[x1, x2] (fun t7 h8 => (ldV h8 false 1 t5 t6) ∧ (
    callv Tryz.prog (.func (.func 40) #[] #[]) #[t6, t7, (.bool true)] (fun t9 =>
    pv (lenV t9) fun t10 =>
    pv (binV .none .gtr t10 (.int .i64 0)) fun t11 =>
    cnd t11 (
     pv (faV 0 t4) fun t12 =>
     ld false 1 t12 fun t13 =>
     pv (bdC #[(.int .u32 0), (.slice none 0 0)] [(0, 1), (1, 1)] #[(0, t13), (1, t9)]) fun t14 =>
     nws 52 1 (bsC #[(.int .u32 0), (.slice none 0 0)] 2 1 #[(0, t14)]) fun t15 =>
     appX 52 2 32 v7 t15 fun t16 =>
     d19 [1, 1, 0, 1, 0, 0, 1, 1, 1] (thenD k1 (blk 0 (thenD (d19 [1, 1, 1] (q19 K E)) (q19 K E)))) #[x0, x1, x2, x3, x4, x5, x6, t16, x8, t4, t9, x11, x12, x13, x14, x15, v16, t1, t2, t3, t5, t6, x1, x2, t7, t9, t9, t10, t11, v7, t12, t13, t9, t14, t15, t16, (j 36), x37]) (
     d19 [1, 1, 0, 1, 0, 0, 1, 1, 1] (thenD k1 (blk 0 (thenD (d19 [1, 1, 1] (q19 K E)) (q19 K E)))) #[x0, x1, x2, x3, x4, x5, x6, v7, x8, t4, t9, x11, x12, x13, x14, x15, v16, t1, t2, t3, t5, t6, x1, x2, t7, t9, t9, t10, t11, (j 29), (j 30), (j 31), (j 32), (j 33), (j 34), (j 35), (j 36), x37])) E) h8) E) (
   K v7) := by kernel_rfl
theorem t19_1_1_0_1_0_0_1_1_1 : d19 [1, 1, 0, 1, 0, 0, 1, 1, 1] (thenD k1 (blk 0 (thenD (d19 [1, 1, 1] (q19 K E)) (q19 K E)))) #[x0, x1, x2, x3, x4, x5, x6, x7, x8, x9, x10, x11, x12, x13, x14, x15, x16, x17, x18, x19, x20, x21, x22, x23, x24, x25, x26, x27, x28, x29, x30, x31, x32, x33, x34, x35, x36, x37] =
  pv (binV .none .add x16 (.int .i64 1)) fun t1 =>
  k1 (m19_1_1_0_1_0_0 x0 x1 x2 x3 x4 x5 x6 x8 x11 x12 x13 x14 x15 x37 x7 t1 (jf #[U, U, U, U, U, U, U, U, U, x9, x10, U, U, U, U, U, U, x17, x18, x19, x20, x21, x22, x23, x24, x25, x26, x27, x28, x29, x30, x31, x32, x33, x34, x35, t1])) := by kernel_rfl
abbrev q26 : QD := bodyQ Tryz.prog Tryz.f26.results.toList K E
abbrev d26 (p : List Nat) : QD → Env → Hp → Prop := den Tryz.prog (sel (bodyOf Tryz.f26) p)
def m26_1_1_1_1_0_1_0_0 (j : Nat → Value) : Env := #[x0, x1, x2, x3, x4, x5, x6, x7, x8, x9, v10, x11, (j 12), (j 13), x14, x15, x16, x17, x18, x19, x20, x21, x22, x23, x24, x25, x26, x27, x28, x29, v30, (j 31), (j 32), (j 33), (j 34), (j 35), (j 36), (j 37), (j 38), (j 39), (j 40), (j 41), (j 42), (j 43), (j 44), (j 45), (j 46), (j 47), (j 48), (j 49), (j 50), (j 51), (j 52), (j 53), (j 54), x55, x56, x57, x58, x59, x60, x61, x62, x63, x64, x65, x66, x67, x68, x69, x70, x71, x72, x73, x74, x75, x76, x77, x78, x79, x80, x81, x82, x83]
def m26_1_1_1_1_1_0_1_0_0 (j : Nat → Value) : Env := #[x0, x1, x2, x3, x4, x5, x6, x7, x8, x9, v10, x11, x12, x13, x14, (j 15), x16, x17, x18, x19, x20, x21, x22, x23, x24, x25, x26, x27, x28, x29, x30, x31, x32, x33, x34, x35, x36, x37, x38, x39, x40, x41, x42, x43, x44, x45, x46, x47, x48, x49, x50, x51, x52, x53, x54, x55, x56, v57, (j 58), (j 59), (j 60), (j 61), (j 62), (j 63), (j 64), (j 65), (j 66), (j 67), (j 68), (j 69), (j 70), (j 71), x72, x73, x74, x75, x76, x77, x78, x79, x80, x81, x82, x83]
theorem t26 : d26 [] (q26 K E) #[x0, x1, x2, x3, U, U, U, U, U, U, U, U, U, U, U, U, U, U, U, U, U, U, U, U, U, U, U, U, U, U, U, U, U, U, U, U, U, U, U, U, U, U, U, U, U, U, U, U, U, U, U, U, U, U, U, U, U, U, U, U, U, U, U, U, U, U, U, U, U, U, U, U, U, U, U, U, U, U, U, U, U, U, U, U] =
  callv Tryz.prog (.func (.func 41) #[] #[]) #[x1, x2] (fun t1 =>
  callv Tryz.prog (.func (.func 50) #[] #[]) #[x0, t1, x3] (fun t2 =>
  pv (unV .not t2) fun t3 =>
  cnd t3 (
   K (.int .u16 1)) (
   pv (nilV x0) fun t4 =>
   pv (faV 0 t4) fun t5 =>
   ld false 1 t5 fun t6 =>
   pv (lenV t6) fun t7 =>
   lp (fun k1 => d26 [1, 1, 1, 1, 0, 1, 0, 0] (thenD k1 (blk 0 (thenD (d26 [1, 1, 1, 1, 1] (q26 K E)) (q26 K E))))) (m26_1_1_1_1_0_1_0_0 x0 x1 x2 x3 U U U U (.int .u16 0) t1 U U U U x1 x2 t1 x0 t1 x3 t2 t3 x0 t4 t5 t6 t7 U U U U U U U U U U U U U U U U U U U U U U U U U U U U U (.slice none 0 0) (.int .i64 0) (jf #[])))) E) E := by kernel_rfl
theorem t26_1_1_1_1_0_1_0_0 : d26 [1, 1, 1, 1, 0, 1, 0, 0] (thenD k1 (blk 0 (thenD (d26 [1, 1, 1, 1, 1] (q26 K E)) (q26 K E)))) (m26_1_1_1_1_0_1_0_0 x0 x1 x2 x3 x4 x5 x6 x7 x8 x9 x11 x14 x15 x16 x17 x18 x19 x20 x21 x22 x23 x24 x25 x26 x27 x28 x29 x55 x56 x57 x58 x59 x60 x61 x62 x63 x64 x65 x66 x67 x68 x69 x70 x71 x72 x73 x74 x75 x76 x77 x78 x79 x80 x81 x82 x83 v10 v30 j) =
  pv (binV .none .lss v30 x29) fun t1 =>
  cnd t1 (
   pv (iaV none 2 x28 v30) fun t2 =>
   ld true 2 t2 fun t3 =>
   nw 52 [(.int .u32 0), (.slice none 0 0)] fun t4 =>
   st 2 t4 t3 fun _ =>
   pv (faV 1 t4) fun t5 =>
   ld false 1 t5 fun t6 =>
   callv Tryz.prog (.func (.func 40) #[] #[]) #[t6, x9, (.bool false)] (fun t7 =>
   pv (lenV t7) fun t8 =>
   pv (binV .none .gtr t8 (.int .i64 0)) fun t9 =>
   gdK t9 false (fun k => pv (faV 1 t4) k) fun t10 =>
   gdK t9 false (fun k => ld false 1 t10 k) fun t11 =>
   gdK t9 false (fun k => pv (lenV t11) k) fun t12 =>
   gdK t9 false (fun k => pv (binV .none .eql t12 (.int .i64 0)) k) fun t13 =>
   pv (pickV t9 (.bool true) t13) fun t14 =>
   cnd t14 (
    pv (faV 0 t4) fun t15 =>
    ld false 1 t15 fun t16 =>
    pv (bdC #[(.int .u32 0), (.slice none 0 0)] [(0, 1), (1, 1)] #[(0, t16), (1, t7)]) fun t17 =>
    nws 52 1 (bsC #[(.int .u32 0), (.slice none 0 0)] 2 1 #[(0, t17)]) fun t18 =>
    appX 52 2 32 v10 t18 fun t19 =>
    d26 [1, 1, 1, 1, 0, 1, 0, 0, 1, 1, 1] (thenD k1 (blk 0 (thenD (d26 [1, 1, 1, 1, 1] (q26 K E)) (q26 K E)))) #[x0, x1, x2, x3, x4, x5, x6, x7, x8, x9, t19, x11, t4, t7, x14, x15, x16, x17, x18, x19, x20, x21, x22, x23, x24, x25, x26, x27, x28, x29, v30, t1, t2, t3, t5, t6, x9, t7, t7, t8, t9, t9, t10, t11, t12, t13, t14, v10, t15, t16, t7, t17, t18, t19, (j 54), x55, x56, x57, x58, x59, x60, x61, x62, x63, x64, x65, x66, x67, x68, x69, x70, x71, x72, x73, x74, x75, x76, x77, x78, x79, x80, x81, x82, x83]) (
    d26 [1, 1, 1, 1, 0, 1, 0, 0, 1, 1, 1] (thenD k1 (blk 0 (thenD (d26 [1, 1, 1, 1, 1] (q26 K E)) (q26 K E)))) #[x0, x1, x2, x3, x4, x5, x6, x7, x8, x9, v10, x11, t4, t7, x14, x15, x16, x17, x18, x19, x20, x21, x22, x23, x24, x25, x26, x27, x28, x29, v30, t1, t2, t3, t5, t6, x9, t7, t7, t8, t9, t9, t10, t11, t12, t13, t14, (j 47), (j 48), (j 49), (j 50), (j 51), (j 52), (j 53), (j 54), x55, x56, x57, x58, x59, x60, x61, x62, x63, x64, x65, x66, x67, x68, x69, x70, x71, x72, x73, x74, x75, x76, x77, x78, x79, x80, x81, x82, x83])) E) (
   pv (lenV x3) fun t20 =>
   lp (fun k1 => d26 [1, 1, 1, 1, 1, 0, 1, 0, 0] (thenD k1 (blk 2 (thenD (d26 [1, 1, 1, 1, 1, 1] (q26 K E)) (q26 K E))))) (m26_1_1_1_1_1_0_1_0_0 x0 x1 x2 x3 x4 x5 x6 x7 x8 x9 x11 (j 12) (j 13) x14 x16 x17 x18 x19 x20 x21 x22 x23 x24 x25 x26 x27 x28 x29 v30 t1 (j 32) (j 33) (j 34) (j 35) (j 36) (j 37) (j 38) (j 39) (j 40) (j 41) (j 42) (j 43) (j 44) (j 45) (j 46) (j 47) (j 48) (j 49) (j 50) (j 51) (j 52) (j 53) (j 54) x3 t20 x72 x73 x74 x75 x76 x77 x78 x79 x80 x81 x82 x83 v10 (.int .i64 0) (jf #[U, U, U, U, U, U, U, U, U, U, U, U, U, U, U, x15, U, U, U, U, U, U, U, U, U, U, U, U, U, U, U, U, U, U, U, U, U, U, U, U, U, U, U, U, U, U, U, U, U, U, U, U, U, U, U, U, U, U, x58, x59, x60, x61, x62, x63, x64, x65, x66, x67, x68, x69, x70, x71]))) := by kernel_rfl
theorem t26_1_1_1_1_0_1_0_0_1_1_1 : d26 [1, 1, 1, 1, 0, 1, 0, 0, 1, 1, 1] (thenD k1 (blk 0 (thenD (d26 [1, 1, 1, 1, 1] (q26 K E)) (q26 K E)))) #[x0, x1, x2, x3, x4, x5, x6, x7, x8, x9, x10, x11, x12, x13, x14, x15, x16, x17, x18, x19, x20, x21, x22, x23, x24, x25, x26, x27, x28, x29, x30, x31, x32, x33, x34, x35, x36, x37, x38, x39, x40, x41, x42, x43, x44, x45, x46, x47, x48, x49, x50, x51, x52, x53, x54, x55, x56, x57, x58, x59, x60, x61, x62, x63, x64, x65, x66, x67, x68, x69, x70, x71, x72, x73, x74, x75, x76, x77, x78, x79, x80, x81, x82, x83] =
  pv (binV .none .add x30 (.int .i64 1)) fun t1 =>
  k1 (m26_1_1_1_1_0_1_0_0 x0 x1 x2 x3 x4 x5 x6 x7 x8 x9 x11 x14 x15 x16 x17 x18 x19 x20 x21 x22 x23 x24 x25 x26 x27 x28 x29 x55 x56 x57 x58 x59 x60 x61 x62 x63 x64 x65 x66 x67 x68 x69 x70 x71 x72 x73 x74 x75 x76 x77 x78 x79 x80 x81 x82 x83 x10 t1 (jf #[U, U, U, U, U, U, U, U, U, U, U, U, x12, x13, U, U, U, U, U, U, U, U, U, U, U, U, U, U, U, U, U, x31, x32, x33, x34, x35, x36, x37, x38, x39, x40, x41, x42, x43, x44, x45, x46, x47, x48, x49, x50, x51, x52, x53, t1])) := by kernel_rfl
theorem t26_1_1_1_1_1_0_1_0_0 : d26 [1, 1, 1, 1, 1, 0, 1, 0, 0] (thenD k1 (blk 2 (thenD (d26 [1, 1, 1, 1, 1, 1] (q26 K E)) (q26 K E)))) (m26_1_1_1_1_1_0_1_0_0 x0 x1 x2 x3 x4 x5 x6 x7 x8 x9 x11 x12 x13 x14 x16 x17 x18 x19 x20 x21 x22 x23 x24 x25 x26 x27 x28 x29 x30 x31 x32 x33 x34 x35 x36 x37 x38 x39 x40 x41 x42 x43 x44 x45 x46 x47 x48 x49 x50 x51 x52 x53 x54 x55 x56 x72 x73 x74 x75 x76 x77 x78 x79 x80 x81 x82 x83 v10 v57 j) =
  pv (binV .none .lss v57 x56) fun t1 =>
  cnd t1 (
   pv (iaV none 2 x55 v57) fun t2 =>
   ld true 2 t2 fun t3 =>
   nw 52 [(.int .u32 0), (.slice none 0 0)] fun t4 =>
   st 2 t4 t3 fun _ =>
   pv (faV 1 t4) fun t5 =>
   ld false 1 t5 fun t6 =>
   pv (lenV t6) fun t7 =>
   pv (binV .none .gtr t7 (.int .i64 0)) fun t8 =>
   cnd t8 (
    pv (faV 0 t4) fun t9 =>
    ld false 1 t9 fun t10 =>
    pv (faV 1 t4) fun t11 =>
    ld false 1 t11 fun t12 =>
    callv Tryz.prog (.func (.func 35) #[] #[]) #[v10, t10, t12] (fun t13 =>
    d26 [1, 1, 1, 1, 1, 0, 1, 0, 0, 1, 1, 1] (thenD k1 (blk 2 (thenD (d26 [1, 1, 1, 1, 1, 1] (q26 K E)) (q26 K E)))) #[x0, x1, x2, x3, x4, x5, x6, x7, x8, x9, t13, x11, x12, x13, x14, t4, x16, x17, x18, x19, x20, x21, x22, x23, x24, x25, x26, x27, x28, x29, x30, x31, x32, x33, x34, x35, x36, x37, x38, x39, x40, x41, x42, x43, x44, x45, x46, x47, x48, x49, x50, x51, x52, x53, x54, x55, x56, v57, t1, t2, t3, t5, t6, t7, t8, v10, t9, t10, t11, t12, t13, (j 71), x72, x73, x74, x75, x76, x77, x78, x79, x80, x81, x82, x83]) E) (
    d26 [1, 1, 1, 1, 1, 0, 1, 0, 0, 1, 1, 1] (thenD k1 (blk 2 (thenD (d26 [1, 1, 1, 1, 1, 1] (q26 K E)) (q26 K E)))) #[x0, x1, x2, x3, x4, x5, x6, x7, x8, x9, v10, x11, x12, x13, x14, t4, x16, x17, x18, x19, x20, x21, x22, x23, x24, x25, x26, x27, x28, x29, x30, x31, x32, x33, x34, x35, x36, x37, x38, x39, x40, x41, x42, x43, x44, x45, x46, x47, x48, x49, x50, x51, x52, x53, x54, x55, x56, v57, t1, t2, t3, t5, t6, t7, t8, (j 65), (j 66), (j 67), (j 68), (j 69), (j 70), (j 71), x72, x73, x74, x75, x76, x77, x78, x79, x80, x81, x82, x83])) (
   pv (lenV v10) fun t14 =>
   pv (binV .none .gtr t14 (.int .i64 5000)) fun t15 =>
   gdK t15 false (fun k => k v10) fun t16 =>
   gdK t15 false (fun k => k (.func (.func 51) #[] #[])) fun t17 =>
   gdK t15 false (fun k => callv Tryz.prog (.func (.func 52) #[] #[]) #[t16, t17] k E) fun t18 =>
   pv (pickV t15 (.bool true) t18) fun t19 =>
   cnd t19 (
    K (.int .u16 3)) (
    pv (nilV x0) fun t20 =>
    pv (faV 0 t20) fun t21 =>
    st 1 t21 v10 fun _ =>
    K (.int .u16 0))) := by kernel_rfl
theorem t26_1_1_1_1_1_0_1_0_0_1_1_1 : d26 [1, 1, 1, 1, 1, 0, 1, 0, 0, 1, 1, 1] (thenD k1 (blk 2 (thenD (d26 [1, 1, 1, 1, 1, 1] (q26 K E)) (q26 K E)))) #[x0, x1, x2, x3, x4, x5, x6, x7, x8, x9, x10, x11, x12, x13, x14, x15, x16, x17, x18, x19, x20, x21, x22, x23, x24, x25, x26, x27, x28, x29, x30, x31, x32, x33, x34, x35, x36, x37, x38, x39, x40, x41, x42, x43, x44, x45, x46, x47, x48, x49, x50, x51, x52, x53, x54, x55, x56, x57, x58, x59, x60, x61, x62, x63, x64, x65, x66, x67, x68, x69, x70, x71, x72, x73, x74, x75, x76, x77, x78, x79, x80, x81, x82, x83] =
  pv (binV .none .add x57 (.int .i64 1)) fun t1 =>
  k1 (m26_1_1_1_1_1_0_1_0_0 x0 x1 x2 x3 x4 x5 x6 x7 x8 x9 x11 x12 x13 x14 x16 x17 x18 x19 x20 x21 x22 x23 x24 x25 x26 x27 x28 x29 x30 x31 x32 x33 x34 x35 x36 x37 x38 x39 x40 x41 x42 x43 x44 x45 x46 x47 x48 x49 x50 x51 x52 x53 x54 x55 x56 x72 x73 x74 x75 x76 x77 x78 x79 x80 x81 x82 x83 x10 t1 (jf #[U, U, U, U, U, U, U, U, U, U, U, U, U, U, U, x15, U, U, U, U, U, U, U, U, U, U, U, U, U, U, U, U, U, U, U, U, U, U, U, U, U, U, U, U, U, U, U, U, U, U, U, U, U, U, U, U, U, U, x58, x59, x60, x61, x62, x63, x64, x65, x66, x67, x68, x69, x70, t1])) := by kernel_rfl
abbrev q40 : QD := bodyQ Tryz.prog Tryz.f40.results.toList K E
abbrev d40 (p : List Nat) : QD → Env → Hp → Prop := den Tryz.prog (sel (bodyOf Tryz.f40) p)
theorem t40 : d40 [] (q40 K E) #[x0, x1, x2, U, U, U, U, U, U, U, U] =
  nw 98 (Value.cells x1).toList fun t1 =>
  nw 4 (Value.cells x2).toList fun t2 =>
  callv Tryz.prog (.func (.func 66) #[] #[]) #[x0] (fun t3 =>
  callv Tryz.prog (.func (.func 77) #[] #[]) #[t3, (.func (.func 78) #[] #[t1, t2])] (fun t4 =>
  K t4) E) E := by kernel_rfl
abbrev q41 : QD := bodyQ Tryz.prog Tryz.f41.results.toList K E
abbrev d41 (p : List Nat) : QD → Env → Hp → Prop := den Tryz.prog (sel (bodyOf Tryz.f41) p)
theorem t41 : d41 [] (q41 K E) #[x0, x1, U, U, U, U] =
  nw 3 (Value.cells x0).toList fun t1 =>
  nw 3 (Value.cells x1).toList fun t2 =>
  K (.func (.func 79) #[] #[t1, t2]) := by kernel_rfl
abbrev q50 : QD := bodyQ Tryz.prog Tryz.f50.results.toList K E
abbrev d50 (p : List Nat) : QD → Env → Hp → Prop := den Tryz.prog (sel (bodyOf Tryz.f50) p)
def m50_1_1_0_1_0_0 (j : Nat → Value) : Env := #[x0, x1, x2, x3, x4, x5, (j 6), v7, x8, (j 9), x10, x11, v12, (j 13), (j 14), (j 15), (j 16), (j 17), (j 18), (j 19), (j 20), (j 21), (j 22), (j 23), (j 24), (j 25), (j 26), (j 27), (j 28), (j 29), (j 30), (j 31), (j 32), (j 33), (j 34), (j 35), (j 36), (j 37)]
theorem t50 : d50 [] (q50 K E) #[x0, x1, x2, U, U, U, U, U, U, U, U, U, U, U, U, U, U, U, U, U, U, U, U, U, U, U, U, U, U, U, U, U, U, U, U, U, U, U] =
  pv (lenV x2) fun t1 =>
  lp (fun k1 => d50 [1, 1, 0, 1, 0, 0] (thenD k1 (blk 0 (thenD (d50 [1, 1, 1] (q50 K E)) (q50 K E))))) (m50_1_1_0_1_0_0 x0 x1 x2 U U U U x2 t1 (.int .u32 0) (.int .i64 0) (jf #[U, U, U, U, U, U, (.bool false)])) := by kernel_rfl
theorem t50_1_1_0_1_0_0 : d50 [1, 1, 0, 1, 0, 0] (thenD k1 (blk 0 (thenD (d50 [1, 1, 1] (q50 K E)) (q50 K E)))) (m50_1_1_0_1_0_0 x0 x1 x2 x3 x4 x5 x8 x10 x11 v7 v12 j) =
  pv (binV .none .lss v12 x11) fun t1 =>
  cnd t1 (
   pv (iaV none 2 x10 v12) fun t2 =>
   ld true 2 t2 fun t3 =>
   nw 52 [(.int .u32 0), (.slice none 0 0)] fun t4 =>
   st 2 t4 t3 fun _ =>
   pv (faV 0 t4) fun t5 =>
   ld false 1 t5 fun t6 =>
   pv (binV .none .leq t6 v7) fun t7 =>
   gdK t7 false (fun k => k x0) fun t8 =>
   gdK t7 false (fun k => pv (faV 1 t4) k) fun t9 =>
   gdK t7 false (fun k => ld false 1 t9 k) fun t10 =>
   gdK t7 false (fun k => callv Tryz.prog (.func (.func 34) #[] #[]) #[t8, t10] k E) fun t11 =>
   gdK t7 false (fun k => pv (unV .not t11) k) fun t12 =>
   pv (pickV t7 (.bool true) t12) fun t13 =>
   gdK t13 false (fun k => pv (faV 1 t4) k) fun t14 =>
   gdK t13 false (fun k => ld false 1 t14 k) fun t15 =>
   gdK t13 false (fun k => k x1) fun t16 =>
   gdK t13 false (fun k => callv Tryz.prog (.func (.func 40) #[] #[]) #[t15, t16, (.bool false)] k E) fun t17 =>
   gdK t13 false (fun k => pv (lenV t17) k) fun t18 =>
   gdK t13 false (fun k => pv (binV .none .gtr t18 (.int .i64 0)) k) fun t19 =>
   pv (pickV t13 (.bool true) t19) fun t20 =>
   cnd t20 (
    K (.bool false)) (
    pv (faV 0 t4) fun t21 =>
    ld false 1 t21 fun t22 =>
    pv (binV .none .add v12 (.int .i64 1)) fun t23 =>
    k1 (m50_1_1_0_1_0_0 x0 x1 x2 x3 x4 x5 x8 x10 x11 t22 t23 (jf #[U, U, U, U, U, U, (j 6), U, U, t4, U, U, U, t1, t2, t3, t5, t6, v7, t7, t7, t8, t9, t10, t11, t12, t13, t13, t14, t15, t16, t17, t18, t19, t20, t21, t22, t23])))) (
   K (.bool true)) := by kernel_rfl
abbrev q51 : QD := bodyQ Tryz.prog Tryz.f51.results.toList K E
abbrev d51 (p : List Nat) : QD → Env → Hp → Prop := den Tryz.prog (sel (bodyOf Tryz.f51) p)
theorem t51 : d51 [] (q51 K E) #[x0, U, U, U, U, U, U] =
  nw 52 (Value.cells x0).toList fun t1 =>
  pv (faV 1 t1) fun t2 =>
  ld false 1 t2 fun t3 =>
  pv (lenV t3) fun t4 =>
  pv (binV .none .gtr t4 (.int .i64 200)) fun t5 =>
  K t5 := by kernel_rfl
abbrev q52 : QD := bodyQ Tryz.prog Tryz.f52.results.toList K E
abbrev d52 (p : List Nat) : QD → Env → Hp → Prop := den Tryz.prog (sel (bodyOf Tryz.f52) p)
theorem t52 : d52 [] (q52 K E) #[x0, x1, U, U, U, U, U, U, U] =
  callv Tryz.prog (.func (.func 91) #[] #[]) #[x0, x1] (fun t1 =>
  pv (binV .none .geq t1 (.int .i64 0)) fun t2 =>
  K t2) E := by kernel_rfl
abbrev q65 : QD := bodyQ Tryz.prog Tryz.f65.results.toList K E
abbrev d65 (p : List Nat) : QD → Env → Hp → Prop := den Tryz.prog (sel (bodyOf Tryz.f65) p)
def m65_1_1_0_1_0_0 (j : Nat → Value) : Env := #[x0, x1, x2, v3, x4, (j 5), x6, x7, x8, x9, x10, v11, (j 12), (j 13), (j 14), (j 15), (j 16), (j 17), (j 18), (j 19), (j 20), (j 21), (j 22), x23, x24, x25, x26, x27, x28, x29, x30, x31, x32, x33, x34, x35]
def m65_1_1_1_1_0_1_0_0 (j : Nat → Value) : Env := #[x0, x1, x2, x3, x4, x5, v6, x7, (j 8), x9, x10, x11, x12, x13, x14, x15, x16, x17, x18, x19, x20, x21, x22, x23, x24, x25, x26, v27, (j 28), (j 29), (j 30), (j 31), (j 32), (j 33), (j 34), x35]
theorem t65 : d65 [] (q65 K E) #[x0, U, U, U, U, U, U, U, U, U, U, U, U, U, U, U, U, U, U, U, U, U, U, U, U, U, U, U, U, U, U, U, U, U, U, U] =
  pv (lenV x0) fun t1 =>
  lp (fun k1 => d65 [1, 1, 0, 1, 0, 0] (thenD k1 (blk 0 (thenD (d65 [1, 1, 1] (q65 K E)) (q65 K E))))) (m65_1_1_0_1_0_0 x0 U (.slice none 0 0) U U U U x0 t1 U U U U U U U U U U U U U (.int .i64 0) (.int .i64 0) (jf #[])) := by kernel_rfl
theorem t65_1_1_0_1_0_0 : d65 [1, 1, 0, 1, 0, 0] (thenD k1 (blk 0 (thenD (d65 [1, 1, 1] (q65 K E)) (q65 K E)))) (m65_1_1_0_1_0_0 x0 x1 x2 x4 x6 x7 x8 x9 x10 x23 x24 x25 x26 x27 x28 x29 x30 x31 x32 x33 x34 x35 v3 v11 j) =
  pv (binV .none .lss v11 x10) fun t1 =>
  cnd t1 (
   pv (iaV none 1 x9 v11) fun t2 =>
   ld false 1 t2 fun t3 =>
   pv (lenV t3) fun t4 =>
   pv (binV .none .add v3 t4) fun t5 =>
   pv (binV .none .lss t5 (.int .i64 0)) fun t6 =>
   cnd t6 (
    pv (ifcV 9 (.string ⟨#[108, 101, 110, 32, 111, 117, 116, 32, 111, 102, 32, 114, 97, 110, 103, 101]⟩)) fun t7 =>
    pnc t7 E fun _ =>
    d65 [1, 1, 0, 1, 0, 0, 1, 1, 1] (thenD k1 (blk 0 (thenD (d65 [1, 1, 1] (q65 K E)) (q65 K E)))) #[x0, x1, x2, t5, x4, t3, x6, x7, x8, x9, x10, v11, t1, t2, t3, v3, t3, t4, t5, t5, t6, t7, (j 22), x23, x24, x25, x26, x27, x28, x29, x30, x31, x32, x33, x34, x35]) (
    d65 [1, 1, 0, 1, 0, 0, 1, 1, 1] (thenD k1 (blk 0 (thenD (d65 [1, 1, 1] (q65 K E)) (q65 K E)))) #[x0, x1, x2, t5, x4, t3, x6, x7, x8, x9, x10, v11, t1, t2, t3, v3, t3, t4, t5, t5, t6, (j 21), (j 22), x23, x24, x25, x26, x27, x28, x29, x30, x31, x32, x33, x34, x35])) (
   callv Tryz.prog (.func (.func 97) #[] #[]) #[(.slice none 0 0), v3] (fun t8 =>
   pv (lenV x0) fun t9 =>
   lp (fun k1 => d65 [1, 1, 1, 1, 0, 1, 0, 0] (thenD k1 (blk 2 (thenD (d65 [1, 1, 1, 1, 1] (q65 K E)) (q65 K E))))) (m65_1_1_1_1_0_1_0_0 x0 x1 x2 v3 x4 (j 5) x7 x9 x10 v11 t1 (j 13) (j 14) (j 15) (j 16) (j 17) (j 18) (j 19) (j 20) (j 21) (j 22) v3 t8 x0 t9 x35 t8 (.int .i64 0) (jf #[U, U, U, U, U, U, U, U, x8, U, U, U, U, U, U, U, U, U, U, U, U, U, U, U, U, U, U, U, x28, x29, x30, x31, x32, x33, x34]))) E) := by kernel_rfl
theorem t65_1_1_0_1_0_0_1_1_1 : d65 [1, 1, 0, 1, 0, 0, 1, 1, 1] (thenD k1 (blk 0 (thenD (d65 [1, 1, 1] (q65 K E)) (q65 K E)))) #[x0, x1, x2, x3, x4, x5, x6, x7, x8, x9, x10, x11, x12, x13, x14, x15, x16, x17, x18, x19, x20, x21, x22, x23, x24, x25, x26, x27, x28, x29, x30, x31, x32, x33, x34, x35] =
  pv (binV .none .add x11 (.int .i64 1)) fun t1 =>
  k1 (m65_1_1_0_1_0_0 x0 x1 x2 x4 x6 x7 x8 x9 x10 x23 x24 x25 x26 x27 x28 x29 x30 x31 x32 x33 x34 x35 x3 t1 (jf #[U, U, U, U, U, x5, U, U, U, U, U, U, x12, x13, x14, x15, x16, x17, x18, x19, x20, x21, t1])) := by kernel_rfl
theorem t65_1_1_1_1_0_1_0_0 : d65 [1, 1, 1, 1, 0, 1, 0, 0] (thenD k1 (blk 2 (thenD (d65 [1, 1, 1, 1, 1] (q65 K E)) (q65 K E)))) (m65_1_1_1_1_0_1_0_0 x0 x1 x2 x3 x4 x5 x7 x9 x10 x11 x12 x13 x14 x15 x16 x17 x18 x19 x20 x21 x22 x23 x24 x25 x26 x35 v6 v27 j) =
  pv (binV .none .lss v27 x26) fun t1 =>
  cnd t1 (
   pv (iaV none 1 x25 v27) fun t2 =>
   ld false 1 t2 fun t3 =>
   appX 48 2 32 v6 t3 fun t4 =>
   pv (binV .none .add v27 (.int .i64 1)) fun t5 =>
   k1 (m65_1_1_1_1_0_1_0_0 x0 x1 x2 x3 x4 x5 x7 x9 x10 x11 x12 x13 x14 x15 x16 x17 x18 x19 x20 x21 x22 x23 x24 x25 x26 x35 t4 t5 (jf #[U, U, U, U, U, U, U, U, t3, U, U, U, U, U, U, U, U, U, U, U, U, U, U, U, U, U, U, U, t1, t2, t3, v6, t3, t4, t5]))) (
   K v6) := by kernel_rfl
abbrev q77 : QD := bodyQ Tryz.prog Tryz.f77.results.toList K E
abbrev d77 (p : List Nat) : QD → Env → Hp → Prop := den Tryz.prog (sel (bodyOf Tryz.f77) p)
def m77_1_1_1_0_1_0_0 (j : Nat → Value) : Env := #[x0, x1, x2, x3, x4, v5, v6, (j 7), x8, x9, x10, x11, x12, x13, x14, x15, (j 16), (j 17), (j 18), (j 19), (j 20), (j 21), (j 22), (j 23), (j 24), (j 25), (j 26), (j 27), (j 28), (j 29), (j 30), (j 31), (j 32), (j 33), (j 34), (j 35), x36, x37, x38, x39, x40, x41]
theorem t77 : d77 [] (q77 K E) #[x0, x1, U, U, U, U, U, U, U, U, U, U, U, U, U, U, U, U, U, U, U, U, U, U, U, U, U, U, U, U, U, U, U, U, U, U, U, U, U, U, U, U] =
  callv Tryz.prog (.func (.func 94) #[] #[]) #[x0, x1] (fun t1 =>
  pv (binV .none .eql t1 (.int .i64 (-1))) fun t2 =>
  cnd t2 (
   K x0) (
   pv (binV .none .add t1 (.int .i64 1)) fun t3 =>
   lp (fun k1 => d77 [1, 1, 1, 0, 1, 0, 0] (thenD k1 (blk 0 (thenD (d77 [1, 1, 1, 1] (q77 K E)) (q77 K E))))) (m77_1_1_1_0_1_0_0 x0 x1 U U (.slice none 0 0) x0 x1 t1 t1 t2 U t1 t3 U U U U U U t1 t3 (jf #[])))) E := by kernel_rfl
theorem t77_1_1_1_0_1_0_0 : d77 [1, 1, 1, 0, 1, 0, 0] (thenD k1 (blk 0 (thenD (d77 [1, 1, 1, 1] (q77 K E)) (q77 K E)))) (m77_1_1_1_0_1_0_0 x0 x1 x2 x3 x4 x8 x9 x10 x11 x12 x13 x14 x15 x36 x37 x38 x39 x40 x41 v5 v6 j) =
  pv (lenV x0) fun t1 =>
  pv (binV .none .lss v6 t1) fun t2 =>
  cnd t2 (
   pv (iaV none 2 x0 v6) fun t3 =>
   ld true 2 t3 fun t4 =>
   nw 48 [(.slice none 0 0), (.int .i64 0)] fun t5 =>
   st 2 t5 t4 fun _ =>
   ld true 2 t5 fun t6 =>
   callv Tryz.prog x1 #[t6] (fun t7 =>
   pv (unV .not t7) fun t8 =>
   cnd t8 (
    ld true 2 t5 fun t9 =>
    pv (iaV none 2 x0 v5) fun t10 =>
    st 2 t10 t9 fun _ =>
    pv (binV .none .add v5 (.int .i64 1)) fun t11 =>
    d77 [1, 1, 1, 0, 1, 0, 0, 1, 1] (thenD k1 (blk 0 (thenD (d77 [1, 1, 1, 1] (q77 K E)) (q77 K E)))) #[x0, x1, x2, x3, x4, t11, v6, t5, x8, x9, x10, x11, x12, x13, x14, x15, v6, x0, t1, t2, (j 20), (j 21), x0, v6, t3, t4, x1, t6, t7, t8, x0, v5, t9, t10, v5, t11, x36, x37, x38, x39, x40, x41]) (
    d77 [1, 1, 1, 0, 1, 0, 0, 1, 1] (thenD k1 (blk 0 (thenD (d77 [1, 1, 1, 1] (q77 K E)) (q77 K E)))) #[x0, x1, x2, x3, x4, v5, v6, t5, x8, x9, x10, x11, x12, x13, x14, x15, v6, x0, t1, t2, (j 20), (j 21), x0, v6, t3, t4, x1, t6, t7, t8, (j 30), (j 31), (j 32), (j 33), (j 34), (j 35), x36, x37, x38, x39, x40, x41])) E) (
   pv (slV 2 x0 (some v5) none none) fun t12 =>
   clr 48 [(.slice none 0 0), (.int .i64 0)] 2 t12 fun _ =>
   pv (slV 2 x0 none (some v5) none) fun t13 =>
   K t13) := by kernel_rfl
theorem t77_1_1_1_0_1_0_0_1_1 : d77 [1, 1, 1, 0, 1, 0, 0, 1, 1] (thenD k1 (blk 0 (thenD (d77 [1, 1, 1, 1] (q77 K E)) (q77 K E)))) #[x0, x1, x2, x3, x4, x5, x6, x7, x8, x9, x10, x11, x12, x13, x14, x15, x16, x17, x18, x19, x20, x21, x22, x23, x24, x25, x26, x27, x28, x29, x30, x31, x32, x33, x34, x35, x36, x37, x38, x39, x40, x41] =
  pv (binV .none .add x6 (.int .i64 1)) fun t1 =>
  k1 (m77_1_1_1_0_1_0_0 x0 x1 x2 x3 x4 x8 x9 x10 x11 x12 x13 x14 x15 x36 x37 x38 x39 x40 x41 x5 t1 (jf #[U, U, U, U, U, U, U, x7, U, U, U, U, U, U, U, U, x16, x17, x18, x19, x6, t1, x22, x23, x24, x25, x26, x27, x28, x29, x30, x31, x32, x33, x34, x35])) := by kernel_rfl
abbrev q78 : QD := bodyQ Tryz.prog Tryz.f78.results.toList K E
abbrev d78 (p : List Nat) : QD → Env → Hp → Prop := den Tryz.prog (sel (bodyOf Tryz.f78) p)
theorem t78 : d78 [] (q78 K E) #[x0, x1, x2, U, U, U, U, U, U, U] =
  nw 48 (Value.cells x0).toList fun t1 =>
  ld false 1 x1 fun t2 =>
  ld true 2 t1 fun t3 =>
  ld false 1 x2 fun t4 =>
  callv Tryz.prog t2 #[t3] (fun t5 h6 => (ldV h6 false 1 x2 t4) ∧ (
   pv (binV .bool .neq t5 t4) fun t7 =>
   K t7) h6) E := by kernel_rfl
abbrev q79 : QD := bodyQ Tryz.prog Tryz.f79.results.toList K E
abbrev d79 (p : List Nat) : QD → Env → Hp → Prop := den Tryz.prog (sel (bodyOf Tryz.f79) p)
theorem t79 : d79 [] (q79 K E) #[x0, x1, x2, U, U, U, U, U, U, U, U, U, U, U, U, U, U, U, U, U, U, U, U, U, U] =
  nw 48 (Value.cells x0).toList fun t1 =>
  pv (faV 0 t1) fun t2 =>
  ld false 1 t2 fun t3 =>
  pv (lenV t3) fun t4 =>
  pv (binV .none .gtr t4 (.int .i64 0)) fun t5 =>
  gdK t5 true (fun k => pv (faV 0 t1) k) fun t6 =>
  gdK t5 true (fun k => ld false 1 t6 k) fun t7 =>
  gdK t5 true (fun k => pv (iaV none 1 t7 (.int .i64 0)) k) fun t8 =>
  gdK t5 true (fun k => ld false 1 t8 k) fun t9 =>
  gdK t5 true (fun k => ld false 1 x1 k) fun t10 =>
  gdK t5 true (fun k => pv (binV .none .geq t9 t10) k) fun t11 =>
  pv (pickV t5 t11 (.bool false)) fun t12 =>
  gdK t12 true (fun k => pv (faV 0 t1) k) fun t13 =>
  gdK t12 true (fun k => ld false 1 t13 k) fun t14 =>
  gdK t12 true (fun k => pv (iaV none 1 t14 (.int .i64 0)) k) fun t15 =>
  gdK t12 true (fun k => ld false 1 t15 k) fun t16 =>
  gdK t12 true (fun k => ld false 1 x2 k) fun t17 =>
  gdK t12 true (fun k => pv (binV .none .lss t16 t17) k) fun t18 =>
  pv (pickV t12 t18 (.bool false)) fun t19 =>
  K t19 := by kernel_rfl
abbrev q91 : QD := bodyQ Tryz.prog Tryz.f91.results.toList K E
abbrev d91 (p : List Nat) : QD → Env → Hp → Prop := den Tryz.prog (sel (bodyOf Tryz.f91) p)
def m91_1_0_1_0_0 (j : Nat → Value) : Env := #[x0, x1, x2, x3, (j 4), (j 5), x6, x7, v8, (j 9), (j 10), (j 11), (j 12), (j 13), (j 14), (j 15), (j 16), (j 17), (j 18)]
theorem t91 : d91 [] (q91 K E) #[x0, x1, U, U, U, U, U, U, U, U, U, U, U, U, U, U, U, U, U] =
  pv (lenV x0) fun t1 =>
  lp (fun k1 => d91 [1, 0, 1, 0, 0] (thenD k1 (blk 0 (thenD (d91 [1, 1] (q91 K E)) (q91 K E))))) (m91_1_0_1_0_0 x0 x1 U U x0 t1 (.int .i64 0) (jf #[U, U, U, U, (.int .i64 0)])) := by kernel_rfl
theorem t91_1_0_1_0_0 : d91 [1, 0, 1, 0, 0] (thenD k1 (blk 0 (thenD (d91 [1, 1] (q91 K E)) (q91 K E)))) (m91_1_0_1_0_0 x0 x1 x2 x3 x6 x7 v8 j) =
  pv (binV .none .lss v8 x7) fun t1 =>
  cnd t1 (
   pv (iaV none 2 x0 v8) fun t2 =>
   ld true 2 t2 fun t3 =>
   callv Tryz.prog x1 #[t3] (fun t4 =>
   cnd t4 (
    K v8) (
    pv (binV .none .add v8 (.int .i64 1)) fun t5 =>
    k1 (m91_1_0_1_0_0 x0 x1 x2 x3 x6 x7 t5 (jf #[U, U, U, U, (j 4), v8, U, U, U, t1, v8, x1, x0, v8, t2, t3, t4, (j 17), t5])))) E) (
   K (.int .i64 (-1))) := by kernel_rfl
abbrev q97 : QD := bodyQ Tryz.prog Tryz.f97.results.toList K E
abbrev d97 (p : List Nat) : QD → Env → Hp → Prop := den Tryz.prog (sel (bodyOf Tryz.f97) p)
theorem t97 : d97 [] (q97 K E) #[x0, x1, U, U, U, U, U, U, U, U, U, U, U, U, U, U, U, U, U, U, U, U, U, U, U, U, U] =
  pv (binV .none .lss x1 (.int .i64 0)) fun t1 =>
  cnd t1 (
   pv (ifcV 9 (.string ⟨#[99, 97, 110, 110, 111, 116, 32, 98, 101, 32, 110, 101, 103, 97, 116, 105, 118, 101]⟩)) fun t2 =>
   pnc t2 E fun _ =>
   d97 [1, 1] (q97 K E) #[x0, x1, U, U, (.slice none 0 0), x1, t1, t2, U, U, U, U, U, U, U, U, U, U, U, U, U, U, U, U, U, U, U]) (
   d97 [1, 1] (q97 K E) #[x0, x1, U, U, (.slice none 0 0), x1, t1, U, U, U, U, U, U, U, U, U, U, U, U, U, U, U, U, U, U, U, U]) := by kernel_rfl
theorem t97_1_1 : d97 [1, 1] (q97 K E) #[x0, x1, x2, x3, x4, x5, x6, x7, x8, x9, x10, x11, x12, x13, x14, x15, x16, x17, x18, x19, x20, x21, x22, x23, x24, x25, x26] =
  pv (capV x0) fun t1 =>
  pv (lenV x0) fun t2 =>
  pv (binV .none .sub t1 t2) fun t3 =>
  pv (binV .none .sub x1 t3) fun t4 =>
  pv (binV .none .gtr t4 (.int .i64 0)) fun t5 =>
  cnd t5 (
   pv (capV x0) fun t6 =>
   pv (slV 2 x0 none (some t6) none) fun t7 =>
   appZ 48 [(.slice none 0 0), (.int .i64 0)] 2 32 t7 t4 fun t8 =>
   pv (lenV x0) fun t9 =>
   pv (slV 2 t8 none (some t9) none) fun t10 =>
   d97 [1, 1, 1] (q97 K E) #[t10, t4, x2, x3, x4, x5, x6, x7, x1, x0, t1, x0, t2, t3, t4, t4, t5, x0, x0, t6, t7, t4, t8, x0, t9, t10, x26]) (
   d97 [1, 1, 1] (q97 K E) #[x0, t4, x2, x3, x4, x5, x6, x7, x1, x0, t1, x0, t2, t3, t4, t4, t5, x17, x18, x19, x20, x21, x22, x23, x24, x25, x26]) := by kernel_rfl
theorem t97_1_1_1 : d97 [1, 1, 1] (q97 K E) #[x0, x1, x2, x3, x4, x5, x6, x7, x8, x9, x10, x11, x12, x13, x14, x15, x16, x17, x18, x19, x20, x21, x22, x23, x24, x25, x26] =
  K x0 := by kernel_rfl
end
section
variable {K : Kont} {E : PanK} {k1 k2 k3 k4 k5 : Env → Hp → Prop} {σ : Type} {x0 x1 x2 x3 x4 x5 x6 x7 x8 x9 x10 x11 x12 x13 x14 x15 x16 x17 x18 x19 x20 x21 x22 x23 x24 x25 x26 x27 x28 x29 x30 x31 x32 x33 x34 x35 x36 x37 x38 x39 x40 x41 x42 x43 x44 x45 x46 x47 x48 x49 x50 x51 x52 x53 x54 x55 x56 x57 x58 x59 x60 x61 x62 x63 x64 x65 x66 x67 x68 x69 x70 x71 x72 x73 x74 x75 x76 x77 x78 x79 x80 x81 x82 x83 v0 v1 v2 v3 v4 v5 v6 v7 v8 v9 v10 v11 v12 v13 v14 v15 v16 v17 v18 v19 v20 v21 v22 v23 v24 v25 v26 v27 v28 v29 v30 v31 v32 v33 v34 v35 v36 v37 v38 v39 v40 v41 v42 v43 v44 v45 v46 v47 v48 v49 v50 v51 v52 v53 v54 v55 v56 v57 v58 v59 v60 v61 v62 v63 v64 v65 v66 v67 v68 v69 v70 v71 v72 v73 v74 v75 v76 v77 v78 v79 v80 v81 v82 v83 : Value} {h : Hp} {j : Nat → Value}
theorem l19_1_1_0_1_0_0 (f7 f16 : σ → Value) (I : σ → Hp → Prop) (μ : σ → Nat) (s0 : σ) (e7 : v7 = f7 s0) (e16 : v16 = f16 s0) (h0 : h.wf → ∃ h', h.wk h' ∧ I s0 h')
 (round : ∀ (k1 : Env → Hp → Prop) (s : σ) (j : Nat → Value) (h : Hp), I s h → h.wf → (∀ s' j' h', μ s' < μ s → (h'.wf → ∃ h'', h'.wk h'' ∧ I s' h'') → k1 (m19_1_1_0_1_0_0 x0 x1 x2 x3 x4 x5 x6 x8 x11 x12 x13 x14 x15 x37 (f7 s') (f16 s') j') h') → d19 [1, 1, 0, 1, 0, 0] (thenD k1 (blk 0 (thenD (d19 [1, 1, 1] (q19 K E)) (q19 K E)))) (m19_1_1_0_1_0_0 x0 x1 x2 x3 x4 x5 x6 x8 x11 x12 x13 x14 x15 x37 (f7 s) (f16 s) j) h) :
 lp (fun k1 => d19 [1, 1, 0, 1, 0, 0] (thenD k1 (blk 0 (thenD (d19 [1, 1, 1] (q19 K E)) (q19 K E))))) (m19_1_1_0_1_0_0 x0 x1 x2 x3 x4 x5 x6 x8 x11 x12 x13 x14 x15 x37 v7 v16 j) h := by
 subst e7
 subst e16
 exact loop_r (fun s j => m19_1_1_0_1_0_0 x0 x1 x2 x3 x4 x5 x6 x8 x11 x12 x13 x14 x15 x37 (f7 s) (f16 s) j) I μ round s0 j h0
theorem l26_1_1_1_1_0_1_0_0 (f10 f30 : σ → Value) (I : σ → Hp → Prop) (μ : σ → Nat) (s0 : σ) (e10 : v10 = f10 s0) (e30 : v30 = f30 s0) (h0 : h.wf → ∃ h', h.wk h' ∧ I s0 h')
 (round : ∀ (k1 : Env → Hp → Prop) (s : σ) (j : Nat → Value) (h : Hp), I s h → h.wf → (∀ s' j' h', μ s' < μ s → (h'.wf → ∃ h'', h'.wk h'' ∧ I s' h'') → k1 (m26_1_1_1_1_0_1_0_0 x0 x1 x2 x3 x4 x5 x6 x7 x8 x9 x11 x14 x15 x16 x17 x18 x19 x20 x21 x22 x23 x24 x25 x26 x27 x28 x29 x55 x56 x57 x58 x59 x60 x61 x62 x63 x64 x65 x66 x67 x68 x69 x70 x71 x72 x73 x74 x75 x76 x77 x78 x79 x80 x81 x82 x83 (f10 s') (f30 s') j') h') → d26 [1, 1, 1, 1, 0, 1, 0, 0] (thenD k1 (blk 0 (thenD (d26 [1, 1, 1, 1, 1] (q26 K E)) (q26 K E)))) (m26_1_1_1_1_0_1_0_0 x0 x1 x2 x3 x4 x5 x6 x7 x8 x9 x11 x14 x15 x16 x17 x18 x19 x20 x21 x22 x23 x24 x25 x26 x27 x28 x29 x55 x56 x57 x58 x59 x60 x61 x62 x63 x64 x65 x66 x67 x68 x69 x70 x71 x72 x73 x74 x75 x76 x77 x78 x79 x80 x81 x82 x83 (f10 s) (f30 s) j) h) :
 lp (fun k1 => d26 [1, 1, 1, 1, 0, 1, 0, 0] (thenD k1 (blk 0 (thenD (d26 [1, 1, 1, 1, 1] (q26 K E)) (q26 K E))))) (m26_1_1_1_1_0_1_0_0 x0 x1 x2 x3 x4 x5 x6 x7 x8 x9 x11 x14 x15 x16 x17 x18 x19 x20 x21 x22 x23 x24 x25 x26 x27 x28 x29 x55 x56 x57 x58 x59 x60 x61 x62 x63 x64 x65 x66 x67 x68 x69 x70 x71 x72 x73 x74 x75 x76 x77 x78 x79 x80 x81 x82 x83 v10 v30 j) h := by
 subst e10
 subst e30
 exact loop_r (fun s j => m26_1_1_1_1_0_1_0_0 x0 x1 x2 x3 x4 x5 x6 x7 x8 x9 x11 x14 x15 x16 x17 x18 x19 x20 x21 x22 x23 x24 x25 x26 x27 x28 x29 x55 x56 x57 x58 x59 x60 x61 x62 x63 x64 x65 x66 x67 x68 x69 x70 x71 x72 x73 x74 x75 x76 x77 x78 x79 x80 x81 x82 x83 (f10 s) (f30 s) j) I μ round s0 j h0
theorem l26_1_1_1_1_1_0_1_0_0 (f10 f57 : σ → Value) (I : σ → Hp → Prop) (μ : σ → Nat) (s0 : σ) (e10 : v10 = f10 s0) (e57 : v57 = f57 s0) (h0 : h.wf → ∃ h', h.wk h' ∧ I s0 h')
 (round : ∀ (k1 : Env → Hp → Prop) (s : σ) (j : Nat → Value) (h : Hp), I s h → h.wf → (∀ s' j' h', μ s' < μ s → (h'.wf → ∃ h'', h'.wk h'' ∧ I s' h'') → k1 (m26_1_1_1_1_1_0_1_0_0 x0 x1 x2 x3 x4 x5 x6 x7 x8 x9 x11 x12 x13 x14 x16 x17 x18 x19 x20 x21 x22 x23 x24 x25 x26 x27 x28 x29 x30 x31 x32 x33 x34 x35 x36 x37 x38 x39 x40 x41 x42 x43 x44 x45 x46 x47 x48 x49 x50 x51 x52 x53 x54 x55 x56 x72 x73 x74 x75 x76 x77 x78 x79 x80 x81 x82 x83 (f10 s') (f57 s') j') h') → d26 [1, 1, 1, 1, 1, 0, 1, 0, 0] (thenD k1 (blk 2 (thenD (d26 [1, 1, 1, 1, 1, 1] (q26 K E)) (q26 K E)))) (m26_1_1_1_1_1_0_1_0_0 x0 x1 x2 x3 x4 x5 x6 x7 x8 x9 x11 x12 x13 x14 x16 x17 x18 x19 x20 x21 x22 x23 x24 x25 x26 x27 x28 x29 x30 x31 x32 x33 x34 x35 x36 x37 x38 x39 x40 x41 x42 x43 x44 x45 x46 x47 x48 x49 x50 x51 x52 x53 x54 x55 x56 x72 x73 x74 x75 x76 x77 x78 x79 x80 x81 x82 x83 (f10 s) (f57 s) j) h) :
 lp (fun k1 => d26 [1, 1, 1, 1, 1, 0, 1, 0, 0] (thenD k1 (blk 2 (thenD (d26 [1, 1, 1, 1, 1, 1] (q26 K E)) (q26 K E))))) (m26_1_1_1_1_1_0_1_0_0 x0 x1 x2 x3 x4 x5 x6 x7 x8 x9 x11 x12 x13 x14 x16 x17 x18 x19 x20 x21 x22 x23 x24 x25 x26 x27 x28 x29 x30 x31 x32 x33 x34 x35 x36 x37 x38 x39 x40 x41 x42 x43 x44 x45 x46 x47 x48 x49 x50 x51 x52 x53 x54 x55 x56 x72 x73 x74 x75 x76 x77 x78 x79 x80 x81 x82 x83 v10 v57 j) h := by
 subst e10
 subst e57
 exact loop_r (fun s j => m26_1_1_1_1_1_0_1_0_0 x0 x1 x2 x3 x4 x5 x6 x7 x8 x9 x11 x12 x13 x14 x16 x17 x18 x19 x20 x21 x22 x23 x24 x25 x26 x27 x28 x29 x30 x31 x32 x33 x34 x35 x36 x37 x38 x39 x40 x41 x42 x43 x44 x45 x46 x47 x48 x49 x50 x51 x52 x53 x54 x55 x56 x72 x73 x74 x75 x76 x77 x78 x79 x80 x81 x82 x83 (f10 s) (f57 s) j) I μ round s0 j h0
theorem l50_1_1_0_1_0_0 (f7 f12 : σ → Value) (I : σ → Hp → Prop) (μ : σ → Nat) (s0 : σ) (e7 : v7 = f7 s0) (e12 : v12 = f12 s0) (h0 : h.wf → ∃ h', h.wk h' ∧ I s0 h')
 (round : ∀ (k1 : Env → Hp → Prop) (s : σ) (j : Nat → Value) (h : Hp), I s h → h.wf → (∀ s' j' h', μ s' < μ s → (h'.wf → ∃ h'', h'.wk h'' ∧ I s' h'') → k1 (m50_1_1_0_1_0_0 x0 x1 x2 x3 x4 x5 x8 x10 x11 (f7 s') (f12 s') j') h') → d50 [1, 1, 0, 1, 0, 0] (thenD k1 (blk 0 (thenD (d50 [1, 1, 1] (q50 K E)) (q50 K E)))) (m50_1_1_0_1_0_0 x0 x1 x2 x3 x4 x5 x8 x10 x11 (f7 s) (f12 s) j) h) :
 lp (fun k1 => d50 [1, 1, 0, 1, 0, 0] (thenD k1 (blk 0 (thenD (d50 [1, 1, 1] (q50 K E)) (q50 K E))))) (m50_1_1_0_1_0_0 x0 x1 x2 x3 x4 x5 x8 x10 x11 v7 v12 j) h := by
 subst e7
 subst e12
 exact loop_r (fun s j => m50_1_1_0_1_0_0 x0 x1 x2 x3 x4 x5 x8 x10 x11 (f7 s) (f12 s) j) I μ round s0 j h0
theorem l65_1_1_0_1_0_0 (f3 f11 : σ → Value) (I : σ → Hp → Prop) (μ : σ → Nat) (s0 : σ) (e3 : v3 = f3 s0) (e11 : v11 = f11 s0) (h0 : h.wf → ∃ h', h.wk h' ∧ I s0 h')
 (round : ∀ (k1 : Env → Hp → Prop) (s : σ) (j : Nat → Value) (h : Hp), I s h → h.wf → (∀ s' j' h', μ s' < μ s → (h'.wf → ∃ h'', h'.wk h'' ∧ I s' h'') → k1 (m65_1_1_0_1_0_0 x0 x1 x2 x4 x6 x7 x8 x9 x10 x23 x24 x25 x26 x27 x28 x29 x30 x31 x32 x33 x34 x35 (f3 s') (f11 s') j') h') → d65 [1, 1, 0, 1, 0, 0] (thenD k1 (blk 0 (thenD (d65 [1, 1, 1] (q65 K E)) (q65 K E)))) (m65_1_1_0_1_0_0 x0 x1 x2 x4 x6 x7 x8 x9 x10 x23 x24 x25 x26 x27 x28 x29 x30 x31 x32 x33 x34 x35 (f3 s) (f11 s) j) h) :
 lp (fun k1 => d65 [1, 1, 0, 1, 0, 0] (thenD k1 (blk 0 (thenD (d65 [1, 1, 1] (q65 K E)) (q65 K E))))) (m65_1_1_0_1_0_0 x0 x1 x2 x4 x6 x7 x8 x9 x10 x23 x24 x25 x26 x27 x28 x29 x30 x31 x32 x33 x34 x35 v3 v11 j) h := by
 subst e3
 subst e11
 exact loop_r (fun s j => m65_1_1_0_1_0_0 x0 x1 x2 x4 x6 x7 x8 x9 x10 x23 x24 x25 x26 x27 x28 x29 x30 x31 x32 x33 x34 x35 (f3 s) (f11 s) j) I μ round s0 j h0
theorem l65_1_1_1_1_0_1_0_0 (f6 f27 : σ → Value) (I : σ → Hp → Prop) (μ : σ → Nat) (s0 : σ) (e6 : v6 = f6 s0) (e27 : v27 = f27 s0) (h0 : h.wf → ∃ h', h.wk h' ∧ I s0 h')
 (round : ∀ (k1 : Env → Hp → Prop) (s : σ) (j : Nat → Value) (h : Hp), I s h → h.wf → (∀ s' j' h', μ s' < μ s → (h'.wf → ∃ h'', h'.wk h'' ∧ I s' h'') → k1 (m65_1_1_1_1_0_1_0_0 x0 x1 x2 x3 x4 x5 x7 x9 x10 x11 x12 x13 x14 x15 x16 x17 x18 x19 x20 x21 x22 x23 x24 x25 x26 x35 (f6 s') (f27 s') j') h') → d65 [1, 1, 1, 1, 0, 1, 0, 0] (thenD k1 (blk 2 (thenD (d65 [1, 1, 1, 1, 1] (q65 K E)) (q65 K E)))) (m65_1_1_1_1_0_1_0_0 x0 x1 x2 x3 x4 x5 x7 x9 x10 x11 x12 x13 x14 x15 x16 x17 x18 x19 x20 x21 x22 x23 x24 x25 x26 x35 (f6 s) (f27 s) j) h) :
 lp (fun k1 => d65 [1, 1, 1, 1, 0, 1, 0, 0] (thenD k1 (blk 2 (thenD (d65 [1, 1, 1, 1, 1] (q65 K E)) (q65 K E))))) (m65_1_1_1_1_0_1_0_0 x0 x1 x2 x3 x4 x5 x7 x9 x10 x11 x12 x13 x14 x15 x16 x17 x18 x19 x20 x21 x22 x23 x24 x25 x26 x35 v6 v27 j) h := by
 subst e6
 subst e27
 exact loop_r (fun s j => m65_1_1_1_1_0_1_0_0 x0 x1 x2 x3 x4 x5 x7 x9 x10 x11 x12 x13 x14 x15 x16 x17 x18 x19 x20 x21 x22 x23 x24 x25 x26 x35 (f6 s) (f27 s) j) I μ round s0 j h0
theorem l77_1_1_1_0_1_0_0 (f5 f6 : σ → Value) (I : σ → Hp → Prop) (μ : σ → Nat) (s0 : σ) (e5 : v5 = f5 s0) (e6 : v6 = f6 s0) (h0 : h.wf → ∃ h', h.wk h' ∧ I s0 h')
 (round : ∀ (k1 : Env → Hp → Prop) (s : σ) (j : Nat → Value) (h : Hp), I s h → h.wf → (∀ s' j' h', μ s' < μ s → (h'.wf → ∃ h'', h'.wk h'' ∧ I s' h'') → k1 (m77_1_1_1_0_1_0_0 x0 x1 x2 x3 x4 x8 x9 x10 x11 x12 x13 x14 x15 x36 x37 x38 x39 x40 x41 (f5 s') (f6 s') j') h') → d77 [1, 1, 1, 0, 1, 0, 0] (thenD k1 (blk 0 (thenD (d77 [1, 1, 1, 1] (q77 K E)) (q77 K E)))) (m77_1_1_1_0_1_0_0 x0 x1 x2 x3 x4 x8 x9 x10 x11 x12 x13 x14 x15 x36 x37 x38 x39 x40 x41 (f5 s) (f6 s) j) h) :
 lp (fun k1 => d77 [1, 1, 1, 0, 1, 0, 0] (thenD k1 (blk 0 (thenD (d77 [1, 1, 1, 1] (q77 K E)) (q77 K E))))) (m77_1_1_1_0_1_0_0 x0 x1 x2 x3 x4 x8 x9 x10 x11 x12 x13 x14 x15 x36 x37 x38 x39 x40 x41 v5 v6 j) h := by
 subst e5
 subst e6
 exact loop_r (fun s j => m77_1_1_1_0_1_0_0 x0 x1 x2 x3 x4 x8 x9 x10 x11 x12 x13 x14 x15 x36 x37 x38 x39 x40 x41 (f5 s) (f6 s) j) I μ round s0 j h0
theorem l91_1_0_1_0_0 (f8 : σ → Value) (I : σ → Hp → Prop) (μ : σ → Nat) (s0 : σ) (e8 : v8 = f8 s0) (h0 : h.wf → ∃ h', h.wk h' ∧ I s0 h')
 (round : ∀ (k1 : Env → Hp → Prop) (s : σ) (j : Nat → Value) (h : Hp), I s h → h.wf → (∀ s' j' h', μ s' < μ s → (h'.wf → ∃ h'', h'.wk h'' ∧ I s' h'') → k1 (m91_1_0_1_0_0 x0 x1 x2 x3 x6 x7 (f8 s') j') h') → d91 [1, 0, 1, 0, 0] (thenD k1 (blk 0 (thenD (d91 [1, 1] (q91 K E)) (q91 K E)))) (m91_1_0_1_0_0 x0 x1 x2 x3 x6 x7 (f8 s) j) h) :
 lp (fun k1 => d91 [1, 0, 1, 0, 0] (thenD k1 (blk 0 (thenD (d91 [1, 1] (q91 K E)) (q91 K E))))) (m91_1_0_1_0_0 x0 x1 x2 x3 x6 x7 v8 j) h := by
 subst e8
 exact loop_r (fun s j => m91_1_0_1_0_0 x0 x1 x2 x3 x6 x7 (f8 s) j) I μ round s0 j h0
end
end Go.Proofs.YtgjdjdjhoipfmaaGreatDoor.T
open Go Go.RowKit Go.Proofs.YtgjdjdjhoipfmaaGreatDoor.K Go.Proofs.YtgjdjdjhoipfmaaGreatDoor.T
set_option linter.unusedVariables false
set_option linter.unusedSimpArgs false
namespace Go.Proofs.YtgjdjdjhoipfmaaGreatDoor.A
variable {F F' : Nat → Option (List Value)} {M M' : Nat → Option Chunk} {N N' : Nat} {K : Kont} {E : PanK}
theorem flat_takeF {α : Type} (l : List (List α)) {i : Nat} (h : i < l.length) : (l.take (i + 1)).flatten = (l.take i).flatten ++ l[i] := by
  rw [List.take_add_one, List.getElem?_eq_getElem h, Option.toList_some, List.flatten_append]; simp
theorem growF_c {n : Nat} (hm : clean M N) (hn : n ≤ 1000000000000) (k : ∀ v' M' N', own M' N 48 2 v' 0 [] → (∀ q, q < N → M' q = M q) → N ≤ N' → clean M' N' → (Hp.mk F M' N').wf → K v' ⟨F, M', N'⟩) :
    callv Tryz.prog (.func (.func 97) #[] #[]) #[.slice none 0 0, .int .i64 (n : Nat)] K E ⟨F, M, N⟩ := by
  refine callv_of_text mixed Tryz.func97 (by kernel_rfl) (t97 _ E _ _) (fun hw => ?_)
  refine lss_f (by omega) ?_
  try simp only [sS]
  rw [t97_1_1]
  try simp only [sS]
  refine sub_n (a := 0) (b := 0) (by omega) (by omega) ?_
  refine sub_n (a := n) (b := 0) (by omega) (by omega) ?_
  rw [Nat.sub_zero]
  refine gtr_r (fun h0 => ?_) (fun h0 => ?_)
  · try simp only [sS]
    refine sl_r 0 0 0 (Nat.le_refl _) (Nat.le_refl _) (Nat.le_refl _) ?_
    refine ⟨none, 0, 0, [], n, .i64, rfl, rfl, ⟨by simp, .inl ⟨_, _, rfl, rfl⟩⟩, Nat.le_refl _, by omega, by omega, by simp [maxLen]; omega, fun b c hb0 hc hcm => ?_⟩
    have hb : N ≤ b := hb0
    try simp only [sS]
    refine sl_pre 0 (Nat.zero_le _) ?_
    try simp only [sS]
    rw [t97_1_1_1]
    refine fun hc' => ⟨_, wk_refl hc', fun hw' => k _ _ _ ⟨by simp, .inr ⟨b, c, _, rfl, Nat.zero_le _, hcm, hb, upd_same _ _ _⟩⟩ (fun q hq => upd_ne _ _ (by omega)) (Nat.le_succ_of_le hb) (hm.new hb _) hw'⟩
  · try simp only [sS]
    rw [t97_1_1_1]
    exact fun hc' => ⟨_, wk_refl hc', fun hw' => k _ _ _ own.nil (fun _ _ => rfl) (Nat.le_refl _) hm hw'⟩
def fctssD (F : Nat → Option (List Value)) (v : Value) (ts : List (List Fc)) : Prop := ∃ rows, sF F 1 v ts.length rows.flatten ∧ rowsF (fun r t => ∃ u, r = [u] ∧ fctsD F u t ∧ t.length ≤ 140737488351232) 1 rows ts
theorem fctssD.mono {v : Value} {ts : List (List Fc)} (h : fctssD F v ts) (hF : subF F F') : fctssD F' v ts := let ⟨rows, h1, h2⟩ := h; ⟨rows, h1.mono hF, h2.mono fun _ _ ⟨u, e, h, l⟩ => ⟨u, e, h.mono hF, l⟩⟩
theorem fctss_r {v : Value} {ts : List (List Fc)} {K : Value → Kont} (hv : fctssD F v ts) {i : Nat} (hi : i < ts.length) (k : ∀ p u, fctsD F u ts[i] → ts[i].length ≤ 140737488351232 → K p u ⟨F, M, N⟩) : pv (iaV none 1 v (.int .i64 (i : Nat))) (fun p => ld false 1 p (K p)) ⟨F, M, N⟩ := by
  obtain ⟨rows, h1, h2⟩ := hv
  obtain ⟨b, o, c, cs, r, rfl, hF, _, ⟨u, rfl, hu, hul⟩, hl, _, hle, ht, hj⟩ := row_at h1 h2 (by decide) hi
  exact iaN_r hi (ld_r (ldV_c (row_F hF) (hj 0 (by decide))) (k _ _ hu hul))
theorem concatF_c {v : Value} {ts : List (List Fc)} (hv : fctssD F v ts) (hl : ts.flatten.length ≤ 1000000000) (htl : ts.length ≤ 1000000000) (k : ∀ v' F' N', (Hp.mk F' M N').wf → subF F F' → N ≤ N' → fctsD F' v' ts.flatten → K v' ⟨F', M, N'⟩) :
    callv Tryz.prog (.func (.func 65) #[] #[]) #[v] K E ⟨F, M, N⟩ := by
  refine callv_of_text mixed Tryz.func65 (by kernel_rfl) (t65 _ E _) (fun hw => ?_)
  have hm : clean M N := hw.m
  have hlv : lenV v = some (.int .i64 (ts.length : Nat)) := by obtain ⟨rows, h1, _⟩ := hv; obtain ⟨a, c, rfl, _⟩ := h1.form; rfl
  have hfl : ∀ i, i ≤ ts.length → (ts.take i).flatten.length ≤ ts.flatten.length := fun i hi => by
    have h := congrArg List.flatten (List.take_append_drop i ts)
    rw [List.flatten_append] at h
    have := congrArg List.length h
    rw [List.length_append] at this
    omega
  try simp only [hlv]
  try simp only [sS]
  refine l65_1_1_0_1_0_0 (σ := Nat) (fun i => .int .i64 ((ts.take i).flatten.length : Nat)) (fun i => .int .i64 (i : Nat)) (fun i h => h = ⟨F, M, N⟩ ∧ i ≤ ts.length) (fun i => ts.length - i) 0 rfl rfl
    (fun hw1 => ⟨_, wk_refl hw1, rfl, Nat.zero_le _⟩) (fun k1 i j h1 hI hw1 next => ?_)
  rw [t65_1_1_0_1_0_0]
  obtain ⟨rfl, hi⟩ := hI
  refine lss_r (fun hlt => ?_) (fun hge => ?_)
  · have h1 : i < ts.length := by omega
    try simp only [sS]
    refine fctss_r hv h1 fun p u hu hul => ?_
    obtain ⟨a, c, rfl⟩ := hu.form
    have h2 := hfl (i + 1) h1
    have e := flat_takeF ts h1
    rw [e, List.length_append] at h2
    try simp only [sS]
    refine add_n (by omega) (lss_f (by omega) ?_)
    try simp only [sS]
    rw [t65_1_1_0_1_0_0_1_1_1]
    refine inc_r (by omega) ?_
    rw [← List.length_append, ← e]
    exact next (i + 1) _ _ (by omega) (fun hw2 => ⟨_, wk_refl hw2, rfl, h1⟩)
  · try simp only [sS]
    rw [List.take_of_length_le (by omega)]
    refine growF_c hm (by omega) (fun u M1 N1 ho hM1 hN1 hm1 hw1 => ?_)
    try simp only [hlv]
    try simp only [sS]
    refine l65_1_1_1_1_0_1_0_0 (σ := Nat × Value) (fun s => s.2) (fun s => .int .i64 (s.1 : Nat))
      (fun s h => ∃ M' N' rows, h = ⟨F, M', N'⟩ ∧ N ≤ N' ∧ (∀ q, q < N → M' q = M q) ∧ clean M' N' ∧ s.1 ≤ ts.length ∧ own M' N 48 2 s.2 (ts.take s.1).flatten.length rows.flatten ∧ rowsF (fctD F) 2 rows (ts.take s.1).flatten) (fun s => ts.length - s.1) (0, u) rfl rfl
      (fun hw2 => ⟨_, wk_refl hw2, M1, N1, [], rfl, hN1, hM1, hm1, Nat.zero_le _, ho, rowsF.nil _ _⟩) (fun k1 s j h1 hI hw2 next => ?_)
    rw [t65_1_1_1_1_0_1_0_0]
    obtain ⟨M2, N2, rows, rfl, hN2, hM2, hm2, hi, ho2, hr2⟩ := hI
    refine lss_r (fun hlt => ?_) (fun hge => ?_)
    · have h1 : s.1 < ts.length := by omega
      try simp only [sS]
      refine fctss_r hv h1 fun p w hwt hwl => ?_
      obtain ⟨rows3, hw3, hr3⟩ := hwt
      have h2 := hfl (s.1 + 1) h1
      have e := flat_takeF ts h1
      rw [e, List.length_append] at h2
      refine ho2.app hm2 hN2 hw3.sR hr3.f1 (by omega) (by unfold maxLen; omega) (fun w' M3 N3 h4 h5 h6 h7 => ?_)
      refine inc_r (by omega) ?_
      refine next (s.1 + 1, w') _ _ (by simp only; omega) (fun hw4 => ⟨_, wk_refl hw4, M3, N3, rows ++ rows3, rfl, by omega, fun q hq => ?_, h7, h1, ?_, ?_⟩)
      · have q1 : s.2.ownBlock ≠ some q := fun e => by have := (ho2.ge q e).1; omega
        exact ((h5 q q1 (by omega)).1).trans (hM2 q hq)
      · simp only
        rw [e, List.length_append, List.flatten_append]; exact h4
      · simp only
        rw [e]; exact rows_app hr2 hr3
    · try simp only [sS]
      rw [List.take_of_length_le (by omega)] at ho2 hr2
      exact fun hc => ⟨_, frz_wf hm hM2 hc, fun hw' => k _ _ _ hw' (subF_frzAll hc) hN2 (fcts_frzA hc ho2 hr2)⟩
theorem ofld_r {α : Type} {R : List Value → α → Prop} {B sz off : Nat} {e : TypeId} {v : Value} {l : List α} {rows : List (List Value)} {K : Value → Value → Kont} (hv : own M B e sz v l.length rows.flatten) (hr : rowsF R sz rows l) (ho : off < sz) {i : Nat} (hi : i < l.length)
    (k : ∀ b c r x, v = .slice (some ⟨b, 0, none⟩) l.length c → (∃ cs tot, M b = some (.cells e cs tot) ∧ cs[i * sz + off]? = some x) → rows[i]? = some r → R r l[i] → r.length = sz → r[off]? = some x → K (.pointer (some ⟨b, 0 + i * sz, none⟩)) (.pointer (some ⟨b, 0 + i * sz + off, none⟩)) x ⟨F, M, N⟩) : pv (iaV none sz v (.int .i64 (i : Nat))) (fun p => pv (faV off p) fun q => ld false 1 q (K p q)) ⟨F, M, N⟩ := by
  rcases hv.2 with ⟨rfl, h0⟩ | ⟨b, c, rest, rfl, h1, h2, h3, h4⟩
  · omega
  obtain ⟨r, hri, hR, hdt, hle, hrl⟩ := hr.get (List.getElem?_eq_getElem hi)
  have hx : r[off]? = some (r[off]'(by omega)) := List.getElem?_eq_getElem _
  have hcx : (rows.flatten ++ rest)[i * sz + off]? = some (r[off]'(by omega)) := by
    rw [List.getElem?_append_left (by omega), ← hx, ← hdt, List.getElem?_take, if_pos ho, List.getElem?_drop]
  refine iaN_r hi (h_fa (ld_r (ldV_c (row_M h4) (by rw [Nat.zero_add]; exact hcx)) ?_))
  exact k b c r _ rfl ⟨_, _, h4, hcx⟩ hri hR hrl hx
theorem flatten_set {sz : Nat} : ∀ (rows : List (List Value)) (i off : Nat) (x : Value), (∀ r ∈ rows, r.length = sz) → off < sz → (hi : i < rows.length) → rows.flatten.set (i * sz + off) x = (rows.set i (rows[i].set off x)).flatten
  | [], i, off, x, _, _, hi => by simp at hi
  | r :: rows, 0, off, x, hl, ho, _ => by
    have := hl r List.mem_cons_self
    simp only [List.flatten_cons, Nat.zero_mul, Nat.zero_add, List.set_cons_zero, List.getElem_cons_zero]
    rw [List.set_append_left _ _ (by omega)]
  | r :: rows, i + 1, off, x, hl, ho, hi => by
    have h1 := hl r List.mem_cons_self
    have ih := flatten_set rows i off x (fun q hq => hl q (List.mem_cons_of_mem _ hq)) ho (by simpa using hi)
    simp only [List.flatten_cons, List.set_cons_succ, List.getElem_cons_succ]
    rw [List.set_append_right _ _ (by rw [Nat.succ_mul]; omega), ← ih, h1]
    congr 2
    rw [Nat.succ_mul]; omega
theorem rowsF_set {α : Type} {R : List Value → α → Prop} {sz : Nat} {rows : List (List Value)} {l : List α} (h : rowsF R sz rows l) {r : List Value} {x : α} (h1 : r.length = sz ∧ ∀ c ∈ r, c.oneCell' = true) (hR : R r x) (i : Nat) : rowsF R sz (rows.set i r) (l.set i x) := by
  refine ⟨fun q hq => ?_, fun q hq => ?_, by rw [List.length_set, List.length_set]; exact h.all.1, fun j a b ha hb => ?_⟩
  · rcases List.mem_or_eq_of_mem_set hq with hq | rfl
    · exact h.len q hq
    · exact h1.1
  · rcases List.mem_or_eq_of_mem_set hq with hq | rfl
    · exact h.one q hq
    · exact h1.2
  · rw [List.getElem?_set] at ha hb
    by_cases hij : i = j
    · rw [if_pos hij] at ha hb
      split at ha
      · split at hb
        · cases ha; cases hb; exact hR
        · cases hb
      · cases ha
    · rw [if_neg hij] at ha hb
      exact h.all.2 j a b ha hb
theorem oput_r {α : Type} {R : List Value → α → Prop} {B sz off : Nat} {e : TypeId} {v : Value} {l : List α} {rows : List (List Value)} {K : Value → Value → Kont} {u : Value} {y : α} (hv : own M B e sz v l.length rows.flatten) (hr : rowsF R sz rows l) (ho : off < sz) {i : Nat} (hi : i < l.length) (hu : u.cells = #[u]) (hu1 : u.oneCell' = true) (hR : ∀ r, rows[i]? = some r → R (r.set off u) y)
    (k : ∀ p q M' rows', own M' B e sz v (l.set i y).length rows'.flatten → rowsF R sz rows' (l.set i y) → (∀ q, v.ownBlock ≠ some q → M' q = M q) → (∀ n, clean M n → clean M' n) → K p q undef ⟨F, M', N⟩) : pv (iaV none sz v (.int .i64 (i : Nat))) (fun p => pv (faV off p) fun q => st 1 q u (K p q)) ⟨F, M, N⟩ := by
  rcases hv.2 with ⟨rfl, h0⟩ | ⟨b, c, rest, rfl, h1, h2, h3, h4⟩
  · omega
  obtain ⟨r, hri, hRr, hdt, hle, hrl⟩ := hr.get (List.getElem?_eq_getElem hi)
  have hri' := hri
  obtain ⟨hil, hre⟩ := List.getElem?_eq_some_iff.1 hri
  have hrl1 := hr.one r (List.mem_of_getElem? hri)
  refine iaN_r hi (h_fa ?_)
  have hlen : 0 + i * sz + off < (rows.flatten ++ rest).length := by rw [List.length_append]; omega
  have hsp : splice (rows.flatten ++ rest) (0 + i * sz + off) u.cells.toList = (rows.set i (r.set off u)).flatten ++ rest := by
    rw [hu, show (#[u] : Array Value).toList = [u] from rfl, splice_one hlen, List.set_append_left _ _ (by omega), Nat.zero_add, flatten_set rows i off u hr.len ho hil, hre]
  refine st_r h4 (by rw [hu]; rfl) (by rw [hu]; intro x hx; rw [List.mem_singleton.1 hx]; exact hu1) (by omega) hsp ?_
  refine k _ _ _ (rows.set i (r.set off u)) ⟨?_, .inr ⟨b, c, rest, by rw [List.length_set], by rw [List.length_set]; exact h1, h2, h3, upd_same _ _ _⟩⟩ (rowsF_set hr ⟨by rw [List.length_set]; exact hrl, fun x hx => ?_⟩ (hR r hri) i) (fun q hq => upd_ne _ _ (fun e => hq (by rw [e]; rfl))) (fun n hn => hn.set (hn.lt h4) _)
  · rw [List.length_set, flatten_len _ (fun q hq => ?_), List.length_set, hr.all.1]
    rcases List.mem_or_eq_of_mem_set hq with hq | rfl
    · exact hr.len q hq
    · rw [List.length_set]; exact hrl
  · rcases List.mem_or_eq_of_mem_set hx with hx | rfl
    · exact hrl1 x hx
    · exact hu1
end Go.Proofs.YtgjdjdjhoipfmaaGreatDoor.A
open Go Go.RowKit Go.Proofs.YtgjdjdjhoipfmaaGreatDoor.K Go.Proofs.YtgjdjdjhoipfmaaGreatDoor.T
set_option linter.unusedVariables false
set_option linter.unusedSimpArgs false
namespace Go.Proofs.YtgjdjdjhoipfmaaGreatDoor.A
variable {F F' : Nat → Option (List Value)} {M M' : Nat → Option Chunk} {N N' : Nat} {K : Kont} {E : PanK}
def isW (F : Nat → Option (List Value)) (w : Value) (a b : Int) : Prop := ∃ c1 c2, w = .func (.func 79) #[] #[.pointer (some ⟨c1, 0, none⟩), .pointer (some ⟨c2, 0, none⟩)] ∧ F c1 = some [.int .i64 a] ∧ F c2 = some [.int .i64 b]
theorem isW.mono {w : Value} {a b : Int} (h : isW F w a b) (hF : subF F F') : isW F' w a b := let ⟨c1, c2, h1, h2, h3⟩ := h; ⟨c1, c2, h1, hF _ _ h2, hF _ _ h3⟩
theorem within_cube_c {a b : Int} (k : ∀ w F' N', (Hp.mk F' M N').wf → subF F F' → N ≤ N' → isW F' w a b → K w ⟨F', M, N'⟩) :
    callv Tryz.prog (.func (.func 41) #[] #[]) #[.int .i64 a, .int .i64 b] K E ⟨F, M, N⟩ := by
  refine callv_of_text mixed Tryz.func41 (by kernel_rfl) (t41 _ E _ _) (fun hw => ?_)
  have hm : clean M N := hw.m
  refine nw_r (cs := [.int .i64 a]) (fun b1 hb1 => ?_)
  refine nw_r (cs := [.int .i64 b]) (fun b2 hb2 => ?_)
  refine fun hc => ⟨_, frz_wf hm (fun q hq => (upd_ne _ _ (by omega)).trans (upd_ne _ _ (by omega))) hc, fun hw' => k _ _ _ hw' (subF_frzAll hc) (by omega) ⟨b1, b2, rfl, ?_, ?_⟩⟩
  · exact frz_at (by omega) ((upd_ne _ _ (by omega)).trans (upd_same _ _ _))
  · exact frz_at (by omega) (upd_same _ _ _)
theorem ldF {sz b o : Nat} {cs : List Value} {v : Value} (k : K v ⟨F, M, N⟩) (hF : F b = some cs) (hv : cs[o]? = some v := by rfl) : ld false sz (.pointer (some ⟨b, o, none⟩)) K ⟨F, M, N⟩ := ld_r (ldV_c (row_F hF) hv) k
theorem inR_c {w : Value} {a b : Int} {cs : List Value} {f : Fc} (hW : isW F w a b) (hf : fctD F cs f) (k : ∀ N', N ≤ N' → (Hp.mk F M N').wf → K (.bool (inR a b f)) ⟨F, M, N'⟩) :
    callv Tryz.prog w #[.agg cs.toArray] K E ⟨F, M, N⟩ := by
  obtain ⟨c1, c2, rfl, hc1, hc2⟩ := hW
  obtain ⟨kv, rfl, hkv, hkl⟩ := hf
  refine callv_of_text mixed Tryz.func79 (by kernel_rfl) (t79 _ E _ _ _) (fun hw => ?_)
  have hm : clean M N := hw.m
  have fin : ∀ b1, N ≤ b1 → ∀ r : Bool, r = inR a b f → ∀ h', h' = (⟨F, upd M b1 (some (.cells 48 [kv, .int .i64 f.2] 2)), b1 + 1⟩ : Hp) → h'.wf → ∃ h'', h'.wk h'' ∧ (h''.wf → K (.bool r) h'') := fun b1 hb1 r e h' e' hc => by
    subst e'
    refine ⟨⟨F, M, b1 + 1⟩, wk_drop hc (subM_drop (subM_refl _) (hm _ hb1)), fun hw' => ?_⟩
    rw [e]; exact k _ (by omega) hw'
  refine nw_r (cs := [kv, .int .i64 f.2]) (fun b1 hb1 => ?_)
  have hb := upd_same M b1 (some (.cells 48 [kv, .int .i64 f.2] 2))
  try simp only [sS]
  refine ldM (v := kv) ?_ hb
  refine lenF_r hkv ?_
  refine gtr_r (fun h0 => ?_) (fun h0 => ?_)
  · have hl : 0 < f.1.length := by omega
    try simp only [sS]
    refine ldM (v := kv) ?_ hb
    try simp only [sS]
    refine ixn_r (i := 0) hkv hl fun p => ?_
    try simp only [sS]
    refine ldF (v := .int .i64 a) ?_ hc1
    try simp only [sS]
    have e0 : f.1.getD 0 0 = f.1[0] := getD_at hl 0
    refine geq_r (fun h1 => ?_) (fun h1 => ?_)
    · try simp only [sS]
      refine ldM (v := kv) ?_ hb
      try simp only [sS]
      refine ixn_r (i := 0) hkv hl fun p => ?_
      try simp only [sS]
      refine ldF (v := .int .i64 b) ?_ hc2
      try simp only [sS]
      refine lss_r (fun h2 => ?_) (fun h2 => ?_)
      · try simp only [sS]
        exact fin b1 hb1 true (by unfold inR; rw [decide_eq_true ⟨hl, by omega, by omega⟩]) _ rfl
      · try simp only [sS]
        exact fin b1 hb1 false (by unfold inR; rw [decide_eq_false (by omega)]) _ rfl
    · try simp only [sS]
      exact fin b1 hb1 false (by unfold inR; rw [decide_eq_false (by omega)]) _ rfl
  · try simp only [sS]
    exact fin b1 hb1 false (by unfold inR; rw [decide_eq_false (by omega)]) _ rfl
def ofK (a b : Int) (want : Bool) (f : Fc) : Bool := inR a b f == want
theorem bneV {x y : Bool} : binV .bool .neq (.bool x) (.bool y) = some (.bool !(x == y)) := rfl
theorem chosen1_c {b1 b2 : Nat} {w : Value} {a b : Int} {want : Bool} {cs : List Value} {f : Fc} (h1 : F b1 = some [w]) (h2 : F b2 = some [.bool want]) (hW : isW F w a b) (hf : fctD F cs f) (k : ∀ N', N ≤ N' → (Hp.mk F M N').wf → K (.bool (!ofK a b want f)) ⟨F, M, N'⟩) :
    callv Tryz.prog (.func (.func 78) #[] #[.pointer (some ⟨b1, 0, none⟩), .pointer (some ⟨b2, 0, none⟩)]) #[.agg cs.toArray] K E ⟨F, M, N⟩ := by
  have hf' := hf
  obtain ⟨kv, rfl, hkv, hkl⟩ := hf'
  refine callv_of_text mixed Tryz.func78 (by kernel_rfl) (t78 _ E _ _ _) (fun hw => ?_)
  have hm : clean M N := hw.m
  refine nw_r (cs := [kv, .int .i64 f.2]) (fun b3 hb3 => ?_)
  refine ldF (v := w) ?_ h1
  refine ldMa (vs := [kv, .int .i64 f.2]) ?_
  refine ldF (v := .bool want) ?_ h2
  refine inR_c hW hf (fun N2 hN2 hw2 => ?_)
  refine ⟨ldV_c (row_F h2) rfl, ?_⟩
  refine pv_r bneV ?_
  exact fun hc => ⟨⟨F, M, N2⟩, wk_drop hc (subM_drop (subM_refl _) (hm _ hb3)), fun hw' => k _ (by omega) hw'⟩
end Go.Proofs.YtgjdjdjhoipfmaaGreatDoor.A
open Go Go.RowKit Go.Proofs.YtgjdjdjhoipfmaaGreatDoor.K Go.Proofs.YtgjdjdjhoipfmaaGreatDoor.T
set_option linter.unusedVariables false
set_option linter.unusedSimpArgs false
namespace Go.Proofs.YtgjdjdjhoipfmaaGreatDoor.A
variable {F F' : Nat → Option (List Value)} {M M' : Nat → Option Chunk} {N N' : Nat} {K : Kont} {E : PanK}
theorem flatten_takeF {sz : Nat} : ∀ (rows : List (List Value)) (i : Nat), (∀ r ∈ rows, r.length = sz) → rows.flatten.take (i * sz) = (rows.take i).flatten
  | [], i, _ => by simp
  | x :: rows, 0, _ => by simp
  | x :: rows, i + 1, h => by
    have hx := h x List.mem_cons_self
    have ih := flatten_takeF rows i fun r hr => h r (List.mem_cons_of_mem _ hr)
    rw [List.flatten_cons, List.take_succ_cons, List.flatten_cons, List.take_append, List.take_of_length_le (by rw [Nat.succ_mul]; omega), ← ih]
    congr 2
    rw [Nat.succ_mul]; omega
theorem splice_row {sz : Nat} {rows : List (List Value)} {rest r : List Value} (hl : ∀ q ∈ rows, q.length = sz) {i : Nat} (hi : i < rows.length) (hr : r.length = sz) : splice (rows.flatten ++ rest) (i * sz) r = (rows.set i r).flatten ++ rest := by
  have hA : (rows.take i).flatten.length = i * sz := by rw [flatten_len _ (fun q hq => hl q (List.mem_of_mem_take hq)), List.length_take, Nat.min_eq_left (by omega)]
  have e : rows = rows.take i ++ rows[i] :: rows.drop (i + 1) := by rw [← List.drop_eq_getElem_cons hi, List.take_append_drop]
  have h := splice_at (rows.take i).flatten rows[i] r ((rows.drop (i + 1)).flatten ++ rest) (by rw [hl _ (List.getElem_mem hi), hr])
  rw [hA] at h
  have e1 : rows.flatten ++ rest = (rows.take i).flatten ++ rows[i] ++ ((rows.drop (i + 1)).flatten ++ rest) := by
    have e2 := congrArg List.flatten e
    rw [List.flatten_append, List.flatten_cons] at e2
    rw [e2]; simp [List.append_assoc]
  rw [e1, h, List.set_eq_take_append_cons_drop, if_pos hi]
  simp [List.flatten_append, List.append_assoc]
theorem orowput_r {α : Type} {R : List Value → α → Prop} {B sz : Nat} {e : TypeId} {v : Value} {l : List α} {rows : List (List Value)} {K : Value → Kont} {r : List Value} {y : α} (hv : own M B e sz v l.length rows.flatten) (hr : rowsF R sz rows l) {i : Nat} (hi : i < l.length) (hl : r.length = sz) (h1 : ∀ c ∈ r, c.oneCell' = true) (hR : R r y)
    (k : ∀ p M', own M' B e sz v (l.set i y).length (rows.set i r).flatten → rowsF R sz (rows.set i r) (l.set i y) → (∀ q, v.ownBlock ≠ some q → M' q = M q) → (∀ n, clean M n → clean M' n) → K p undef ⟨F, M', N⟩) : pv (iaV none sz v (.int .i64 (i : Nat))) (fun p => st sz p (.agg r.toArray) (K p)) ⟨F, M, N⟩ := by
  rcases hv.2 with ⟨rfl, h0⟩ | ⟨b, c, rest, rfl, g1, g2, g3, g4⟩
  · omega
  have hlen := hr.all.1
  have hfl := hr.flen
  have hle : i * sz + sz ≤ l.length * sz := by rw [← Nat.succ_mul]; exact Nat.mul_le_mul_right _ hi
  refine iaN_r hi ?_
  have hsp : splice (rows.flatten ++ rest) (0 + i * sz) (Value.agg r.toArray).cells.toList = (rows.set i r).flatten ++ rest := by
    rw [Nat.zero_add]
    exact splice_row hr.len (by omega) hl
  refine st_r g4 (by simpa [Value.cells] using hl) (by simpa [Value.cells] using h1) (by rw [List.length_append]; omega) hsp ?_
  have hrs := rowsF_set hr (r := r) (x := y) ⟨hl, h1⟩ hR i
  refine k _ _ ⟨by rw [hrs.flen], .inr ⟨b, c, rest, by rw [List.length_set], by rw [List.length_set]; exact g1, g2, g3, upd_same _ _ _⟩⟩ hrs (fun q hq => upd_ne _ _ (fun e => hq (by rw [e]; rfl))) (fun n hn => hn.set (hn.lt g4) _)
theorem oidx_c {B : Nat} {v d : Value} {l : List Fc} {rows : List (List Value)} {p : Fc → Bool} (hv : own M B 48 2 v l.length rows.flatten) (hr : rowsF (fctD F) 2 rows l) (hl : l.length ≤ 1000000000)
    (hd : ∀ {K : Kont} (M1 : Nat → Option Chunk) (N1 : Nat) (cs : List Value) (f : Fc), fctD F cs f → (∀ N', N1 ≤ N' → (Hp.mk F M1 N').wf → K (.bool (!p f)) ⟨F, M1, N'⟩) → callv Tryz.prog d #[.agg cs.toArray] K E ⟨F, M1, N1⟩)
    (k1 : ∀ i (hi : i < l.length), (∀ f ∈ l.take i, p f = true) → p l[i] = false → ∀ N', N ≤ N' → (Hp.mk F M N').wf → K (.int .i64 (i : Nat)) ⟨F, M, N'⟩)
    (k2 : (∀ f ∈ l, p f = true) → ∀ N', N ≤ N' → (Hp.mk F M N').wf → K (.int .i64 (-1)) ⟨F, M, N'⟩) :
    callv Tryz.prog (.func (.func 94) #[] #[]) #[v, d] K E ⟨F, M, N⟩ := by
  refine callv_of_text mixed Tryz.func94 (by kernel_rfl) (t94 _ E _ _) (fun hw => ?_)
  have hlv : lenV v = some (.int .i64 (l.length : Nat)) := by obtain ⟨a, c, e, _⟩ := hv.form; rw [e]; rfl
  refine pv_r hlv ?_
  refine l94_1_0_1_0_0 (σ := Nat) (fun i => .int .i64 (i : Nat)) (fun i h => ∃ N', h = ⟨F, M, N'⟩ ∧ N ≤ N' ∧ i ≤ l.length ∧ ∀ f ∈ l.take i, p f = true) (fun i => l.length - i) 0 rfl
    (fun hw1 => ⟨_, wk_refl hw1, N, rfl, Nat.le_refl _, Nat.zero_le _, by simp⟩) (fun kk i j h1 hI hw1 next => ?_)
  rw [t94_1_0_1_0_0]
  obtain ⟨N1, rfl, hN1, hi, he⟩ := hI
  refine lss_r (fun hlt => ?_) (fun hge => ?_)
  · have i1 : i < l.length := by omega
    try simp only [sS]
    refine orow_r hv hr (by decide) i1 fun q r _ hR _ _ => hd _ _ _ _ hR (fun N2 hN2 hw2 => ?_)
    cases hp : p l[i]
    · refine cnd_t ?_
      exact fun hc => ⟨_, wk_refl hc, fun hw' => k1 i i1 he hp _ (by omega) hw'⟩
    · refine cnd_f ?_
      refine inc_r (by omega) ?_
      refine next (i + 1) _ _ (by omega) (fun hw3 => ⟨_, wk_refl hw3, N2, rfl, by omega, i1, fun f hf => ?_⟩)
      rw [List.take_add_one, List.getElem?_eq_getElem i1, Option.toList_some] at hf
      rcases List.mem_append.1 hf with hf | hf
      · exact he f hf
      · rw [List.mem_singleton.1 hf]; exact hp
  · try simp only [sS]
    refine fun hc => ⟨_, wk_refl hc, fun hw' => k2 (fun f hf => he f ?_) _ hN1 hw'⟩
    rw [List.take_of_length_le (by omega)]; exact hf
theorem take_set_same {α : Type} (l : List α) (i : Nat) (x : α) (hi : i < l.length) : (l.set i x).take (i + 1) = l.take i ++ [x] := by
  rw [List.take_add_one, List.getElem?_set_self hi, Option.toList_some, List.take_set_of_le (Nat.le_refl _)]
set_option maxRecDepth 10000 in
set_option maxHeartbeats 2000000 in
theorem delf_c {B : Nat} {v d : Value} {l : List Fc} {rows : List (List Value)} {p : Fc → Bool} (hv : own M B 48 2 v l.length rows.flatten) (hr : rowsF (fctD F) 2 rows l) (hl : l.length ≤ 1000000000) (hB : B ≤ N)
    (hd : ∀ {K : Kont} (M1 : Nat → Option Chunk) (N1 : Nat) (cs : List Value) (f : Fc), fctD F cs f → (∀ N', N1 ≤ N' → (Hp.mk F M1 N').wf → K (.bool (!p f)) ⟨F, M1, N'⟩) → callv Tryz.prog d #[.agg cs.toArray] K E ⟨F, M1, N1⟩)
    (k : ∀ v' M' N' rows', own M' B 48 2 v' (l.filter p).length rows'.flatten → rowsF (fctD F) 2 rows' (l.filter p) → (∀ x, v.ownBlock ≠ some x → x < N → M' x = M x ∧ v'.ownBlock ≠ some x) → N ≤ N' → clean M' N' → (Hp.mk F M' N').wf → ∃ h', (Hp.mk F M' N').wk h' ∧ (h'.wf → K v' h')) :
    callv Tryz.prog (.func (.func 77) #[] #[]) #[v, d] K E ⟨F, M, N⟩ := by
  refine callv_of_text mixed Tryz.func77 (by kernel_rfl) (t77 _ E _ _) (fun hw => ?_)
  have hm : clean M N := hw.m
  have hlv : lenV v = some (.int .i64 (l.length : Nat)) := by obtain ⟨a, c, e, _⟩ := hv.form; rw [e]; rfl
  refine oidx_c hv hr hl hd (fun i hi he hpi N1 hN1 hw1 => ?_) (fun he N1 hN1 hw1 => ?_)
  rotate_left
  · refine eql_t rfl ?_
    try simp only [sS]
    have e : l.filter p = l := List.filter_eq_self.2 he
    rw [e] at k
    exact fun hc => k v M N1 rows hv hr (fun x hx _ => ⟨rfl, hx⟩) hN1 (hm.up hN1) hc
  refine eql_f (by omega) ?_
  try simp only [sS]
  refine inc_r (by omega) ?_
  refine l77_1_1_1_0_1_0_0 (σ := Nat × Nat) (fun s => .int .i64 (s.1 : Nat)) (fun s => .int .i64 (s.2 : Nat))
    (fun s h => ∃ M' N' rows' l', h = ⟨F, M', N'⟩ ∧ N ≤ N' ∧ own M' B 48 2 v l'.length rows'.flatten ∧ rowsF (fctD F) 2 rows' l' ∧ l'.length = l.length ∧ s.1 < s.2 ∧ s.2 ≤ l.length ∧ l'.take s.1 = (l.take s.2).filter p ∧ l'.drop s.2 = l.drop s.2 ∧ (∀ x, v.ownBlock ≠ some x → x < N → M' x = M x) ∧ clean M' N') (fun s => l.length - s.2) (i, i + 1) rfl rfl
    (fun hw2 => ⟨_, wk_refl hw2, M, N1, rows, l, rfl, hN1, hv, hr, rfl, Nat.lt_succ_self _, hi, ?_, rfl, fun _ _ _ => rfl, hm.up hN1⟩) (fun kk s j h1 hI hw2 next => ?_)
  · simp only
    rw [List.take_add_one, List.getElem?_eq_getElem hi, Option.toList_some, List.filter_append, List.filter_eq_self.2 he]
    simp [hpi]
  rw [t77_1_1_1_0_1_0_0]
  obtain ⟨M2, N2, rows2, l2, rfl, hN2, ho, hr2, hl2, hs, hs2, ht, hdr, hM2, hm2⟩ := hI
  refine pv_r hlv ?_
  refine lss_r (fun hlt => ?_) (fun hge => ?_)
  · have j1 : s.2 < l.length := by omega
    have j2 : s.2 < l2.length := by omega
    have ej : l2[s.2] = l[s.2] := by
      have h := congrArg (fun x : List Fc => x[0]?) hdr
      simp only [List.getElem?_drop, Nat.add_zero, List.getElem?_eq_getElem j1, List.getElem?_eq_getElem j2] at h
      exact Option.some.inj h
    have hdr' : l2.drop (s.2 + 1) = l.drop (s.2 + 1) := by rw [← List.drop_drop, ← List.drop_drop, hdr]
    try simp only [sS]
    refine orow_r ho hr2 (by decide) j2 fun q r _ hR hrl hr1 => ?_
    rw [ej] at hR
    have hR' := hR
    obtain ⟨kv, hre, hkv, hkl⟩ := hR
    subst hre
    refine nw_r (fun b5 hb5 => ?_)
    refine stM (cs' := [kv, .int .i64 l[s.2].2]) ?_ (upd_same _ _ _) rfl rfl hr1
    rw [upd_upd]
    refine ldMa (vs := [kv, .int .i64 l[s.2].2]) ?_
    refine hd _ _ _ _ hR' (fun N3 hN3 hw3 => ?_)
    have hvb : ∀ x, v.ownBlock = some x → x ≠ b5 := fun x hx e => by have := ho.lt hm2 x hx; omega
    have hbox := upd_same M2 b5 (some (.cells 48 [kv, .int .i64 l[s.2].2] [Value.slice none 0 0, Value.int .i64 0].length))
    have ho3 := ho.box hm2 hb5 (some (.cells 48 [kv, .int .i64 l[s.2].2] [Value.slice none 0 0, Value.int .i64 0].length))
    have hm3 : clean (upd M2 b5 (some (.cells 48 [kv, .int .i64 l[s.2].2] [Value.slice none 0 0, Value.int .i64 0].length))) N3 := hw3.m
    have hM3 : ∀ x, v.ownBlock ≠ some x → x < N → upd M2 b5 (some (.cells 48 [kv, .int .i64 l[s.2].2] [Value.slice none 0 0, Value.int .i64 0].length)) x = M x := fun x hx hxN => (upd_ne _ _ (by omega)).trans (hM2 x hx hxN)
    generalize upd M2 b5 _ = M3 at *
    cases hp : p l[s.2]
    · rw [Bool.not_false]
      try simp only [sS]
      rw [t77_1_1_1_0_1_0_0_1_1]
      refine inc_r (by omega) ?_
      refine next (s.1, s.2 + 1) _ _ (by simp only; omega) (fun hw4 => ⟨_, wk_refl hw4, M3, N3, rows2, l2, rfl, by omega, ho3, hr2, hl2, by simp only; omega, j1, ?_, hdr', hM3, hm3⟩)
      simp only
      rw [ht, List.take_add_one, List.getElem?_eq_getElem j1, Option.toList_some, List.filter_append]
      simp [hp]
    · rw [Bool.not_true]
      try simp only [sS]
      refine ldMa (vs := [kv, .int .i64 l[s.2].2]) ?_ hbox
      have i1 : s.1 < l2.length := by omega
      refine orowput_r (y := l[s.2]) ho3 hr2 i1 rfl hr1 hR' fun q M4 g1 g2 g3 g4 => ?_
      refine inc_r (by omega) ?_
      rw [t77_1_1_1_0_1_0_0_1_1]
      refine inc_r (by omega) ?_
      refine next (s.1 + 1, s.2 + 1) _ _ (by simp only; omega) (fun hw4 => ⟨_, wk_refl hw4, M4, N3, _, _, rfl, by omega, g1, g2, by rw [List.length_set]; exact hl2, by simp only; omega, j1, ?_, ?_, fun x hx hxN => (g3 x hx).trans (hM3 x hx hxN), g4 _ hm3⟩)
      · simp only
        rw [take_set_same _ _ _ i1, ht, List.take_add_one, List.getElem?_eq_getElem j1, Option.toList_some, List.filter_append]
        simp [hp]
      · simp only
        rw [List.drop_set_of_lt (by omega)]
        exact hdr'
  · try simp only [sS]
    have es : s.2 = l.length := by omega
    rw [es, List.take_length] at ht
    have i1 : s.1 < l.length := by omega
    have hlen2 := hr2.all.1
    have hfl2 := hr2.flen
    have hn : (l.filter p).length = s.1 := by rw [← ht, List.length_take]; omega
    rcases ho.2 with ⟨hv0, h0⟩ | ⟨b, c, rest, hvf, g1, g2, g3, g4⟩
    · omega
    rw [hvf, hl2]
    refine sl_suf s.1 (by omega) (by omega) ?_
    rw [if_neg (by omega)]
    refine .inr ⟨b, 0 + s.1 * 2, l.length - s.1, c - s.1, _, _, _, rfl, by omega, g4, by exact List.all_eq_true.1 rfl, by rw [List.length_append, hfl2]; omega, ?_⟩
    refine sl_pre s.1 (by omega) ?_
    obtain ⟨Z, hcs⟩ : ∃ Z, splice (rows2.flatten ++ rest) (0 + s.1 * 2) (List.replicate (l.length - s.1) [Value.slice none 0 0, Value.int .i64 0]).flatten = (rows2.take s.1).flatten ++ Z := ⟨_, by
      unfold splice
      rw [Nat.zero_add, List.take_append_of_le_length (by rw [hfl2]; omega), flatten_takeF rows2 s.1 hr2.len, List.append_assoc]⟩
    have hrt := rows_take hr2 s.1
    rw [ht] at hrt
    refine fun hc => k _ _ N2 (rows2.take s.1) ⟨by rw [hrt.flen], .inr ⟨b, c, Z, by rw [hn], by omega, g2, g3, ?_⟩⟩ hrt (fun x hx hxN => ⟨?_, fun e => hx (by rw [hvf]; exact e)⟩) hN2 (hm2.set (hm2.lt g4) _) hc
    · rw [← hcs]; exact upd_same _ _ _
    · have hxb : x ≠ b := fun e => hx (by rw [hvf, e]; rfl)
      exact (upd_ne _ _ hxb).trans (hM2 x hx hxN)
theorem chosen_c {v w : Value} {l : List Fc} {a b : Int} {want : Bool} (hv : fctsD F v l) (hW : isW F w a b) (hl : l.length ≤ 1000000000) (hk : ∀ f ∈ l, f.1.length ≤ 10000000000)
    (k : ∀ v' F' N', (Hp.mk F' M N').wf → subF F F' → N ≤ N' → fctsD F' v' (l.filter (ofK a b want)) → K v' ⟨F', M, N'⟩) :
    callv Tryz.prog (.func (.func 40) #[] #[]) #[v, w, .bool want] K E ⟨F, M, N⟩ := by
  refine callv_of_text mixed Tryz.func40 (by kernel_rfl) (t40 _ E _ _ _) (fun hw => ?_)
  have hm : clean M N := hw.m
  have hW' := hW
  obtain ⟨c1, c2, hwf, _, _⟩ := hW'
  refine nw_r (cs := [w]) (fun b1 hb1 => ?_) (by rw [hwf]; rfl)
  refine nw_r (cs := [.bool want]) (fun b2 hb2 => ?_)
  generalize hM2 : upd (upd M b1 _) b2 _ = M2
  have g1 : ∃ e, M2 b1 = some (.cells e [w] 1) := ⟨_, by rw [← hM2]; exact (upd_ne _ _ (by omega)).trans (upd_same _ _ _)⟩
  have g2 : ∃ e, M2 b2 = some (.cells e [.bool want] 1) := ⟨_, by rw [← hM2]; exact upd_same _ _ _⟩
  have hM2' : ∀ q, q < N → M2 q = M q := fun q hq => by rw [← hM2]; exact (upd_ne _ _ (by omega)).trans (upd_ne _ _ (by omega))
  clear hM2
  obtain ⟨ty1, g1⟩ := g1
  obtain ⟨ty2, g2⟩ := g2
  refine callv_go (fun hc => ⟨_, frz_wf hm hM2' hc, ?_⟩)
  have hs := subF_frzAll (N := N) hc
  have f1 := frz_at (F := F) (N := N) (b := b1) (by omega) g1
  have f2 := frz_at (F := F) (N := N) (b := b2) (by omega) g2
  generalize frzAll F M2 N = F1 at *
  clear hc g1 g2 hM2' M2
  refine cclone_o (hv.mono hs) hl hk (fun v2 F2 M2 N2 rows hF2 hN2 ho hr hM2 hm2 hw2 => ?_)
  refine delf_c (p := ofK a b want) ho hr hl (by omega) (fun M1 N1 cs f hf kk => chosen1_c (hF2 _ _ f1) (hF2 _ _ f2) (hW.mono (hs.trans hF2)) hf kk) (fun v3 M3 N3 rows3 ho3 hr3 hM3 hN3 hm3 hc3 => ⟨_, wk_refl hc3, fun hw3 => ?_⟩)
  have hX : ∀ q, q < N → M3 q = M q := fun q hq => ((hM3 q (fun e => by have := (ho.ge q e).1; omega) (by omega)).1).trans (hM2 q (by omega))
  have ho3' : own M3 N 48 2 v3 (l.filter (ofK a b want)).length rows3.flatten := ho3.keep (fun _ _ => rfl) (by omega)
  exact fun hc => ⟨_, frz_wf hm hX hc, fun hw' => k _ _ _ hw' ((hs.trans hF2).trans (subF_frzAll hc)) (by omega) (fcts_frzA hc ho3' hr3)⟩
end Go.Proofs.YtgjdjdjhoipfmaaGreatDoor.A
open Go Go.RowKit Go.Proofs.YtgjdjdjhoipfmaaGreatDoor.K Go.Proofs.YtgjdjdjhoipfmaaGreatDoor.T
set_option linter.unusedVariables false
set_option linter.unusedSimpArgs false
namespace Go.Proofs.YtgjdjdjhoipfmaaGreatDoor.A
variable {F F' : Nat → Option (List Value)} {M M' : Nat → Option Chunk} {N N' : Nat} {K : Kont} {E : PanK}
def entsD (F : Nat → Option (List Value)) (v : Value) (h : List En) : Prop := ∃ rows, sF F 2 v h.length rows.flatten ∧ rowsF (entD F) 2 rows h
theorem entsD.mono {v : Value} {t : List En} (h : entsD F v t) (hF : subF F F') : entsD F' v t := let ⟨rows, h1, h2⟩ := h; ⟨rows, h1.mono hF, h2.mono fun _ _ hr => hr.mono hF⟩
theorem entsD.form {v : Value} {t : List En} (h : entsD F v t) : ∃ a c, v = .slice a t.length c := let ⟨rows, h1, _⟩ := h; let ⟨a, c, h2, _⟩ := h1.form; ⟨a, c, h2⟩
theorem entsD.nil {c : Nat} : entsD F (.slice none 0 c) [] := ⟨[], sF.nil _ _ _, rowsF.nil _ _⟩
theorem ents_frzA {v : Value} {t : List En} {rows : List (List Value)} (hc : (Hp.mk F M' N').wf) (ho : own M' N 52 2 v t.length rows.flatten) (hr : rowsF (entD F) 2 rows t) : entsD (frzAll F M' N) v t :=
  ⟨rows, ho.rd.frz hc (fun b hb => .inl (ho.ge b hb).1), hr.mono fun _ _ h => h.mono (subF_frzAll hc)⟩
theorem ofK_true (a b : Int) : ofK a b true = inR a b := by funext f; unfold ofK; cases inR a b f <;> rfl
theorem ofK_false (a b : Int) : ofK a b false = outR a b := by funext f; unfold ofK outR; cases inR a b f <;> rfl
theorem take_fm (f : En → Option En) (h : List En) {i : Nat} (hi : i < h.length) : (h.take (i + 1)).filterMap f = (h.take i).filterMap f ++ (f h[i]).toList := by
  rw [List.take_add_one, List.getElem?_eq_getElem hi, Option.toList_some, List.filterMap_append]
  cases hf : f h[i] <;> simp [hf]
theorem fm_len (f : En → Option En) (h : List En) (i : Nat) : ((h.take i).filterMap f).length ≤ i := by
  have := List.length_filterMap_le f (h.take i)
  rw [List.length_take] at this; omega
theorem okH.keys {l : List Dm} {n m : Nat} {h : List En} (o : okH l n m h) (hl : l.length ≤ 1000) {e : En} (he : e ∈ h) : ∀ f ∈ e.2, f.1.length ≤ 10000000000 := fun f hf => by
  have := inF_len (o.fi e he f hf); omega
set_option maxRecDepth 10000 in
theorem centries_c {B g : Nat} {hv dv : Value} {rows : List (List Value)} {l : List Dm} {h : List En} {a b : Int} (hC : isCube F M B g hv dv rows l h) (o : okH l 5000 200 h) (hdl : l.length ≤ 1000)
    (k : ∀ v' F' N', (Hp.mk F' M N').wf → subF F F' → N ≤ N' → entsD F' v' (entF a b h) → K v' ⟨F', M, N'⟩) :
    callv Tryz.prog (.func (.func 19) #[] #[]) #[.pointer (some ⟨g, 0, none⟩), .int .i64 a, .int .i64 b] K E ⟨F, M, N⟩ := by
  refine callv_of_text mixed Tryz.func19 (by kernel_rfl) (t19 _ E _ _ _) (fun hw => ?_)
  have hm : clean M N := hw.m
  have hgN := hm.lt hC.gg
  have hol := o.le
  have hlv : lenV hv = some (.int .i64 (h.length : Nat)) := by obtain ⟨x, c, e, _⟩ := hC.oo.form; rw [e]; rfl
  try simp only [sS]
  refine ldM (v := hv) ?_ hC.gg
  refine pv_r hlv ?_
  refine l19_1_1_0_1_0_0 (σ := Nat × Value) (fun s => s.2) (fun s => .int .i64 (s.1 : Nat))
    (fun s h' => ∃ F' M' N' rows', h' = ⟨F', M', N'⟩ ∧ subF F F' ∧ N ≤ N' ∧ (∀ q, q < N → M' q = M q) ∧ clean M' N' ∧ s.1 ≤ h.length ∧ own M' N 52 2 s.2 (entF a b (h.take s.1)).length rows'.flatten ∧ rowsF (entD F') 2 rows' (entF a b (h.take s.1))) (fun s => h.length - s.1) (0, .slice none 0 0) rfl rfl
    (fun hw2 => ⟨_, wk_refl hw2, F, M, N, [], rfl, subF.refl _, Nat.le_refl _, fun _ _ => rfl, hm, Nat.zero_le _, own.nil, rowsF.nil _ _⟩) (fun kk s j h1 hI hw2 next => ?_)
  rw [t19_1_1_0_1_0_0]
  obtain ⟨F1, M1, N1, rows1, rfl, hF1, hN1, hM1, hm1, hi, ho, hr⟩ := hI
  refine lss_r (fun hlt => ?_) (fun hge => ?_)
  · have i1 : s.1 < h.length := by omega
    have e1 := take_fm (entE a b) h i1
    have hle : (entF a b (h.take s.1)).length ≤ s.1 := fm_len (entE a b) h s.1
    try simp only [sS]
    have hoo1 : own M1 B 52 2 hv h.length rows.flatten := hC.oo.keep (fun q hq => hM1 q (hC.oo.lt hm q hq)) (Nat.le_refl _)
    refine orow_r hoo1 hC.rr (by decide) i1 fun p r _ hR _ hr1 => ?_
    obtain ⟨fv, rfl, hfv, hfl⟩ := hR
    have hfm := o.fl _ (List.getElem_mem i1)
    refine nw_r (fun b4 hb4 => ?_)
    refine stM (cs' := [.int .u32 h[s.1].1, fv]) ?_ (upd_same _ _ _) rfl rfl hr1
    rw [upd_upd]
    have hbox := upd_same M1 b4 (some (.cells 52 [.int .u32 h[s.1].1, fv] [Value.int .u32 0, Value.slice none 0 0].length))
    have ho2 := ho.box hm1 hb4 (some (.cells 52 [.int .u32 h[s.1].1, fv] [Value.int .u32 0, Value.slice none 0 0].length))
    have hm2 := hm1.new hb4 (some (.cells 52 [.int .u32 h[s.1].1, fv] [Value.int .u32 0, Value.slice none 0 0].length))
    have hM2 : ∀ q, q < N → upd M1 b4 (some (.cells 52 [.int .u32 h[s.1].1, fv] [Value.int .u32 0, Value.slice none 0 0].length)) q = M q := fun q hq => (upd_ne _ _ (by omega)).trans (hM1 q hq)
    generalize upd M1 b4 _ = M2 at *
    try simp only [sS]
    refine ldM (v := fv) ?_ hbox
    refine within_cube_c (fun w F3 N3 hw3 hF3 hN3 hW => ?_)
    refine ⟨ldV_c (row_M hbox) rfl, ?_⟩
    refine chosen_c (hfv.mono (hF1.trans hF3)) hW (by omega) (o.keys hdl (List.getElem_mem i1)) (fun v4 F4 N4 hw4 hF4 hN4 hf4 => ?_)
    rw [ofK_true] at hf4
    obtain ⟨frows, hf4a, hf4b⟩ := hf4
    refine lenF_r hf4a ?_
    have hF4' := (hF1.trans hF3).trans hF4
    refine gtr_r (fun h0 => ?_) (fun h0 => ?_)
    · try simp only [sS]
      refine ldM (v := .int .u32 h[s.1].1) ?_ hbox
      obtain ⟨a5, c5, e5, _⟩ := hf4a.form
      have hflen : (h[s.1].2.filter (inR a b)).length ≤ 200 := by have := List.length_filter_le (inR a b) h[s.1].2; omega
      have he4 : entD F4 [.int .u32 h[s.1].1, v4] (h[s.1].1, h[s.1].2.filter (inR a b)) := ⟨v4, rfl, ⟨frows, hf4a, hf4b⟩, by simp only; omega⟩
      refine pv_r (v := .agg #[.int .u32 h[s.1].1, v4]) (by rw [e5]; kernel_rfl) ?_
      refine push_r (new := [.int .u32 h[s.1].1, v4]) ho2 hw4.m (by omega) (by rw [e5]; kernel_rfl) rfl he4.one.2 (by omega) (by unfold maxLen; omega) (fun p v' M5 N5 g1 g2 g3 g4 => ?_)
      rw [t19_1_1_0_1_0_0_1_1_1]
      refine inc_r (by omega) ?_
      have e2 : entF a b (h.take (s.1 + 1)) = entF a b (h.take s.1) ++ [(h[s.1].1, h[s.1].2.filter (inR a b))] := by
        unfold entF
        rw [e1]
        unfold entE
        rw [if_pos (by omega)]; rfl
      refine next (s.1 + 1, v') _ _ (by simp only; omega) (fun hw5 => ⟨_, wk_refl hw5, F4, M5, N5, rows1 ++ [[.int .u32 h[s.1].1, v4]], rfl, hF4', by omega, fun q hq => ?_, g4, i1, ?_, ?_⟩)
      · exact ((g2 q (fun e => by have := (ho2.ge q e).1; omega) (by omega)).1).trans (hM2 q hq)
      · simp only
        rw [e2, List.length_append, List.length_singleton]
        exact (by simpa using g1 : own M5 N 52 2 v' _ (rows1 ++ [[.int .u32 h[s.1].1, v4]]).flatten)
      · simp only
        rw [e2]
        exact rowsF_snoc1 (hr.mono fun _ _ h => h.mono (hF3.trans hF4)) he4.one he4
    · try simp only [sS]
      rw [t19_1_1_0_1_0_0_1_1_1]
      refine inc_r (by omega) ?_
      have e2 : entF a b (h.take (s.1 + 1)) = entF a b (h.take s.1) := by
        unfold entF
        rw [e1]
        unfold entE
        rw [if_neg (by omega)]; simp
      refine next (s.1 + 1, s.2) _ _ (by simp only; omega) (fun hw5 => ⟨_, wk_refl hw5, F4, M2, N4, rows1, rfl, hF4', by omega, hM2, hw4.m, i1, ?_, ?_⟩)
      · simp only
        rw [e2]; exact ho2
      · simp only
        rw [e2]; exact hr.mono fun _ _ h => h.mono (hF3.trans hF4)
  · try simp only [sS]
    rw [List.take_of_length_le (by omega)] at ho hr
    exact fun hc => ⟨_, frz_wf hm hM1 hc, fun hw' => k _ _ _ hw' (hF1.trans (subF_frzAll hc)) hN1 (ents_frzA hc ho hr)⟩
theorem rightF_eq (l : List Dm) (a b last : Int) (e : En) (es : List En) : rightF l a b last (e :: es) = (decide (last < e.1) && fitsF l e.2 && (e.2.all (inR a b) && rightF l a b e.1 es)) := rfl
theorem rightF_nil (l : List Dm) (a b last : Int) : rightF l a b last [] = true := rfl
theorem out_all {a b : Int} {l : List Fc} : (l.filter (outR a b)).length = 0 ↔ l.all (inR a b) = true := by
  rw [List.length_eq_zero_iff, List.filter_eq_nil_iff, List.all_eq_true]
  constructor
  · intro h f hf
    have := h f hf
    unfold outR at this
    cases hi : inR a b f
    · rw [hi] at this; simp at this
    · rfl
  · intro h f hf
    unfold outR
    rw [h f hf]; decide
set_option maxRecDepth 10000 in
theorem cright_c {B g : Nat} {hv dv ev w : Value} {rows : List (List Value)} {l : List Dm} {h es : List En} {a b : Int} (hC : isCube F M B g hv dv rows l h) (hdl : l.length ≤ 1000) (hes : entsD F ev es) (hel : es.length ≤ 140737488351232) (hW : isW F w a b)
    (k : ∀ F' N', (Hp.mk F' M N').wf → subF F F' → N ≤ N' → K (.bool (rightF l a b 0 es)) ⟨F', M, N'⟩) :
    callv Tryz.prog (.func (.func 50) #[] #[]) #[.pointer (some ⟨g, 0, none⟩), w, ev] K E ⟨F, M, N⟩ := by
  refine callv_of_text mixed Tryz.func50 (by kernel_rfl) (t50 _ E _ _ _) (fun hw => ?_)
  have hm : clean M N := hw.m
  have hgN := hm.lt hC.gg
  obtain ⟨erows, he1, he2⟩ := hes
  refine lenF_r he1 ?_
  refine l50_1_1_0_1_0_0 (σ := Nat × Int) (fun s => .int .u32 s.2) (fun s => .int .i64 (s.1 : Nat))
    (fun s h' => ∃ F' N', h' = ⟨F', M, N'⟩ ∧ subF F F' ∧ N ≤ N' ∧ s.1 ≤ es.length ∧ rightF l a b 0 es = rightF l a b s.2 (es.drop s.1)) (fun s => es.length - s.1) (0, 0) rfl rfl
    (fun hw2 => ⟨_, wk_refl hw2, F, N, rfl, subF.refl _, Nat.le_refl _, Nat.zero_le _, rfl⟩) (fun kk s j h1 hI hw2 next => ?_)
  rw [t50_1_1_0_1_0_0]
  obtain ⟨F1, N1, rfl, hF1, hN1, hi, hrt⟩ := hI
  refine lss_r (fun hlt => ?_) (fun hge => ?_)
  · have i1 : s.1 < es.length := by omega
    rw [List.drop_eq_getElem_cons i1, rightF_eq] at hrt
    have hm1 : clean M N1 := hw2.m
    try simp only [sS]
    refine row_r (he1.mono hF1) (he2.mono fun _ _ h => h.mono hF1) (by decide) i1 (fun p r _ hR hrl hr1 => ?_)
    obtain ⟨fv, hre, hfv, hfl⟩ := hR
    subst hre
    refine nw_r (fun b4 hb4 => ?_)
    refine stM (cs' := [.int .u32 es[s.1].1, fv]) ?_ (upd_same _ _ _) rfl rfl hr1
    rw [upd_upd]
    have hbox := upd_same M b4 (some (.cells 52 [.int .u32 es[s.1].1, fv] [Value.int .u32 0, Value.slice none 0 0].length))
    have hg2 := (upd_ne M (b := b4) (k := g) (some (.cells 52 [.int .u32 es[s.1].1, fv] [Value.int .u32 0, Value.slice none 0 0].length)) (by omega)).trans hC.gg
    have hsub : ∀ {F' : Nat → Option (List Value)} {n : Nat}, (Hp.mk F' (upd M b4 (some (.cells 52 [.int .u32 es[s.1].1, fv] [Value.int .u32 0, Value.slice none 0 0].length))) n).wf → (Hp.mk F' (upd M b4 (some (.cells 52 [.int .u32 es[s.1].1, fv] [Value.int .u32 0, Value.slice none 0 0].length))) n).wk ⟨F', M, n⟩ := fun hc => wk_drop hc (subM_drop (subM_refl _) (hm1 _ hb4))
    generalize upd M b4 _ = M2 at *
    try simp only [sS]
    refine ldM (v := .int .u32 es[s.1].1) ?_ hbox
    refine leq_r (fun h2 => ?_) (fun h2 => ?_)
    · try simp only [sS]
      rw [decide_eq_false (by omega), Bool.false_and, Bool.false_and] at hrt
      exact fun hc => ⟨_, hsub hc, fun hw' => by have := k _ _ hw' hF1 (by omega); rw [hrt] at this; exact this⟩
    rw [decide_eq_true (by omega), Bool.true_and] at hrt
    try simp only [sS]
    refine ldM (v := fv) ?_ hbox
    try simp only [sS]
    refine fits_c hg2 (hC.dd.mono hF1) (by omega) hfv hfl (fun N3 hN3 hw3 => ?_)
    cases hfit : fitsF l es[s.1].2
    · rw [hfit, Bool.false_and] at hrt
      try simp only [sS]
      exact fun hc => ⟨_, hsub hc, fun hw' => by have := k _ _ hw' hF1 (by omega); rw [hrt] at this; exact this⟩
    rw [hfit, Bool.true_and] at hrt
    obtain ⟨f1, f2⟩ := fitsF_of hfit
    try simp only [sS]
    refine ldM (v := fv) ?_ hbox
    try simp only [sS]
    refine chosen_c hfv (hW.mono hF1) (by omega) (fun f hf => by have := inF_len (f2 f hf); omega) (fun v4 F4 N4 hw4 hF4 hN4 hf4 => ?_)
    rw [ofK_false] at hf4
    obtain ⟨frows, hf4a, hf4b⟩ := hf4
    try simp only [sS]
    refine lenF_r hf4a ?_
    refine gtr_r (fun h0 => ?_) (fun h0 => ?_)
    · try simp only [sS]
      have hall : es[s.1].2.all (inR a b) = false := by
        cases hc : es[s.1].2.all (inR a b)
        · rfl
        · have := out_all.2 hc; omega
      rw [hall, Bool.false_and] at hrt
      exact fun hc => ⟨_, hsub hc, fun hw' => by have := k _ _ hw' (hF1.trans hF4) (by omega); rw [hrt] at this; exact this⟩
    · try simp only [sS]
      rw [out_all.1 (by omega), Bool.true_and] at hrt
      refine ldM (v := .int .u32 es[s.1].1) ?_ hbox
      refine inc_r (by omega) ?_
      exact next (s.1 + 1, es[s.1].1) _ _ (by simp only; omega) (fun hw5 => ⟨_, hsub hw5, F4, N4, rfl, hF1.trans hF4, by omega, i1, hrt⟩)
  · try simp only [sS]
    rw [List.drop_eq_nil_of_le (by omega), rightF_nil] at hrt
    exact fun hc => ⟨_, wk_refl hc, fun hw' => by have := k _ _ hw' hF1 hN1; rw [hrt] at this; exact this⟩
end Go.Proofs.YtgjdjdjhoipfmaaGreatDoor.A
