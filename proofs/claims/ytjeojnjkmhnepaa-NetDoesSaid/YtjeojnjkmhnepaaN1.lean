import Derived.Test.YtjeojnjkmhnepaaT1
import Derived.Test.YtjeojnjkmhnepaaK16
open Go Go.RowKit Go.Proofs.Ytjeojnjkmhnepaa.K Go.Proofs.Ytjeojnjkmhnepaa.T
set_option linter.unusedVariables false
set_option linter.unusedSimpArgs false
namespace Go.Proofs.Ytjeojnjkmhnepaa.N
theorem mixed : Try.prog.follows .mixedOrders = true := by kernel_rfl
variable {F : Nat → Option (List Value)} {M : Nat → Option Chunk} {N : Nat} {K : Kont} {E : PanK}
/-- The bytes' cells. -/
def bc (l : List Int) : List Value := l.map (.int .u8)
/-- Bytes that are the call's own, in a row from B on. -/
def ownB (M : Nat → Option Chunk) (B : Nat) (v : Value) (l : List Int) : Prop := (∃ c, v = .slice none 0 c ∧ l = []) ∨ ∃ b c tot, v = .slice (some ⟨b, 0, none⟩) l.length c ∧ l.length ≤ c ∧ B ≤ b ∧ M b = some (.cells 5 (bc l) tot)
theorem ownB.sR {B : Nat} {v : Value} {l : List Int} (h : ownB M B v l) : sR F M 1 v l.length (bc l) := by
  refine ⟨by simp [bc], ?_⟩
  rcases h with ⟨c, rfl, rfl⟩ | ⟨b, c, tot, rfl, h1, h2, h3⟩
  · exact .inl ⟨none, c, rfl, rfl⟩
  · exact .inr ⟨b, 0, c, bc l, rfl, h1, .inr ⟨_, _, h3⟩, by rw [List.drop_zero, List.take_of_length_le (by simp [bc])]⟩
theorem ownB.keep {M' : Nat → Option Chunk} {B B' : Nat} {v : Value} {l : List Int} (h : ownB M B v l) (hB : B' ≤ B) (hM : ∀ b c, B ≤ b → M b = some c → M' b = some c) : ownB M' B' v l :=
  h.imp id fun ⟨b, c, tot, h1, h2, h3, h4⟩ => ⟨b, c, tot, h1, h2, by omega, hM b _ h3 h4⟩
theorem ownB.ge {B : Nat} {v : Value} {l : List Int} (h : ownB M B v l) : ∀ b, v.ownBlock = some b → B ≤ b := by
  intro b hb
  rcases h with ⟨c, rfl, rfl⟩ | ⟨b', c, tot, rfl, h1, h2, h3⟩
  · simp [Value.ownBlock] at hb
  · simp [Value.ownBlock] at hb; omega

/-- bytes.Clone -/
theorem bclone_c {v : Value} {l : List Int} (hv : sR F M 1 v l.length (bc l)) (hl : l.length ≤ 140737488355328)
    (k : ∀ v' M' N', (Hp.mk F M' N').wf → N ≤ N' → (∀ q, q < N → M' q = M q) → ownB M' N v' l → K v' ⟨F, M', N'⟩) : callv Try.prog (.func (.func 56) #[] #[]) #[v] K E ⟨F, M, N⟩ := by
  refine callv_of_text mixed Try.func56 (by kernel_rfl) (t56 _ E _) (fun hw => ?_)
  obtain ⟨a, c, rfl, hc⟩ := hv.form
  cases a with
  | none =>
    have hm : l.length = 0 := by rcases hv.2 with ⟨a', c', h1, h2⟩ | ⟨b, o, c', cs, h1, _⟩; exact h2; simp at h1
    refine pv_r rfl (cnd_t fun hc => ?_)
    refine ⟨_, wk_refl hc, fun hw' => k _ _ _ hw' (Nat.le_refl _) (fun _ _ => rfl) (.inl ⟨_, rfl, List.eq_nil_of_length_eq_zero hm⟩)⟩
  | some ad =>
    refine pv_r rfl (cnd_f ?_)
    refine nws_r (cs := []) (by kernel_rfl) (fun b0 hb0 => ?_)
    refine app_r0 (n := 0) (cs := []) (m := l.length) (news := bc l) (ownS_new (upd_same _ _ _) rfl) (hv.new hw.m hb0).read (ints_one _) (by omega) (by simp [maxLen]; omega) (fun h => by cases h) (fun _ b c' hb hmc hcm hc => ?_)
    have hb' : N ≤ b := by rcases hb with h | h; omega; simp [Value.ownBlock] at h; omega
    refine ⟨_, wk_refl hc, fun hw' => ?_⟩
    rw [Nat.zero_add] at hmc ⊢
    exact k _ _ _ hw' (by omega) (fun q hq => by rw [upd_ne _ _ (by omega), forget_ne _ (by simp [Value.ownBlock]; omega), upd_ne _ _ (by omega)]) (.inr ⟨b, c', _, rfl, hmc, hb', upd_same _ _ _⟩)

/-- net.clone -/
theorem nclone_c {f t : Int} {v : Value} {l : List Int} (hv : sR F M 1 v l.length (bc l)) (hl : l.length ≤ 140737488355328)
    (k : ∀ v' M' N', (Hp.mk F M' N').wf → N ≤ N' → (∀ q, q < N → M' q = M q) → ownB M' N v' l → K (.agg #[.int .i64 f, .int .i64 t, v']) ⟨F, M', N'⟩) : callv Try.prog (.func (.func 48) #[] #[]) #[.agg #[.int .i64 f, .int .i64 t, v]] K E ⟨F, M, N⟩ := by
  refine callv_of_text mixed Try.func48 (by kernel_rfl) (t48 _ E _) (fun hw => ?_)
  have hm := hw.m
  refine nw_r (fun b1 h1 => ?_)
  refine nw_r (fun b2 h2 => ?_)
  refine pv_r rfl (ldM ?_)
  have hm1 : ∀ k, b1 + 1 ≤ k → (upd M b1 (some (.cells 61 (Value.agg #[.int .i64 f, .int .i64 t, v]).cells.toList (Value.agg #[.int .i64 f, .int .i64 t, v]).cells.toList.length))) k = none := fun k hk => (upd_ne _ _ (by omega)).trans (hm k (by omega))
  refine bclone_c ((hv.new hm h1).new hm1 h2) hl (fun v' M' N' _ hN hM hv' => ?_)
  obtain ⟨a', c', rfl, hc'⟩ := (hv'.sR (F := F)).form
  have e1 := (hM b1 (by omega)).trans ((upd_ne _ _ (by omega)).trans (upd_same _ _ _))
  have e2 := (hM b2 (by omega)).trans (upd_same _ _ _)
  refine pv_r rfl (stM ?_)
  refine ldMa ?_
  refine stM ?_
  refine ldMa fun hc => ?_
  refine ⟨_, wk_refl hc, fun hw' => k _ _ _ hw' (by omega) (fun q hq => ?_) (hv'.keep (by omega) fun b c hb h => (upd_ne _ _ (by omega)).trans ((upd_ne _ _ (by omega)).trans h))⟩
  exact (upd_ne _ _ (by omega)).trans ((upd_ne _ _ (by omega)).trans ((hM q (by omega)).trans ((upd_ne _ _ (by omega)).trans (upd_ne _ _ (by omega)))))
/-- net.clone, whose bytes nobody turns any more. -/
theorem nclone_f {f t : Int} {v : Value} {l : List Int} (hm : ∀ k, N ≤ k → M k = none) (hv : sR F M 1 v l.length (bc l)) (hl : l.length ≤ 140737488355328)
    (k : ∀ v' F' N', (Hp.mk F' M N').wf → subF F F' → N ≤ N' → sF F' 1 v' l.length (bc l) → K (.agg #[.int .i64 f, .int .i64 t, v']) ⟨F', M, N'⟩) : callv Try.prog (.func (.func 48) #[] #[]) #[.agg #[.int .i64 f, .int .i64 t, v]] K E ⟨F, M, N⟩ :=
  callv_wk (nclone_c hv hl fun v' M' N' hw hN hM hv' _ => ⟨_, wk_all hm hM hw, fun hw' => k _ _ _ hw' (subF_frzAll hw) hN (hv'.sR.frz hw fun b hb => .inl (hv'.ge b hb))⟩)
end Go.Proofs.Ytjeojnjkmhnepaa.N
