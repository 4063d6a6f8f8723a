import Derived.Test.YthpacapdaembpaaDoorB1
open Go Go.RowKit Go.Proofs.YthpacapdaembpaaDoor.K Go.Proofs.YthpacapdaembpaaDoor.T
set_option linter.unusedVariables false
set_option linter.unusedSimpArgs false
namespace Go.Proofs.YthpacapdaembpaaDoor.A
variable {F F' : Nat → Option (List Value)} {M M' : Nat → Option Chunk} {N N' : Nat} {K : Kont} {E : PanK}
/-- Each step draws a box or none: nothing is there from N on. -/
def clean (M : Nat → Option Chunk) (N : Nat) : Prop := ∀ k, N ≤ k → M k = none
theorem clean.new (h : clean M N) {b : Nat} (hb : N ≤ b) (x : Option Chunk) : clean (upd M b x) (b + 1) := fun k hk => (upd_ne _ _ (by omega)).trans (h k (by omega))
theorem clean.up (h : clean M N) (hN : N ≤ N') : clean M N' := fun k hk => h k (by omega)
theorem clean.set (h : clean M N) {b : Nat} (hb : b < N) (x : Option Chunk) : clean (upd M b x) N := fun k hk => (upd_ne _ _ (by omega)).trans (h k hk)
theorem clean.lt (h : clean M N) {b : Nat} {c : Chunk} (hb : M b = some c) : b < N := by
  rcases Nat.lt_or_ge b N with h' | h'
  · exact h'
  · rw [h b h'] at hb; cases hb
/-- A slice of the call's own, of n elements, from block B on. -/
def own (M : Nat → Option Chunk) (B : Nat) (e : TypeId) (sz : Nat) (v : Value) (n : Nat) (cs : List Value) : Prop :=
  cs.length = n * sz ∧ ((v = .slice none 0 0 ∧ n = 0) ∨ ∃ b c rest, v = .slice (some ⟨b, 0, none⟩) n c ∧ n ≤ c ∧ c ≤ maxLen ∧ B ≤ b ∧ M b = some (.cells e (cs ++ rest) (c * sz)))
theorem own.nil {B : Nat} {e : TypeId} {sz : Nat} : own M B e sz (.slice none 0 0) 0 [] := ⟨by simp, .inl ⟨rfl, rfl⟩⟩
theorem own.os {B : Nat} {e : TypeId} {sz n : Nat} {v : Value} {cs : List Value} (h : own M B e sz v n cs) : ownS M e sz v n cs :=
  ⟨h.1, h.2.imp id fun ⟨b, c, rest, h1, h2, h3, _, h5⟩ => ⟨b, c, h1, h2, h3, rest, h5⟩⟩
theorem own.rd {B : Nat} {e : TypeId} {sz n : Nat} {v : Value} {cs : List Value} (h : own M B e sz v n cs) : sR F M sz v n cs := by
  refine ⟨h.1, ?_⟩
  rcases h.2 with ⟨rfl, rfl⟩ | ⟨b, c, rest, rfl, h2, h3, h4, h5⟩
  · exact .inl ⟨_, _, rfl, rfl⟩
  · exact .inr ⟨b, 0, c, cs ++ rest, rfl, h2, .inr ⟨_, _, h5⟩, by rw [List.drop_zero, ← h.1, List.take_left]⟩
theorem own.form {B : Nat} {e : TypeId} {sz n : Nat} {v : Value} {cs : List Value} (h : own M B e sz v n cs) : ∃ a c, v = .slice a n c ∧ n ≤ c := by
  rcases h.2 with ⟨rfl, rfl⟩ | ⟨b, c, rest, rfl, h2, h3, h4, h5⟩
  · exact ⟨_, _, rfl, Nat.le_refl _⟩
  · exact ⟨_, _, rfl, h2⟩
theorem own.one {B : Nat} {e : TypeId} {sz n : Nat} {v : Value} {cs : List Value} (h : own M B e sz v n cs) : v.oneCell' = true := by
  obtain ⟨a, c, rfl, _⟩ := h.form; rfl
theorem own.ge {B : Nat} {e : TypeId} {sz n : Nat} {v : Value} {cs : List Value} (h : own M B e sz v n cs) : ∀ q, v.ownBlock = some q → B ≤ q ∧ M q ≠ none := by
  rcases h.2 with ⟨rfl, rfl⟩ | ⟨b, c, rest, rfl, h2, h3, h4, h5⟩
  · intro q hq; simp [Value.ownBlock] at hq
  · intro q hq; simp [Value.ownBlock] at hq; subst hq; exact ⟨h4, by rw [h5]; simp⟩
theorem own.lt {B : Nat} {e : TypeId} {sz n : Nat} {v : Value} {cs : List Value} (h : own M B e sz v n cs) (hm : clean M N) : ∀ q, v.ownBlock = some q → q < N := fun q hq => by
  have := (h.ge q hq).2
  cases hq : M q with
  | none => exact absurd hq this
  | some c => exact hm.lt hq
theorem own.keep {B B' : Nat} {e : TypeId} {sz n : Nat} {v : Value} {cs : List Value} (h : own M B e sz v n cs) (hM : ∀ q, v.ownBlock = some q → M' q = M q) (hB : B' ≤ B := by omega) : own M' B' e sz v n cs :=
  ⟨h.1, h.2.imp id fun ⟨b, c, rest, h1, h2, h3, h4, h5⟩ => ⟨b, c, rest, h1, h2, h3, by omega, (hM b (by rw [h1]; rfl)).trans h5⟩⟩
/-- What is not v's, and was there, stays, and is not v''s. -/
def fr (M M' : Nat → Option Chunk) (N : Nat) (v v' : Value) : Prop := ∀ q, v.ownBlock ≠ some q → q < N → M' q = M q ∧ v'.ownBlock ≠ some q
theorem fr.trans {M'' : Nat → Option Chunk} {v v' v'' : Value} (h : fr M M' N v v') (k : fr M' M'' N' v' v'') (hN : N ≤ N') : fr M M'' N v v'' := fun q hq hl =>
  ⟨((k q (h q hq hl).2 (by omega)).1).trans (h q hq hl).1, (k q (h q hq hl).2 (by omega)).2⟩
theorem fr.refl {v : Value} : fr M M N v v := fun q hq _ => ⟨rfl, hq⟩
/-- append, onto a slice of one's own. -/
theorem own.app {B : Nat} {e : TypeId} {sz bytes n m : Nat} {v x : Value} {cs news : List Value} (h : own M B e sz v n cs) (hm : clean M N) (hB : B ≤ N) (hx : sR F M sz x m news) (h1 : ∀ c ∈ news, c.oneCell' = true) (hb : (n + m) * bytes ≤ 140737488355328) (hmx : n + m ≤ maxLen)
    (k : ∀ v' M' N', own M' B e sz v' (n + m) (cs ++ news) → fr M M' N v v' → N ≤ N' → clean M' N' → K v' ⟨F, M', N'⟩) : appX e sz bytes v x K ⟨F, M, N⟩ := by
  have hlen : (cs ++ news).length = (n + m) * sz := by rw [List.length_append, h.1, hx.1, Nat.add_mul]
  refine app_r0 h.os hx.read h1 hb hmx (fun hv h0 => ?_) (fun _ b c hb hc hcm => ?_)
  · subst hv; subst h0
    have hn : news = [] := List.eq_nil_of_length_eq_zero (by simpa using hx.1)
    subst hn
    have hn0 : n = 0 := by
      rcases h.2 with ⟨_, h⟩ | ⟨b, c, rest, h1, _⟩
      · exact h
      · cases h1
    subst hn0
    exact k _ _ _ ⟨hlen, .inl ⟨rfl, rfl⟩⟩ fr.refl (Nat.le_refl _) hm
  · have hlt := h.lt hm
    have hbB : B ≤ b := by rcases hb with hb | hb; omega; exact (h.ge b hb).1
    have hfn : ∀ q, forget M v q = M q ∨ v.ownBlock = some q := fun q => by
      by_cases hq : v.ownBlock = some q
      · exact .inr hq
      · exact .inl (forget_ne _ hq)
    refine k _ _ _ ⟨hlen, .inr ⟨b, c, [], rfl, hc, hcm, hbB, by rw [upd_same, List.append_nil]⟩⟩ (fun q hq hqN => ?_) (Nat.le_max_left _ _) (fun q hq => ?_)
    · have hqb : q ≠ b := by rcases hb with hb | hb; omega; exact fun e => hq (e ▸ hb)
      exact ⟨(upd_ne _ _ hqb).trans (forget_ne _ hq), by simp [Value.ownBlock]; omega⟩
    · rw [upd_ne _ _ (by omega)]
      rcases hfn q with hf | hf
      · rw [hf]; exact hm q (by omega)
      · have := hlt q hf; omega
/-- Steps by form. -/
theorem len_r {a : Option Addr} {n c : Nat} {h : Hp} (k : K (.int .i64 n) h) : pv (lenV (.slice a n c)) K h := ⟨_, rfl, k⟩
theorem i64inc {e : EqK} {a : Nat} {h : Hp} (h1 : a < 9223372036854775807) (k : K (.int .i64 (a + 1 : Nat)) h) : pv (binV e .add (.int .i64 (a : Nat)) (.int .i64 1)) K h := inc_r h1 k
/-- Arithmetic of numbers that stay in their kind. -/
theorem inV {e : EqK} {op : BinOp} {k : IntKind} {a b : Int} (hop : op ≠ .shl ∧ op ≠ .shr := by decide) : binV e op (.int k a) (.int k b) = intV op k a b := by
  cases op <;> simp_all [binV]
theorem sub_n {e : EqK} {a b : Nat} {h : Hp} (h1 : b ≤ a) (h2 : a ≤ 9223372036854775807) (k : K (.int .i64 ((a - b : Nat) : Int)) h) : pv (binV e .sub (.int .i64 a) (.int .i64 b)) K h :=
  sub_r (by omega) (by omega) (by rw [← Int.ofNat_sub h1]; exact k)
theorem add_n {e : EqK} {a b : Nat} {h : Hp} (h2 : a + b ≤ 9223372036854775807) (k : K (.int .i64 ((a + b : Nat) : Int)) h) : pv (binV e .add (.int .i64 a) (.int .i64 b)) K h :=
  add_r (by omega) (by omega) (by rw [← Int.natCast_add]; exact k)
theorem u64w {x : Int} (h0 : 0 ≤ x) (h1 : x < 18446744073709551616) : IntKind.u64.wrap x = x := by
  unfold IntKind.wrap
  simp [IntKind.bits, IntKind.signed]
  omega
theorem uquo {e : EqK} {a b : Nat} {h : Hp} (h1 : 0 < b) (h2 : a < 18446744073709551616) (k : K (.int .u64 ((a / b : Nat) : Int)) h) : pv (binV e .quo (.int .u64 a) (.int .u64 b)) K h :=
  ⟨_, by rw [inV]; simp only [intV]; rw [if_neg (by omega)], by
    rw [show (Int.tdiv (a : Int) (b : Int)) = ((a / b : Nat) : Int) by rfl, u64w (Int.natCast_nonneg _) (Int.ofNat_lt.2 (Nat.lt_of_le_of_lt (Nat.div_le_self a b) h2))]; exact k⟩
theorem umul {e : EqK} {a b : Nat} {h : Hp} (h2 : a * b < 18446744073709551616) (k : K (.int .u64 ((a * b : Nat) : Int)) h) : pv (binV e .mul (.int .u64 a) (.int .u64 b)) K h :=
  ⟨_, by rw [inV]; rfl, by rw [← Int.natCast_mul, u64w (by omega) (by omega)]; exact k⟩
theorem usub {e : EqK} {a b : Nat} {h : Hp} (h1 : b ≤ a) (h2 : a < 18446744073709551616) (k : K (.int .u64 ((a - b : Nat) : Int)) h) : pv (binV e .sub (.int .u64 a) (.int .u64 b)) K h :=
  ⟨_, by rw [inV]; rfl, by rw [← Int.ofNat_sub h1, u64w (by omega) (by omega)]; exact k⟩
theorem upd_upd {α : Type} (f : Nat → Option α) (b : Nat) (x y : Option α) : upd (upd f b x) b y = upd f b y := by funext q; simp only [upd]; split <;> rfl
theorem clean.set' (h : clean M N) {b : Nat} (hb : N ≤ b) (hbN : b < N') {x : Option Chunk} : clean (upd M b x) N' := fun k hk => (upd_ne _ _ (by omega)).trans (h k (by omega))
theorem iaA {b o n sz : Nat} {k : IntKind} {i : Nat} {h : Hp} (h1 : i < n) (kk : K (.pointer (some ⟨b, o + i * sz, none⟩)) h) : pv (iaV (some n) sz (.pointer (some ⟨b, o, none⟩)) (.int k (i : Nat))) K h :=
  ⟨_, by simp [iaV]; omega, kk⟩
/-- What is kept of what is known. -/
noncomputable def keepM (M : Nat → Option Chunk) (p : Nat → Prop) : Nat → Option Chunk := fun q => open Classical in if p q then M q else none
theorem keepM_in {p : Nat → Prop} {q : Nat} (h : p q) : keepM M p q = M q := if_pos h
theorem keepM_sub (M : Nat → Option Chunk) (p : Nat → Prop) : subM (keepM M p) M := fun k c h => by
  unfold keepM at h
  split at h
  · exact h
  · cases h
theorem keepM_clean {p : Nat → Prop} (h : clean M N) : clean (keepM M p) N := fun k hk => by
  unfold keepM
  split
  · exact h k hk
  · rfl
/-- What was there, and v'. -/
def keepV (N : Nat) (v : Value) (q : Nat) : Prop := q < N ∨ v.ownBlock = some q
theorem fr_keep {v v' : Value} (h : ∀ q, v.ownBlock ≠ some q → q < N → M' q = M q ∧ v'.ownBlock ≠ some q) : fr M (keepM M' (keepV N v')) N v v' := fun q hq hl =>
  ⟨(keepM_in (.inl hl)).trans (h q hq hl).1, (h q hq hl).2⟩
theorem own.trim {B : Nat} {e : TypeId} {sz n : Nat} {v : Value} {cs : List Value} (h : own M B e sz v n cs) : own (keepM M (keepV N v)) B e sz v n cs := h.keep (fun q hq => keepM_in (.inr hq)) (Nat.le_refl _)
/-! ### Steps that need no thought, for simp -/
theorem gdTT {A : Kont → Hp → Prop} : gdK (.bool true) true A K = A K := by funext h; unfold gdK; rw [if_pos (by simp [isB])]
theorem gdFF {A : Kont → Hp → Prop} : gdK (.bool false) false A K = A K := by funext h; unfold gdK; rw [if_pos (by simp [isB])]
theorem gdTF {A : Kont → Hp → Prop} : gdK (.bool true) false A K = K undef := by funext h; unfold gdK; rw [if_neg (by simp [isB])]
theorem gdFT {A : Kont → Hp → Prop} : gdK (.bool false) true A K = K undef := by funext h; unfold gdK; rw [if_neg (by simp [isB])]
theorem pvS {v : Value} : pv (some v) K = K v := by funext h; exact propext ⟨fun ⟨u, h1, h2⟩ => by cases h1; exact h2, fun h => ⟨_, rfl, h⟩⟩
theorem pickT {a b : Value} : pickV (.bool true) a b = some a := rfl
theorem pickF {a b : Value} : pickV (.bool false) a b = some b := rfl
theorem faP {b o off : Nat} : faV off (.pointer (some ⟨b, o, none⟩)) = some (.pointer (some ⟨b, o + off, none⟩)) := rfl
theorem lenS {a : Option Addr} {n c : Nat} : lenV (.slice a n c) = some (.int .i64 n) := rfl
theorem nilP {a : Addr} : nilV (.pointer (some a)) = some (.pointer (some a)) := rfl
theorem exA {a : Value} {l : List Value} : exV 0 (.tuple ⟨a :: l⟩) = some a := rfl
theorem exB {a b : Value} {l : List Value} : exV 1 (.tuple ⟨a :: b :: l⟩) = some b := rfl
theorem exC {a b c : Value} {l : List Value} : exV 2 (.tuple ⟨a :: b :: c :: l⟩) = some c := rfl
theorem notB {b : Bool} : unV .not (.bool b) = some (.bool !b) := rfl
theorem cndT {A B : Hp → Prop} : cnd (.bool true) A B = A := by funext h; exact propext ⟨fun ⟨t, h1, h2⟩ => by cases h1; simpa using h2, fun h => ⟨true, rfl, by simpa using h⟩⟩
theorem cndF {A B : Hp → Prop} : cnd (.bool false) A B = B := by funext h; exact propext ⟨fun ⟨t, h1, h2⟩ => by cases h1; simpa using h2, fun h => ⟨false, rfl, by simpa using h⟩⟩
end Go.Proofs.YthpacapdaembpaaDoor.A
