import Derived.Test.YthpacapdaembpaaDoorK17
import Derived.MapKept
import Derived.StringKeys
open Go Go.RowKit Go.MapKept
set_option linter.unusedVariables false
set_option linter.unusedSimpArgs false
namespace Go.Proofs.YthpacapdaembpaaDoor.K
/-! ### Maps -/
section
variable {F : Nat → Option (List Value)} {M : Nat → Option Chunk} {N : Nat} {K : Kont} {P : Program}
theorem mkm_r (k : ∀ b, N ≤ b → K (.map (some b)) ⟨F, upd M b (some (.obj (.map #[] 0))), b + 1⟩) : mkm K ⟨F, M, N⟩ := fun b hb => k b hb
/-- v, is := m[key] -/
theorem lk_r {t k e : TypeId} {d : TypeDesc} {b : Nat} {es : Array MapEntry} {clock : Nat} {key z : Value} (ht : P.underlying t = some (.map k e)) (hk : P.underlying k = some d) (hz : ∀ w : World, (zeroValue e).run P w = .ok z w) (hkey : IsKey d key) (hks : ∀ x ∈ es.toList, IsKey d x.key)
    (hM : M b = some (.obj (.map es clock)))
    (miss : (∀ x ∈ es.toList, x.key ≠ key) → K (.tuple #[z, .bool false]) ⟨F, M, N⟩)
    (hit : ∀ (j : Nat) (x : MapEntry), es.toList[j]? = some x → x.key = key → K (.tuple #[x.val, .bool true]) ⟨F, M, N⟩) : lkp P t (.map (some b)) key true K ⟨F, M, N⟩ := by
  rcases findNow_spec hkey es.toList 0 hks with ⟨h1, h2⟩ | ⟨j, e0, h1, h2, h3⟩
  · refine ⟨b, es, clock, _, rfl, hM, fun w hb => ?_, miss h2⟩
    simp [Instr.lookup, run_underlying ht, MapKept.run_getObj_map hb, run_checkKey hk hkey, run_findKey hk h1, hz, Result.andThen]
  · refine ⟨b, es, clock, _, rfl, hM, fun w hb => ?_, hit j e0 h2 h3⟩
    simp [Instr.lookup, run_underlying ht, MapKept.run_getObj_map hb, run_checkKey hk hkey, run_findKey hk h1, Result.andThen]
/-- m[key] = v -/
theorem mu_r {t k e : TypeId} {d : TypeDesc} {b : Nat} {es : Array MapEntry} {clock : Nat} {key v : Value} (ht : P.underlying t = some (.map k e)) (hk : P.underlying k = some d) (hkey : IsKey d key) (hks : ∀ x ∈ es.toList, IsKey d x.key)
    (hM : M b = some (.obj (.map es clock)))
    (new : (∀ x ∈ es.toList, x.key ≠ key) → K undef ⟨F, upd M b (some (.obj (.map (es.push ⟨key, v, clock⟩) (clock + 1)))), N⟩)
    (old : ∀ (j : Nat) (x : MapEntry), es.toList[j]? = some x → x.key = key → K undef ⟨F, upd M b (some (.obj (.map (es.modify j (fun e' => { e' with key := key, val := v })) clock))), N⟩) : mup P t (.map (some b)) key v K ⟨F, M, N⟩ := by
  rcases findNow_spec hkey es.toList 0 hks with ⟨h1, h2⟩ | ⟨j, e0, h1, h2, h3⟩
  · refine ⟨b, es, clock, _, _, rfl, hM, fun w hb => ?_, new h2⟩
    simp [Instr.mapUpdate, run_underlying ht, MapKept.run_getObj_map hb, run_checkKey hk hkey, run_findKey hk h1, MapKept.run_setObj_map _ hb, Result.andThen]
  · have hj : es[j]? = some e0 := by simpa using h2
    have hkeep : ∀ w : World, (Instr.keyThatStays e0.key key).run P w = .ok key w := fun w => by rw [h3]; exact run_keyThatStays hkey
    refine ⟨b, es, clock, _, _, rfl, hM, fun w hb => ?_, old j e0 h2 h3⟩
    simp [Instr.mapUpdate, run_underlying ht, MapKept.run_getObj_map hb, run_checkKey hk hkey, run_findKey hk h1, hj, hkeep, MapKept.run_setObj_map _ hb, Result.andThen]
end
end Go.Proofs.YthpacapdaembpaaDoor.K
