import Derived.Test.YthpacapdaembpaaDoorD4
open Go Go.RowKit Go.Proofs.YthpacapdaembpaaDoor.K Go.Proofs.YthpacapdaembpaaDoor.T
set_option linter.unusedVariables false
set_option linter.unusedSimpArgs false
namespace Go.Proofs.YthpacapdaembpaaDoor.A
variable {F F' : Nat → Option (List Value)} {M M' : Nat → Option Chunk} {N N' : Nat} {K : Kont} {E : PanK}
open Go.Sort hiding Below
section
variable {α : Type} [Inhabited α] {enc : α → List Value} {kk n off : Nat} {w : World} {blk q : Nat} {d : Array α} {os : Array Obj}
theorem sw_other (hq : q ≠ blk) (hl : q < w.heap.size) : (sortWorldK enc kk w blk off n d os).heap[q]? = w.heap[q]? := by
  unfold sortWorldK putRowK putRow mapBlock grow Sort.ahead
  simp only
  rw [Array.getElem?_append_left (by simpa using hl), Array.getElem?_modify, if_neg (fun e => hq e.symm)]
theorem sw_at {arr : Array Value} {e : TypeId} {z : Nat × Nat} (h : w.heap[blk]? = some (.cells arr e z)) : (sortWorldK enc kk w blk off n d os).heap[blk]? = some (.cells (putCells id off (flatK enc kk d) arr) e z) := by
  have hl : blk < w.heap.size := (Array.getElem?_eq_some_iff.1 h).1
  unfold sortWorldK putRowK putRow mapBlock grow Sort.ahead
  simp only
  rw [Array.getElem?_append_left (by simpa using hl), Array.getElem?_modify, if_pos rfl, h]
  rfl
theorem sw_size : w.heap.size ≤ (sortWorldK enc kk w blk off n d os).heap.size := by
  unfold sortWorldK putRowK putRow mapBlock grow Sort.ahead
  simp
end
/-- The cells of rows, by place. -/
theorem flatK_rows (d : List (RowE F)) [Inhabited (RowE F)] (j : Nat) (hj : j < d.length * 5) : (flatK (fun x : RowE F => x.1.1) 5 d.toArray)[j]? = (d.map (·.1.1)).flatten[j]? := by
  have h5 : j / 5 < d.length := by omega
  have hz : j < d.toArray.size * 5 := by simpa using hj
  have e1 : (flatK (fun x : RowE F => x.1.1) 5 d.toArray)[j]? = some ((flatK (fun x : RowE F => x.1.1) 5 d.toArray)[j]!) := by
    rw [getElem!_def, Array.getElem?_eq_getElem (by simpa using hj)]
  rw [e1, get_flatK _ _ _ _ hz]
  have hr := E_rows d
  have hg : (d.map (·.1.1))[j / 5]? = some (d[j / 5].1.1) := by simp [h5]
  have h6 := flat_at hr.len hg (Nat.mod_lt j (by decide : 0 < 5))
  rw [show j / 5 * 5 + j % 5 = j by omega] at h6
  rw [h6]
  have e2 : d.toArray[j / 5]! = d[j / 5] := by rw [getElem!_def]; simp [h5]
  rw [e2]
  have hl : (d[j / 5].1.1).length = 5 := d[j / 5].2.one.1
  rw [List.getElem?_eq_getElem (by omega), getElem!_def, List.getElem?_eq_getElem (by omega)]
theorem flatK_toList (d : List (RowE F)) [Inhabited (RowE F)] : (flatK (fun x : RowE F => x.1.1) 5 d.toArray).toList = (d.map (·.1.1)).flatten := by
  have hl := flatten_len (d.map (·.1.1)) (E_rows d).len
  apply List.ext_getElem?
  intro j
  rw [Array.getElem?_toList]
  rcases Nat.lt_or_ge j (d.length * 5) with h | h
  · exact flatK_rows d j h
  · rw [Array.getElem?_eq_none (by simpa using h), List.getElem?_eq_none (by rw [hl]; simpa using h)]
/-- The row's cells behind the sort. -/
theorem put_prefix {a b rest : List Value} {B arr : Array Value} (hb : B.toList = b) (hab : a.length = b.length) (h : a ++ rest <+: arr.toList) : b ++ rest <+: (putCells id 0 B arr).toList := by
  have hsz : B.size = b.length := by rw [← hb]; simp
  obtain ⟨t, ht⟩ := h
  have hlen := congrArg List.length ht
  simp only [List.length_append, Array.length_toList] at hlen
  refine ⟨t, ?_⟩
  apply List.ext_getElem?
  intro i
  refine Eq.trans ?_ (Array.getElem?_toList).symm
  unfold putCells
  rw [Array.getElem?_mapIdx]
  rcases Nat.lt_or_ge i b.length with hi | hi
  · rw [List.append_assoc, List.getElem?_append_left hi, Array.getElem?_eq_getElem (by omega)]
    simp only [Option.map_some]
    rw [if_pos ⟨Nat.zero_le _, by omega⟩]
    have : B[i]? = b[i]? := by rw [← hb, Array.getElem?_toList]
    rw [← this, getElem!_def, Array.getElem?_eq_getElem (by omega)]
    simp [hsz, hi]
  · have e : arr[i]? = (a ++ rest ++ t)[i]? := by rw [ht, Array.getElem?_toList]
    have e2 : (a ++ rest ++ t)[i]? = (rest ++ t)[i - b.length]? := by rw [List.append_assoc, List.getElem?_append_right (by omega), hab]
    rw [List.append_assoc, List.getElem?_append_right hi, e, e2]
    cases hx : (rest ++ t)[i - b.length]? with
    | none => rfl
    | some v => simp only [Option.map_some]; rw [if_neg (by omega)]
end Go.Proofs.YthpacapdaembpaaDoor.A
