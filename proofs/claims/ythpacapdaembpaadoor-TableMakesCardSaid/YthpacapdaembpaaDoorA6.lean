import Derived.Test.YthpacapdaembpaaDoorA5
open Go
namespace Go.Proofs.YthpacapdaembpaaDoor.A
/-- The program's merging of two cells is the reference's. -/
theorem merge_eq (a b : CE) : a.merge b = a.rmerge b := by
  unfold CE.merge CE.rmerge
  by_cases ha : a.n = 0
  · rw [if_pos ha.symm, if_pos ha]
  rw [if_neg (fun e => ha e.symm), if_neg ha]
  by_cases hb : b.n = 0
  · rw [if_pos hb.symm, if_pos hb]
  rw [if_neg (fun e => hb e.symm), if_neg hb]
  unfold CE.add CE.sum
  rw [if_neg (fun e => hb (by rw [e])), if_neg (fun e => ha (by rw [e]))]
end Go.Proofs.YthpacapdaembpaaDoor.A
