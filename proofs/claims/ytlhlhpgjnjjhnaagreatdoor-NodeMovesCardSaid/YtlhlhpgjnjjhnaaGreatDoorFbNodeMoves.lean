import Derived.Test.YtlhlhpgjnjjhnaaGreatDoorRows
import Derived.ProofKit
import Derived.WalkKit
import Derived.JoinedOf
import Derived.KernelRfl
import Derived.SevenTiedAt
namespace Go.Proofs.YtlhlhpgjnjjhnaaGreatDoor.RowNodeMoves
open Go Go.RowKit Go.Proofs Go.Proofs.YtlhlhpgjnjjhnaaGreatDoor
theorem goesNot : false = Rows.nodeMovesRow.goesBy Tryz.pinned.checked.prog := by kernel_rfl
end Go.Proofs.YtlhlhpgjnjjhnaaGreatDoor.RowNodeMoves
