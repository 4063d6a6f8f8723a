-- Printed by wip/tools/pr.py, our driver of the kit's print with plugged contracts: Lean checks it.
import Derived.Test.YtjeojnjkmhnepaaProg
import Derived.Below
import Derived.Deep.Draws
import Derived.Deep.AppendLies
import Derived.Maps.AppendAt
import Derived.OwnWalk
import Derived.Laws.BytesArg
import Derived.Laws.MakeOwn
import Derived.Laws.OwnMore
import Derived.Deep.OwnRows
import Derived.Tactics
import Derived.Lib.ConvBytes
import Derived.Laws.Slices
import Derived.WalkKit
import Derived.KernelRfl
import Derived.RowKit3
import Derived.Deep.LoopGhost
import Derived.Deep.QuietTactic
import Derived.BigQuiet
import Derived.WideLaws
import Derived.Deep.DeepCutAuto
import Derived.Deep.CutBlock
import Derived.Deep.RegionHeld3
import Derived.Laws.Rows
import Derived.Lib.AppendStr
import Derived.ArgAppend
import Derived.Laws.IdiomCopy
import Derived.OrdersHeld
import Derived.Laws.BitsLemmas
import Derived.RowKit
import Derived.Test.YtjeojnjkmhnepaaWWords
import Derived.Test.YtjeojnjkmhnepaaWLast
import Derived.Test.YtjeojnjkmhnepaaWTab
import Derived.Test.YtjeojnjkmhnepaaWFour
import Derived.Test.YtjeojnjkmhnepaaWQPut
import Derived.Test.YtjeojnjkmhnepaaWApart
import Derived.Test.YtjeojnjkmhnepaaWArr
import Derived.Test.YtjeojnjkmhnepaaWZeros
import Derived.Test.YtjeojnjkmhnepaaWFoot
import Derived.Test.YtjeojnjkmhnepaaWKept
import Derived.Test.YtjeojnjkmhnepaaWShare
import Derived.Test.YtjeojnjkmhnepaaWN
import Derived.Test.YtjeojnjkmhnepaaWFootNe
import Derived.Test.YtjeojnjkmhnepaaWAt
import Derived.Test.YtjeojnjkmhnepaaWEqStruct
import Derived.Test.YtjeojnjkmhnepaaWRepsOne
import Derived.Test.YtjeojnjkmhnepaaWInv
import Derived.Test.YtjeojnjkmhnepaaWInvWords
import Derived.Test.YtjeojnjkmhnepaaWGuard
import Derived.Test.YtjeojnjkmhnepaaWNEv
import Derived.Test.YtjeojnjkmhnepaaWMore
import Derived.Test.YtjeojnjkmhnepaaPr0
namespace Go.Proofs.Ytjeojnjkmhnepaa.Pr
open Go.RowKit Go.Proofs.YtjeojnjkmhnepaaW.PrintWords Go.Proofs.YtjeojnjkmhnepaaW.PrintLast Go.Proofs.YtjeojnjkmhnepaaW.PrintMore
attribute [local go_sem] max2_int min2_int max_two min_two max_three min_three max_four min_four   -- for this text's walks alone
set_option linter.unusedVariables false
set_option linter.unusedSimpArgs false





-- the values' own types
/-! #### struct type 81 -/
/-! #### struct type 29 -/

end Go.Proofs.Ytjeojnjkmhnepaa.Pr
