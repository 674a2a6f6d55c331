-- Lines by a program of this session.
import Derived.Test.YtiadfnedbbkojaaProg
import Derived.Below
import Derived.Deep.Draws
import Derived.Deep.AppendLies
import Derived.Maps.AppendAt
import Derived.OwnWalk
import Derived.Laws.BytesArg
import Derived.Laws.MakeOwn
import Derived.Laws.OwnMore
import Derived.Deep.OwnRows
import Derived.Tactics
import Derived.Lib.ConvBytes
import Derived.Laws.Slices
import Derived.WalkKit
import Derived.KernelRfl
import Derived.RowKit3
import Derived.Deep.LoopGhost
import Derived.Deep.QuietTactic
import Derived.BigQuiet
import Derived.WideLaws
import Derived.Deep.DeepCutAuto
import Derived.Deep.CutBlock
import Derived.Deep.RegionHeld3
import Derived.Laws.Rows
import Derived.Lib.AppendStr
import Derived.ArgAppend
import Derived.Laws.IdiomCopy
import Derived.OrdersHeld
import Derived.Laws.BitsLemmas
import Derived.RowKit
import Derived.Test.YtiadfnedbbkojaaWWords
import Derived.Test.YtiadfnedbbkojaaWLast
import Derived.Test.YtiadfnedbbkojaaWTab
import Derived.Test.YtiadfnedbbkojaaWFour
import Derived.Test.YtiadfnedbbkojaaWQPut
import Derived.Test.YtiadfnedbbkojaaWApart
import Derived.Test.YtiadfnedbbkojaaWArr
import Derived.Test.YtiadfnedbbkojaaWZeros
import Derived.Test.YtiadfnedbbkojaaWFoot
import Derived.Test.YtiadfnedbbkojaaWKept
import Derived.Test.YtiadfnedbbkojaaWShare
import Derived.Test.YtiadfnedbbkojaaWN
import Derived.Test.YtiadfnedbbkojaaWFootNe
import Derived.Test.YtiadfnedbbkojaaWAt
import Derived.Test.YtiadfnedbbkojaaWEqStruct
import Derived.Test.YtiadfnedbbkojaaWRepsOne
import Derived.Test.YtiadfnedbbkojaaWInv
import Derived.Test.YtiadfnedbbkojaaWInvWords
import Derived.Test.YtiadfnedbbkojaaWGuard
import Derived.Test.YtiadfnedbbkojaaWNEv
import Derived.Test.YtiadfnedbbkojaaWMore
namespace Go.Proofs.Ytiadfnedbbkojaa.RKnownbitsElements
open Go.RowKit Go.Proofs.YtiadfnedbbkojaaW.PrintWords Go.Proofs.YtiadfnedbbkojaaW.PrintLast Go.Proofs.YtiadfnedbbkojaaW.PrintMore
attribute [local go_sem] max2_int min2_int max_two min_two max_three min_three max_four min_four   -- for this text's walks alone
set_option linter.unusedVariables false
set_option linter.unusedSimpArgs false



def errW : Option Int → Value
  | none => .nilIface
  | some c => .iface 0 (.int .i64 c)
theorem errW_none : errW none = .nilIface := rfl
theorem errW_some (c : Int) : errW (some c) = .iface 0 (.int .i64 c) := rfl

-- the values' own types

end Go.Proofs.Ytiadfnedbbkojaa.RKnownbitsElements
