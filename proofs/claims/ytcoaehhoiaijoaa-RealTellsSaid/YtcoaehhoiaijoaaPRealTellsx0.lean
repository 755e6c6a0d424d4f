-- written by a turned copy of the printer (wip/patchprint.py) for this claim: no row of the kit's own printer
import Derived.Test.YtcoaehhoiaijoaaProg
import Derived.Below
import Derived.Deep.Draws
import Derived.Deep.AppendLies
import Derived.Maps.AppendAt
import Derived.OwnWalk
import Derived.Laws.BytesArg
import Derived.Laws.MakeOwn
import Derived.Laws.OwnMore
import Derived.Deep.OwnRows
import Derived.Tactics
import Derived.Lib.ConvBytes
import Derived.Laws.Slices
import Derived.WalkKit
import Derived.KernelRfl
import Derived.RowKit3
import Derived.Deep.LoopGhost
import Derived.Deep.QuietTactic
import Derived.BigQuiet
import Derived.WideLaws
import Derived.Deep.DeepCutAuto
import Derived.Deep.CutBlock
import Derived.Deep.RegionHeld3
import Derived.Laws.Rows
import Derived.Lib.AppendStr
import Derived.ArgAppend
import Derived.Laws.IdiomCopy
import Derived.OrdersHeld
import Derived.Laws.BitsLemmas
import Derived.RowKit
import Derived.Test.YtcoaehhoiaijoaaHand
import Derived.Test.YtcoaehhoiaijoaaWWords
import Derived.Test.YtcoaehhoiaijoaaWLast
import Derived.Test.YtcoaehhoiaijoaaWTab
import Derived.Test.YtcoaehhoiaijoaaWFour
import Derived.Test.YtcoaehhoiaijoaaWQPut
import Derived.Test.YtcoaehhoiaijoaaWApart
import Derived.Test.YtcoaehhoiaijoaaWArr
import Derived.Test.YtcoaehhoiaijoaaWZeros
import Derived.Test.YtcoaehhoiaijoaaWFoot
import Derived.Test.YtcoaehhoiaijoaaWKept
import Derived.Test.YtcoaehhoiaijoaaWShare
import Derived.Test.YtcoaehhoiaijoaaWN
import Derived.Test.YtcoaehhoiaijoaaWFootNe
import Derived.Test.YtcoaehhoiaijoaaWAt
import Derived.Test.YtcoaehhoiaijoaaWEqStruct
import Derived.Test.YtcoaehhoiaijoaaWRepsOne
import Derived.Test.YtcoaehhoiaijoaaWInv
import Derived.Test.YtcoaehhoiaijoaaWInvWords
import Derived.Test.YtcoaehhoiaijoaaWGuard
import Derived.Test.YtcoaehhoiaijoaaWNEv
import Derived.Test.YtcoaehhoiaijoaaWMore
namespace Go.Proofs.Ytcoaehhoiaijoaa.PRealTells
open Go.RowKit Go.Proofs.YtcoaehhoiaijoaaW.PrintWords Go.Proofs.YtcoaehhoiaijoaaW.PrintLast Go.Proofs.YtcoaehhoiaijoaaW.PrintMore
attribute [local go_sem] max2_int min2_int max_two min_two max_three min_three max_four min_four   -- for this text's walks alone
set_option linter.unusedVariables false
set_option linter.unusedSimpArgs false



def errW : Option Int → Value
  | none => .nilIface
  | some c => .iface 0 (.int .i64 c)
theorem errW_none : errW none = .nilIface := rfl
theorem errW_some (c : Int) : errW (some c) = .iface 0 (.int .i64 c) := rfl

-- the values' own types

end Go.Proofs.Ytcoaehhoiaijoaa.PRealTells
