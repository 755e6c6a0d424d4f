-- written by a turned copy of the printer (wip/patchprint.py) for this claim: no row of the kit's own printer
import Derived.Test.YtjllahglfpbemaaDoorProg
import Derived.Below
import Derived.Deep.Draws
import Derived.Deep.AppendLies
import Derived.Maps.AppendAt
import Derived.OwnWalk
import Derived.Laws.BytesArg
import Derived.Laws.MakeOwn
import Derived.Laws.OwnMore
import Derived.Deep.OwnRows
import Derived.Tactics
import Derived.Lib.ConvBytes
import Derived.Laws.Slices
import Derived.WalkKit
import Derived.KernelRfl
import Derived.RowKit3
import Derived.Deep.LoopGhost
import Derived.Deep.QuietTactic
import Derived.BigQuiet
import Derived.WideLaws
import Derived.Deep.DeepCutAuto
import Derived.Deep.CutBlock
import Derived.Deep.RegionHeld3
import Derived.Laws.Rows
import Derived.Lib.AppendStr
import Derived.ArgAppend
import Derived.Laws.IdiomCopy
import Derived.OrdersHeld
import Derived.Laws.BitsLemmas
import Derived.RowKit
import Derived.Test.YtjllahglfpbemaaDoorHand
import Derived.Test.YtjllahglfpbemaaDoorWWords
import Derived.Test.YtjllahglfpbemaaDoorWLast
import Derived.Test.YtjllahglfpbemaaDoorWTab
import Derived.Test.YtjllahglfpbemaaDoorWFour
import Derived.Test.YtjllahglfpbemaaDoorWQPut
import Derived.Test.YtjllahglfpbemaaDoorWApart
import Derived.Test.YtjllahglfpbemaaDoorWArr
import Derived.Test.YtjllahglfpbemaaDoorWZeros
import Derived.Test.YtjllahglfpbemaaDoorWFoot
import Derived.Test.YtjllahglfpbemaaDoorWKept
import Derived.Test.YtjllahglfpbemaaDoorWShare
import Derived.Test.YtjllahglfpbemaaDoorWN
import Derived.Test.YtjllahglfpbemaaDoorWFootNe
import Derived.Test.YtjllahglfpbemaaDoorWAt
import Derived.Test.YtjllahglfpbemaaDoorWEqStruct
import Derived.Test.YtjllahglfpbemaaDoorWRepsOne
import Derived.Test.YtjllahglfpbemaaDoorWInv
import Derived.Test.YtjllahglfpbemaaDoorWInvWords
import Derived.Test.YtjllahglfpbemaaDoorWGuard
import Derived.Test.YtjllahglfpbemaaDoorWNEv
import Derived.Test.YtjllahglfpbemaaDoorWMore
-- halved
namespace Go.Proofs.YtjllahglfpbemaaDoor.PGuardTells
open Go.RowKit Go.Proofs.YtjllahglfpbemaaDoorW.PrintWords Go.Proofs.YtjllahglfpbemaaDoorW.PrintLast Go.Proofs.YtjllahglfpbemaaDoorW.PrintMore
attribute [local go_sem] max2_int min2_int max_two min_two max_three min_three max_four min_four   -- for this text's walks alone
set_option linter.unusedVariables false
set_option linter.unusedSimpArgs false



def errW : Option Int → Value
 | none => .nilIface
 | some c => .iface 0 (.int .i64 c)
theorem errW_none : errW none = .nilIface := rfl
theorem errW_some (c : Int) : errW (some c) = .iface 0 (.int .i64 c) := rfl

theorem info5 : (Tryd.prog.info? 5).map (fun i => (i.zero, i.size, i.bytes)) = some (some (.int .u8 0), 1, 1) := by kernel_rfl
-- the values' own types

end Go.Proofs.YtjllahglfpbemaaDoor.PGuardTells
