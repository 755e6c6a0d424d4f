/- One start at which the listed tables read as they were laid; and what the list gives. -/
import Derived.Test.YtjllahglfpbemaaDoorRows
import Derived.Test.YtjllahglfpbemaaDoorGuardLaws
import Derived.WalkKit
import Derived.ProofKit
import Derived.OpenShut
import Derived.ShutString
import Derived.ChangeOld
import Derived.Below
import Derived.SizedLaws
import Derived.LaidLaws
import Derived.Lib.LaidTab
import Derived.Stop.LaidErr
namespace Go.Proofs.YtjllahglfpbemaaDoor.Laid
open Go.ChangeShapes Go.WideShapes Go.ChangeAt Go.RowKit
def lits1 : DataW Unit → List Value
  | .agg l => l.filterMap fun | .lit (.int k n) => some (.int k n) | _ => none
  | _ => []
def lits2 : DataW Unit → List Value
  | .agg l => l.flatMap lits1
  | _ => []
noncomputable def laidWorld (os : Os) : World :=
  let w0 := World.holding Tryd.prog os ⟨#[], #[], []⟩
  let put (h : Array Obj) (g : Nat) (cs : Array Value) : Array Obj := h.modify g fun
    | .cells _ t frozen => .cells cs t frozen
    | o => o
  { w0 with heap := put (put (put (put (put w0.heap 1 (lits1 Rows.laid_internal_strconv_uint64pow10).toArray) 2 (lits1 Rows.laid_unicode_utf8_first).toArray) 3 (lits2 Rows.laid_unicode_utf8_acceptRanges).toArray) 5 (lits1 Rows.laid_math_bits_deBruijn32tab).toArray) 6 (lits1 Rows.laid_math_bits_deBruijn64tab).toArray }
theorem laid_met (os : Os) (args : Array Value) : laidMet Tryd.prog Rows.guardRisesRow.laid ((laidWorld os).forCall (fun _ _ => 0) ⟨#[], args, []⟩).memory :=
  laidMet_of_run' 8 (by kernel_rfl) (by kernel_rfl)
theorem tab_of {W : World} (h : laidMet Tryd.prog Rows.guardRisesRow.laid W) : PGuardTells.Tab W :=
  Lib.tabIs_of_head (g := 1) (t := 97) (e := 63) (n := 20) (by kernel_rfl) (by kernel_rfl) Tryd.underlying97 Tryd.underlying63 (by kernel_rfl) (by kernel_rfl) (show laidMet Tryd.prog (("internal/strconv.uint64pow10", Lib.tabData .u64 Lib.pow10Tab) :: _) W from laidMet.tail (laidMet.tail h))
theorem wf64 {n : Int} (h : (Lit.int .i64 n).wf = true) : -9223372036854775808 ≤ n ∧ n ≤ 9223372036854775807 := by
  simpa [Lit.wf, IntKind.min, IntKind.max, IntKind.signed, IntKind.bits] using h
end Go.Proofs.YtjllahglfpbemaaDoor.Laid
