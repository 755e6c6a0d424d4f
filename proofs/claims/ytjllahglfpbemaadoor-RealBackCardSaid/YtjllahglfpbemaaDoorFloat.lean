/- Floats in the walks: how two of them compare. -/
import Derived.Test.YtjllahglfpbemaaDoorWMore
import Derived.Test.YtjllahglfpbemaaDoorBase
import Derived.Test.YtjllahglfpbemaaDoorProg
import Derived.Laws.Cover2
import Derived.Laws.FloatArith
namespace Go.Proofs.YtjllahglfpbemaaDoor.Fl
open Go Go.RowKit

def ord (a b : Nat) : Option Ordering := FloatKind.f64.format.order a b
def eqF (a b : Nat) : Bool := ord a b == some .eq
def ltF (a b : Nat) : Bool := ord a b == some .lt
def leF (a b : Nat) : Bool := ord a b == some .lt || ord a b == some .eq
theorem f_eql (t : TypeId) (a b : Nat) : binOp .eql t (.float .f64 a) (.float .f64 b) = pure (.bool (eqF a b)) := binOp_float_cmp_eql t .f64 a b
theorem f_neq (t : TypeId) (a b : Nat) : binOp .neq t (.float .f64 a) (.float .f64 b) = pure (.bool (!eqF a b)) := binOp_float_cmp_neq t .f64 a b
theorem f_lss (t : TypeId) (a b : Nat) : binOp .lss t (.float .f64 a) (.float .f64 b) = pure (.bool (ltF a b)) := binOp_float_cmp_lss t .f64 a b
theorem f_leq (t : TypeId) (a b : Nat) : binOp .leq t (.float .f64 a) (.float .f64 b) = pure (.bool (leF a b)) := binOp_float_cmp_leq t .f64 a b
end Go.Proofs.YtjllahglfpbemaaDoor.Fl
