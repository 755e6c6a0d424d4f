/-
  NARROWER THAN 'FOR EVERY INPUT', by the rows' own cells (each row's printed sentence says how): MeanTells: loops · MeanNots: loops · MeanFirst: loops · MeanTurned: loops · WalkTells: loops · WalkFirst: loops.
  DERIVED. THE GIVEN ROWS OF THIS SEAT. 6 by the template 'for every input the law returns true; each argument reads behind the call as it read before'; 0 by the template 'total and deterministic' (their statements: YtppmcbkcohiodaaTotals.lean).
  GIVEN WITH THE SEED: the statements are not yours to turn. If you find one false, say at which input.
  Laid BY PROGRAM, IN A SANDBOX (cutbox-rows.mjs): the forced cells as the released guide's own fill.sh prints them over the translation e8db5f06f4249241… (all of the seat's roots in one cut). By AI agents, Wed Nov 11 2026. No macro, syntax, notation, axiom, sorry.
-/
import Derived.Test.YtppmcbkcohiodaaChecked
import GoSem.Claim
import GoSem.ClaimJoined
import GoSem.ClaimMapViews
import Derived.JoinedTies
import Derived.KernelRfl
namespace Go.Proofs.Ytppmcbkcohiodaa
/- THE CELL 'sum', in the pinned program and in every row, IS THE sha256 OF THE DUMP (.gsa) THAT YtppmcbkcohiodaaProg.lean LOADS. Nothing in Lean hashes anything: it is a label: what it is worth is what the hold of that sum in a sandbox is worth. -/
noncomputable def Try.pinned : Pinned := { name := "ytppmcbkcohiodaa", sum := "e8db5f06f424924162e43221248fb6771c63a82629581826c1036146cecb0a88", checked := Try.checked }
namespace Rows
def none {H : Type} : Left H := { results := [], args := [] }

/-- 'gatewardenlaw15.MeanTells': WHATEVER THE INPUT: true; the input reads as it did. -/
def meanTellsSpec : ChangeSpec := { name := "meanTells", fn := fun _ => fun
  | [d1, d2, d3] => { results := [.lit (.bool true)], args := [d1, d2, d3] }
  | _ => none }
def meanTellsRow : OpenClaim := { program := "ytppmcbkcohiodaa", sum := "e8db5f06f424924162e43221248fb6771c63a82629581826c1036146cecb0a88", func := "gatewarden/gatewardenlaw15.MeanTells", spec := "meanTells", inPlace := ["math.Float64frombits"], unfollowed := true, recurses := true, loops := true, apart := false }
def MeanTellsSaid : Prop := meanTellsRow.holds Try.pinned (OpenSpec.ofChange meanTellsSpec)

/-- ITS FALSE NEIGHBOUR: 'it returns false'. Refute it at one input. -/
def meanTellsWrong : ChangeSpec := { name := "meanTells", fn := fun _ => fun
  | [d1, d2, d3] => { results := [.lit (.bool false)], args := [d1, d2, d3] }
  | _ => none }
def MeanTellsWrongFalsely : Prop := meanTellsRow.holds Try.pinned (OpenSpec.ofChange meanTellsWrong)

/-- 'gatewardenlaw15.MeanNots': WHATEVER THE INPUT: true; the input reads as it did. -/
def meanNotsSpec : ChangeSpec := { name := "meanNots", fn := fun _ => fun
  | [d1, d2, d3] => { results := [.lit (.bool true)], args := [d1, d2, d3] }
  | _ => none }
def meanNotsRow : OpenClaim := { program := "ytppmcbkcohiodaa", sum := "e8db5f06f424924162e43221248fb6771c63a82629581826c1036146cecb0a88", func := "gatewarden/gatewardenlaw15.MeanNots", spec := "meanNots", inPlace := ["math.Float64frombits"], unfollowed := true, recurses := true, loops := true, apart := false }
def MeanNotsSaid : Prop := meanNotsRow.holds Try.pinned (OpenSpec.ofChange meanNotsSpec)

/-- ITS FALSE NEIGHBOUR: 'it returns false'. Refute it at one input. -/
def meanNotsWrong : ChangeSpec := { name := "meanNots", fn := fun _ => fun
  | [d1, d2, d3] => { results := [.lit (.bool false)], args := [d1, d2, d3] }
  | _ => none }
def MeanNotsWrongFalsely : Prop := meanNotsRow.holds Try.pinned (OpenSpec.ofChange meanNotsWrong)

/-- 'gatewardenlaw15.MeanFirst': WHATEVER THE INPUT: true; the input reads as it did. -/
def meanFirstSpec : ChangeSpec := { name := "meanFirst", fn := fun _ => fun
  | [d1, d2] => { results := [.lit (.bool true)], args := [d1, d2] }
  | _ => none }
def meanFirstRow : OpenClaim := { program := "ytppmcbkcohiodaa", sum := "e8db5f06f424924162e43221248fb6771c63a82629581826c1036146cecb0a88", func := "gatewarden/gatewardenlaw15.MeanFirst", spec := "meanFirst", inPlace := ["math.Float64frombits"], unfollowed := true, recurses := true, loops := true, apart := false }
def MeanFirstSaid : Prop := meanFirstRow.holds Try.pinned (OpenSpec.ofChange meanFirstSpec)

/-- ITS FALSE NEIGHBOUR: 'it returns false'. Refute it at one input. -/
def meanFirstWrong : ChangeSpec := { name := "meanFirst", fn := fun _ => fun
  | [d1, d2] => { results := [.lit (.bool false)], args := [d1, d2] }
  | _ => none }
def MeanFirstWrongFalsely : Prop := meanFirstRow.holds Try.pinned (OpenSpec.ofChange meanFirstWrong)

/-- 'gatewardenlaw15.MeanTurned': WHATEVER THE INPUT: true; the input reads as it did. -/
def meanTurnedSpec : ChangeSpec := { name := "meanTurned", fn := fun _ => fun
  | [d1, d2, d3] => { results := [.lit (.bool true)], args := [d1, d2, d3] }
  | _ => none }
def meanTurnedRow : OpenClaim := { program := "ytppmcbkcohiodaa", sum := "e8db5f06f424924162e43221248fb6771c63a82629581826c1036146cecb0a88", func := "gatewarden/gatewardenlaw15.MeanTurned", spec := "meanTurned", inPlace := ["math.Float64frombits"], unfollowed := true, recurses := true, loops := true, apart := false }
def MeanTurnedSaid : Prop := meanTurnedRow.holds Try.pinned (OpenSpec.ofChange meanTurnedSpec)

/-- ITS FALSE NEIGHBOUR: 'it returns false'. Refute it at one input. -/
def meanTurnedWrong : ChangeSpec := { name := "meanTurned", fn := fun _ => fun
  | [d1, d2, d3] => { results := [.lit (.bool false)], args := [d1, d2, d3] }
  | _ => none }
def MeanTurnedWrongFalsely : Prop := meanTurnedRow.holds Try.pinned (OpenSpec.ofChange meanTurnedWrong)

/-- 'gatewardenlaw17.WalkTells': WHATEVER THE INPUT: true; the input reads as it did. -/
def walkTellsSpec : ChangeSpec := { name := "walkTells", fn := fun _ => fun
  | [d1, d2] => { results := [.lit (.bool true)], args := [d1, d2] }
  | _ => none }
def walkTellsRow : OpenClaim := { program := "ytppmcbkcohiodaa", sum := "e8db5f06f424924162e43221248fb6771c63a82629581826c1036146cecb0a88", func := "gatewarden/gatewardenlaw17.WalkTells", spec := "walkTells", inPlace := ["math.Float64frombits"], unfollowed := true, recurses := true, loops := true, apart := false }
def WalkTellsSaid : Prop := walkTellsRow.holds Try.pinned (OpenSpec.ofChange walkTellsSpec)

/-- ITS FALSE NEIGHBOUR: 'it returns false'. Refute it at one input. -/
def walkTellsWrong : ChangeSpec := { name := "walkTells", fn := fun _ => fun
  | [d1, d2] => { results := [.lit (.bool false)], args := [d1, d2] }
  | _ => none }
def WalkTellsWrongFalsely : Prop := walkTellsRow.holds Try.pinned (OpenSpec.ofChange walkTellsWrong)

/-- 'gatewardenlaw17.WalkFirst': WHATEVER THE INPUT: true; the input reads as it did. -/
def walkFirstSpec : ChangeSpec := { name := "walkFirst", fn := fun _ => fun
  | [d1, d2] => { results := [.lit (.bool true)], args := [d1, d2] }
  | _ => none }
def walkFirstRow : OpenClaim := { program := "ytppmcbkcohiodaa", sum := "e8db5f06f424924162e43221248fb6771c63a82629581826c1036146cecb0a88", func := "gatewarden/gatewardenlaw17.WalkFirst", spec := "walkFirst", inPlace := ["math.Float64frombits"], unfollowed := true, recurses := true, loops := true, apart := false }
def WalkFirstSaid : Prop := walkFirstRow.holds Try.pinned (OpenSpec.ofChange walkFirstSpec)

/-- ITS FALSE NEIGHBOUR: 'it returns false'. Refute it at one input. -/
def walkFirstWrong : ChangeSpec := { name := "walkFirst", fn := fun _ => fun
  | [d1, d2] => { results := [.lit (.bool false)], args := [d1, d2] }
  | _ => none }
def WalkFirstWrongFalsely : Prop := walkFirstRow.holds Try.pinned (OpenSpec.ofChange walkFirstWrong)

/- THE SECOND FORM. 'bulk': how many values and letters a reading holds, each counted each time it is reached (what is shared counts as often as it is met; a slice's spare places count too). A statement '..UptoSaid' is the law's where the arguments, and the package variables that the reading takes, are together of bulk at most 1048576: NARROWER than '..Said'. Prove '..Said' where nothing that the law and all that it calls make is longer than what came in: it says more and counts as full. Else prove '..UptoSaid'. A law counts once. -/
mutual
def uptoBulk {H : Type} : DataW H → Nat
  | .lit (.string bytes) => bytes.length + 1
  | .lit _ => 1
  | .nil => 1
  | .ptr d => uptoBulk d + 1
  | .slice elems spare => uptoBulkAll elems + uptoBulkAll spare + 1
  | .agg parts => uptoBulkAll parts + 1
  | .iface _ d => uptoBulk d + 1
  | .map entries => uptoBulkEntries entries + 1
  | .held _ => 1
def uptoBulkAll {H : Type} : List (DataW H) → Nat
  | [] => 0
  | d :: r => uptoBulk d + uptoBulkAll r
def uptoBulkEntries {H : Type} : List (Lit × DataW H) → Nat
  | [] => 0
  | x :: r => uptoBulkEntry x + uptoBulkEntries r
def uptoBulkEntry {H : Type} : Lit × DataW H → Nat
  | (.string bytes, d) => bytes.length + uptoBulk d + 1
  | (_, d) => uptoBulk d + 1
 end
def uptoSmall : (H : Type) → List (DataW H) → Bool := fun _ ds => decide (uptoBulkAll ds ≤ 1048576)
def OpenSpec.upto (s : _root_.Go.ChangeSpec) : _root_.Go.OpenSpec := { _root_.Go.OpenSpec.ofChange s with cond := some uptoSmall }

/-- 'gatewardenlaw15.MeanTells', WHERE WHAT IT READS IS OF BULK AT MOST 1048576: true; the input reads as it did. -/
def meanTellsUptoRow : OpenClaim := { program := "ytppmcbkcohiodaa", sum := "e8db5f06f424924162e43221248fb6771c63a82629581826c1036146cecb0a88", func := "gatewarden/gatewardenlaw15.MeanTells", spec := "meanTells", inPlace := ["math.Float64frombits"], unfollowed := true, recurses := true, loops := true, apart := false, narrowed := true }
def MeanTellsUptoSaid : Prop := meanTellsUptoRow.holds Try.pinned (OpenSpec.upto meanTellsSpec)

/-- 'gatewardenlaw15.MeanNots', WHERE WHAT IT READS IS OF BULK AT MOST 1048576: true; the input reads as it did. -/
def meanNotsUptoRow : OpenClaim := { program := "ytppmcbkcohiodaa", sum := "e8db5f06f424924162e43221248fb6771c63a82629581826c1036146cecb0a88", func := "gatewarden/gatewardenlaw15.MeanNots", spec := "meanNots", inPlace := ["math.Float64frombits"], unfollowed := true, recurses := true, loops := true, apart := false, narrowed := true }
def MeanNotsUptoSaid : Prop := meanNotsUptoRow.holds Try.pinned (OpenSpec.upto meanNotsSpec)

/-- 'gatewardenlaw15.MeanFirst', WHERE WHAT IT READS IS OF BULK AT MOST 1048576: true; the input reads as it did. -/
def meanFirstUptoRow : OpenClaim := { program := "ytppmcbkcohiodaa", sum := "e8db5f06f424924162e43221248fb6771c63a82629581826c1036146cecb0a88", func := "gatewarden/gatewardenlaw15.MeanFirst", spec := "meanFirst", inPlace := ["math.Float64frombits"], unfollowed := true, recurses := true, loops := true, apart := false, narrowed := true }
def MeanFirstUptoSaid : Prop := meanFirstUptoRow.holds Try.pinned (OpenSpec.upto meanFirstSpec)

/-- 'gatewardenlaw15.MeanTurned', WHERE WHAT IT READS IS OF BULK AT MOST 1048576: true; the input reads as it did. -/
def meanTurnedUptoRow : OpenClaim := { program := "ytppmcbkcohiodaa", sum := "e8db5f06f424924162e43221248fb6771c63a82629581826c1036146cecb0a88", func := "gatewarden/gatewardenlaw15.MeanTurned", spec := "meanTurned", inPlace := ["math.Float64frombits"], unfollowed := true, recurses := true, loops := true, apart := false, narrowed := true }
def MeanTurnedUptoSaid : Prop := meanTurnedUptoRow.holds Try.pinned (OpenSpec.upto meanTurnedSpec)

/-- 'gatewardenlaw17.WalkTells', WHERE WHAT IT READS IS OF BULK AT MOST 1048576: true; the input reads as it did. -/
def walkTellsUptoRow : OpenClaim := { program := "ytppmcbkcohiodaa", sum := "e8db5f06f424924162e43221248fb6771c63a82629581826c1036146cecb0a88", func := "gatewarden/gatewardenlaw17.WalkTells", spec := "walkTells", inPlace := ["math.Float64frombits"], unfollowed := true, recurses := true, loops := true, apart := false, narrowed := true }
def WalkTellsUptoSaid : Prop := walkTellsUptoRow.holds Try.pinned (OpenSpec.upto walkTellsSpec)

/-- 'gatewardenlaw17.WalkFirst', WHERE WHAT IT READS IS OF BULK AT MOST 1048576: true; the input reads as it did. -/
def walkFirstUptoRow : OpenClaim := { program := "ytppmcbkcohiodaa", sum := "e8db5f06f424924162e43221248fb6771c63a82629581826c1036146cecb0a88", func := "gatewarden/gatewardenlaw17.WalkFirst", spec := "walkFirst", inPlace := ["math.Float64frombits"], unfollowed := true, recurses := true, loops := true, apart := false, narrowed := true }
def WalkFirstUptoSaid : Prop := walkFirstUptoRow.holds Try.pinned (OpenSpec.upto walkFirstSpec)

end Rows
end Go.Proofs.Ytppmcbkcohiodaa
