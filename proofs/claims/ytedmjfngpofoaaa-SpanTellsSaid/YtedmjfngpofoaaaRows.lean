/-
  NARROWER THAN 'FOR EVERY INPUT', by the rows' own cells (each row's printed sentence says how): MeanTells: loops · MeanNots: loops · MeanFirst: loops · MeanTurned: loops.
  DERIVED. THE GIVEN ROWS OF THIS SEAT. 8 by the template 'for every input the law returns true; each argument reads behind the call as it read before'; 0 by the template 'total and deterministic' (their statements: YtedmjfngpofoaaaTotals.lean).
  GIVEN WITH THE SEED: the statements are not yours to turn. If you find one false, say at which input.
  Laid BY PROGRAM, IN A SANDBOX (cutbox-rows.mjs): the forced cells as the released guide's own fill.sh prints them over the translation ad62160684d2f2c0… (all of the seat's roots in one cut). By AI agents, Wed Nov 11 2026. No macro, syntax, notation, axiom, sorry.
-/
import Derived.Test.YtedmjfngpofoaaaChecked
import GoSem.Claim
import GoSem.ClaimJoined
import GoSem.ClaimMapViews
import Derived.JoinedTies
import Derived.KernelRfl
namespace Go.Proofs.Ytedmjfngpofoaaa
/- THE CELL 'sum', in the pinned program and in every row, IS THE sha256 OF THE DUMP (.gsa) THAT YtedmjfngpofoaaaProg.lean LOADS. Nothing in Lean hashes anything: it is a label: what it is worth is what the hold of that sum in a sandbox is worth. -/
noncomputable def Try.pinned : Pinned := { name := "ytedmjfngpofoaaa", sum := "ad62160684d2f2c03ef4d25ed3edd403765face7a3422960333381608dfd4182", checked := Try.checked }
namespace Rows
def none {H : Type} : Left H := { results := [], args := [] }

/-- 'gatewardenlaw04.SpanCovers': WHATEVER THE INPUT: true; the input reads as it did. -/
def spanCoversSpec : ChangeSpec := { name := "spanCovers", fn := fun _ => fun
  | [d1, d2, d3] => { results := [.lit (.bool true)], args := [d1, d2, d3] }
  | _ => none }
def spanCoversRow : OpenClaim := { program := "ytedmjfngpofoaaa", sum := "ad62160684d2f2c03ef4d25ed3edd403765face7a3422960333381608dfd4182", func := "gatewarden/gatewardenlaw04.SpanCovers", spec := "spanCovers", unfollowed := true, recurses := true, apart := false }
def SpanCoversSaid : Prop := spanCoversRow.holds Try.pinned (OpenSpec.ofChange spanCoversSpec)

/-- ITS FALSE NEIGHBOUR: 'it returns false'. Refute it at one input. -/
def spanCoversWrong : ChangeSpec := { name := "spanCovers", fn := fun _ => fun
  | [d1, d2, d3] => { results := [.lit (.bool false)], args := [d1, d2, d3] }
  | _ => none }
def SpanCoversWrongFalsely : Prop := spanCoversRow.holds Try.pinned (OpenSpec.ofChange spanCoversWrong)

/-- 'gatewardenlaw04.SpanTells': WHATEVER THE INPUT: true; the input reads as it did. -/
def spanTellsSpec : ChangeSpec := { name := "spanTells", fn := fun _ => fun
  | [d] => { results := [.lit (.bool true)], args := [d] }
  | _ => none }
def spanTellsRow : OpenClaim := { program := "ytedmjfngpofoaaa", sum := "ad62160684d2f2c03ef4d25ed3edd403765face7a3422960333381608dfd4182", func := "gatewarden/gatewardenlaw04.SpanTells", spec := "spanTells", unfollowed := true, recurses := true, apart := false }
def SpanTellsSaid : Prop := spanTellsRow.holds Try.pinned (OpenSpec.ofChange spanTellsSpec)

/-- ITS FALSE NEIGHBOUR: 'it returns false'. Refute it at one input. -/
def spanTellsWrong : ChangeSpec := { name := "spanTells", fn := fun _ => fun
  | [d] => { results := [.lit (.bool false)], args := [d] }
  | _ => none }
def SpanTellsWrongFalsely : Prop := spanTellsRow.holds Try.pinned (OpenSpec.ofChange spanTellsWrong)

/-- 'gatewardenlaw04.SpanNorm': WHATEVER THE INPUT: true; the input reads as it did. -/
def spanNormSpec : ChangeSpec := { name := "spanNorm", fn := fun _ => fun
  | [d1, d2, d3] => { results := [.lit (.bool true)], args := [d1, d2, d3] }
  | _ => none }
def spanNormRow : OpenClaim := { program := "ytedmjfngpofoaaa", sum := "ad62160684d2f2c03ef4d25ed3edd403765face7a3422960333381608dfd4182", func := "gatewarden/gatewardenlaw04.SpanNorm", spec := "spanNorm", unfollowed := true, recurses := true, apart := false }
def SpanNormSaid : Prop := spanNormRow.holds Try.pinned (OpenSpec.ofChange spanNormSpec)

/-- ITS FALSE NEIGHBOUR: 'it returns false'. Refute it at one input. -/
def spanNormWrong : ChangeSpec := { name := "spanNorm", fn := fun _ => fun
  | [d1, d2, d3] => { results := [.lit (.bool false)], args := [d1, d2, d3] }
  | _ => none }
def SpanNormWrongFalsely : Prop := spanNormRow.holds Try.pinned (OpenSpec.ofChange spanNormWrong)

/-- 'gatewardenlaw04.SpanJoins': WHATEVER THE INPUT: true; the input reads as it did. -/
def spanJoinsSpec : ChangeSpec := { name := "spanJoins", fn := fun _ => fun
  | [d1, d2] => { results := [.lit (.bool true)], args := [d1, d2] }
  | _ => none }
def spanJoinsRow : OpenClaim := { program := "ytedmjfngpofoaaa", sum := "ad62160684d2f2c03ef4d25ed3edd403765face7a3422960333381608dfd4182", func := "gatewarden/gatewardenlaw04.SpanJoins", spec := "spanJoins", unfollowed := true, recurses := true, apart := false }
def SpanJoinsSaid : Prop := spanJoinsRow.holds Try.pinned (OpenSpec.ofChange spanJoinsSpec)

/-- ITS FALSE NEIGHBOUR: 'it returns false'. Refute it at one input. -/
def spanJoinsWrong : ChangeSpec := { name := "spanJoins", fn := fun _ => fun
  | [d1, d2] => { results := [.lit (.bool false)], args := [d1, d2] }
  | _ => none }
def SpanJoinsWrongFalsely : Prop := spanJoinsRow.holds Try.pinned (OpenSpec.ofChange spanJoinsWrong)

/-- 'gatewardenlaw15.MeanTells': WHATEVER THE INPUT: true; the input reads as it did. -/
def meanTellsSpec : ChangeSpec := { name := "meanTells", fn := fun _ => fun
  | [d1, d2, d3] => { results := [.lit (.bool true)], args := [d1, d2, d3] }
  | _ => none }
def meanTellsRow : OpenClaim := { program := "ytedmjfngpofoaaa", sum := "ad62160684d2f2c03ef4d25ed3edd403765face7a3422960333381608dfd4182", func := "gatewarden/gatewardenlaw15.MeanTells", spec := "meanTells", inPlace := ["math.Float64frombits"], unfollowed := true, recurses := true, loops := true, apart := false }
def MeanTellsSaid : Prop := meanTellsRow.holds Try.pinned (OpenSpec.ofChange meanTellsSpec)

/-- ITS FALSE NEIGHBOUR: 'it returns false'. Refute it at one input. -/
def meanTellsWrong : ChangeSpec := { name := "meanTells", fn := fun _ => fun
  | [d1, d2, d3] => { results := [.lit (.bool false)], args := [d1, d2, d3] }
  | _ => none }
def MeanTellsWrongFalsely : Prop := meanTellsRow.holds Try.pinned (OpenSpec.ofChange meanTellsWrong)

/-- 'gatewardenlaw15.MeanNots': WHATEVER THE INPUT: true; the input reads as it did. -/
def meanNotsSpec : ChangeSpec := { name := "meanNots", fn := fun _ => fun
  | [d1, d2, d3] => { results := [.lit (.bool true)], args := [d1, d2, d3] }
  | _ => none }
def meanNotsRow : OpenClaim := { program := "ytedmjfngpofoaaa", sum := "ad62160684d2f2c03ef4d25ed3edd403765face7a3422960333381608dfd4182", func := "gatewarden/gatewardenlaw15.MeanNots", spec := "meanNots", inPlace := ["math.Float64frombits"], unfollowed := true, recurses := true, loops := true, apart := false }
def MeanNotsSaid : Prop := meanNotsRow.holds Try.pinned (OpenSpec.ofChange meanNotsSpec)

/-- ITS FALSE NEIGHBOUR: 'it returns false'. Refute it at one input. -/
def meanNotsWrong : ChangeSpec := { name := "meanNots", fn := fun _ => fun
  | [d1, d2, d3] => { results := [.lit (.bool false)], args := [d1, d2, d3] }
  | _ => none }
def MeanNotsWrongFalsely : Prop := meanNotsRow.holds Try.pinned (OpenSpec.ofChange meanNotsWrong)

/-- 'gatewardenlaw15.MeanFirst': WHATEVER THE INPUT: true; the input reads as it did. -/
def meanFirstSpec : ChangeSpec := { name := "meanFirst", fn := fun _ => fun
  | [d1, d2] => { results := [.lit (.bool true)], args := [d1, d2] }
  | _ => none }
def meanFirstRow : OpenClaim := { program := "ytedmjfngpofoaaa", sum := "ad62160684d2f2c03ef4d25ed3edd403765face7a3422960333381608dfd4182", func := "gatewarden/gatewardenlaw15.MeanFirst", spec := "meanFirst", inPlace := ["math.Float64frombits"], unfollowed := true, recurses := true, loops := true, apart := false }
def MeanFirstSaid : Prop := meanFirstRow.holds Try.pinned (OpenSpec.ofChange meanFirstSpec)

/-- ITS FALSE NEIGHBOUR: 'it returns false'. Refute it at one input. -/
def meanFirstWrong : ChangeSpec := { name := "meanFirst", fn := fun _ => fun
  | [d1, d2] => { results := [.lit (.bool false)], args := [d1, d2] }
  | _ => none }
def MeanFirstWrongFalsely : Prop := meanFirstRow.holds Try.pinned (OpenSpec.ofChange meanFirstWrong)

/-- 'gatewardenlaw15.MeanTurned': WHATEVER THE INPUT: true; the input reads as it did. -/
def meanTurnedSpec : ChangeSpec := { name := "meanTurned", fn := fun _ => fun
  | [d1, d2, d3] => { results := [.lit (.bool true)], args := [d1, d2, d3] }
  | _ => none }
def meanTurnedRow : OpenClaim := { program := "ytedmjfngpofoaaa", sum := "ad62160684d2f2c03ef4d25ed3edd403765face7a3422960333381608dfd4182", func := "gatewarden/gatewardenlaw15.MeanTurned", spec := "meanTurned", inPlace := ["math.Float64frombits"], unfollowed := true, recurses := true, loops := true, apart := false }
def MeanTurnedSaid : Prop := meanTurnedRow.holds Try.pinned (OpenSpec.ofChange meanTurnedSpec)

/-- ITS FALSE NEIGHBOUR: 'it returns false'. Refute it at one input. -/
def meanTurnedWrong : ChangeSpec := { name := "meanTurned", fn := fun _ => fun
  | [d1, d2, d3] => { results := [.lit (.bool false)], args := [d1, d2, d3] }
  | _ => none }
def MeanTurnedWrongFalsely : Prop := meanTurnedRow.holds Try.pinned (OpenSpec.ofChange meanTurnedWrong)

/- THE SECOND FORM. 'bulk': how many values and letters a reading holds, each counted each time it is reached (what is shared counts as often as it is met; a slice's spare places count too). A statement '..UptoSaid' is the law's where the arguments, and the package variables that the reading takes, are together of bulk at most 1048576: NARROWER than '..Said'. Prove '..Said' where nothing that the law and all that it calls make is longer than what came in: it says more and counts as full. Else prove '..UptoSaid'. A law counts once. -/
mutual
def uptoBulk {H : Type} : DataW H → Nat
  | .lit (.string bytes) => bytes.length + 1
  | .lit _ => 1
  | .nil => 1
  | .ptr d => uptoBulk d + 1
  | .slice elems spare => uptoBulkAll elems + uptoBulkAll spare + 1
  | .agg parts => uptoBulkAll parts + 1
  | .iface _ d => uptoBulk d + 1
  | .map entries => uptoBulkEntries entries + 1
  | .held _ => 1
def uptoBulkAll {H : Type} : List (DataW H) → Nat
  | [] => 0
  | d :: r => uptoBulk d + uptoBulkAll r
def uptoBulkEntries {H : Type} : List (Lit × DataW H) → Nat
  | [] => 0
  | x :: r => uptoBulkEntry x + uptoBulkEntries r
def uptoBulkEntry {H : Type} : Lit × DataW H → Nat
  | (.string bytes, d) => bytes.length + uptoBulk d + 1
  | (_, d) => uptoBulk d + 1
 end
def uptoSmall : (H : Type) → List (DataW H) → Bool := fun _ ds => decide (uptoBulkAll ds ≤ 1048576)
def OpenSpec.upto (s : _root_.Go.ChangeSpec) : _root_.Go.OpenSpec := { _root_.Go.OpenSpec.ofChange s with cond := some uptoSmall }

/-- 'gatewardenlaw04.SpanCovers', WHERE WHAT IT READS IS OF BULK AT MOST 1048576: true; the input reads as it did. -/
def spanCoversUptoRow : OpenClaim := { program := "ytedmjfngpofoaaa", sum := "ad62160684d2f2c03ef4d25ed3edd403765face7a3422960333381608dfd4182", func := "gatewarden/gatewardenlaw04.SpanCovers", spec := "spanCovers", unfollowed := true, recurses := true, apart := false, narrowed := true }
def SpanCoversUptoSaid : Prop := spanCoversUptoRow.holds Try.pinned (OpenSpec.upto spanCoversSpec)

/-- 'gatewardenlaw04.SpanTells', WHERE WHAT IT READS IS OF BULK AT MOST 1048576: true; the input reads as it did. -/
def spanTellsUptoRow : OpenClaim := { program := "ytedmjfngpofoaaa", sum := "ad62160684d2f2c03ef4d25ed3edd403765face7a3422960333381608dfd4182", func := "gatewarden/gatewardenlaw04.SpanTells", spec := "spanTells", unfollowed := true, recurses := true, apart := false, narrowed := true }
def SpanTellsUptoSaid : Prop := spanTellsUptoRow.holds Try.pinned (OpenSpec.upto spanTellsSpec)

/-- 'gatewardenlaw04.SpanNorm', WHERE WHAT IT READS IS OF BULK AT MOST 1048576: true; the input reads as it did. -/
def spanNormUptoRow : OpenClaim := { program := "ytedmjfngpofoaaa", sum := "ad62160684d2f2c03ef4d25ed3edd403765face7a3422960333381608dfd4182", func := "gatewarden/gatewardenlaw04.SpanNorm", spec := "spanNorm", unfollowed := true, recurses := true, apart := false, narrowed := true }
def SpanNormUptoSaid : Prop := spanNormUptoRow.holds Try.pinned (OpenSpec.upto spanNormSpec)

/-- 'gatewardenlaw04.SpanJoins', WHERE WHAT IT READS IS OF BULK AT MOST 1048576: true; the input reads as it did. -/
def spanJoinsUptoRow : OpenClaim := { program := "ytedmjfngpofoaaa", sum := "ad62160684d2f2c03ef4d25ed3edd403765face7a3422960333381608dfd4182", func := "gatewarden/gatewardenlaw04.SpanJoins", spec := "spanJoins", unfollowed := true, recurses := true, apart := false, narrowed := true }
def SpanJoinsUptoSaid : Prop := spanJoinsUptoRow.holds Try.pinned (OpenSpec.upto spanJoinsSpec)

/-- 'gatewardenlaw15.MeanTells', WHERE WHAT IT READS IS OF BULK AT MOST 1048576: true; the input reads as it did. -/
def meanTellsUptoRow : OpenClaim := { program := "ytedmjfngpofoaaa", sum := "ad62160684d2f2c03ef4d25ed3edd403765face7a3422960333381608dfd4182", func := "gatewarden/gatewardenlaw15.MeanTells", spec := "meanTells", inPlace := ["math.Float64frombits"], unfollowed := true, recurses := true, loops := true, apart := false, narrowed := true }
def MeanTellsUptoSaid : Prop := meanTellsUptoRow.holds Try.pinned (OpenSpec.upto meanTellsSpec)

/-- 'gatewardenlaw15.MeanNots', WHERE WHAT IT READS IS OF BULK AT MOST 1048576: true; the input reads as it did. -/
def meanNotsUptoRow : OpenClaim := { program := "ytedmjfngpofoaaa", sum := "ad62160684d2f2c03ef4d25ed3edd403765face7a3422960333381608dfd4182", func := "gatewarden/gatewardenlaw15.MeanNots", spec := "meanNots", inPlace := ["math.Float64frombits"], unfollowed := true, recurses := true, loops := true, apart := false, narrowed := true }
def MeanNotsUptoSaid : Prop := meanNotsUptoRow.holds Try.pinned (OpenSpec.upto meanNotsSpec)

/-- 'gatewardenlaw15.MeanFirst', WHERE WHAT IT READS IS OF BULK AT MOST 1048576: true; the input reads as it did. -/
def meanFirstUptoRow : OpenClaim := { program := "ytedmjfngpofoaaa", sum := "ad62160684d2f2c03ef4d25ed3edd403765face7a3422960333381608dfd4182", func := "gatewarden/gatewardenlaw15.MeanFirst", spec := "meanFirst", inPlace := ["math.Float64frombits"], unfollowed := true, recurses := true, loops := true, apart := false, narrowed := true }
def MeanFirstUptoSaid : Prop := meanFirstUptoRow.holds Try.pinned (OpenSpec.upto meanFirstSpec)

/-- 'gatewardenlaw15.MeanTurned', WHERE WHAT IT READS IS OF BULK AT MOST 1048576: true; the input reads as it did. -/
def meanTurnedUptoRow : OpenClaim := { program := "ytedmjfngpofoaaa", sum := "ad62160684d2f2c03ef4d25ed3edd403765face7a3422960333381608dfd4182", func := "gatewarden/gatewardenlaw15.MeanTurned", spec := "meanTurned", inPlace := ["math.Float64frombits"], unfollowed := true, recurses := true, loops := true, apart := false, narrowed := true }
def MeanTurnedUptoSaid : Prop := meanTurnedUptoRow.holds Try.pinned (OpenSpec.upto meanTurnedSpec)

end Rows
end Go.Proofs.Ytedmjfngpofoaaa
