/-
  No cell of these rows narrows 'for every input' (looked for: loops, veiled, ifaces, maps, wideKeys, modest, calm, conditions, laid).
  DERIVED. THE GIVEN ROWS OF THIS SEAT. 11 by the template 'for every input the law returns true; each argument reads behind the call as it read before'; 0 by the template 'total and deterministic' (their statements: YtcoaehhoiaijoaaTotals.lean).
  GIVEN WITH THE SEED: the statements are not yours to turn. If you find one false, say at which input.
  Laid BY PROGRAM, IN A SANDBOX (cutbox-rows.mjs): the forced cells as the released guide's own fill.sh prints them over the translation 1e18d596a9e95188… (all of the seat's roots in one cut). By AI agents, Wed Nov 11 2026. No macro, syntax, notation, axiom, sorry.
-/
import Derived.Test.YtcoaehhoiaijoaaChecked
import GoSem.Claim
import GoSem.ClaimJoined
import GoSem.ClaimMapViews
import Derived.JoinedTies
import Derived.KernelRfl
namespace Go.Proofs.Ytcoaehhoiaijoaa
/- THE CELL 'sum', in the pinned program and in every row, IS THE sha256 OF THE DUMP (.gsa) THAT YtcoaehhoiaijoaaProg.lean LOADS. Nothing in Lean hashes anything: it is a label: what it is worth is what the hold of that sum in a sandbox is worth. -/
noncomputable def Try.pinned : Pinned := { name := "ytcoaehhoiaijoaa", sum := "1e18d596a9e95188191978c4bb4d47cbabf7fec3286c7c216fa5d12081a42416", checked := Try.checked }
namespace Rows
def none {H : Type} : Left H := { results := [], args := [] }

/-- 'gatewardenlaw05.CoilTells': WHATEVER THE INPUT: true; the input reads as it did. -/
def coilTellsSpec : ChangeSpec := { name := "coilTells", fn := fun _ => fun
  | [d1, d2, d3] => { results := [.lit (.bool true)], args := [d1, d2, d3] }
  | _ => none }
def coilTellsRow : OpenClaim := { program := "ytcoaehhoiaijoaa", sum := "1e18d596a9e95188191978c4bb4d47cbabf7fec3286c7c216fa5d12081a42416", func := "gatewarden/gatewardenlaw05.CoilTells", spec := "coilTells", apart := false }
def CoilTellsSaid : Prop := coilTellsRow.holds Try.pinned (OpenSpec.ofChange coilTellsSpec)

/-- ITS FALSE NEIGHBOUR: 'it returns false'. Refute it at one input. -/
def coilTellsWrong : ChangeSpec := { name := "coilTells", fn := fun _ => fun
  | [d1, d2, d3] => { results := [.lit (.bool false)], args := [d1, d2, d3] }
  | _ => none }
def CoilTellsWrongFalsely : Prop := coilTellsRow.holds Try.pinned (OpenSpec.ofChange coilTellsWrong)

/-- 'gatewardenlaw05.CoilBack': WHATEVER THE INPUT: true; the input reads as it did. -/
def coilBackSpec : ChangeSpec := { name := "coilBack", fn := fun _ => fun
  | [d1, d2, d3] => { results := [.lit (.bool true)], args := [d1, d2, d3] }
  | _ => none }
def coilBackRow : OpenClaim := { program := "ytcoaehhoiaijoaa", sum := "1e18d596a9e95188191978c4bb4d47cbabf7fec3286c7c216fa5d12081a42416", func := "gatewarden/gatewardenlaw05.CoilBack", spec := "coilBack", apart := false }
def CoilBackSaid : Prop := coilBackRow.holds Try.pinned (OpenSpec.ofChange coilBackSpec)

/-- ITS FALSE NEIGHBOUR: 'it returns false'. Refute it at one input. -/
def coilBackWrong : ChangeSpec := { name := "coilBack", fn := fun _ => fun
  | [d1, d2, d3] => { results := [.lit (.bool false)], args := [d1, d2, d3] }
  | _ => none }
def CoilBackWrongFalsely : Prop := coilBackRow.holds Try.pinned (OpenSpec.ofChange coilBackWrong)

/-- 'gatewardenlaw05.CoilJoins': WHATEVER THE INPUT: true; the input reads as it did. -/
def coilJoinsSpec : ChangeSpec := { name := "coilJoins", fn := fun _ => fun
  | [d1, d2] => { results := [.lit (.bool true)], args := [d1, d2] }
  | _ => none }
def coilJoinsRow : OpenClaim := { program := "ytcoaehhoiaijoaa", sum := "1e18d596a9e95188191978c4bb4d47cbabf7fec3286c7c216fa5d12081a42416", func := "gatewarden/gatewardenlaw05.CoilJoins", spec := "coilJoins", apart := false }
def CoilJoinsSaid : Prop := coilJoinsRow.holds Try.pinned (OpenSpec.ofChange coilJoinsSpec)

/-- ITS FALSE NEIGHBOUR: 'it returns false'. Refute it at one input. -/
def coilJoinsWrong : ChangeSpec := { name := "coilJoins", fn := fun _ => fun
  | [d1, d2] => { results := [.lit (.bool false)], args := [d1, d2] }
  | _ => none }
def CoilJoinsWrongFalsely : Prop := coilJoinsRow.holds Try.pinned (OpenSpec.ofChange coilJoinsWrong)

/-- 'gatewardenlaw19.IdentTells': WHATEVER THE INPUT: true; the input reads as it did. -/
def identTellsSpec : ChangeSpec := { name := "identTells", fn := fun _ => fun
  | [d1, d2] => { results := [.lit (.bool true)], args := [d1, d2] }
  | _ => none }
def identTellsRow : OpenClaim := { program := "ytcoaehhoiaijoaa", sum := "1e18d596a9e95188191978c4bb4d47cbabf7fec3286c7c216fa5d12081a42416", func := "gatewarden/gatewardenlaw19.IdentTells", spec := "identTells", apart := false }
def IdentTellsSaid : Prop := identTellsRow.holds Try.pinned (OpenSpec.ofChange identTellsSpec)

/-- ITS FALSE NEIGHBOUR: 'it returns false'. Refute it at one input. -/
def identTellsWrong : ChangeSpec := { name := "identTells", fn := fun _ => fun
  | [d1, d2] => { results := [.lit (.bool false)], args := [d1, d2] }
  | _ => none }
def IdentTellsWrongFalsely : Prop := identTellsRow.holds Try.pinned (OpenSpec.ofChange identTellsWrong)

/-- 'gatewardenlaw19.IdentFree': WHATEVER THE INPUT: true; the input reads as it did. -/
def identFreeSpec : ChangeSpec := { name := "identFree", fn := fun _ => fun
  | [d1, d2] => { results := [.lit (.bool true)], args := [d1, d2] }
  | _ => none }
def identFreeRow : OpenClaim := { program := "ytcoaehhoiaijoaa", sum := "1e18d596a9e95188191978c4bb4d47cbabf7fec3286c7c216fa5d12081a42416", func := "gatewarden/gatewardenlaw19.IdentFree", spec := "identFree", apart := false }
def IdentFreeSaid : Prop := identFreeRow.holds Try.pinned (OpenSpec.ofChange identFreeSpec)

/-- ITS FALSE NEIGHBOUR: 'it returns false'. Refute it at one input. -/
def identFreeWrong : ChangeSpec := { name := "identFree", fn := fun _ => fun
  | [d1, d2] => { results := [.lit (.bool false)], args := [d1, d2] }
  | _ => none }
def IdentFreeWrongFalsely : Prop := identFreeRow.holds Try.pinned (OpenSpec.ofChange identFreeWrong)

/-- 'gatewardenlaw19.IdentOwn': WHATEVER THE INPUT: true; the input reads as it did. -/
def identOwnSpec : ChangeSpec := { name := "identOwn", fn := fun _ => fun
  | [d1, d2] => { results := [.lit (.bool true)], args := [d1, d2] }
  | _ => none }
def identOwnRow : OpenClaim := { program := "ytcoaehhoiaijoaa", sum := "1e18d596a9e95188191978c4bb4d47cbabf7fec3286c7c216fa5d12081a42416", func := "gatewarden/gatewardenlaw19.IdentOwn", spec := "identOwn", apart := false }
def IdentOwnSaid : Prop := identOwnRow.holds Try.pinned (OpenSpec.ofChange identOwnSpec)

/-- ITS FALSE NEIGHBOUR: 'it returns false'. Refute it at one input. -/
def identOwnWrong : ChangeSpec := { name := "identOwn", fn := fun _ => fun
  | [d1, d2] => { results := [.lit (.bool false)], args := [d1, d2] }
  | _ => none }
def IdentOwnWrongFalsely : Prop := identOwnRow.holds Try.pinned (OpenSpec.ofChange identOwnWrong)

/-- 'gatewardenlaw03.RealWithin': WHATEVER THE INPUT: true; the input reads as it did. -/
def realWithinSpec : ChangeSpec := { name := "realWithin", fn := fun _ => fun
  | [d1, d2] => { results := [.lit (.bool true)], args := [d1, d2] }
  | _ => none }
def realWithinRow : OpenClaim := { program := "ytcoaehhoiaijoaa", sum := "1e18d596a9e95188191978c4bb4d47cbabf7fec3286c7c216fa5d12081a42416", func := "gatewarden/gatewardenlaw03.RealWithin", spec := "realWithin", inPlace := ["math.Float64frombits", "math.Float64bits"], apart := false }
def RealWithinSaid : Prop := realWithinRow.holds Try.pinned (OpenSpec.ofChange realWithinSpec)

/-- ITS FALSE NEIGHBOUR: 'it returns false'. Refute it at one input. -/
def realWithinWrong : ChangeSpec := { name := "realWithin", fn := fun _ => fun
  | [d1, d2] => { results := [.lit (.bool false)], args := [d1, d2] }
  | _ => none }
def RealWithinWrongFalsely : Prop := realWithinRow.holds Try.pinned (OpenSpec.ofChange realWithinWrong)

/-- 'gatewardenlaw03.RealTells': WHATEVER THE INPUT: true; the input reads as it did. -/
def realTellsSpec : ChangeSpec := { name := "realTells", fn := fun _ => fun
  | [d] => { results := [.lit (.bool true)], args := [d] }
  | _ => none }
def realTellsRow : OpenClaim := { program := "ytcoaehhoiaijoaa", sum := "1e18d596a9e95188191978c4bb4d47cbabf7fec3286c7c216fa5d12081a42416", func := "gatewarden/gatewardenlaw03.RealTells", spec := "realTells", inPlace := ["math.Float64frombits", "math.Float64bits"], apart := false }
def RealTellsSaid : Prop := realTellsRow.holds Try.pinned (OpenSpec.ofChange realTellsSpec)

/-- ITS FALSE NEIGHBOUR: 'it returns false'. Refute it at one input. -/
def realTellsWrong : ChangeSpec := { name := "realTells", fn := fun _ => fun
  | [d] => { results := [.lit (.bool false)], args := [d] }
  | _ => none }
def RealTellsWrongFalsely : Prop := realTellsRow.holds Try.pinned (OpenSpec.ofChange realTellsWrong)

/-- 'gatewardenlaw14.FactsSpans': WHATEVER THE INPUT: true; the input reads as it did. -/
def factsSpansSpec : ChangeSpec := { name := "factsSpans", fn := fun _ => fun
  | [d1, d2] => { results := [.lit (.bool true)], args := [d1, d2] }
  | _ => none }
def factsSpansRow : OpenClaim := { program := "ytcoaehhoiaijoaa", sum := "1e18d596a9e95188191978c4bb4d47cbabf7fec3286c7c216fa5d12081a42416", func := "gatewarden/gatewardenlaw14.FactsSpans", spec := "factsSpans", inPlace := ["math.Float64frombits"], unfollowed := true, recurses := true, apart := false }
def FactsSpansSaid : Prop := factsSpansRow.holds Try.pinned (OpenSpec.ofChange factsSpansSpec)

/-- ITS FALSE NEIGHBOUR: 'it returns false'. Refute it at one input. -/
def factsSpansWrong : ChangeSpec := { name := "factsSpans", fn := fun _ => fun
  | [d1, d2] => { results := [.lit (.bool false)], args := [d1, d2] }
  | _ => none }
def FactsSpansWrongFalsely : Prop := factsSpansRow.holds Try.pinned (OpenSpec.ofChange factsSpansWrong)

/-- 'gatewardenlaw14.FactsReals': WHATEVER THE INPUT: true; the input reads as it did. -/
def factsRealsSpec : ChangeSpec := { name := "factsReals", fn := fun _ => fun
  | [d] => { results := [.lit (.bool true)], args := [d] }
  | _ => none }
def factsRealsRow : OpenClaim := { program := "ytcoaehhoiaijoaa", sum := "1e18d596a9e95188191978c4bb4d47cbabf7fec3286c7c216fa5d12081a42416", func := "gatewarden/gatewardenlaw14.FactsReals", spec := "factsReals", inPlace := ["math.Float64frombits"], unfollowed := true, recurses := true, apart := false }
def FactsRealsSaid : Prop := factsRealsRow.holds Try.pinned (OpenSpec.ofChange factsRealsSpec)

/-- ITS FALSE NEIGHBOUR: 'it returns false'. Refute it at one input. -/
def factsRealsWrong : ChangeSpec := { name := "factsReals", fn := fun _ => fun
  | [d] => { results := [.lit (.bool false)], args := [d] }
  | _ => none }
def FactsRealsWrongFalsely : Prop := factsRealsRow.holds Try.pinned (OpenSpec.ofChange factsRealsWrong)

/-- 'gatewardenlaw14.FactsTells': WHATEVER THE INPUT: true; the input reads as it did. -/
def factsTellsSpec : ChangeSpec := { name := "factsTells", fn := fun _ => fun
  | [d] => { results := [.lit (.bool true)], args := [d] }
  | _ => none }
def factsTellsRow : OpenClaim := { program := "ytcoaehhoiaijoaa", sum := "1e18d596a9e95188191978c4bb4d47cbabf7fec3286c7c216fa5d12081a42416", func := "gatewarden/gatewardenlaw14.FactsTells", spec := "factsTells", inPlace := ["math.Float64frombits"], unfollowed := true, recurses := true, apart := false }
def FactsTellsSaid : Prop := factsTellsRow.holds Try.pinned (OpenSpec.ofChange factsTellsSpec)

/-- ITS FALSE NEIGHBOUR: 'it returns false'. Refute it at one input. -/
def factsTellsWrong : ChangeSpec := { name := "factsTells", fn := fun _ => fun
  | [d] => { results := [.lit (.bool false)], args := [d] }
  | _ => none }
def FactsTellsWrongFalsely : Prop := factsTellsRow.holds Try.pinned (OpenSpec.ofChange factsTellsWrong)

/- THE SECOND FORM. 'bulk': how many values and letters a reading holds, each counted each time it is reached (what is shared counts as often as it is met; a slice's spare places count too). A statement '..UptoSaid' is the law's where the arguments, and the package variables that the reading takes, are together of bulk at most 1048576: NARROWER than '..Said'. Prove '..Said' where nothing that the law and all that it calls make is longer than what came in: it says more and counts as full. Else prove '..UptoSaid'. A law counts once. -/
mutual
def uptoBulk {H : Type} : DataW H → Nat
  | .lit (.string bytes) => bytes.length + 1
  | .lit _ => 1
  | .nil => 1
  | .ptr d => uptoBulk d + 1
  | .slice elems spare => uptoBulkAll elems + uptoBulkAll spare + 1
  | .agg parts => uptoBulkAll parts + 1
  | .iface _ d => uptoBulk d + 1
  | .map entries => uptoBulkEntries entries + 1
  | .held _ => 1
def uptoBulkAll {H : Type} : List (DataW H) → Nat
  | [] => 0
  | d :: r => uptoBulk d + uptoBulkAll r
def uptoBulkEntries {H : Type} : List (Lit × DataW H) → Nat
  | [] => 0
  | x :: r => uptoBulkEntry x + uptoBulkEntries r
def uptoBulkEntry {H : Type} : Lit × DataW H → Nat
  | (.string bytes, d) => bytes.length + uptoBulk d + 1
  | (_, d) => uptoBulk d + 1
 end
def uptoSmall : (H : Type) → List (DataW H) → Bool := fun _ ds => decide (uptoBulkAll ds ≤ 1048576)
def OpenSpec.upto (s : _root_.Go.ChangeSpec) : _root_.Go.OpenSpec := { _root_.Go.OpenSpec.ofChange s with cond := some uptoSmall }

/-- 'gatewardenlaw05.CoilTells', WHERE WHAT IT READS IS OF BULK AT MOST 1048576: true; the input reads as it did. -/
def coilTellsUptoRow : OpenClaim := { program := "ytcoaehhoiaijoaa", sum := "1e18d596a9e95188191978c4bb4d47cbabf7fec3286c7c216fa5d12081a42416", func := "gatewarden/gatewardenlaw05.CoilTells", spec := "coilTells", apart := false, narrowed := true }
def CoilTellsUptoSaid : Prop := coilTellsUptoRow.holds Try.pinned (OpenSpec.upto coilTellsSpec)

/-- 'gatewardenlaw05.CoilBack', WHERE WHAT IT READS IS OF BULK AT MOST 1048576: true; the input reads as it did. -/
def coilBackUptoRow : OpenClaim := { program := "ytcoaehhoiaijoaa", sum := "1e18d596a9e95188191978c4bb4d47cbabf7fec3286c7c216fa5d12081a42416", func := "gatewarden/gatewardenlaw05.CoilBack", spec := "coilBack", apart := false, narrowed := true }
def CoilBackUptoSaid : Prop := coilBackUptoRow.holds Try.pinned (OpenSpec.upto coilBackSpec)

/-- 'gatewardenlaw05.CoilJoins', WHERE WHAT IT READS IS OF BULK AT MOST 1048576: true; the input reads as it did. -/
def coilJoinsUptoRow : OpenClaim := { program := "ytcoaehhoiaijoaa", sum := "1e18d596a9e95188191978c4bb4d47cbabf7fec3286c7c216fa5d12081a42416", func := "gatewarden/gatewardenlaw05.CoilJoins", spec := "coilJoins", apart := false, narrowed := true }
def CoilJoinsUptoSaid : Prop := coilJoinsUptoRow.holds Try.pinned (OpenSpec.upto coilJoinsSpec)

/-- 'gatewardenlaw19.IdentTells', WHERE WHAT IT READS IS OF BULK AT MOST 1048576: true; the input reads as it did. -/
def identTellsUptoRow : OpenClaim := { program := "ytcoaehhoiaijoaa", sum := "1e18d596a9e95188191978c4bb4d47cbabf7fec3286c7c216fa5d12081a42416", func := "gatewarden/gatewardenlaw19.IdentTells", spec := "identTells", apart := false, narrowed := true }
def IdentTellsUptoSaid : Prop := identTellsUptoRow.holds Try.pinned (OpenSpec.upto identTellsSpec)

/-- 'gatewardenlaw19.IdentFree', WHERE WHAT IT READS IS OF BULK AT MOST 1048576: true; the input reads as it did. -/
def identFreeUptoRow : OpenClaim := { program := "ytcoaehhoiaijoaa", sum := "1e18d596a9e95188191978c4bb4d47cbabf7fec3286c7c216fa5d12081a42416", func := "gatewarden/gatewardenlaw19.IdentFree", spec := "identFree", apart := false, narrowed := true }
def IdentFreeUptoSaid : Prop := identFreeUptoRow.holds Try.pinned (OpenSpec.upto identFreeSpec)

/-- 'gatewardenlaw19.IdentOwn', WHERE WHAT IT READS IS OF BULK AT MOST 1048576: true; the input reads as it did. -/
def identOwnUptoRow : OpenClaim := { program := "ytcoaehhoiaijoaa", sum := "1e18d596a9e95188191978c4bb4d47cbabf7fec3286c7c216fa5d12081a42416", func := "gatewarden/gatewardenlaw19.IdentOwn", spec := "identOwn", apart := false, narrowed := true }
def IdentOwnUptoSaid : Prop := identOwnUptoRow.holds Try.pinned (OpenSpec.upto identOwnSpec)

/-- 'gatewardenlaw03.RealWithin', WHERE WHAT IT READS IS OF BULK AT MOST 1048576: true; the input reads as it did. -/
def realWithinUptoRow : OpenClaim := { program := "ytcoaehhoiaijoaa", sum := "1e18d596a9e95188191978c4bb4d47cbabf7fec3286c7c216fa5d12081a42416", func := "gatewarden/gatewardenlaw03.RealWithin", spec := "realWithin", inPlace := ["math.Float64frombits", "math.Float64bits"], apart := false, narrowed := true }
def RealWithinUptoSaid : Prop := realWithinUptoRow.holds Try.pinned (OpenSpec.upto realWithinSpec)

/-- 'gatewardenlaw03.RealTells', WHERE WHAT IT READS IS OF BULK AT MOST 1048576: true; the input reads as it did. -/
def realTellsUptoRow : OpenClaim := { program := "ytcoaehhoiaijoaa", sum := "1e18d596a9e95188191978c4bb4d47cbabf7fec3286c7c216fa5d12081a42416", func := "gatewarden/gatewardenlaw03.RealTells", spec := "realTells", inPlace := ["math.Float64frombits", "math.Float64bits"], apart := false, narrowed := true }
def RealTellsUptoSaid : Prop := realTellsUptoRow.holds Try.pinned (OpenSpec.upto realTellsSpec)

/-- 'gatewardenlaw14.FactsSpans', WHERE WHAT IT READS IS OF BULK AT MOST 1048576: true; the input reads as it did. -/
def factsSpansUptoRow : OpenClaim := { program := "ytcoaehhoiaijoaa", sum := "1e18d596a9e95188191978c4bb4d47cbabf7fec3286c7c216fa5d12081a42416", func := "gatewarden/gatewardenlaw14.FactsSpans", spec := "factsSpans", inPlace := ["math.Float64frombits"], unfollowed := true, recurses := true, apart := false, narrowed := true }
def FactsSpansUptoSaid : Prop := factsSpansUptoRow.holds Try.pinned (OpenSpec.upto factsSpansSpec)

/-- 'gatewardenlaw14.FactsReals', WHERE WHAT IT READS IS OF BULK AT MOST 1048576: true; the input reads as it did. -/
def factsRealsUptoRow : OpenClaim := { program := "ytcoaehhoiaijoaa", sum := "1e18d596a9e95188191978c4bb4d47cbabf7fec3286c7c216fa5d12081a42416", func := "gatewarden/gatewardenlaw14.FactsReals", spec := "factsReals", inPlace := ["math.Float64frombits"], unfollowed := true, recurses := true, apart := false, narrowed := true }
def FactsRealsUptoSaid : Prop := factsRealsUptoRow.holds Try.pinned (OpenSpec.upto factsRealsSpec)

/-- 'gatewardenlaw14.FactsTells', WHERE WHAT IT READS IS OF BULK AT MOST 1048576: true; the input reads as it did. -/
def factsTellsUptoRow : OpenClaim := { program := "ytcoaehhoiaijoaa", sum := "1e18d596a9e95188191978c4bb4d47cbabf7fec3286c7c216fa5d12081a42416", func := "gatewarden/gatewardenlaw14.FactsTells", spec := "factsTells", inPlace := ["math.Float64frombits"], unfollowed := true, recurses := true, apart := false, narrowed := true }
def FactsTellsUptoSaid : Prop := factsTellsUptoRow.holds Try.pinned (OpenSpec.upto factsTellsSpec)

end Rows
end Go.Proofs.Ytcoaehhoiaijoaa
