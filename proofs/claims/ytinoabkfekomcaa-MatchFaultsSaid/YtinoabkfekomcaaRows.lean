/-
  No cell of these rows narrows 'for every input' (looked for: loops, veiled, ifaces, maps, wideKeys, modest, calm, conditions, laid).
  DERIVED. THE GIVEN ROWS OF THIS SEAT. 11 by the template 'for every input the law returns true; each argument reads behind the call as it read before'; 0 by the template 'total and deterministic' (their statements: YtinoabkfekomcaaTotals.lean).
  GIVEN WITH THE SEED: the statements are not yours to turn. If you find one false, say at which input.
  Laid BY PROGRAM, IN A SANDBOX (cutbox-rows.mjs): the forced cells as the released guide's own fill.sh prints them over the translation 130370d228208d3b… (all of the seat's roots in one cut). By AI agents, Wed Nov 11 2026. No macro, syntax, notation, axiom, sorry.
-/
import Derived.Test.YtinoabkfekomcaaChecked
import GoSem.Claim
import GoSem.ClaimJoined
import GoSem.ClaimMapViews
import Derived.JoinedTies
import Derived.KernelRfl
namespace Go.Proofs.Ytinoabkfekomcaa
/- THE CELL 'sum', in the pinned program and in every row, IS THE sha256 OF THE DUMP (.gsa) THAT YtinoabkfekomcaaProg.lean LOADS. Nothing in Lean hashes anything: it is a label: what it is worth is what the hold of that sum in a sandbox is worth. -/
noncomputable def Try.pinned : Pinned := { name := "ytinoabkfekomcaa", sum := "130370d228208d3b9c3dfedb8b7932cddb69c3edb57b5c9198172007df9142d3", checked := Try.checked }
namespace Rows
def none {H : Type} : Left H := { results := [], args := [] }

/-- 'gatewardenlaw06.AskBack': WHATEVER THE INPUT: true; the input reads as it did. -/
def askBackSpec : ChangeSpec := { name := "askBack", fn := fun _ => fun
  | [d1, d2] => { results := [.lit (.bool true)], args := [d1, d2] }
  | _ => none }
def askBackRow : OpenClaim := { program := "ytinoabkfekomcaa", sum := "130370d228208d3b9c3dfedb8b7932cddb69c3edb57b5c9198172007df9142d3", func := "gatewarden/gatewardenlaw06.AskBack", spec := "askBack", unfollowed := true, recurses := true, apart := false }
def AskBackSaid : Prop := askBackRow.holds Try.pinned (OpenSpec.ofChange askBackSpec)

/-- ITS FALSE NEIGHBOUR: 'it returns false'. Refute it at one input. -/
def askBackWrong : ChangeSpec := { name := "askBack", fn := fun _ => fun
  | [d1, d2] => { results := [.lit (.bool false)], args := [d1, d2] }
  | _ => none }
def AskBackWrongFalsely : Prop := askBackRow.holds Try.pinned (OpenSpec.ofChange askBackWrong)

/-- 'gatewardenlaw06.AskCut': WHATEVER THE INPUT: true; the input reads as it did. -/
def askCutSpec : ChangeSpec := { name := "askCut", fn := fun _ => fun
  | [d1, d2, d3] => { results := [.lit (.bool true)], args := [d1, d2, d3] }
  | _ => none }
def askCutRow : OpenClaim := { program := "ytinoabkfekomcaa", sum := "130370d228208d3b9c3dfedb8b7932cddb69c3edb57b5c9198172007df9142d3", func := "gatewarden/gatewardenlaw06.AskCut", spec := "askCut", unfollowed := true, recurses := true, apart := false }
def AskCutSaid : Prop := askCutRow.holds Try.pinned (OpenSpec.ofChange askCutSpec)

/-- ITS FALSE NEIGHBOUR: 'it returns false'. Refute it at one input. -/
def askCutWrong : ChangeSpec := { name := "askCut", fn := fun _ => fun
  | [d1, d2, d3] => { results := [.lit (.bool false)], args := [d1, d2, d3] }
  | _ => none }
def AskCutWrongFalsely : Prop := askCutRow.holds Try.pinned (OpenSpec.ofChange askCutWrong)

/-- 'gatewardenlaw06.AskSizes': WHATEVER THE INPUT: true; the input reads as it did. -/
def askSizesSpec : ChangeSpec := { name := "askSizes", fn := fun _ => fun
  | [d] => { results := [.lit (.bool true)], args := [d] }
  | _ => none }
def askSizesRow : OpenClaim := { program := "ytinoabkfekomcaa", sum := "130370d228208d3b9c3dfedb8b7932cddb69c3edb57b5c9198172007df9142d3", func := "gatewarden/gatewardenlaw06.AskSizes", spec := "askSizes", unfollowed := true, recurses := true, apart := false }
def AskSizesSaid : Prop := askSizesRow.holds Try.pinned (OpenSpec.ofChange askSizesSpec)

/-- ITS FALSE NEIGHBOUR: 'it returns false'. Refute it at one input. -/
def askSizesWrong : ChangeSpec := { name := "askSizes", fn := fun _ => fun
  | [d] => { results := [.lit (.bool false)], args := [d] }
  | _ => none }
def AskSizesWrongFalsely : Prop := askSizesRow.holds Try.pinned (OpenSpec.ofChange askSizesWrong)

/-- 'gatewardenlaw07.ReplyTells': WHATEVER THE INPUT: true; the input reads as it did. -/
def replyTellsSpec : ChangeSpec := { name := "replyTells", fn := fun _ => fun
  | [d1, d2, d3] => { results := [.lit (.bool true)], args := [d1, d2, d3] }
  | _ => none }
def replyTellsRow : OpenClaim := { program := "ytinoabkfekomcaa", sum := "130370d228208d3b9c3dfedb8b7932cddb69c3edb57b5c9198172007df9142d3", func := "gatewarden/gatewardenlaw07.ReplyTells", spec := "replyTells", unfollowed := true, recurses := true, apart := false }
def ReplyTellsSaid : Prop := replyTellsRow.holds Try.pinned (OpenSpec.ofChange replyTellsSpec)

/-- ITS FALSE NEIGHBOUR: 'it returns false'. Refute it at one input. -/
def replyTellsWrong : ChangeSpec := { name := "replyTells", fn := fun _ => fun
  | [d1, d2, d3] => { results := [.lit (.bool false)], args := [d1, d2, d3] }
  | _ => none }
def ReplyTellsWrongFalsely : Prop := replyTellsRow.holds Try.pinned (OpenSpec.ofChange replyTellsWrong)

/-- 'gatewardenlaw07.ReplyFaults': WHATEVER THE INPUT: true; the input reads as it did. -/
def replyFaultsSpec : ChangeSpec := { name := "replyFaults", fn := fun _ => fun
  | [d1, d2, d3] => { results := [.lit (.bool true)], args := [d1, d2, d3] }
  | _ => none }
def replyFaultsRow : OpenClaim := { program := "ytinoabkfekomcaa", sum := "130370d228208d3b9c3dfedb8b7932cddb69c3edb57b5c9198172007df9142d3", func := "gatewarden/gatewardenlaw07.ReplyFaults", spec := "replyFaults", unfollowed := true, recurses := true, apart := false }
def ReplyFaultsSaid : Prop := replyFaultsRow.holds Try.pinned (OpenSpec.ofChange replyFaultsSpec)

/-- ITS FALSE NEIGHBOUR: 'it returns false'. Refute it at one input. -/
def replyFaultsWrong : ChangeSpec := { name := "replyFaults", fn := fun _ => fun
  | [d1, d2, d3] => { results := [.lit (.bool false)], args := [d1, d2, d3] }
  | _ => none }
def ReplyFaultsWrongFalsely : Prop := replyFaultsRow.holds Try.pinned (OpenSpec.ofChange replyFaultsWrong)

/-- 'gatewardenlaw07.ReplyBack': WHATEVER THE INPUT: true; the input reads as it did. -/
def replyBackSpec : ChangeSpec := { name := "replyBack", fn := fun _ => fun
  | [d1, d2, d3] => { results := [.lit (.bool true)], args := [d1, d2, d3] }
  | _ => none }
def replyBackRow : OpenClaim := { program := "ytinoabkfekomcaa", sum := "130370d228208d3b9c3dfedb8b7932cddb69c3edb57b5c9198172007df9142d3", func := "gatewarden/gatewardenlaw07.ReplyBack", spec := "replyBack", unfollowed := true, recurses := true, apart := false }
def ReplyBackSaid : Prop := replyBackRow.holds Try.pinned (OpenSpec.ofChange replyBackSpec)

/-- ITS FALSE NEIGHBOUR: 'it returns false'. Refute it at one input. -/
def replyBackWrong : ChangeSpec := { name := "replyBack", fn := fun _ => fun
  | [d1, d2, d3] => { results := [.lit (.bool false)], args := [d1, d2, d3] }
  | _ => none }
def ReplyBackWrongFalsely : Prop := replyBackRow.holds Try.pinned (OpenSpec.ofChange replyBackWrong)

/-- 'gatewardenlaw07.ReplySizes': WHATEVER THE INPUT: true; the input reads as it did. -/
def replySizesSpec : ChangeSpec := { name := "replySizes", fn := fun _ => fun
  | [d1, d2] => { results := [.lit (.bool true)], args := [d1, d2] }
  | _ => none }
def replySizesRow : OpenClaim := { program := "ytinoabkfekomcaa", sum := "130370d228208d3b9c3dfedb8b7932cddb69c3edb57b5c9198172007df9142d3", func := "gatewarden/gatewardenlaw07.ReplySizes", spec := "replySizes", unfollowed := true, recurses := true, apart := false }
def ReplySizesSaid : Prop := replySizesRow.holds Try.pinned (OpenSpec.ofChange replySizesSpec)

/-- ITS FALSE NEIGHBOUR: 'it returns false'. Refute it at one input. -/
def replySizesWrong : ChangeSpec := { name := "replySizes", fn := fun _ => fun
  | [d1, d2] => { results := [.lit (.bool false)], args := [d1, d2] }
  | _ => none }
def ReplySizesWrongFalsely : Prop := replySizesRow.holds Try.pinned (OpenSpec.ofChange replySizesWrong)

/-- 'gatewardenlaw06.AskTells': WHATEVER THE INPUT: true; the input reads as it did. -/
def askTellsSpec : ChangeSpec := { name := "askTells", fn := fun _ => fun
  | [d1, d2, d3] => { results := [.lit (.bool true)], args := [d1, d2, d3] }
  | _ => none }
def askTellsRow : OpenClaim := { program := "ytinoabkfekomcaa", sum := "130370d228208d3b9c3dfedb8b7932cddb69c3edb57b5c9198172007df9142d3", func := "gatewarden/gatewardenlaw06.AskTells", spec := "askTells", unfollowed := true, recurses := true, apart := false }
def AskTellsSaid : Prop := askTellsRow.holds Try.pinned (OpenSpec.ofChange askTellsSpec)

/-- ITS FALSE NEIGHBOUR: 'it returns false'. Refute it at one input. -/
def askTellsWrong : ChangeSpec := { name := "askTells", fn := fun _ => fun
  | [d1, d2, d3] => { results := [.lit (.bool false)], args := [d1, d2, d3] }
  | _ => none }
def AskTellsWrongFalsely : Prop := askTellsRow.holds Try.pinned (OpenSpec.ofChange askTellsWrong)

/-- 'gatewardenlaw21.MatchTells': WHATEVER THE INPUT: true; the input reads as it did. -/
def matchTellsSpec : ChangeSpec := { name := "matchTells", fn := fun _ => fun
  | [d1, d2, d3] => { results := [.lit (.bool true)], args := [d1, d2, d3] }
  | _ => none }
def matchTellsRow : OpenClaim := { program := "ytinoabkfekomcaa", sum := "130370d228208d3b9c3dfedb8b7932cddb69c3edb57b5c9198172007df9142d3", func := "gatewarden/gatewardenlaw21.MatchTells", spec := "matchTells", unfollowed := true, recurses := true, apart := false }
def MatchTellsSaid : Prop := matchTellsRow.holds Try.pinned (OpenSpec.ofChange matchTellsSpec)

/-- ITS FALSE NEIGHBOUR: 'it returns false'. Refute it at one input. -/
def matchTellsWrong : ChangeSpec := { name := "matchTells", fn := fun _ => fun
  | [d1, d2, d3] => { results := [.lit (.bool false)], args := [d1, d2, d3] }
  | _ => none }
def MatchTellsWrongFalsely : Prop := matchTellsRow.holds Try.pinned (OpenSpec.ofChange matchTellsWrong)

/-- 'gatewardenlaw21.MatchOne': WHATEVER THE INPUT: true; the input reads as it did. -/
def matchOneSpec : ChangeSpec := { name := "matchOne", fn := fun _ => fun
  | [d1, d2] => { results := [.lit (.bool true)], args := [d1, d2] }
  | _ => none }
def matchOneRow : OpenClaim := { program := "ytinoabkfekomcaa", sum := "130370d228208d3b9c3dfedb8b7932cddb69c3edb57b5c9198172007df9142d3", func := "gatewarden/gatewardenlaw21.MatchOne", spec := "matchOne", unfollowed := true, recurses := true, apart := false }
def MatchOneSaid : Prop := matchOneRow.holds Try.pinned (OpenSpec.ofChange matchOneSpec)

/-- ITS FALSE NEIGHBOUR: 'it returns false'. Refute it at one input. -/
def matchOneWrong : ChangeSpec := { name := "matchOne", fn := fun _ => fun
  | [d1, d2] => { results := [.lit (.bool false)], args := [d1, d2] }
  | _ => none }
def MatchOneWrongFalsely : Prop := matchOneRow.holds Try.pinned (OpenSpec.ofChange matchOneWrong)

/-- 'gatewardenlaw21.MatchFaults': WHATEVER THE INPUT: true; the input reads as it did. -/
def matchFaultsSpec : ChangeSpec := { name := "matchFaults", fn := fun _ => fun
  | [d1, d2] => { results := [.lit (.bool true)], args := [d1, d2] }
  | _ => none }
def matchFaultsRow : OpenClaim := { program := "ytinoabkfekomcaa", sum := "130370d228208d3b9c3dfedb8b7932cddb69c3edb57b5c9198172007df9142d3", func := "gatewarden/gatewardenlaw21.MatchFaults", spec := "matchFaults", unfollowed := true, recurses := true, apart := false }
def MatchFaultsSaid : Prop := matchFaultsRow.holds Try.pinned (OpenSpec.ofChange matchFaultsSpec)

/-- ITS FALSE NEIGHBOUR: 'it returns false'. Refute it at one input. -/
def matchFaultsWrong : ChangeSpec := { name := "matchFaults", fn := fun _ => fun
  | [d1, d2] => { results := [.lit (.bool false)], args := [d1, d2] }
  | _ => none }
def MatchFaultsWrongFalsely : Prop := matchFaultsRow.holds Try.pinned (OpenSpec.ofChange matchFaultsWrong)

/- THE SECOND FORM. 'bulk': how many values and letters a reading holds, each counted each time it is reached (what is shared counts as often as it is met; a slice's spare places count too). A statement '..UptoSaid' is the law's where the arguments, and the package variables that the reading takes, are together of bulk at most 1048576: NARROWER than '..Said'. Prove '..Said' where nothing that the law and all that it calls make is longer than what came in: it says more and counts as full. Else prove '..UptoSaid'. A law counts once. -/
mutual
def uptoBulk {H : Type} : DataW H → Nat
  | .lit (.string bytes) => bytes.length + 1
  | .lit _ => 1
  | .nil => 1
  | .ptr d => uptoBulk d + 1
  | .slice elems spare => uptoBulkAll elems + uptoBulkAll spare + 1
  | .agg parts => uptoBulkAll parts + 1
  | .iface _ d => uptoBulk d + 1
  | .map entries => uptoBulkEntries entries + 1
  | .held _ => 1
def uptoBulkAll {H : Type} : List (DataW H) → Nat
  | [] => 0
  | d :: r => uptoBulk d + uptoBulkAll r
def uptoBulkEntries {H : Type} : List (Lit × DataW H) → Nat
  | [] => 0
  | x :: r => uptoBulkEntry x + uptoBulkEntries r
def uptoBulkEntry {H : Type} : Lit × DataW H → Nat
  | (.string bytes, d) => bytes.length + uptoBulk d + 1
  | (_, d) => uptoBulk d + 1
 end
def uptoSmall : (H : Type) → List (DataW H) → Bool := fun _ ds => decide (uptoBulkAll ds ≤ 1048576)
def OpenSpec.upto (s : _root_.Go.ChangeSpec) : _root_.Go.OpenSpec := { _root_.Go.OpenSpec.ofChange s with cond := some uptoSmall }

/-- 'gatewardenlaw06.AskBack', WHERE WHAT IT READS IS OF BULK AT MOST 1048576: true; the input reads as it did. -/
def askBackUptoRow : OpenClaim := { program := "ytinoabkfekomcaa", sum := "130370d228208d3b9c3dfedb8b7932cddb69c3edb57b5c9198172007df9142d3", func := "gatewarden/gatewardenlaw06.AskBack", spec := "askBack", unfollowed := true, recurses := true, apart := false, narrowed := true }
def AskBackUptoSaid : Prop := askBackUptoRow.holds Try.pinned (OpenSpec.upto askBackSpec)

/-- 'gatewardenlaw06.AskCut', WHERE WHAT IT READS IS OF BULK AT MOST 1048576: true; the input reads as it did. -/
def askCutUptoRow : OpenClaim := { program := "ytinoabkfekomcaa", sum := "130370d228208d3b9c3dfedb8b7932cddb69c3edb57b5c9198172007df9142d3", func := "gatewarden/gatewardenlaw06.AskCut", spec := "askCut", unfollowed := true, recurses := true, apart := false, narrowed := true }
def AskCutUptoSaid : Prop := askCutUptoRow.holds Try.pinned (OpenSpec.upto askCutSpec)

/-- 'gatewardenlaw06.AskSizes', WHERE WHAT IT READS IS OF BULK AT MOST 1048576: true; the input reads as it did. -/
def askSizesUptoRow : OpenClaim := { program := "ytinoabkfekomcaa", sum := "130370d228208d3b9c3dfedb8b7932cddb69c3edb57b5c9198172007df9142d3", func := "gatewarden/gatewardenlaw06.AskSizes", spec := "askSizes", unfollowed := true, recurses := true, apart := false, narrowed := true }
def AskSizesUptoSaid : Prop := askSizesUptoRow.holds Try.pinned (OpenSpec.upto askSizesSpec)

/-- 'gatewardenlaw07.ReplyTells', WHERE WHAT IT READS IS OF BULK AT MOST 1048576: true; the input reads as it did. -/
def replyTellsUptoRow : OpenClaim := { program := "ytinoabkfekomcaa", sum := "130370d228208d3b9c3dfedb8b7932cddb69c3edb57b5c9198172007df9142d3", func := "gatewarden/gatewardenlaw07.ReplyTells", spec := "replyTells", unfollowed := true, recurses := true, apart := false, narrowed := true }
def ReplyTellsUptoSaid : Prop := replyTellsUptoRow.holds Try.pinned (OpenSpec.upto replyTellsSpec)

/-- 'gatewardenlaw07.ReplyFaults', WHERE WHAT IT READS IS OF BULK AT MOST 1048576: true; the input reads as it did. -/
def replyFaultsUptoRow : OpenClaim := { program := "ytinoabkfekomcaa", sum := "130370d228208d3b9c3dfedb8b7932cddb69c3edb57b5c9198172007df9142d3", func := "gatewarden/gatewardenlaw07.ReplyFaults", spec := "replyFaults", unfollowed := true, recurses := true, apart := false, narrowed := true }
def ReplyFaultsUptoSaid : Prop := replyFaultsUptoRow.holds Try.pinned (OpenSpec.upto replyFaultsSpec)

/-- 'gatewardenlaw07.ReplyBack', WHERE WHAT IT READS IS OF BULK AT MOST 1048576: true; the input reads as it did. -/
def replyBackUptoRow : OpenClaim := { program := "ytinoabkfekomcaa", sum := "130370d228208d3b9c3dfedb8b7932cddb69c3edb57b5c9198172007df9142d3", func := "gatewarden/gatewardenlaw07.ReplyBack", spec := "replyBack", unfollowed := true, recurses := true, apart := false, narrowed := true }
def ReplyBackUptoSaid : Prop := replyBackUptoRow.holds Try.pinned (OpenSpec.upto replyBackSpec)

/-- 'gatewardenlaw07.ReplySizes', WHERE WHAT IT READS IS OF BULK AT MOST 1048576: true; the input reads as it did. -/
def replySizesUptoRow : OpenClaim := { program := "ytinoabkfekomcaa", sum := "130370d228208d3b9c3dfedb8b7932cddb69c3edb57b5c9198172007df9142d3", func := "gatewarden/gatewardenlaw07.ReplySizes", spec := "replySizes", unfollowed := true, recurses := true, apart := false, narrowed := true }
def ReplySizesUptoSaid : Prop := replySizesUptoRow.holds Try.pinned (OpenSpec.upto replySizesSpec)

/-- 'gatewardenlaw06.AskTells', WHERE WHAT IT READS IS OF BULK AT MOST 1048576: true; the input reads as it did. -/
def askTellsUptoRow : OpenClaim := { program := "ytinoabkfekomcaa", sum := "130370d228208d3b9c3dfedb8b7932cddb69c3edb57b5c9198172007df9142d3", func := "gatewarden/gatewardenlaw06.AskTells", spec := "askTells", unfollowed := true, recurses := true, apart := false, narrowed := true }
def AskTellsUptoSaid : Prop := askTellsUptoRow.holds Try.pinned (OpenSpec.upto askTellsSpec)

/-- 'gatewardenlaw21.MatchTells', WHERE WHAT IT READS IS OF BULK AT MOST 1048576: true; the input reads as it did. -/
def matchTellsUptoRow : OpenClaim := { program := "ytinoabkfekomcaa", sum := "130370d228208d3b9c3dfedb8b7932cddb69c3edb57b5c9198172007df9142d3", func := "gatewarden/gatewardenlaw21.MatchTells", spec := "matchTells", unfollowed := true, recurses := true, apart := false, narrowed := true }
def MatchTellsUptoSaid : Prop := matchTellsUptoRow.holds Try.pinned (OpenSpec.upto matchTellsSpec)

/-- 'gatewardenlaw21.MatchOne', WHERE WHAT IT READS IS OF BULK AT MOST 1048576: true; the input reads as it did. -/
def matchOneUptoRow : OpenClaim := { program := "ytinoabkfekomcaa", sum := "130370d228208d3b9c3dfedb8b7932cddb69c3edb57b5c9198172007df9142d3", func := "gatewarden/gatewardenlaw21.MatchOne", spec := "matchOne", unfollowed := true, recurses := true, apart := false, narrowed := true }
def MatchOneUptoSaid : Prop := matchOneUptoRow.holds Try.pinned (OpenSpec.upto matchOneSpec)

/-- 'gatewardenlaw21.MatchFaults', WHERE WHAT IT READS IS OF BULK AT MOST 1048576: true; the input reads as it did. -/
def matchFaultsUptoRow : OpenClaim := { program := "ytinoabkfekomcaa", sum := "130370d228208d3b9c3dfedb8b7932cddb69c3edb57b5c9198172007df9142d3", func := "gatewarden/gatewardenlaw21.MatchFaults", spec := "matchFaults", unfollowed := true, recurses := true, apart := false, narrowed := true }
def MatchFaultsUptoSaid : Prop := matchFaultsUptoRow.holds Try.pinned (OpenSpec.upto matchFaultsSpec)

end Rows
end Go.Proofs.Ytinoabkfekomcaa
