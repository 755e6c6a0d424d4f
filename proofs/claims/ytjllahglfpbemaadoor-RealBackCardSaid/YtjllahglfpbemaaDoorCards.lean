/-
  DERIVED. GIVEN WITH THE SEED: THE CARDS: each row of YtjllahglfpbemaaDoorRows.lean that lists a variable, with what it lists TIED to the program's text (the seventh form; the later family's looks); each row that meets fmt, with fmt's text TOLD by the authors' own Lean function (tested against real Go, not proved from fmt's source: count such statements apart). THE CARD IS WHAT COUNTS. Prove the row's statement (the work); the ties are given (YtjllahglfpbemaaDoorTie.lean); close each card by the builder's one call (the guide's Derived/Test/ToyasCard.lean, 'card_holds'). Laid BY PROGRAM, IN A SANDBOX (cutbox-door.mjs). By AI agents, Wed Nov 11 2026. No macro, syntax, notation, axiom, sorry.
-/
import Derived.Test.YtjllahglfpbemaaDoorRows
import GoSem.ClaimSeven
namespace Go.Proofs.YtjllahglfpbemaaDoor
namespace Rows

/-- THE TIED CARD OF 'gatewardenlaw10.LexJoins'. -/
def lexJoinsCard : Claim7 := { stood := { row := lexJoinsRow, standIns := [], harness := (true, "a55e2414ffc1172f2b14c3dbc63745756cbebb0f9eced7fb14fcfce666df934d"), looks := true }, kinds := [], alts := [], laidByText := true, laidKinds := [.data, .pinned], laidTests := true, laidLooks := .later }
def LexJoinsCardSaid : Prop := Claim7.holds Tryd.pinned (.plain (OpenSpec.ofChange lexJoinsSpec)) lexJoinsCard

/-- THE TIED CARD OF 'gatewardenlaw10.LexTexts'. -/
def lexTextsCard : Claim7 := { stood := { row := lexTextsRow, standIns := [], harness := (true, "a55e2414ffc1172f2b14c3dbc63745756cbebb0f9eced7fb14fcfce666df934d"), looks := true }, kinds := [], alts := [], laidByText := true, laidKinds := [.data, .pinned], laidTests := true, laidLooks := .later }
def LexTextsCardSaid : Prop := Claim7.holds Tryd.pinned (.plain (OpenSpec.ofChange lexTextsSpec)) lexTextsCard

/-- THE TIED CARD OF 'gatewardenlaw10.LexTells'. -/
def lexTellsCard : Claim7 := { stood := { row := lexTellsRow, standIns := [], harness := (true, "a55e2414ffc1172f2b14c3dbc63745756cbebb0f9eced7fb14fcfce666df934d"), looks := true }, kinds := [], alts := [], laidByText := true, laidKinds := [.data, .pinned], laidTests := true, laidLooks := .later }
def LexTellsCardSaid : Prop := Claim7.holds Tryd.pinned (.plain (OpenSpec.ofChange lexTellsSpec)) lexTellsCard

/-- THE TIED CARD OF 'gatewardenlaw03.RealTexts'. -/
def realTextsCard : Claim7 := { stood := { row := realTextsRow, standIns := [], harness := (true, "a55e2414ffc1172f2b14c3dbc63745756cbebb0f9eced7fb14fcfce666df934d"), looks := true }, kinds := [], alts := [], laidByText := true, laidKinds := [.data, .data, .data], laidTests := true, laidLooks := .later }
def RealTextsCardSaid : Prop := Claim7.holds Tryd.pinned (.plain (OpenSpec.ofChange realTextsSpec)) realTextsCard

/-- THE TIED CARD OF 'gatewardenlaw03.RealBack'. -/
def realBackCard : Claim7 := { stood := { row := realBackRow, standIns := [], harness := (true, "a55e2414ffc1172f2b14c3dbc63745756cbebb0f9eced7fb14fcfce666df934d"), looks := true }, kinds := [], alts := [], laidByText := true, laidKinds := [.data, .data, .data], laidTests := true, laidLooks := .later }
def RealBackCardSaid : Prop := Claim7.holds Tryd.pinned (.plain (OpenSpec.ofChange realBackSpec)) realBackCard

/-- THE TIED CARD OF 'gatewardenlaw02.GuardTells'. -/
def guardTellsCard : Claim7 := { stood := { row := guardTellsRow, standIns := [], harness := (true, "a55e2414ffc1172f2b14c3dbc63745756cbebb0f9eced7fb14fcfce666df934d"), looks := true }, kinds := [], alts := [], laidByText := true, laidKinds := [.data, .data, .data, .data, .pinned], laidTests := true, laidLooks := .later }
def GuardTellsCardSaid : Prop := Claim7.holds Tryd.pinned (.plain (OpenSpec.ofChange guardTellsSpec)) guardTellsCard

/-- THE TIED CARD OF 'gatewardenlaw02.GuardBack'. -/
def guardBackCard : Claim7 := { stood := { row := guardBackRow, standIns := [], harness := (true, "a55e2414ffc1172f2b14c3dbc63745756cbebb0f9eced7fb14fcfce666df934d"), looks := true }, kinds := [], alts := [], laidByText := true, laidKinds := [.data, .data, .data, .data, .pinned], laidTests := true, laidLooks := .later }
def GuardBackCardSaid : Prop := Claim7.holds Tryd.pinned (.plain (OpenSpec.ofChange guardBackSpec)) guardBackCard

/-- THE TIED CARD OF 'gatewardenlaw02.GuardRises'. -/
def guardRisesCard : Claim7 := { stood := { row := guardRisesRow, standIns := [], harness := (true, "a55e2414ffc1172f2b14c3dbc63745756cbebb0f9eced7fb14fcfce666df934d"), looks := true }, kinds := [], alts := [], laidByText := true, laidKinds := [.data, .data, .data, .data, .pinned], laidTests := true, laidLooks := .later }
def GuardRisesCardSaid : Prop := Claim7.holds Tryd.pinned (.plain (OpenSpec.ofChange guardRisesSpec)) guardRisesCard

/-- THE SECOND FORM's CARD OF 'gatewardenlaw10.LexJoins'. -/
def lexJoinsUptoCard : Claim7 := { stood := { row := lexJoinsUptoRow, standIns := [], harness := (true, "a55e2414ffc1172f2b14c3dbc63745756cbebb0f9eced7fb14fcfce666df934d"), looks := true }, kinds := [], alts := [], laidByText := true, laidKinds := [.data, .pinned], laidTests := true, laidLooks := .later }
def LexJoinsUptoCardSaid : Prop := Claim7.holds Tryd.pinned (.plain (OpenSpec.upto lexJoinsSpec)) lexJoinsUptoCard

/-- THE SECOND FORM's CARD OF 'gatewardenlaw10.LexTexts'. -/
def lexTextsUptoCard : Claim7 := { stood := { row := lexTextsUptoRow, standIns := [], harness := (true, "a55e2414ffc1172f2b14c3dbc63745756cbebb0f9eced7fb14fcfce666df934d"), looks := true }, kinds := [], alts := [], laidByText := true, laidKinds := [.data, .pinned], laidTests := true, laidLooks := .later }
def LexTextsUptoCardSaid : Prop := Claim7.holds Tryd.pinned (.plain (OpenSpec.upto lexTextsSpec)) lexTextsUptoCard

/-- THE SECOND FORM's CARD OF 'gatewardenlaw10.LexTells'. -/
def lexTellsUptoCard : Claim7 := { stood := { row := lexTellsUptoRow, standIns := [], harness := (true, "a55e2414ffc1172f2b14c3dbc63745756cbebb0f9eced7fb14fcfce666df934d"), looks := true }, kinds := [], alts := [], laidByText := true, laidKinds := [.data, .pinned], laidTests := true, laidLooks := .later }
def LexTellsUptoCardSaid : Prop := Claim7.holds Tryd.pinned (.plain (OpenSpec.upto lexTellsSpec)) lexTellsUptoCard

/-- THE SECOND FORM's CARD OF 'gatewardenlaw03.RealTexts'. -/
def realTextsUptoCard : Claim7 := { stood := { row := realTextsUptoRow, standIns := [], harness := (true, "a55e2414ffc1172f2b14c3dbc63745756cbebb0f9eced7fb14fcfce666df934d"), looks := true }, kinds := [], alts := [], laidByText := true, laidKinds := [.data, .data, .data], laidTests := true, laidLooks := .later }
def RealTextsUptoCardSaid : Prop := Claim7.holds Tryd.pinned (.plain (OpenSpec.upto realTextsSpec)) realTextsUptoCard

/-- THE SECOND FORM's CARD OF 'gatewardenlaw03.RealBack'. -/
def realBackUptoCard : Claim7 := { stood := { row := realBackUptoRow, standIns := [], harness := (true, "a55e2414ffc1172f2b14c3dbc63745756cbebb0f9eced7fb14fcfce666df934d"), looks := true }, kinds := [], alts := [], laidByText := true, laidKinds := [.data, .data, .data], laidTests := true, laidLooks := .later }
def RealBackUptoCardSaid : Prop := Claim7.holds Tryd.pinned (.plain (OpenSpec.upto realBackSpec)) realBackUptoCard

/-- THE SECOND FORM's CARD OF 'gatewardenlaw02.GuardTells'. -/
def guardTellsUptoCard : Claim7 := { stood := { row := guardTellsUptoRow, standIns := [], harness := (true, "a55e2414ffc1172f2b14c3dbc63745756cbebb0f9eced7fb14fcfce666df934d"), looks := true }, kinds := [], alts := [], laidByText := true, laidKinds := [.data, .data, .data, .data, .pinned], laidTests := true, laidLooks := .later }
def GuardTellsUptoCardSaid : Prop := Claim7.holds Tryd.pinned (.plain (OpenSpec.upto guardTellsSpec)) guardTellsUptoCard

/-- THE SECOND FORM's CARD OF 'gatewardenlaw02.GuardBack'. -/
def guardBackUptoCard : Claim7 := { stood := { row := guardBackUptoRow, standIns := [], harness := (true, "a55e2414ffc1172f2b14c3dbc63745756cbebb0f9eced7fb14fcfce666df934d"), looks := true }, kinds := [], alts := [], laidByText := true, laidKinds := [.data, .data, .data, .data, .pinned], laidTests := true, laidLooks := .later }
def GuardBackUptoCardSaid : Prop := Claim7.holds Tryd.pinned (.plain (OpenSpec.upto guardBackSpec)) guardBackUptoCard

/-- THE SECOND FORM's CARD OF 'gatewardenlaw02.GuardRises'. -/
def guardRisesUptoCard : Claim7 := { stood := { row := guardRisesUptoRow, standIns := [], harness := (true, "a55e2414ffc1172f2b14c3dbc63745756cbebb0f9eced7fb14fcfce666df934d"), looks := true }, kinds := [], alts := [], laidByText := true, laidKinds := [.data, .data, .data, .data, .pinned], laidTests := true, laidLooks := .later }
def GuardRisesUptoCardSaid : Prop := Claim7.holds Tryd.pinned (.plain (OpenSpec.upto guardRisesSpec)) guardRisesUptoCard
end Rows
end Go.Proofs.YtjllahglfpbemaaDoor
