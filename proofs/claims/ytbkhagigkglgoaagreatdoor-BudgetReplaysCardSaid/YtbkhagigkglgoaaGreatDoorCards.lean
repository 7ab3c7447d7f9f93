/-
  DERIVED. GIVEN WITH THE SEED: THE CARDS: each row of YtbkhagigkglgoaaGreatDoorRows.lean that lists a variable, with what it lists TIED to the program's text (the seventh form; the later family's looks); each row that meets fmt, with fmt's text TOLD by the authors' own Lean function (tested against real Go, not proved from fmt's source: count such statements apart). THE CARD IS WHAT COUNTS. Prove the row's statement (the work); the ties are given (YtbkhagigkglgoaaGreatDoorTie.lean); close each card by the builder's one call (the guide's Derived/Test/ToyasCard.lean, 'card_holds'). Laid BY PROGRAM, IN A SANDBOX (cutbox-door.mjs). By AI agents, Wed Nov 11 2026. No macro, syntax, notation, axiom, sorry.
-/
import Derived.Test.YtbkhagigkglgoaaGreatDoorRows
import GoSem.ClaimSeven
namespace Go.Proofs.YtbkhagigkglgoaaGreatDoor
namespace Rows

/-- THE TIED CARD OF 'keyholelaw51.BudgetKraft'. -/
def budgetKraftCard : Claim7 := { stood := { row := budgetKraftRow, standIns := [], harness := (true, "d89203b94f97b9decfa632b4330483c67d3a6aafb49e30f0436966133fbc85a1"), looks := false }, kinds := [], alts := [], laidByText := true, laidKinds := [.data, .data, .data], laidTests := true, laidLooks := .later }
def BudgetKraftCardSaid : Prop := Claim7.holds Tryz.pinned (.plain (OpenSpec.ofChange budgetKraftSpec)) budgetKraftCard

/-- THE TIED CARD OF 'keyholelaw51.BudgetPrices'. -/
def budgetPricesCard : Claim7 := { stood := { row := budgetPricesRow, standIns := [], harness := (true, "d89203b94f97b9decfa632b4330483c67d3a6aafb49e30f0436966133fbc85a1"), looks := false }, kinds := [], alts := [], laidByText := true, laidKinds := [.data, .data, .data], laidTests := true, laidLooks := .later }
def BudgetPricesCardSaid : Prop := Claim7.holds Tryz.pinned (.plain (OpenSpec.ofChange budgetPricesSpec)) budgetPricesCard

/-- THE TIED CARD OF 'keyholelaw51.BudgetSecrets'. -/
def budgetSecretsCard : Claim7 := { stood := { row := budgetSecretsRow, standIns := [], harness := (true, "d89203b94f97b9decfa632b4330483c67d3a6aafb49e30f0436966133fbc85a1"), looks := false }, kinds := [], alts := [], laidByText := true, laidKinds := [.data, .data, .data], laidTests := true, laidLooks := .later }
def BudgetSecretsCardSaid : Prop := Claim7.holds Tryz.pinned (.plain (OpenSpec.ofChange budgetSecretsSpec)) budgetSecretsCard

/-- THE TIED CARD OF 'keyholelaw51.BudgetModes'. -/
def budgetModesCard : Claim7 := { stood := { row := budgetModesRow, standIns := [], harness := (true, "d89203b94f97b9decfa632b4330483c67d3a6aafb49e30f0436966133fbc85a1"), looks := false }, kinds := [], alts := [], laidByText := true, laidKinds := [.data, .data, .data], laidTests := true, laidLooks := .later }
def BudgetModesCardSaid : Prop := Claim7.holds Tryz.pinned (.plain (OpenSpec.ofChange budgetModesSpec)) budgetModesCard

/-- THE TIED CARD OF 'keyholelaw51.BudgetForms'. -/
def budgetFormsCard : Claim7 := { stood := { row := budgetFormsRow, standIns := [], harness := (true, "d89203b94f97b9decfa632b4330483c67d3a6aafb49e30f0436966133fbc85a1"), looks := false }, kinds := [], alts := [], laidByText := true, laidKinds := [.data, .data, .data], laidTests := true, laidLooks := .later }
def BudgetFormsCardSaid : Prop := Claim7.holds Tryz.pinned (.plain (OpenSpec.ofChange budgetFormsSpec)) budgetFormsCard

/-- THE TIED CARD OF 'keyholelaw51.BudgetAsks'. -/
def budgetAsksCard : Claim7 := { stood := { row := budgetAsksRow, standIns := [], harness := (true, "d89203b94f97b9decfa632b4330483c67d3a6aafb49e30f0436966133fbc85a1"), looks := false }, kinds := [], alts := [], laidByText := true, laidKinds := [.data, .data, .data], laidTests := true, laidLooks := .later }
def BudgetAsksCardSaid : Prop := Claim7.holds Tryz.pinned (.plain (OpenSpec.ofChange budgetAsksSpec)) budgetAsksCard

/-- THE TIED CARD OF 'keyholelaw51.BudgetObserves'. -/
def budgetObservesCard : Claim7 := { stood := { row := budgetObservesRow, standIns := [], harness := (true, "d89203b94f97b9decfa632b4330483c67d3a6aafb49e30f0436966133fbc85a1"), looks := false }, kinds := [], alts := [], laidByText := true, laidKinds := [.data, .data, .data], laidTests := true, laidLooks := .later }
def BudgetObservesCardSaid : Prop := Claim7.holds Tryz.pinned (.plain (OpenSpec.ofChange budgetObservesSpec)) budgetObservesCard

/-- THE TIED CARD OF 'keyholelaw51.BudgetReplays'. -/
def budgetReplaysCard : Claim7 := { stood := { row := budgetReplaysRow, standIns := [], harness := (true, "d89203b94f97b9decfa632b4330483c67d3a6aafb49e30f0436966133fbc85a1"), looks := false }, kinds := [], alts := [], laidByText := true, laidKinds := [.data, .data, .data], laidTests := true, laidLooks := .later }
def BudgetReplaysCardSaid : Prop := Claim7.holds Tryz.pinned (.plain (OpenSpec.ofChange budgetReplaysSpec)) budgetReplaysCard

/-- THE TIED CARD OF 'keyholelaw51.BudgetAgrees'. -/
def budgetAgreesCard : Claim7 := { stood := { row := budgetAgreesRow, standIns := [], harness := (true, "d89203b94f97b9decfa632b4330483c67d3a6aafb49e30f0436966133fbc85a1"), looks := false }, kinds := [], alts := [], laidByText := true, laidKinds := [.data, .data, .data], laidTests := true, laidLooks := .later }
def BudgetAgreesCardSaid : Prop := Claim7.holds Tryz.pinned (.plain (OpenSpec.ofChange budgetAgreesSpec)) budgetAgreesCard

/-- THE SECOND FORM's CARD OF 'keyholelaw51.BudgetKraft'. -/
def budgetKraftUptoCard : Claim7 := { stood := { row := budgetKraftUptoRow, standIns := [], harness := (true, "d89203b94f97b9decfa632b4330483c67d3a6aafb49e30f0436966133fbc85a1"), looks := false }, kinds := [], alts := [], laidByText := true, laidKinds := [.data, .data, .data], laidTests := true, laidLooks := .later }
def BudgetKraftUptoCardSaid : Prop := Claim7.holds Tryz.pinned (.plain (OpenSpec.upto budgetKraftSpec)) budgetKraftUptoCard

/-- THE SECOND FORM's CARD OF 'keyholelaw51.BudgetPrices'. -/
def budgetPricesUptoCard : Claim7 := { stood := { row := budgetPricesUptoRow, standIns := [], harness := (true, "d89203b94f97b9decfa632b4330483c67d3a6aafb49e30f0436966133fbc85a1"), looks := false }, kinds := [], alts := [], laidByText := true, laidKinds := [.data, .data, .data], laidTests := true, laidLooks := .later }
def BudgetPricesUptoCardSaid : Prop := Claim7.holds Tryz.pinned (.plain (OpenSpec.upto budgetPricesSpec)) budgetPricesUptoCard

/-- THE SECOND FORM's CARD OF 'keyholelaw51.BudgetSecrets'. -/
def budgetSecretsUptoCard : Claim7 := { stood := { row := budgetSecretsUptoRow, standIns := [], harness := (true, "d89203b94f97b9decfa632b4330483c67d3a6aafb49e30f0436966133fbc85a1"), looks := false }, kinds := [], alts := [], laidByText := true, laidKinds := [.data, .data, .data], laidTests := true, laidLooks := .later }
def BudgetSecretsUptoCardSaid : Prop := Claim7.holds Tryz.pinned (.plain (OpenSpec.upto budgetSecretsSpec)) budgetSecretsUptoCard

/-- THE SECOND FORM's CARD OF 'keyholelaw51.BudgetModes'. -/
def budgetModesUptoCard : Claim7 := { stood := { row := budgetModesUptoRow, standIns := [], harness := (true, "d89203b94f97b9decfa632b4330483c67d3a6aafb49e30f0436966133fbc85a1"), looks := false }, kinds := [], alts := [], laidByText := true, laidKinds := [.data, .data, .data], laidTests := true, laidLooks := .later }
def BudgetModesUptoCardSaid : Prop := Claim7.holds Tryz.pinned (.plain (OpenSpec.upto budgetModesSpec)) budgetModesUptoCard

/-- THE SECOND FORM's CARD OF 'keyholelaw51.BudgetForms'. -/
def budgetFormsUptoCard : Claim7 := { stood := { row := budgetFormsUptoRow, standIns := [], harness := (true, "d89203b94f97b9decfa632b4330483c67d3a6aafb49e30f0436966133fbc85a1"), looks := false }, kinds := [], alts := [], laidByText := true, laidKinds := [.data, .data, .data], laidTests := true, laidLooks := .later }
def BudgetFormsUptoCardSaid : Prop := Claim7.holds Tryz.pinned (.plain (OpenSpec.upto budgetFormsSpec)) budgetFormsUptoCard

/-- THE SECOND FORM's CARD OF 'keyholelaw51.BudgetAsks'. -/
def budgetAsksUptoCard : Claim7 := { stood := { row := budgetAsksUptoRow, standIns := [], harness := (true, "d89203b94f97b9decfa632b4330483c67d3a6aafb49e30f0436966133fbc85a1"), looks := false }, kinds := [], alts := [], laidByText := true, laidKinds := [.data, .data, .data], laidTests := true, laidLooks := .later }
def BudgetAsksUptoCardSaid : Prop := Claim7.holds Tryz.pinned (.plain (OpenSpec.upto budgetAsksSpec)) budgetAsksUptoCard

/-- THE SECOND FORM's CARD OF 'keyholelaw51.BudgetObserves'. -/
def budgetObservesUptoCard : Claim7 := { stood := { row := budgetObservesUptoRow, standIns := [], harness := (true, "d89203b94f97b9decfa632b4330483c67d3a6aafb49e30f0436966133fbc85a1"), looks := false }, kinds := [], alts := [], laidByText := true, laidKinds := [.data, .data, .data], laidTests := true, laidLooks := .later }
def BudgetObservesUptoCardSaid : Prop := Claim7.holds Tryz.pinned (.plain (OpenSpec.upto budgetObservesSpec)) budgetObservesUptoCard

/-- THE SECOND FORM's CARD OF 'keyholelaw51.BudgetReplays'. -/
def budgetReplaysUptoCard : Claim7 := { stood := { row := budgetReplaysUptoRow, standIns := [], harness := (true, "d89203b94f97b9decfa632b4330483c67d3a6aafb49e30f0436966133fbc85a1"), looks := false }, kinds := [], alts := [], laidByText := true, laidKinds := [.data, .data, .data], laidTests := true, laidLooks := .later }
def BudgetReplaysUptoCardSaid : Prop := Claim7.holds Tryz.pinned (.plain (OpenSpec.upto budgetReplaysSpec)) budgetReplaysUptoCard

/-- THE SECOND FORM's CARD OF 'keyholelaw51.BudgetAgrees'. -/
def budgetAgreesUptoCard : Claim7 := { stood := { row := budgetAgreesUptoRow, standIns := [], harness := (true, "d89203b94f97b9decfa632b4330483c67d3a6aafb49e30f0436966133fbc85a1"), looks := false }, kinds := [], alts := [], laidByText := true, laidKinds := [.data, .data, .data], laidTests := true, laidLooks := .later }
def BudgetAgreesUptoCardSaid : Prop := Claim7.holds Tryz.pinned (.plain (OpenSpec.upto budgetAgreesSpec)) budgetAgreesUptoCard
end Rows
end Go.Proofs.YtbkhagigkglgoaaGreatDoor
