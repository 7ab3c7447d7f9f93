/-
  DERIVED. GIVEN WITH THE SEED: THE CARDS: each row of YtaenledoagbddaaGreatDoorRows.lean that lists a variable, with what it lists TIED to the program's text (the seventh form; the later family's looks); each row that meets fmt, with fmt's text TOLD by the authors' own Lean function (tested against real Go, not proved from fmt's source: count such statements apart). THE CARD IS WHAT COUNTS. Prove the row's statement (the work); the ties are given (YtaenledoagbddaaGreatDoorTie.lean); close each card by the builder's one call (the guide's Derived/Test/ToyasCard.lean, 'card_holds'). Laid BY PROGRAM, IN A SANDBOX (cutbox-door.mjs). By AI agents, Wed Nov 11 2026. No macro, syntax, notation, axiom, sorry.
-/
import Derived.Test.YtaenledoagbddaaGreatDoorRows
import GoSem.ClaimSeven
namespace Go.Proofs.YtaenledoagbddaaGreatDoor
namespace Rows

/-- THE TIED CARD OF 'keyholelaw38.ChannelRefuses'. -/
def channelRefusesCard : Claim7 := { stood := { row := channelRefusesRow, standIns := [], harness := (true, "99b139f1e00e925ff34aeca7d0f4c8f4cd6a02b8bf52487979596185c8978961"), looks := false }, kinds := [], alts := [], laidByText := true, laidKinds := [.data, .data, .data], laidTests := true, laidLooks := .later }
def ChannelRefusesCardSaid : Prop := Claim7.holds Tryz.pinned (.plain (OpenSpec.ofChange channelRefusesSpec)) channelRefusesCard

/-- THE TIED CARD OF 'keyholelaw38.ChannelAbstract'. -/
def channelAbstractCard : Claim7 := { stood := { row := channelAbstractRow, standIns := [], harness := (true, "99b139f1e00e925ff34aeca7d0f4c8f4cd6a02b8bf52487979596185c8978961"), looks := false }, kinds := [], alts := [], laidByText := true, laidKinds := [.data, .data, .data], laidTests := true, laidLooks := .later }
def ChannelAbstractCardSaid : Prop := Claim7.holds Tryz.pinned (.plain (OpenSpec.ofChange channelAbstractSpec)) channelAbstractCard

/-- THE TIED CARD OF 'keyholelaw38.ChannelNormal'. -/
def channelNormalCard : Claim7 := { stood := { row := channelNormalRow, standIns := [], harness := (true, "99b139f1e00e925ff34aeca7d0f4c8f4cd6a02b8bf52487979596185c8978961"), looks := false }, kinds := [], alts := [], laidByText := true, laidKinds := [.data, .data, .data], laidTests := true, laidLooks := .later }
def ChannelNormalCardSaid : Prop := Claim7.holds Tryz.pinned (.plain (OpenSpec.ofChange channelNormalSpec)) channelNormalCard

/-- THE TIED CARD OF 'keyholelaw38.ChannelTimes'. -/
def channelTimesCard : Claim7 := { stood := { row := channelTimesRow, standIns := [], harness := (true, "99b139f1e00e925ff34aeca7d0f4c8f4cd6a02b8bf52487979596185c8978961"), looks := false }, kinds := [], alts := [], laidByText := true, laidKinds := [.data, .data, .data], laidTests := true, laidLooks := .later }
def ChannelTimesCardSaid : Prop := Claim7.holds Tryz.pinned (.plain (OpenSpec.ofChange channelTimesSpec)) channelTimesCard

/-- THE TIED CARD OF 'keyholelaw38.ChannelDeterministic'. -/
def channelDeterministicCard : Claim7 := { stood := { row := channelDeterministicRow, standIns := [], harness := (true, "99b139f1e00e925ff34aeca7d0f4c8f4cd6a02b8bf52487979596185c8978961"), looks := false }, kinds := [], alts := [], laidByText := true, laidKinds := [.data, .data, .data], laidTests := true, laidLooks := .later }
def ChannelDeterministicCardSaid : Prop := Claim7.holds Tryz.pinned (.plain (OpenSpec.ofChange channelDeterministicSpec)) channelDeterministicCard

/-- THE TIED CARD OF 'keyholelaw38.ChannelPlain'. -/
def channelPlainCard : Claim7 := { stood := { row := channelPlainRow, standIns := [], harness := (true, "99b139f1e00e925ff34aeca7d0f4c8f4cd6a02b8bf52487979596185c8978961"), looks := false }, kinds := [], alts := [], laidByText := true, laidKinds := [.data, .data, .data], laidTests := true, laidLooks := .later }
def ChannelPlainCardSaid : Prop := Claim7.holds Tryz.pinned (.plain (OpenSpec.ofChange channelPlainSpec)) channelPlainCard

/-- THE TIED CARD OF 'keyholelaw38.ChannelValid'. -/
def channelValidCard : Claim7 := { stood := { row := channelValidRow, standIns := [], harness := (true, "99b139f1e00e925ff34aeca7d0f4c8f4cd6a02b8bf52487979596185c8978961"), looks := false }, kinds := [], alts := [], laidByText := true, laidKinds := [.data, .data, .data], laidTests := true, laidLooks := .later }
def ChannelValidCardSaid : Prop := Claim7.holds Tryz.pinned (.plain (OpenSpec.ofChange channelValidSpec)) channelValidCard

/-- THE TIED CARD OF 'keyholelaw38.ChannelOf'. -/
def channelOfCard : Claim7 := { stood := { row := channelOfRow, standIns := [], harness := (true, "99b139f1e00e925ff34aeca7d0f4c8f4cd6a02b8bf52487979596185c8978961"), looks := false }, kinds := [], alts := [], laidByText := true, laidKinds := [.data, .data, .data], laidTests := true, laidLooks := .later }
def ChannelOfCardSaid : Prop := Claim7.holds Tryz.pinned (.plain (OpenSpec.ofChange channelOfSpec)) channelOfCard

/-- THE TIED CARD OF 'keyholelaw38.ChannelPartition'. -/
def channelPartitionCard : Claim7 := { stood := { row := channelPartitionRow, standIns := [], harness := (true, "99b139f1e00e925ff34aeca7d0f4c8f4cd6a02b8bf52487979596185c8978961"), looks := false }, kinds := [], alts := [], laidByText := true, laidKinds := [.data, .data, .data], laidTests := true, laidLooks := .later }
def ChannelPartitionCardSaid : Prop := Claim7.holds Tryz.pinned (.plain (OpenSpec.ofChange channelPartitionSpec)) channelPartitionCard

/-- THE SECOND FORM's CARD OF 'keyholelaw38.ChannelRefuses'. -/
def channelRefusesUptoCard : Claim7 := { stood := { row := channelRefusesUptoRow, standIns := [], harness := (true, "99b139f1e00e925ff34aeca7d0f4c8f4cd6a02b8bf52487979596185c8978961"), looks := false }, kinds := [], alts := [], laidByText := true, laidKinds := [.data, .data, .data], laidTests := true, laidLooks := .later }
def ChannelRefusesUptoCardSaid : Prop := Claim7.holds Tryz.pinned (.plain (OpenSpec.upto channelRefusesSpec)) channelRefusesUptoCard

/-- THE SECOND FORM's CARD OF 'keyholelaw38.ChannelAbstract'. -/
def channelAbstractUptoCard : Claim7 := { stood := { row := channelAbstractUptoRow, standIns := [], harness := (true, "99b139f1e00e925ff34aeca7d0f4c8f4cd6a02b8bf52487979596185c8978961"), looks := false }, kinds := [], alts := [], laidByText := true, laidKinds := [.data, .data, .data], laidTests := true, laidLooks := .later }
def ChannelAbstractUptoCardSaid : Prop := Claim7.holds Tryz.pinned (.plain (OpenSpec.upto channelAbstractSpec)) channelAbstractUptoCard

/-- THE SECOND FORM's CARD OF 'keyholelaw38.ChannelNormal'. -/
def channelNormalUptoCard : Claim7 := { stood := { row := channelNormalUptoRow, standIns := [], harness := (true, "99b139f1e00e925ff34aeca7d0f4c8f4cd6a02b8bf52487979596185c8978961"), looks := false }, kinds := [], alts := [], laidByText := true, laidKinds := [.data, .data, .data], laidTests := true, laidLooks := .later }
def ChannelNormalUptoCardSaid : Prop := Claim7.holds Tryz.pinned (.plain (OpenSpec.upto channelNormalSpec)) channelNormalUptoCard

/-- THE SECOND FORM's CARD OF 'keyholelaw38.ChannelTimes'. -/
def channelTimesUptoCard : Claim7 := { stood := { row := channelTimesUptoRow, standIns := [], harness := (true, "99b139f1e00e925ff34aeca7d0f4c8f4cd6a02b8bf52487979596185c8978961"), looks := false }, kinds := [], alts := [], laidByText := true, laidKinds := [.data, .data, .data], laidTests := true, laidLooks := .later }
def ChannelTimesUptoCardSaid : Prop := Claim7.holds Tryz.pinned (.plain (OpenSpec.upto channelTimesSpec)) channelTimesUptoCard

/-- THE SECOND FORM's CARD OF 'keyholelaw38.ChannelDeterministic'. -/
def channelDeterministicUptoCard : Claim7 := { stood := { row := channelDeterministicUptoRow, standIns := [], harness := (true, "99b139f1e00e925ff34aeca7d0f4c8f4cd6a02b8bf52487979596185c8978961"), looks := false }, kinds := [], alts := [], laidByText := true, laidKinds := [.data, .data, .data], laidTests := true, laidLooks := .later }
def ChannelDeterministicUptoCardSaid : Prop := Claim7.holds Tryz.pinned (.plain (OpenSpec.upto channelDeterministicSpec)) channelDeterministicUptoCard

/-- THE SECOND FORM's CARD OF 'keyholelaw38.ChannelPlain'. -/
def channelPlainUptoCard : Claim7 := { stood := { row := channelPlainUptoRow, standIns := [], harness := (true, "99b139f1e00e925ff34aeca7d0f4c8f4cd6a02b8bf52487979596185c8978961"), looks := false }, kinds := [], alts := [], laidByText := true, laidKinds := [.data, .data, .data], laidTests := true, laidLooks := .later }
def ChannelPlainUptoCardSaid : Prop := Claim7.holds Tryz.pinned (.plain (OpenSpec.upto channelPlainSpec)) channelPlainUptoCard

/-- THE SECOND FORM's CARD OF 'keyholelaw38.ChannelValid'. -/
def channelValidUptoCard : Claim7 := { stood := { row := channelValidUptoRow, standIns := [], harness := (true, "99b139f1e00e925ff34aeca7d0f4c8f4cd6a02b8bf52487979596185c8978961"), looks := false }, kinds := [], alts := [], laidByText := true, laidKinds := [.data, .data, .data], laidTests := true, laidLooks := .later }
def ChannelValidUptoCardSaid : Prop := Claim7.holds Tryz.pinned (.plain (OpenSpec.upto channelValidSpec)) channelValidUptoCard

/-- THE SECOND FORM's CARD OF 'keyholelaw38.ChannelOf'. -/
def channelOfUptoCard : Claim7 := { stood := { row := channelOfUptoRow, standIns := [], harness := (true, "99b139f1e00e925ff34aeca7d0f4c8f4cd6a02b8bf52487979596185c8978961"), looks := false }, kinds := [], alts := [], laidByText := true, laidKinds := [.data, .data, .data], laidTests := true, laidLooks := .later }
def ChannelOfUptoCardSaid : Prop := Claim7.holds Tryz.pinned (.plain (OpenSpec.upto channelOfSpec)) channelOfUptoCard

/-- THE SECOND FORM's CARD OF 'keyholelaw38.ChannelPartition'. -/
def channelPartitionUptoCard : Claim7 := { stood := { row := channelPartitionUptoRow, standIns := [], harness := (true, "99b139f1e00e925ff34aeca7d0f4c8f4cd6a02b8bf52487979596185c8978961"), looks := false }, kinds := [], alts := [], laidByText := true, laidKinds := [.data, .data, .data], laidTests := true, laidLooks := .later }
def ChannelPartitionUptoCardSaid : Prop := Claim7.holds Tryz.pinned (.plain (OpenSpec.upto channelPartitionSpec)) channelPartitionUptoCard
end Rows
end Go.Proofs.YtaenledoagbddaaGreatDoor
