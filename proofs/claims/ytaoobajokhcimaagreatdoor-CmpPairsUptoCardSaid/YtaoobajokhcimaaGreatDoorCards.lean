/-
  DERIVED. GIVEN WITH THE SEED: THE CARDS: each row of YtaoobajokhcimaaGreatDoorRows.lean that lists a variable, with what it lists TIED to the program's text (the seventh form; the later family's looks); each row that meets fmt, with fmt's text TOLD by the authors' own Lean function (tested against real Go, not proved from fmt's source: count such statements apart). THE CARD IS WHAT COUNTS. Prove the row's statement (the work); the ties are given (YtaoobajokhcimaaGreatDoorTie.lean); close each card by the builder's one call (the guide's Derived/Test/ToyasCard.lean, 'card_holds'). Laid BY PROGRAM, IN A SANDBOX (cutbox-door.mjs). By AI agents, Wed Nov 11 2026. No macro, syntax, notation, axiom, sorry.
-/
import Derived.Test.YtaoobajokhcimaaGreatDoorRows
import GoSem.ClaimSeven
namespace Go.Proofs.YtaoobajokhcimaaGreatDoor
namespace Rows

/-- THE TIED CARD OF 'espalierlaw03.AtomBack'. -/
def atomBackCard : Claim7 := { stood := { row := atomBackRow, standIns := [], harness := (true, "df0c20721a35019b028fa683926c2a0138aff748bf69794ce1235c8ad2383c8b"), looks := true }, kinds := [], alts := [], laidByText := true, laidKinds := [.data, .data, .data, .data, .sentinel, .sentinel, .pinned], laidTests := true, laidLooks := .later }
def AtomBackCardSaid : Prop := Claim7.holds Tryz.pinned (.plain (OpenSpec.ofChange atomBackSpec)) atomBackCard

/-- THE TIED CARD OF 'espalierlaw03.AtomNumbers'. -/
def atomNumbersCard : Claim7 := { stood := { row := atomNumbersRow, standIns := [], harness := (true, "df0c20721a35019b028fa683926c2a0138aff748bf69794ce1235c8ad2383c8b"), looks := true }, kinds := [], alts := [], laidByText := true, laidKinds := [.data, .data, .data, .data, .sentinel, .sentinel, .pinned], laidTests := true, laidLooks := .later }
def AtomNumbersCardSaid : Prop := Claim7.holds Tryz.pinned (.plain (OpenSpec.ofChange atomNumbersSpec)) atomNumbersCard

/-- THE TIED CARD OF 'espalierlaw03.AtomRights'. -/
def atomRightsCard : Claim7 := { stood := { row := atomRightsRow, standIns := [], harness := (true, "df0c20721a35019b028fa683926c2a0138aff748bf69794ce1235c8ad2383c8b"), looks := true }, kinds := [], alts := [], laidByText := true, laidKinds := [.data, .data, .data, .data, .sentinel, .sentinel, .pinned], laidTests := true, laidLooks := .later }
def AtomRightsCardSaid : Prop := Claim7.holds Tryz.pinned (.plain (OpenSpec.ofChange atomRightsSpec)) atomRightsCard

/-- THE TIED CARD OF 'espalierlaw03.AtomCasts'. -/
def atomCastsCard : Claim7 := { stood := { row := atomCastsRow, standIns := [], harness := (true, "df0c20721a35019b028fa683926c2a0138aff748bf69794ce1235c8ad2383c8b"), looks := true }, kinds := [], alts := [], laidByText := true, laidKinds := [.data, .data, .data, .data, .sentinel, .sentinel, .pinned], laidTests := true, laidLooks := .later }
def AtomCastsCardSaid : Prop := Claim7.holds Tryz.pinned (.plain (OpenSpec.ofChange atomCastsSpec)) atomCastsCard

/-- THE TIED CARD OF 'espalierlaw04.CmpGenerals'. -/
def cmpGeneralsCard : Claim7 := { stood := { row := cmpGeneralsRow, standIns := [], harness := (true, "df0c20721a35019b028fa683926c2a0138aff748bf69794ce1235c8ad2383c8b"), looks := true }, kinds := [], alts := [], laidByText := true, laidKinds := [.data, .data, .data, .data, .sentinel, .sentinel, .pinned], laidTests := true, laidLooks := .later }
def CmpGeneralsCardSaid : Prop := Claim7.holds Tryz.pinned (.plain (OpenSpec.ofChange cmpGeneralsSpec)) cmpGeneralsCard

/-- THE TIED CARD OF 'espalierlaw04.CmpTruths'. -/
def cmpTruthsCard : Claim7 := { stood := { row := cmpTruthsRow, standIns := [], harness := (true, "df0c20721a35019b028fa683926c2a0138aff748bf69794ce1235c8ad2383c8b"), looks := true }, kinds := [], alts := [], laidByText := true, laidKinds := [.data, .data, .data, .data, .sentinel, .sentinel, .pinned], laidTests := true, laidLooks := .later }
def CmpTruthsCardSaid : Prop := Claim7.holds Tryz.pinned (.plain (OpenSpec.ofChange cmpTruthsSpec)) cmpTruthsCard

/-- THE TIED CARD OF 'espalierlaw04.CmpOrders'. -/
def cmpOrdersCard : Claim7 := { stood := { row := cmpOrdersRow, standIns := [], harness := (true, "df0c20721a35019b028fa683926c2a0138aff748bf69794ce1235c8ad2383c8b"), looks := true }, kinds := [], alts := [], laidByText := true, laidKinds := [.data, .data, .data, .data, .sentinel, .sentinel, .pinned], laidTests := true, laidLooks := .later }
def CmpOrdersCardSaid : Prop := Claim7.holds Tryz.pinned (.plain (OpenSpec.ofChange cmpOrdersSpec)) cmpOrdersCard

/-- THE TIED CARD OF 'espalierlaw04.CmpPairs'. -/
def cmpPairsCard : Claim7 := { stood := { row := cmpPairsRow, standIns := [], harness := (true, "df0c20721a35019b028fa683926c2a0138aff748bf69794ce1235c8ad2383c8b"), looks := true }, kinds := [], alts := [], laidByText := true, laidKinds := [.data, .data, .data, .data, .sentinel, .sentinel, .pinned], laidTests := true, laidLooks := .later }
def CmpPairsCardSaid : Prop := Claim7.holds Tryz.pinned (.plain (OpenSpec.ofChange cmpPairsSpec)) cmpPairsCard

/-- THE TIED CARD OF 'espalierlaw04.CmpValues'. -/
def cmpValuesCard : Claim7 := { stood := { row := cmpValuesRow, standIns := [], harness := (true, "df0c20721a35019b028fa683926c2a0138aff748bf69794ce1235c8ad2383c8b"), looks := true }, kinds := [], alts := [], laidByText := true, laidKinds := [.data, .data, .data, .data, .sentinel, .sentinel, .pinned], laidTests := true, laidLooks := .later }
def CmpValuesCardSaid : Prop := Claim7.holds Tryz.pinned (.plain (OpenSpec.ofChange cmpValuesSpec)) cmpValuesCard

/-- THE SECOND FORM's CARD OF 'espalierlaw03.AtomBack'. -/
def atomBackUptoCard : Claim7 := { stood := { row := atomBackUptoRow, standIns := [], harness := (true, "df0c20721a35019b028fa683926c2a0138aff748bf69794ce1235c8ad2383c8b"), looks := true }, kinds := [], alts := [], laidByText := true, laidKinds := [.data, .data, .data, .data, .sentinel, .sentinel, .pinned], laidTests := true, laidLooks := .later }
def AtomBackUptoCardSaid : Prop := Claim7.holds Tryz.pinned (.plain (OpenSpec.upto atomBackSpec)) atomBackUptoCard

/-- THE SECOND FORM's CARD OF 'espalierlaw03.AtomNumbers'. -/
def atomNumbersUptoCard : Claim7 := { stood := { row := atomNumbersUptoRow, standIns := [], harness := (true, "df0c20721a35019b028fa683926c2a0138aff748bf69794ce1235c8ad2383c8b"), looks := true }, kinds := [], alts := [], laidByText := true, laidKinds := [.data, .data, .data, .data, .sentinel, .sentinel, .pinned], laidTests := true, laidLooks := .later }
def AtomNumbersUptoCardSaid : Prop := Claim7.holds Tryz.pinned (.plain (OpenSpec.upto atomNumbersSpec)) atomNumbersUptoCard

/-- THE SECOND FORM's CARD OF 'espalierlaw03.AtomRights'. -/
def atomRightsUptoCard : Claim7 := { stood := { row := atomRightsUptoRow, standIns := [], harness := (true, "df0c20721a35019b028fa683926c2a0138aff748bf69794ce1235c8ad2383c8b"), looks := true }, kinds := [], alts := [], laidByText := true, laidKinds := [.data, .data, .data, .data, .sentinel, .sentinel, .pinned], laidTests := true, laidLooks := .later }
def AtomRightsUptoCardSaid : Prop := Claim7.holds Tryz.pinned (.plain (OpenSpec.upto atomRightsSpec)) atomRightsUptoCard

/-- THE SECOND FORM's CARD OF 'espalierlaw03.AtomCasts'. -/
def atomCastsUptoCard : Claim7 := { stood := { row := atomCastsUptoRow, standIns := [], harness := (true, "df0c20721a35019b028fa683926c2a0138aff748bf69794ce1235c8ad2383c8b"), looks := true }, kinds := [], alts := [], laidByText := true, laidKinds := [.data, .data, .data, .data, .sentinel, .sentinel, .pinned], laidTests := true, laidLooks := .later }
def AtomCastsUptoCardSaid : Prop := Claim7.holds Tryz.pinned (.plain (OpenSpec.upto atomCastsSpec)) atomCastsUptoCard

/-- THE SECOND FORM's CARD OF 'espalierlaw04.CmpGenerals'. -/
def cmpGeneralsUptoCard : Claim7 := { stood := { row := cmpGeneralsUptoRow, standIns := [], harness := (true, "df0c20721a35019b028fa683926c2a0138aff748bf69794ce1235c8ad2383c8b"), looks := true }, kinds := [], alts := [], laidByText := true, laidKinds := [.data, .data, .data, .data, .sentinel, .sentinel, .pinned], laidTests := true, laidLooks := .later }
def CmpGeneralsUptoCardSaid : Prop := Claim7.holds Tryz.pinned (.plain (OpenSpec.upto cmpGeneralsSpec)) cmpGeneralsUptoCard

/-- THE SECOND FORM's CARD OF 'espalierlaw04.CmpTruths'. -/
def cmpTruthsUptoCard : Claim7 := { stood := { row := cmpTruthsUptoRow, standIns := [], harness := (true, "df0c20721a35019b028fa683926c2a0138aff748bf69794ce1235c8ad2383c8b"), looks := true }, kinds := [], alts := [], laidByText := true, laidKinds := [.data, .data, .data, .data, .sentinel, .sentinel, .pinned], laidTests := true, laidLooks := .later }
def CmpTruthsUptoCardSaid : Prop := Claim7.holds Tryz.pinned (.plain (OpenSpec.upto cmpTruthsSpec)) cmpTruthsUptoCard

/-- THE SECOND FORM's CARD OF 'espalierlaw04.CmpOrders'. -/
def cmpOrdersUptoCard : Claim7 := { stood := { row := cmpOrdersUptoRow, standIns := [], harness := (true, "df0c20721a35019b028fa683926c2a0138aff748bf69794ce1235c8ad2383c8b"), looks := true }, kinds := [], alts := [], laidByText := true, laidKinds := [.data, .data, .data, .data, .sentinel, .sentinel, .pinned], laidTests := true, laidLooks := .later }
def CmpOrdersUptoCardSaid : Prop := Claim7.holds Tryz.pinned (.plain (OpenSpec.upto cmpOrdersSpec)) cmpOrdersUptoCard

/-- THE SECOND FORM's CARD OF 'espalierlaw04.CmpPairs'. -/
def cmpPairsUptoCard : Claim7 := { stood := { row := cmpPairsUptoRow, standIns := [], harness := (true, "df0c20721a35019b028fa683926c2a0138aff748bf69794ce1235c8ad2383c8b"), looks := true }, kinds := [], alts := [], laidByText := true, laidKinds := [.data, .data, .data, .data, .sentinel, .sentinel, .pinned], laidTests := true, laidLooks := .later }
def CmpPairsUptoCardSaid : Prop := Claim7.holds Tryz.pinned (.plain (OpenSpec.upto cmpPairsSpec)) cmpPairsUptoCard

/-- THE SECOND FORM's CARD OF 'espalierlaw04.CmpValues'. -/
def cmpValuesUptoCard : Claim7 := { stood := { row := cmpValuesUptoRow, standIns := [], harness := (true, "df0c20721a35019b028fa683926c2a0138aff748bf69794ce1235c8ad2383c8b"), looks := true }, kinds := [], alts := [], laidByText := true, laidKinds := [.data, .data, .data, .data, .sentinel, .sentinel, .pinned], laidTests := true, laidLooks := .later }
def CmpValuesUptoCardSaid : Prop := Claim7.holds Tryz.pinned (.plain (OpenSpec.upto cmpValuesSpec)) cmpValuesUptoCard
end Rows
end Go.Proofs.YtaoobajokhcimaaGreatDoor
