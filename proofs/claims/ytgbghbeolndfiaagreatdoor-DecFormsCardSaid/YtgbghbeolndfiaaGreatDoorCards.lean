/-
  DERIVED. GIVEN WITH THE SEED: THE CARDS: each row of YtgbghbeolndfiaaGreatDoorRows.lean that lists a variable, with what it lists TIED to the program's text (the seventh form; the later family's looks); each row that meets fmt, with fmt's text TOLD by the authors' own Lean function (tested against real Go, not proved from fmt's source: count such statements apart). THE CARD IS WHAT COUNTS. Prove the row's statement (the work); the ties are given (YtgbghbeolndfiaaGreatDoorTie.lean); close each card by the builder's one call (the guide's Derived/Test/ToyasCard.lean, 'card_holds'). Laid BY PROGRAM, IN A SANDBOX (cutbox-door.mjs). By AI agents, Wed Nov 11 2026. No macro, syntax, notation, axiom, sorry.
-/
import Derived.Test.YtgbghbeolndfiaaGreatDoorRows
import GoSem.ClaimSeven
namespace Go.Proofs.YtgbghbeolndfiaaGreatDoor
namespace Rows

/-- THE TIED CARD OF 'espalierlaw02.DecOrders'. -/
def decOrdersCard : Claim7 := { stood := { row := decOrdersRow, standIns := [], harness := (true, "74a19fb741f53745a540bf191c3a45f8431369e0f4dbc631b7befe5c01276f3b"), looks := true }, kinds := [], alts := [], laidByText := true, laidKinds := [.data, .data, .data, .data, .sentinel, .sentinel, .pinned], laidTests := true, laidLooks := .later }
def DecOrdersCardSaid : Prop := Claim7.holds Tryz.pinned (.plain (OpenSpec.ofChange decOrdersSpec)) decOrdersCard

/-- THE TIED CARD OF 'espalierlaw02.DecForms'. -/
def decFormsCard : Claim7 := { stood := { row := decFormsRow, standIns := [], harness := (true, "74a19fb741f53745a540bf191c3a45f8431369e0f4dbc631b7befe5c01276f3b"), looks := true }, kinds := [], alts := [], laidByText := true, laidKinds := [.data, .data, .data, .data, .sentinel, .sentinel, .pinned], laidTests := true, laidLooks := .later }
def DecFormsCardSaid : Prop := Claim7.holds Tryz.pinned (.plain (OpenSpec.ofChange decFormsSpec)) decFormsCard

/-- THE TIED CARD OF 'espalierlaw02.DecRounds'. -/
def decRoundsCard : Claim7 := { stood := { row := decRoundsRow, standIns := [], harness := (true, "74a19fb741f53745a540bf191c3a45f8431369e0f4dbc631b7befe5c01276f3b"), looks := true }, kinds := [], alts := [], laidByText := true, laidKinds := [.data, .data, .data, .data, .sentinel, .sentinel, .pinned], laidTests := true, laidLooks := .later }
def DecRoundsCardSaid : Prop := Claim7.holds Tryz.pinned (.plain (OpenSpec.ofChange decRoundsSpec)) decRoundsCard

/-- THE TIED CARD OF 'espalierlaw02.DecDoes'. -/
def decDoesCard : Claim7 := { stood := { row := decDoesRow, standIns := [], harness := (true, "74a19fb741f53745a540bf191c3a45f8431369e0f4dbc631b7befe5c01276f3b"), looks := true }, kinds := [], alts := [], laidByText := true, laidKinds := [.data, .data, .data, .data, .sentinel, .sentinel, .pinned], laidTests := true, laidLooks := .later }
def DecDoesCardSaid : Prop := Claim7.holds Tryz.pinned (.plain (OpenSpec.ofChange decDoesSpec)) decDoesCard

/-- THE TIED CARD OF 'espalierlaw02.DecEven'. -/
def decEvenCard : Claim7 := { stood := { row := decEvenRow, standIns := [], harness := (true, "74a19fb741f53745a540bf191c3a45f8431369e0f4dbc631b7befe5c01276f3b"), looks := true }, kinds := [], alts := [], laidByText := true, laidKinds := [.data, .data, .data, .data, .sentinel, .sentinel, .pinned], laidTests := true, laidLooks := .later }
def DecEvenCardSaid : Prop := Claim7.holds Tryz.pinned (.plain (OpenSpec.ofChange decEvenSpec)) decEvenCard

/-- THE SECOND FORM's CARD OF 'espalierlaw02.DecOrders'. -/
def decOrdersUptoCard : Claim7 := { stood := { row := decOrdersUptoRow, standIns := [], harness := (true, "74a19fb741f53745a540bf191c3a45f8431369e0f4dbc631b7befe5c01276f3b"), looks := true }, kinds := [], alts := [], laidByText := true, laidKinds := [.data, .data, .data, .data, .sentinel, .sentinel, .pinned], laidTests := true, laidLooks := .later }
def DecOrdersUptoCardSaid : Prop := Claim7.holds Tryz.pinned (.plain (OpenSpec.upto decOrdersSpec)) decOrdersUptoCard

/-- THE SECOND FORM's CARD OF 'espalierlaw02.DecForms'. -/
def decFormsUptoCard : Claim7 := { stood := { row := decFormsUptoRow, standIns := [], harness := (true, "74a19fb741f53745a540bf191c3a45f8431369e0f4dbc631b7befe5c01276f3b"), looks := true }, kinds := [], alts := [], laidByText := true, laidKinds := [.data, .data, .data, .data, .sentinel, .sentinel, .pinned], laidTests := true, laidLooks := .later }
def DecFormsUptoCardSaid : Prop := Claim7.holds Tryz.pinned (.plain (OpenSpec.upto decFormsSpec)) decFormsUptoCard

/-- THE SECOND FORM's CARD OF 'espalierlaw02.DecRounds'. -/
def decRoundsUptoCard : Claim7 := { stood := { row := decRoundsUptoRow, standIns := [], harness := (true, "74a19fb741f53745a540bf191c3a45f8431369e0f4dbc631b7befe5c01276f3b"), looks := true }, kinds := [], alts := [], laidByText := true, laidKinds := [.data, .data, .data, .data, .sentinel, .sentinel, .pinned], laidTests := true, laidLooks := .later }
def DecRoundsUptoCardSaid : Prop := Claim7.holds Tryz.pinned (.plain (OpenSpec.upto decRoundsSpec)) decRoundsUptoCard

/-- THE SECOND FORM's CARD OF 'espalierlaw02.DecDoes'. -/
def decDoesUptoCard : Claim7 := { stood := { row := decDoesUptoRow, standIns := [], harness := (true, "74a19fb741f53745a540bf191c3a45f8431369e0f4dbc631b7befe5c01276f3b"), looks := true }, kinds := [], alts := [], laidByText := true, laidKinds := [.data, .data, .data, .data, .sentinel, .sentinel, .pinned], laidTests := true, laidLooks := .later }
def DecDoesUptoCardSaid : Prop := Claim7.holds Tryz.pinned (.plain (OpenSpec.upto decDoesSpec)) decDoesUptoCard

/-- THE SECOND FORM's CARD OF 'espalierlaw02.DecEven'. -/
def decEvenUptoCard : Claim7 := { stood := { row := decEvenUptoRow, standIns := [], harness := (true, "74a19fb741f53745a540bf191c3a45f8431369e0f4dbc631b7befe5c01276f3b"), looks := true }, kinds := [], alts := [], laidByText := true, laidKinds := [.data, .data, .data, .data, .sentinel, .sentinel, .pinned], laidTests := true, laidLooks := .later }
def DecEvenUptoCardSaid : Prop := Claim7.holds Tryz.pinned (.plain (OpenSpec.upto decEvenSpec)) decEvenUptoCard
end Rows
end Go.Proofs.YtgbghbeolndfiaaGreatDoor
