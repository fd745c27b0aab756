/-
  DERIVED. GIVEN WITH THE SEED: THE CARDS: each row of YtfagfkfcokmclaaGreatDoorRows.lean that lists a variable, with what it lists TIED to the program's text (the seventh form; the later family's looks); each row that meets fmt, with fmt's text TOLD by the authors' own Lean function (tested against real Go, not proved from fmt's source: count such statements apart). THE CARD IS WHAT COUNTS. Prove the row's statement (the work); the ties are given (YtfagfkfcokmclaaGreatDoorTie.lean); close each card by the builder's one call (the guide's Derived/Test/ToyasCard.lean, 'card_holds'). Laid BY PROGRAM, IN A SANDBOX (cutbox-door.mjs). By AI agents, Wed Nov 11 2026. No macro, syntax, notation, axiom, sorry.
-/
import Derived.Test.YtfagfkfcokmclaaGreatDoorRows
import GoSem.ClaimSeven
namespace Go.Proofs.YtfagfkfcokmclaaGreatDoor
namespace Rows

/-- THE TIED CARD OF 'espalierlaw19.LibRounds'. -/
def libRoundsCard : Claim7 := { stood := { row := libRoundsRow, standIns := [], harness := (true, "5224924838d3c73b013347ecb503224ff1e0adc0ca99049fb3c8aaf49aced825"), looks := true }, kinds := [], alts := [], laidByText := true, laidKinds := [.data, .data, .data, .data, .sentinel, .sentinel, .listed, .data, .pinned], laidTests := true, laidLooks := .later }
def LibRoundsCardSaid : Prop := Claim7.holds Tryz.pinned (.plain (OpenSpec.ofChange libRoundsSpec)) libRoundsCard

/-- THE TIED CARD OF 'espalierlaw19.LibEnds'. -/
def libEndsCard : Claim7 := { stood := { row := libEndsRow, standIns := [], harness := (true, "5224924838d3c73b013347ecb503224ff1e0adc0ca99049fb3c8aaf49aced825"), looks := true }, kinds := [], alts := [], laidByText := true, laidKinds := [.data, .data, .data, .data, .sentinel, .sentinel, .listed, .data, .pinned], laidTests := true, laidLooks := .later }
def LibEndsCardSaid : Prop := Claim7.holds Tryz.pinned (.plain (OpenSpec.ofChange libEndsSpec)) libEndsCard

/-- THE TIED CARD OF 'espalierlaw19.LibTexts'. -/
def libTextsCard : Claim7 := { stood := { row := libTextsRow, standIns := [], harness := (true, "5224924838d3c73b013347ecb503224ff1e0adc0ca99049fb3c8aaf49aced825"), looks := true }, kinds := [], alts := [], laidByText := true, laidKinds := [.data, .data, .data, .data, .sentinel, .sentinel, .listed, .data, .pinned], laidTests := true, laidLooks := .later }
def LibTextsCardSaid : Prop := Claim7.holds Tryz.pinned (.plain (OpenSpec.ofChange libTextsSpec)) libTextsCard

/-- THE TIED CARD OF 'espalierlaw19.LibRows'. -/
def libRowsCard : Claim7 := { stood := { row := libRowsRow, standIns := [], harness := (true, "5224924838d3c73b013347ecb503224ff1e0adc0ca99049fb3c8aaf49aced825"), looks := true }, kinds := [], alts := [], laidByText := true, laidKinds := [.data, .data, .data, .data, .sentinel, .sentinel, .listed, .data, .pinned], laidTests := true, laidLooks := .later }
def LibRowsCardSaid : Prop := Claim7.holds Tryz.pinned (.plain (OpenSpec.ofChange libRowsSpec)) libRowsCard

/-- THE SECOND FORM's CARD OF 'espalierlaw19.LibRounds'. -/
def libRoundsUptoCard : Claim7 := { stood := { row := libRoundsUptoRow, standIns := [], harness := (true, "5224924838d3c73b013347ecb503224ff1e0adc0ca99049fb3c8aaf49aced825"), looks := true }, kinds := [], alts := [], laidByText := true, laidKinds := [.data, .data, .data, .data, .sentinel, .sentinel, .listed, .data, .pinned], laidTests := true, laidLooks := .later }
def LibRoundsUptoCardSaid : Prop := Claim7.holds Tryz.pinned (.plain (OpenSpec.upto libRoundsSpec)) libRoundsUptoCard

/-- THE SECOND FORM's CARD OF 'espalierlaw19.LibEnds'. -/
def libEndsUptoCard : Claim7 := { stood := { row := libEndsUptoRow, standIns := [], harness := (true, "5224924838d3c73b013347ecb503224ff1e0adc0ca99049fb3c8aaf49aced825"), looks := true }, kinds := [], alts := [], laidByText := true, laidKinds := [.data, .data, .data, .data, .sentinel, .sentinel, .listed, .data, .pinned], laidTests := true, laidLooks := .later }
def LibEndsUptoCardSaid : Prop := Claim7.holds Tryz.pinned (.plain (OpenSpec.upto libEndsSpec)) libEndsUptoCard

/-- THE SECOND FORM's CARD OF 'espalierlaw19.LibTexts'. -/
def libTextsUptoCard : Claim7 := { stood := { row := libTextsUptoRow, standIns := [], harness := (true, "5224924838d3c73b013347ecb503224ff1e0adc0ca99049fb3c8aaf49aced825"), looks := true }, kinds := [], alts := [], laidByText := true, laidKinds := [.data, .data, .data, .data, .sentinel, .sentinel, .listed, .data, .pinned], laidTests := true, laidLooks := .later }
def LibTextsUptoCardSaid : Prop := Claim7.holds Tryz.pinned (.plain (OpenSpec.upto libTextsSpec)) libTextsUptoCard

/-- THE SECOND FORM's CARD OF 'espalierlaw19.LibRows'. -/
def libRowsUptoCard : Claim7 := { stood := { row := libRowsUptoRow, standIns := [], harness := (true, "5224924838d3c73b013347ecb503224ff1e0adc0ca99049fb3c8aaf49aced825"), looks := true }, kinds := [], alts := [], laidByText := true, laidKinds := [.data, .data, .data, .data, .sentinel, .sentinel, .listed, .data, .pinned], laidTests := true, laidLooks := .later }
def LibRowsUptoCardSaid : Prop := Claim7.holds Tryz.pinned (.plain (OpenSpec.upto libRowsSpec)) libRowsUptoCard
end Rows
end Go.Proofs.YtfagfkfcokmclaaGreatDoor
