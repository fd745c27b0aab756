/-
  DERIVED. GIVEN WITH THE SEED: THE CARDS: each row of YtgdbbocfiejlfaaDoorRows.lean that lists a variable, with what it lists TIED to the program's text (the seventh form; the later family's looks); each row that meets fmt, with fmt's text TOLD by the authors' own Lean function (tested against real Go, not proved from fmt's source: count such statements apart). THE CARD IS WHAT COUNTS. Prove the row's statement (the work); the ties are given (YtgdbbocfiejlfaaDoorTie.lean); close each card by the builder's one call (the guide's Derived/Test/ToyasCard.lean, 'card_holds'). Laid BY PROGRAM, IN A SANDBOX (cutbox-door.mjs). By AI agents, Wed Nov 11 2026. No macro, syntax, notation, axiom, sorry.
-/
import Derived.Test.YtgdbbocfiejlfaaDoorRows
import GoSem.ClaimSeven
namespace Go.Proofs.YtgdbbocfiejlfaaDoor
namespace Rows

/-- THE TIED CARD OF 'espalierlaw07.DeepTrees'. -/
def deepTreesCard : Claim7 := { stood := { row := deepTreesRow, standIns := [], harness := (true, "2f5b3bb51053ad5460df6d8289e344ae7f90a617bd0fb9c9cf1adf8d827712b2"), looks := false }, kinds := [], alts := [], laidByText := true, laidKinds := [.data, .data, .data], laidTests := true, laidLooks := .later }
def DeepTreesCardSaid : Prop := Claim7.holds Tryd.pinned (.plain (OpenSpec.ofChange deepTreesSpec)) deepTreesCard

/-- THE TIED CARD OF 'espalierlaw07.DeepSame'. -/
def deepSameCard : Claim7 := { stood := { row := deepSameRow, standIns := [], harness := (true, "2f5b3bb51053ad5460df6d8289e344ae7f90a617bd0fb9c9cf1adf8d827712b2"), looks := false }, kinds := [], alts := [], laidByText := true, laidKinds := [.data, .data, .data], laidTests := true, laidLooks := .later }
def DeepSameCardSaid : Prop := Claim7.holds Tryd.pinned (.plain (OpenSpec.ofChange deepSameSpec)) deepSameCard

/-- THE SECOND FORM's CARD OF 'espalierlaw07.DeepTrees'. -/
def deepTreesUptoCard : Claim7 := { stood := { row := deepTreesUptoRow, standIns := [], harness := (true, "2f5b3bb51053ad5460df6d8289e344ae7f90a617bd0fb9c9cf1adf8d827712b2"), looks := false }, kinds := [], alts := [], laidByText := true, laidKinds := [.data, .data, .data], laidTests := true, laidLooks := .later }
def DeepTreesUptoCardSaid : Prop := Claim7.holds Tryd.pinned (.plain (OpenSpec.upto deepTreesSpec)) deepTreesUptoCard

/-- THE SECOND FORM's CARD OF 'espalierlaw07.DeepSame'. -/
def deepSameUptoCard : Claim7 := { stood := { row := deepSameUptoRow, standIns := [], harness := (true, "2f5b3bb51053ad5460df6d8289e344ae7f90a617bd0fb9c9cf1adf8d827712b2"), looks := false }, kinds := [], alts := [], laidByText := true, laidKinds := [.data, .data, .data], laidTests := true, laidLooks := .later }
def DeepSameUptoCardSaid : Prop := Claim7.holds Tryd.pinned (.plain (OpenSpec.upto deepSameSpec)) deepSameUptoCard
end Rows
end Go.Proofs.YtgdbbocfiejlfaaDoor
