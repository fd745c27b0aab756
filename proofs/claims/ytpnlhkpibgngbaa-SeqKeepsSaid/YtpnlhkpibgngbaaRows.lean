/-
  No cell of these rows narrows 'for every input' (looked for: loops, veiled, ifaces, maps, wideKeys, modest, calm, conditions, laid).
  DERIVED. THE GIVEN ROWS OF THIS SEAT. 6 by the template 'for every input the law returns true; each argument reads behind the call as it read before'; 0 by the template 'total and deterministic' (their statements: YtpnlhkpibgngbaaTotals.lean).
  GIVEN WITH THE SEED: the statements are not yours to turn. If you find one false, say at which input.
  Laid BY PROGRAM, IN A SANDBOX (cutbox-rows.mjs): the forced cells as the released guide's own fill.sh prints them over the translation c090c176901af5c3… (all of the seat's roots in one cut). By AI agents, Wed Nov 11 2026. No macro, syntax, notation, axiom, sorry.
-/
import Derived.Test.YtpnlhkpibgngbaaChecked
import GoSem.Claim
import GoSem.ClaimJoined
import GoSem.ClaimMapViews
import Derived.JoinedTies
import Derived.KernelRfl
namespace Go.Proofs.Ytpnlhkpibgngbaa
/- THE CELL 'sum', in the pinned program and in every row, IS THE sha256 OF THE DUMP (.gsa) THAT YtpnlhkpibgngbaaProg.lean LOADS. Nothing in Lean hashes anything: it is a label: what it is worth is what the hold of that sum in a sandbox is worth. -/
noncomputable def Try.pinned : Pinned := { name := "ytpnlhkpibgngbaa", sum := "c090c176901af5c30bc27fa8abea50b732395918d3d42bb50f56db7c87efc0de", checked := Try.checked }
namespace Rows
def none {H : Type} : Left H := { results := [], args := [] }

/-- 'espalierlaw14.TypesMix': WHATEVER THE INPUT: true; the input reads as it did. -/
def typesMixSpec : ChangeSpec := { name := "typesMix", fn := fun _ => fun
  | [d1, d2, d3] => { results := [.lit (.bool true)], args := [d1, d2, d3] }
  | _ => none }
def typesMixRow : OpenClaim := { program := "ytpnlhkpibgngbaa", sum := "c090c176901af5c30bc27fa8abea50b732395918d3d42bb50f56db7c87efc0de", func := "espalier/espalierlaw14.TypesMix", spec := "typesMix", apart := false }
def TypesMixSaid : Prop := typesMixRow.holds Try.pinned (OpenSpec.ofChange typesMixSpec)

/-- ITS FALSE NEIGHBOUR: 'it returns false'. Refute it at one input. -/
def typesMixWrong : ChangeSpec := { name := "typesMix", fn := fun _ => fun
  | [d1, d2, d3] => { results := [.lit (.bool false)], args := [d1, d2, d3] }
  | _ => none }
def TypesMixWrongFalsely : Prop := typesMixRow.holds Try.pinned (OpenSpec.ofChange typesMixWrong)

/-- 'espalierlaw14.TypesEven': WHATEVER THE INPUT: true; the input reads as it did. -/
def typesEvenSpec : ChangeSpec := { name := "typesEven", fn := fun _ => fun
  | [d1, d2, d3] => { results := [.lit (.bool true)], args := [d1, d2, d3] }
  | _ => none }
def typesEvenRow : OpenClaim := { program := "ytpnlhkpibgngbaa", sum := "c090c176901af5c30bc27fa8abea50b732395918d3d42bb50f56db7c87efc0de", func := "espalier/espalierlaw14.TypesEven", spec := "typesEven", apart := false }
def TypesEvenSaid : Prop := typesEvenRow.holds Try.pinned (OpenSpec.ofChange typesEvenSpec)

/-- ITS FALSE NEIGHBOUR: 'it returns false'. Refute it at one input. -/
def typesEvenWrong : ChangeSpec := { name := "typesEven", fn := fun _ => fun
  | [d1, d2, d3] => { results := [.lit (.bool false)], args := [d1, d2, d3] }
  | _ => none }
def TypesEvenWrongFalsely : Prop := typesEvenRow.holds Try.pinned (OpenSpec.ofChange typesEvenWrong)

/-- 'espalierlaw18.SeqCuts': WHATEVER THE INPUT: true; the input reads as it did. -/
def seqCutsSpec : ChangeSpec := { name := "seqCuts", fn := fun _ => fun
  | [d1, d2] => { results := [.lit (.bool true)], args := [d1, d2] }
  | _ => none }
def seqCutsRow : OpenClaim := { program := "ytpnlhkpibgngbaa", sum := "c090c176901af5c30bc27fa8abea50b732395918d3d42bb50f56db7c87efc0de", func := "espalier/espalierlaw18.SeqCuts", spec := "seqCuts", inPlace := ["slices.overlaps[int]"], apart := false }
def SeqCutsSaid : Prop := seqCutsRow.holds Try.pinned (OpenSpec.ofChange seqCutsSpec)

/-- ITS FALSE NEIGHBOUR: 'it returns false'. Refute it at one input. -/
def seqCutsWrong : ChangeSpec := { name := "seqCuts", fn := fun _ => fun
  | [d1, d2] => { results := [.lit (.bool false)], args := [d1, d2] }
  | _ => none }
def SeqCutsWrongFalsely : Prop := seqCutsRow.holds Try.pinned (OpenSpec.ofChange seqCutsWrong)

/-- 'espalierlaw18.SeqBack': WHATEVER THE INPUT: true; the input reads as it did. -/
def seqBackSpec : ChangeSpec := { name := "seqBack", fn := fun _ => fun
  | [d1, d2, d3] => { results := [.lit (.bool true)], args := [d1, d2, d3] }
  | _ => none }
def seqBackRow : OpenClaim := { program := "ytpnlhkpibgngbaa", sum := "c090c176901af5c30bc27fa8abea50b732395918d3d42bb50f56db7c87efc0de", func := "espalier/espalierlaw18.SeqBack", spec := "seqBack", inPlace := ["slices.overlaps[int]"], apart := false }
def SeqBackSaid : Prop := seqBackRow.holds Try.pinned (OpenSpec.ofChange seqBackSpec)

/-- ITS FALSE NEIGHBOUR: 'it returns false'. Refute it at one input. -/
def seqBackWrong : ChangeSpec := { name := "seqBack", fn := fun _ => fun
  | [d1, d2, d3] => { results := [.lit (.bool false)], args := [d1, d2, d3] }
  | _ => none }
def SeqBackWrongFalsely : Prop := seqBackRow.holds Try.pinned (OpenSpec.ofChange seqBackWrong)

/-- 'espalierlaw18.SeqOrders': WHATEVER THE INPUT: true; the input reads as it did. -/
def seqOrdersSpec : ChangeSpec := { name := "seqOrders", fn := fun _ => fun
  | [d1, d2, d3] => { results := [.lit (.bool true)], args := [d1, d2, d3] }
  | _ => none }
def seqOrdersRow : OpenClaim := { program := "ytpnlhkpibgngbaa", sum := "c090c176901af5c30bc27fa8abea50b732395918d3d42bb50f56db7c87efc0de", func := "espalier/espalierlaw18.SeqOrders", spec := "seqOrders", inPlace := ["slices.overlaps[int]"], unfollowed := true, recurses := true, apart := false }
def SeqOrdersSaid : Prop := seqOrdersRow.holds Try.pinned (OpenSpec.ofChange seqOrdersSpec)

/-- ITS FALSE NEIGHBOUR: 'it returns false'. Refute it at one input. -/
def seqOrdersWrong : ChangeSpec := { name := "seqOrders", fn := fun _ => fun
  | [d1, d2, d3] => { results := [.lit (.bool false)], args := [d1, d2, d3] }
  | _ => none }
def SeqOrdersWrongFalsely : Prop := seqOrdersRow.holds Try.pinned (OpenSpec.ofChange seqOrdersWrong)

/-- 'espalierlaw18.SeqKeeps': WHATEVER THE INPUT: true; the input reads as it did. -/
def seqKeepsSpec : ChangeSpec := { name := "seqKeeps", fn := fun _ => fun
  | [d1, d2, d3] => { results := [.lit (.bool true)], args := [d1, d2, d3] }
  | _ => none }
def seqKeepsRow : OpenClaim := { program := "ytpnlhkpibgngbaa", sum := "c090c176901af5c30bc27fa8abea50b732395918d3d42bb50f56db7c87efc0de", func := "espalier/espalierlaw18.SeqKeeps", spec := "seqKeeps", inPlace := ["slices.overlaps[int]"], unfollowed := true, recurses := true, apart := false }
def SeqKeepsSaid : Prop := seqKeepsRow.holds Try.pinned (OpenSpec.ofChange seqKeepsSpec)

/-- ITS FALSE NEIGHBOUR: 'it returns false'. Refute it at one input. -/
def seqKeepsWrong : ChangeSpec := { name := "seqKeeps", fn := fun _ => fun
  | [d1, d2, d3] => { results := [.lit (.bool false)], args := [d1, d2, d3] }
  | _ => none }
def SeqKeepsWrongFalsely : Prop := seqKeepsRow.holds Try.pinned (OpenSpec.ofChange seqKeepsWrong)

/- THE SECOND FORM. 'bulk': how many values and letters a reading holds, each counted each time it is reached (what is shared counts as often as it is met; a slice's spare places count too). A statement '..UptoSaid' is the law's where the arguments, and the package variables that the reading takes, are together of bulk at most 1048576: NARROWER than '..Said'. Prove '..Said' where nothing that the law and all that it calls make is longer than what came in: it says more and counts as full. Else prove '..UptoSaid'. A law counts once. -/
mutual
def uptoBulk {H : Type} : DataW H → Nat
  | .lit (.string bytes) => bytes.length + 1
  | .lit _ => 1
  | .nil => 1
  | .ptr d => uptoBulk d + 1
  | .slice elems spare => uptoBulkAll elems + uptoBulkAll spare + 1
  | .agg parts => uptoBulkAll parts + 1
  | .iface _ d => uptoBulk d + 1
  | .map entries => uptoBulkEntries entries + 1
  | .held _ => 1
def uptoBulkAll {H : Type} : List (DataW H) → Nat
  | [] => 0
  | d :: r => uptoBulk d + uptoBulkAll r
def uptoBulkEntries {H : Type} : List (Lit × DataW H) → Nat
  | [] => 0
  | x :: r => uptoBulkEntry x + uptoBulkEntries r
def uptoBulkEntry {H : Type} : Lit × DataW H → Nat
  | (.string bytes, d) => bytes.length + uptoBulk d + 1
  | (_, d) => uptoBulk d + 1
 end
def uptoSmall : (H : Type) → List (DataW H) → Bool := fun _ ds => decide (uptoBulkAll ds ≤ 1048576)
def OpenSpec.upto (s : _root_.Go.ChangeSpec) : _root_.Go.OpenSpec := { _root_.Go.OpenSpec.ofChange s with cond := some uptoSmall }

/-- 'espalierlaw14.TypesMix', WHERE WHAT IT READS IS OF BULK AT MOST 1048576: true; the input reads as it did. -/
def typesMixUptoRow : OpenClaim := { program := "ytpnlhkpibgngbaa", sum := "c090c176901af5c30bc27fa8abea50b732395918d3d42bb50f56db7c87efc0de", func := "espalier/espalierlaw14.TypesMix", spec := "typesMix", apart := false, narrowed := true }
def TypesMixUptoSaid : Prop := typesMixUptoRow.holds Try.pinned (OpenSpec.upto typesMixSpec)

/-- 'espalierlaw14.TypesEven', WHERE WHAT IT READS IS OF BULK AT MOST 1048576: true; the input reads as it did. -/
def typesEvenUptoRow : OpenClaim := { program := "ytpnlhkpibgngbaa", sum := "c090c176901af5c30bc27fa8abea50b732395918d3d42bb50f56db7c87efc0de", func := "espalier/espalierlaw14.TypesEven", spec := "typesEven", apart := false, narrowed := true }
def TypesEvenUptoSaid : Prop := typesEvenUptoRow.holds Try.pinned (OpenSpec.upto typesEvenSpec)

/-- 'espalierlaw18.SeqCuts', WHERE WHAT IT READS IS OF BULK AT MOST 1048576: true; the input reads as it did. -/
def seqCutsUptoRow : OpenClaim := { program := "ytpnlhkpibgngbaa", sum := "c090c176901af5c30bc27fa8abea50b732395918d3d42bb50f56db7c87efc0de", func := "espalier/espalierlaw18.SeqCuts", spec := "seqCuts", inPlace := ["slices.overlaps[int]"], apart := false, narrowed := true }
def SeqCutsUptoSaid : Prop := seqCutsUptoRow.holds Try.pinned (OpenSpec.upto seqCutsSpec)

/-- 'espalierlaw18.SeqBack', WHERE WHAT IT READS IS OF BULK AT MOST 1048576: true; the input reads as it did. -/
def seqBackUptoRow : OpenClaim := { program := "ytpnlhkpibgngbaa", sum := "c090c176901af5c30bc27fa8abea50b732395918d3d42bb50f56db7c87efc0de", func := "espalier/espalierlaw18.SeqBack", spec := "seqBack", inPlace := ["slices.overlaps[int]"], apart := false, narrowed := true }
def SeqBackUptoSaid : Prop := seqBackUptoRow.holds Try.pinned (OpenSpec.upto seqBackSpec)

/-- 'espalierlaw18.SeqOrders', WHERE WHAT IT READS IS OF BULK AT MOST 1048576: true; the input reads as it did. -/
def seqOrdersUptoRow : OpenClaim := { program := "ytpnlhkpibgngbaa", sum := "c090c176901af5c30bc27fa8abea50b732395918d3d42bb50f56db7c87efc0de", func := "espalier/espalierlaw18.SeqOrders", spec := "seqOrders", inPlace := ["slices.overlaps[int]"], unfollowed := true, recurses := true, apart := false, narrowed := true }
def SeqOrdersUptoSaid : Prop := seqOrdersUptoRow.holds Try.pinned (OpenSpec.upto seqOrdersSpec)

/-- 'espalierlaw18.SeqKeeps', WHERE WHAT IT READS IS OF BULK AT MOST 1048576: true; the input reads as it did. -/
def seqKeepsUptoRow : OpenClaim := { program := "ytpnlhkpibgngbaa", sum := "c090c176901af5c30bc27fa8abea50b732395918d3d42bb50f56db7c87efc0de", func := "espalier/espalierlaw18.SeqKeeps", spec := "seqKeeps", inPlace := ["slices.overlaps[int]"], unfollowed := true, recurses := true, apart := false, narrowed := true }
def SeqKeepsUptoSaid : Prop := seqKeepsUptoRow.holds Try.pinned (OpenSpec.upto seqKeepsSpec)

end Rows
end Go.Proofs.Ytpnlhkpibgngbaa
