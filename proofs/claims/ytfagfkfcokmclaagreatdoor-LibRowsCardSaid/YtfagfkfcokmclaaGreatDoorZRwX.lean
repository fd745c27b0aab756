/- The closed facts of the row Rows.libRowsRow, one by one. -/
import Derived.Test.YtfagfkfcokmclaaGreatDoorRows
import Derived.Test.YtfagfkfcokmclaaGreatDoorProg
import Derived.JoinedCond
import Derived.ProofKit
namespace Go.Proofs.YtfagfkfcokmclaaGreatDoor.libRows
set_option maxRecDepth 100000 in
theorem k0 : (Rows.libRowsRow.wf (OpenSpec.ofChange (OpenSpec.ofChange Rows.libRowsSpec).bare)) = true := by kernel_rfl
set_option maxRecDepth 100000 in
theorem k1 : (laidOutB Tryz.prog) = true := by kernel_rfl
set_option maxRecDepth 100000 in
theorem k2 : (mapsRowed Tryz.prog) = true := by kernel_rfl
set_option maxRecDepth 100000 in
theorem k3 : (Tryz.f6.params.all (Tryz.prog.readableRec ·)) = true := by kernel_rfl
set_option maxRecDepth 100000 in
theorem k4 : (namedTie Tryz.prog Rows.libRowsRow.named ((OpenSpec.ofChange Rows.libRowsSpec).bare).vars) = true := by kernel_rfl
set_option maxRecDepth 100000 in
theorem k5 : ((Rows.libRowsRow.stops == [])) = true := by kernel_rfl
set_option maxRecDepth 100000 in
theorem k6 : ((Tryz.prog.stops == [])) = true := by kernel_rfl
set_option maxRecDepth 100000 in
theorem k7 : ((Rows.libRowsRow.knobs == [])) = true := by kernel_rfl
set_option maxRecDepth 100000 in
theorem k8 : ((Tryz.prog.stopKnobs == [])) = true := by kernel_rfl
set_option maxRecDepth 100000 in
theorem k9 : ((Rows.libRowsRow.inPlace == Tryz.prog.inPlace 6)) = true := by kernel_rfl
set_option maxRecDepth 100000 in
theorem k10 : ((Rows.libRowsRow.unfollowed == Tryz.prog.unfollowed 6)) = true := by kernel_rfl
set_option maxRecDepth 100000 in
theorem k11 : ((Rows.libRowsRow.recurses == Tryz.prog.recurses 6)) = true := by kernel_rfl
set_option maxRecDepth 100000 in
theorem k12 : ((Rows.libRowsRow.named == Tryz.prog.varsNamed 6)) = true := by kernel_rfl
set_option maxRecDepth 100000 in
theorem k13 : ((Rows.libRowsRow.maps == (Tryz.f6.params.toList ++ ((OpenSpec.ofChange Rows.libRowsSpec).bare).plain.varTypes Tryz.prog).any (Tryz.prog.mapsRec ·))) = true := by kernel_rfl
set_option maxRecDepth 100000 in
theorem k14 : ((Rows.libRowsRow.ifaces == (Tryz.f6.params.toList ++ ((OpenSpec.ofChange Rows.libRowsSpec).bare).plain.varTypes Tryz.prog).any (Tryz.prog.ifacesRec ·))) = true := by kernel_rfl
set_option maxRecDepth 100000 in
theorem k15 : ((Rows.libRowsRow.mapsOut == Tryz.prog.mapsAmong Tryz.f6.resultTypes.toList)) = true := by kernel_rfl
set_option maxRecDepth 100000 in
theorem k16 : ((Rows.libRowsRow.loops == (Tryz.f6.params.toList ++ ((OpenSpec.ofChange Rows.libRowsSpec).bare).plain.varTypes Tryz.prog).any (Tryz.prog.loopsFrom ·))) = true := by kernel_rfl
set_option maxRecDepth 100000 in
theorem k17 : ((Rows.libRowsRow.wideKeys == (Tryz.f6.params.toList ++ ((OpenSpec.ofChange Rows.libRowsSpec).bare).plain.varTypes Tryz.prog ++ Tryz.f6.resultTypes.toList).any (Tryz.prog.wideKeysFrom ·))) = true := by kernel_rfl
set_option maxRecDepth 100000 in
theorem k18 : (((OpenSpec.ofChange Rows.libRowsSpec).bare).vars.all (Tryz.prog.varReadable ·)) = true := by kernel_rfl
set_option maxRecDepth 100000 in
theorem k19 : (Tryz.f6.resultTypes.all (fun t => Tryz.prog.readableRec t && decide (t < Tryz.prog.types.size))) = true := by kernel_rfl
set_option maxRecDepth 100000 in
theorem k20 : ((Rows.libRowsRow.ifacesOut == Tryz.f6.resultTypes.toList.any (Tryz.prog.ifacesRec ·))) = true := by kernel_rfl
set_option maxRecDepth 100000 in
theorem k21 : ((Rows.libRowsRow.loopsOut == Tryz.f6.resultTypes.toList.any (Tryz.prog.loopsFrom ·))) = true := by kernel_rfl
set_option maxRecDepth 100000 in
theorem k22 : ((Rows.libRowsRow.plainKeys == Tryz.prog.plainKeys)) = true := by kernel_rfl
set_option maxRecDepth 100000 in
theorem k23 : (Rows.libRowsRow.shortTexts.isNone) = true := by kernel_rfl
set_option maxRecDepth 100000 in
theorem k24 : (Tryz.prog.stopsHeard) = true := by kernel_rfl
set_option maxRecDepth 100000 in
theorem k25 : (Tryz.prog.mayEnter) = true := by kernel_rfl
set_option maxRecDepth 100000 in
theorem k26 : ((Rows.libRowsRow.lifted == Tryz.prog.liftsFinal)) = true := by kernel_rfl
set_option maxRecDepth 100000 in
theorem k27 : ((Tryz.prog.make == some Rows.libRowsRow.make)) = true := by kernel_rfl
set_option maxRecDepth 100000 in
theorem k28 : ((Rows.libRowsRow.kinds == (if Rows.libRowsRow.domain.isEmpty then [] else Tryz.f6.params.toList.map fun t => match Tryz.prog.underlying t with | some (.int k) => some k | _ => none))) = true := by kernel_rfl
set_option maxRecDepth 100000 in
theorem k29 : ((Rows.libRowsRow.pinned == Rows.libRowsRow.pinnedBy)) = true := by kernel_rfl
set_option maxRecDepth 100000 in
theorem k30 : ((Rows.libRowsRow.veiled == (Tryz.f6.params.toList ++ ((OpenSpec.ofChange Rows.libRowsSpec).bare).plain.varTypes Tryz.prog ++ Tryz.f6.resultTypes.toList).any (Tryz.prog.veiledRec ·))) = true := by kernel_rfl
set_option maxRecDepth 100000 in
theorem k31 : (Rows.libRowsRow.veiledFits Tryz.prog Tryz.f6.params.toList (Tryz.f6.params.toList ++ ((OpenSpec.ofChange Rows.libRowsSpec).bare).plain.varTypes Tryz.prog ++ Tryz.f6.resultTypes.toList)) = true := by kernel_rfl
set_option maxRecDepth 1000000 in
theorem closed : joinedFacts Tryz.prog 6 Tryz.f6 (OpenSpec.ofChange Rows.libRowsSpec).bare Rows.libRowsRow = true := by
  unfold joinedFacts
  simp only [Bool.and_eq_true]
  exact ⟨⟨⟨⟨⟨⟨⟨⟨⟨⟨⟨⟨⟨⟨⟨⟨⟨⟨⟨⟨⟨⟨⟨⟨⟨⟨⟨⟨⟨⟨⟨k0, k1⟩, k2⟩, k3⟩, k4⟩, k5⟩, k6⟩, k7⟩, k8⟩, k9⟩, k10⟩, k11⟩, k12⟩, k13⟩, k14⟩, k15⟩, k16⟩, k17⟩, k18⟩, k19⟩, k20⟩, k21⟩, k22⟩, k23⟩, k24⟩, k25⟩, k26⟩, k27⟩, k28⟩, k29⟩, k30⟩, k31⟩
end Go.Proofs.YtfagfkfcokmclaaGreatDoor.libRows
