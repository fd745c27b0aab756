/- The closed facts of the row Rows.libTextsRow, one by one. -/
import Derived.Test.YtfagfkfcokmclaaGreatDoorRows
import Derived.Test.YtfagfkfcokmclaaGreatDoorProg
import Derived.JoinedCond
import Derived.ProofKit
namespace Go.Proofs.YtfagfkfcokmclaaGreatDoor.libTexts
set_option maxRecDepth 100000 in
theorem k0 : (Rows.libTextsRow.wf (OpenSpec.ofChange (OpenSpec.ofChange Rows.libTextsSpec).bare)) = true := by kernel_rfl
set_option maxRecDepth 100000 in
theorem k1 : (laidOutB Tryz.prog) = true := by kernel_rfl
set_option maxRecDepth 100000 in
theorem k2 : (mapsRowed Tryz.prog) = true := by kernel_rfl
set_option maxRecDepth 100000 in
theorem k3 : (Tryz.f5.params.all (Tryz.prog.readableRec ·)) = true := by kernel_rfl
set_option maxRecDepth 100000 in
theorem k4 : (namedTie Tryz.prog Rows.libTextsRow.named ((OpenSpec.ofChange Rows.libTextsSpec).bare).vars) = true := by kernel_rfl
set_option maxRecDepth 100000 in
theorem k5 : ((Rows.libTextsRow.stops == [])) = true := by kernel_rfl
set_option maxRecDepth 100000 in
theorem k6 : ((Tryz.prog.stops == [])) = true := by kernel_rfl
set_option maxRecDepth 100000 in
theorem k7 : ((Rows.libTextsRow.knobs == [])) = true := by kernel_rfl
set_option maxRecDepth 100000 in
theorem k8 : ((Tryz.prog.stopKnobs == [])) = true := by kernel_rfl
set_option maxRecDepth 100000 in
theorem k9 : ((Rows.libTextsRow.inPlace == Tryz.prog.inPlace 5)) = true := by kernel_rfl
set_option maxRecDepth 100000 in
theorem k10 : ((Rows.libTextsRow.unfollowed == Tryz.prog.unfollowed 5)) = true := by kernel_rfl
set_option maxRecDepth 100000 in
theorem k11 : ((Rows.libTextsRow.recurses == Tryz.prog.recurses 5)) = true := by kernel_rfl
set_option maxRecDepth 100000 in
theorem k12 : ((Rows.libTextsRow.named == Tryz.prog.varsNamed 5)) = true := by kernel_rfl
set_option maxRecDepth 100000 in
theorem k13 : ((Rows.libTextsRow.maps == (Tryz.f5.params.toList ++ ((OpenSpec.ofChange Rows.libTextsSpec).bare).plain.varTypes Tryz.prog).any (Tryz.prog.mapsRec ·))) = true := by kernel_rfl
set_option maxRecDepth 100000 in
theorem k14 : ((Rows.libTextsRow.ifaces == (Tryz.f5.params.toList ++ ((OpenSpec.ofChange Rows.libTextsSpec).bare).plain.varTypes Tryz.prog).any (Tryz.prog.ifacesRec ·))) = true := by kernel_rfl
set_option maxRecDepth 100000 in
theorem k15 : ((Rows.libTextsRow.mapsOut == Tryz.prog.mapsAmong Tryz.f5.resultTypes.toList)) = true := by kernel_rfl
set_option maxRecDepth 100000 in
theorem k16 : ((Rows.libTextsRow.loops == (Tryz.f5.params.toList ++ ((OpenSpec.ofChange Rows.libTextsSpec).bare).plain.varTypes Tryz.prog).any (Tryz.prog.loopsFrom ·))) = true := by kernel_rfl
set_option maxRecDepth 100000 in
theorem k17 : ((Rows.libTextsRow.wideKeys == (Tryz.f5.params.toList ++ ((OpenSpec.ofChange Rows.libTextsSpec).bare).plain.varTypes Tryz.prog ++ Tryz.f5.resultTypes.toList).any (Tryz.prog.wideKeysFrom ·))) = true := by kernel_rfl
set_option maxRecDepth 100000 in
theorem k18 : (((OpenSpec.ofChange Rows.libTextsSpec).bare).vars.all (Tryz.prog.varReadable ·)) = true := by kernel_rfl
set_option maxRecDepth 100000 in
theorem k19 : (Tryz.f5.resultTypes.all (fun t => Tryz.prog.readableRec t && decide (t < Tryz.prog.types.size))) = true := by kernel_rfl
set_option maxRecDepth 100000 in
theorem k20 : ((Rows.libTextsRow.ifacesOut == Tryz.f5.resultTypes.toList.any (Tryz.prog.ifacesRec ·))) = true := by kernel_rfl
set_option maxRecDepth 100000 in
theorem k21 : ((Rows.libTextsRow.loopsOut == Tryz.f5.resultTypes.toList.any (Tryz.prog.loopsFrom ·))) = true := by kernel_rfl
set_option maxRecDepth 100000 in
theorem k22 : ((Rows.libTextsRow.plainKeys == Tryz.prog.plainKeys)) = true := by kernel_rfl
set_option maxRecDepth 100000 in
theorem k23 : (Rows.libTextsRow.shortTexts.isNone) = true := by kernel_rfl
set_option maxRecDepth 100000 in
theorem k24 : (Tryz.prog.stopsHeard) = true := by kernel_rfl
set_option maxRecDepth 100000 in
theorem k25 : (Tryz.prog.mayEnter) = true := by kernel_rfl
set_option maxRecDepth 100000 in
theorem k26 : ((Rows.libTextsRow.lifted == Tryz.prog.liftsFinal)) = true := by kernel_rfl
set_option maxRecDepth 100000 in
theorem k27 : ((Tryz.prog.make == some Rows.libTextsRow.make)) = true := by kernel_rfl
set_option maxRecDepth 100000 in
theorem k28 : ((Rows.libTextsRow.kinds == (if Rows.libTextsRow.domain.isEmpty then [] else Tryz.f5.params.toList.map fun t => match Tryz.prog.underlying t with | some (.int k) => some k | _ => none))) = true := by kernel_rfl
set_option maxRecDepth 100000 in
theorem k29 : ((Rows.libTextsRow.pinned == Rows.libTextsRow.pinnedBy)) = true := by kernel_rfl
set_option maxRecDepth 100000 in
theorem k30 : ((Rows.libTextsRow.veiled == (Tryz.f5.params.toList ++ ((OpenSpec.ofChange Rows.libTextsSpec).bare).plain.varTypes Tryz.prog ++ Tryz.f5.resultTypes.toList).any (Tryz.prog.veiledRec ·))) = true := by kernel_rfl
set_option maxRecDepth 100000 in
theorem k31 : (Rows.libTextsRow.veiledFits Tryz.prog Tryz.f5.params.toList (Tryz.f5.params.toList ++ ((OpenSpec.ofChange Rows.libTextsSpec).bare).plain.varTypes Tryz.prog ++ Tryz.f5.resultTypes.toList)) = true := by kernel_rfl
set_option maxRecDepth 1000000 in
theorem closed : joinedFacts Tryz.prog 5 Tryz.f5 (OpenSpec.ofChange Rows.libTextsSpec).bare Rows.libTextsRow = true := by
  unfold joinedFacts
  simp only [Bool.and_eq_true]
  exact ⟨⟨⟨⟨⟨⟨⟨⟨⟨⟨⟨⟨⟨⟨⟨⟨⟨⟨⟨⟨⟨⟨⟨⟨⟨⟨⟨⟨⟨⟨⟨k0, k1⟩, k2⟩, k3⟩, k4⟩, k5⟩, k6⟩, k7⟩, k8⟩, k9⟩, k10⟩, k11⟩, k12⟩, k13⟩, k14⟩, k15⟩, k16⟩, k17⟩, k18⟩, k19⟩, k20⟩, k21⟩, k22⟩, k23⟩, k24⟩, k25⟩, k26⟩, k27⟩, k28⟩, k29⟩, k30⟩, k31⟩
end Go.Proofs.YtfagfkfcokmclaaGreatDoor.libTexts
