/- The closed facts of the row Rows.libEndsRow, one by one. -/
import Derived.Test.YtfagfkfcokmclaaGreatDoorRows
import Derived.Test.YtfagfkfcokmclaaGreatDoorProg
import Derived.JoinedCond
import Derived.ProofKit
namespace Go.Proofs.YtfagfkfcokmclaaGreatDoor.libEnds
set_option maxRecDepth 100000 in
theorem k0 : (Rows.libEndsRow.wf (OpenSpec.ofChange (OpenSpec.ofChange Rows.libEndsSpec).bare)) = true := by kernel_rfl
set_option maxRecDepth 100000 in
theorem k1 : (laidOutB Tryz.prog) = true := by kernel_rfl
set_option maxRecDepth 100000 in
theorem k2 : (mapsRowed Tryz.prog) = true := by kernel_rfl
set_option maxRecDepth 100000 in
theorem k3 : (Tryz.f4.params.all (Tryz.prog.readableRec ·)) = true := by kernel_rfl
set_option maxRecDepth 100000 in
theorem k4 : (namedTie Tryz.prog Rows.libEndsRow.named ((OpenSpec.ofChange Rows.libEndsSpec).bare).vars) = true := by kernel_rfl
set_option maxRecDepth 100000 in
theorem k5 : ((Rows.libEndsRow.stops == [])) = true := by kernel_rfl
set_option maxRecDepth 100000 in
theorem k6 : ((Tryz.prog.stops == [])) = true := by kernel_rfl
set_option maxRecDepth 100000 in
theorem k7 : ((Rows.libEndsRow.knobs == [])) = true := by kernel_rfl
set_option maxRecDepth 100000 in
theorem k8 : ((Tryz.prog.stopKnobs == [])) = true := by kernel_rfl
set_option maxRecDepth 100000 in
theorem k9 : ((Rows.libEndsRow.inPlace == Tryz.prog.inPlace 4)) = true := by kernel_rfl
set_option maxRecDepth 100000 in
theorem k10 : ((Rows.libEndsRow.unfollowed == Tryz.prog.unfollowed 4)) = true := by kernel_rfl
set_option maxRecDepth 100000 in
theorem k11 : ((Rows.libEndsRow.recurses == Tryz.prog.recurses 4)) = true := by kernel_rfl
set_option maxRecDepth 100000 in
theorem k12 : ((Rows.libEndsRow.named == Tryz.prog.varsNamed 4)) = true := by kernel_rfl
set_option maxRecDepth 100000 in
theorem k13 : ((Rows.libEndsRow.maps == (Tryz.f4.params.toList ++ ((OpenSpec.ofChange Rows.libEndsSpec).bare).plain.varTypes Tryz.prog).any (Tryz.prog.mapsRec ·))) = true := by kernel_rfl
set_option maxRecDepth 100000 in
theorem k14 : ((Rows.libEndsRow.ifaces == (Tryz.f4.params.toList ++ ((OpenSpec.ofChange Rows.libEndsSpec).bare).plain.varTypes Tryz.prog).any (Tryz.prog.ifacesRec ·))) = true := by kernel_rfl
set_option maxRecDepth 100000 in
theorem k15 : ((Rows.libEndsRow.mapsOut == Tryz.prog.mapsAmong Tryz.f4.resultTypes.toList)) = true := by kernel_rfl
set_option maxRecDepth 100000 in
theorem k16 : ((Rows.libEndsRow.loops == (Tryz.f4.params.toList ++ ((OpenSpec.ofChange Rows.libEndsSpec).bare).plain.varTypes Tryz.prog).any (Tryz.prog.loopsFrom ·))) = true := by kernel_rfl
set_option maxRecDepth 100000 in
theorem k17 : ((Rows.libEndsRow.wideKeys == (Tryz.f4.params.toList ++ ((OpenSpec.ofChange Rows.libEndsSpec).bare).plain.varTypes Tryz.prog ++ Tryz.f4.resultTypes.toList).any (Tryz.prog.wideKeysFrom ·))) = true := by kernel_rfl
set_option maxRecDepth 100000 in
theorem k18 : (((OpenSpec.ofChange Rows.libEndsSpec).bare).vars.all (Tryz.prog.varReadable ·)) = true := by kernel_rfl
set_option maxRecDepth 100000 in
theorem k19 : (Tryz.f4.resultTypes.all (fun t => Tryz.prog.readableRec t && decide (t < Tryz.prog.types.size))) = true := by kernel_rfl
set_option maxRecDepth 100000 in
theorem k20 : ((Rows.libEndsRow.ifacesOut == Tryz.f4.resultTypes.toList.any (Tryz.prog.ifacesRec ·))) = true := by kernel_rfl
set_option maxRecDepth 100000 in
theorem k21 : ((Rows.libEndsRow.loopsOut == Tryz.f4.resultTypes.toList.any (Tryz.prog.loopsFrom ·))) = true := by kernel_rfl
set_option maxRecDepth 100000 in
theorem k22 : ((Rows.libEndsRow.plainKeys == Tryz.prog.plainKeys)) = true := by kernel_rfl
set_option maxRecDepth 100000 in
theorem k23 : (Rows.libEndsRow.shortTexts.isNone) = true := by kernel_rfl
set_option maxRecDepth 100000 in
theorem k24 : (Tryz.prog.stopsHeard) = true := by kernel_rfl
set_option maxRecDepth 100000 in
theorem k25 : (Tryz.prog.mayEnter) = true := by kernel_rfl
set_option maxRecDepth 100000 in
theorem k26 : ((Rows.libEndsRow.lifted == Tryz.prog.liftsFinal)) = true := by kernel_rfl
set_option maxRecDepth 100000 in
theorem k27 : ((Tryz.prog.make == some Rows.libEndsRow.make)) = true := by kernel_rfl
set_option maxRecDepth 100000 in
theorem k28 : ((Rows.libEndsRow.kinds == (if Rows.libEndsRow.domain.isEmpty then [] else Tryz.f4.params.toList.map fun t => match Tryz.prog.underlying t with | some (.int k) => some k | _ => none))) = true := by kernel_rfl
set_option maxRecDepth 100000 in
theorem k29 : ((Rows.libEndsRow.pinned == Rows.libEndsRow.pinnedBy)) = true := by kernel_rfl
set_option maxRecDepth 100000 in
theorem k30 : ((Rows.libEndsRow.veiled == (Tryz.f4.params.toList ++ ((OpenSpec.ofChange Rows.libEndsSpec).bare).plain.varTypes Tryz.prog ++ Tryz.f4.resultTypes.toList).any (Tryz.prog.veiledRec ·))) = true := by kernel_rfl
set_option maxRecDepth 100000 in
theorem k31 : (Rows.libEndsRow.veiledFits Tryz.prog Tryz.f4.params.toList (Tryz.f4.params.toList ++ ((OpenSpec.ofChange Rows.libEndsSpec).bare).plain.varTypes Tryz.prog ++ Tryz.f4.resultTypes.toList)) = true := by kernel_rfl
set_option maxRecDepth 1000000 in
theorem closed : joinedFacts Tryz.prog 4 Tryz.f4 (OpenSpec.ofChange Rows.libEndsSpec).bare Rows.libEndsRow = true := by
  unfold joinedFacts
  simp only [Bool.and_eq_true]
  exact ⟨⟨⟨⟨⟨⟨⟨⟨⟨⟨⟨⟨⟨⟨⟨⟨⟨⟨⟨⟨⟨⟨⟨⟨⟨⟨⟨⟨⟨⟨⟨k0, k1⟩, k2⟩, k3⟩, k4⟩, k5⟩, k6⟩, k7⟩, k8⟩, k9⟩, k10⟩, k11⟩, k12⟩, k13⟩, k14⟩, k15⟩, k16⟩, k17⟩, k18⟩, k19⟩, k20⟩, k21⟩, k22⟩, k23⟩, k24⟩, k25⟩, k26⟩, k27⟩, k28⟩, k29⟩, k30⟩, k31⟩
end Go.Proofs.YtfagfkfcokmclaaGreatDoor.libEnds
