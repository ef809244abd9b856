/- Closed facts on the program's form and the row. -/
import Derived.Test.YtaimmacnafoanaaGreatDoorHeads
import Derived.Test.YtaimmacnafoanaaGreatDoorCards
import Derived.ProofKit
import Derived.OpenShut
namespace Go.Proofs.YtaimmacnafoanaaGreatDoor.topBound
set_option maxRecDepth 100000
theorem k00 : (Rows.topBoundUptoRow.wf (OpenSpec.ofChange (Rows.OpenSpec.upto Rows.topBoundSpec).bare)) = true := by kernel_rfl
theorem k01 : (laidOutB Tryz.pinned.checked.prog) = true := by kernel_rfl
theorem k02 : (mapsRowed Tryz.pinned.checked.prog) = true := by kernel_rfl
theorem k03 : (Tryz.f4.params.all (Tryz.pinned.checked.prog.readableRec ·)) = true := by kernel_rfl
theorem k04 : (namedTie Tryz.pinned.checked.prog Rows.topBoundUptoRow.named (Rows.OpenSpec.upto Rows.topBoundSpec).bare.vars) = true := by kernel_rfl
theorem k05 : ((Rows.topBoundUptoRow.stops == [])) = true := by kernel_rfl
theorem k06 : ((Tryz.pinned.checked.prog.stops == [])) = true := by kernel_rfl
theorem k07 : ((Rows.topBoundUptoRow.knobs == [])) = true := by kernel_rfl
theorem k08 : ((Tryz.pinned.checked.prog.stopKnobs == [])) = true := by kernel_rfl
theorem k09 : ((Rows.topBoundUptoRow.inPlace == Tryz.pinned.checked.prog.inPlace 4)) = true := by kernel_rfl
theorem k10 : ((Rows.topBoundUptoRow.unfollowed == Tryz.pinned.checked.prog.unfollowed 4)) = true := by kernel_rfl
theorem k11 : ((Rows.topBoundUptoRow.recurses == Tryz.pinned.checked.prog.recurses 4)) = true := by kernel_rfl
theorem k12 : ((Rows.topBoundUptoRow.named == Tryz.pinned.checked.prog.varsNamed 4)) = true := by kernel_rfl
theorem k13 : ((Rows.topBoundUptoRow.maps == (Tryz.f4.params.toList ++ (Rows.OpenSpec.upto Rows.topBoundSpec).bare.plain.varTypes Tryz.pinned.checked.prog).any (Tryz.pinned.checked.prog.mapsRec ·))) = true := by kernel_rfl
theorem k14 : ((Rows.topBoundUptoRow.ifaces == (Tryz.f4.params.toList ++ (Rows.OpenSpec.upto Rows.topBoundSpec).bare.plain.varTypes Tryz.pinned.checked.prog).any (Tryz.pinned.checked.prog.ifacesRec ·))) = true := by kernel_rfl
theorem k15 : ((Rows.topBoundUptoRow.mapsOut == Tryz.pinned.checked.prog.mapsAmong Tryz.f4.resultTypes.toList)) = true := by kernel_rfl
theorem k16 : ((Rows.topBoundUptoRow.loops == (Tryz.f4.params.toList ++ (Rows.OpenSpec.upto Rows.topBoundSpec).bare.plain.varTypes Tryz.pinned.checked.prog).any (Tryz.pinned.checked.prog.loopsFrom ·))) = true := by kernel_rfl
theorem k17 : ((Rows.topBoundUptoRow.wideKeys == (Tryz.f4.params.toList ++ (Rows.OpenSpec.upto Rows.topBoundSpec).bare.plain.varTypes Tryz.pinned.checked.prog ++ Tryz.f4.resultTypes.toList).any (Tryz.pinned.checked.prog.wideKeysFrom ·))) = true := by kernel_rfl
theorem k18 : ((Rows.OpenSpec.upto Rows.topBoundSpec).bare.vars.all (Tryz.pinned.checked.prog.varReadable ·)) = true := by kernel_rfl
theorem k19 : (Tryz.f4.resultTypes.all (fun t => Tryz.pinned.checked.prog.readableRec t && decide (t < Tryz.pinned.checked.prog.types.size))) = true := by kernel_rfl
theorem k20 : ((Rows.topBoundUptoRow.ifacesOut == Tryz.f4.resultTypes.toList.any (Tryz.pinned.checked.prog.ifacesRec ·))) = true := by kernel_rfl
theorem k21 : ((Rows.topBoundUptoRow.loopsOut == Tryz.f4.resultTypes.toList.any (Tryz.pinned.checked.prog.loopsFrom ·))) = true := by kernel_rfl
theorem k22 : ((Rows.topBoundUptoRow.plainKeys == Tryz.pinned.checked.prog.plainKeys)) = true := by kernel_rfl
theorem k23 : (Rows.topBoundUptoRow.shortTexts.isNone) = true := by kernel_rfl
theorem k24 : (Tryz.pinned.checked.prog.stopsHeard) = true := by kernel_rfl
theorem k25 : ((Rows.topBoundUptoRow.pinned == Rows.topBoundUptoRow.pinnedBy)) = true := by kernel_rfl
theorem k26 : ((Rows.topBoundUptoRow.veiled == (Tryz.f4.params.toList ++ (Rows.OpenSpec.upto Rows.topBoundSpec).bare.plain.varTypes Tryz.pinned.checked.prog ++ Tryz.f4.resultTypes.toList).any (Tryz.pinned.checked.prog.veiledRec ·))) = true := by kernel_rfl
theorem k27 : (Rows.topBoundUptoRow.veiledFits Tryz.pinned.checked.prog Tryz.f4.params.toList (Tryz.f4.params.toList ++ (Rows.OpenSpec.upto Rows.topBoundSpec).bare.plain.varTypes Tryz.pinned.checked.prog ++ Tryz.f4.resultTypes.toList)) = true := by kernel_rfl
theorem looks : true = Tryz.pinned.checked.prog.looks [] := by kernel_rfl
theorem goes : false = Rows.topBoundUptoRow.goesBy Tryz.pinned.checked.prog := by kernel_rfl
end Go.Proofs.YtaimmacnafoanaaGreatDoor.topBound
