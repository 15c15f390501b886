/-
  Facts of the row of TopFlat.
-/
import Derived.Test.YtnogfelfgclajaaGreatDoorRows
import Derived.Stop.Joined
import Derived.JoinedOf
import Derived.ProofKit
import Derived.Test.YtnogfelfgclajaaGreatDoorCards
import Derived.SevenTiedAt
section
namespace Go.Proofs.YtnogfelfgclajaaGreatDoor
set_option maxRecDepth 100000
theorem flat_k1 : (Rows.topFlatRow.wf (OpenSpec.ofChange Rows.topFlatSpec)) = true := by kernel_rfl
theorem flat_k2 : (laidOutB Tryz.prog) = true := by kernel_rfl
theorem flat_k3 : (mapsRowed Tryz.prog) = true := by kernel_rfl
theorem flat_k4 : (Tryz.f3.params.all (Tryz.prog.readableRec ·)) = true := by kernel_rfl
theorem flat_k5 : (namedTie Tryz.prog Rows.topFlatRow.named Rows.topFlatSpec.vars) = true := by kernel_rfl
theorem flat_k6 : ((Rows.topFlatRow.stops == [])) = true := by kernel_rfl
theorem flat_k7 : ((Tryz.prog.stops == [])) = true := by kernel_rfl
theorem flat_k8 : ((Rows.topFlatRow.knobs == [])) = true := by kernel_rfl
theorem flat_k9 : ((Tryz.prog.stopKnobs == [])) = true := by kernel_rfl
theorem flat_k10 : ((Rows.topFlatRow.inPlace == Tryz.prog.inPlace 3)) = true := by kernel_rfl
theorem flat_k11 : ((Rows.topFlatRow.unfollowed == Tryz.prog.unfollowed 3)) = true := by kernel_rfl
theorem flat_k12 : ((Rows.topFlatRow.recurses == Tryz.prog.recurses 3)) = true := by kernel_rfl
theorem flat_k13 : ((Rows.topFlatRow.named == Tryz.prog.varsNamed 3)) = true := by kernel_rfl
theorem flat_k14 : ((Rows.topFlatRow.maps == (Tryz.f3.params.toList ++ Rows.topFlatSpec.plain.varTypes Tryz.prog).any (Tryz.prog.mapsRec ·))) = true := by kernel_rfl
theorem flat_k15 : ((Rows.topFlatRow.ifaces == (Tryz.f3.params.toList ++ Rows.topFlatSpec.plain.varTypes Tryz.prog).any (Tryz.prog.ifacesRec ·))) = true := by kernel_rfl
theorem flat_k16 : ((Rows.topFlatRow.mapsOut == Tryz.prog.mapsAmong Tryz.f3.resultTypes.toList)) = true := by kernel_rfl
theorem flat_k17 : ((Rows.topFlatRow.loops == (Tryz.f3.params.toList ++ Rows.topFlatSpec.plain.varTypes Tryz.prog).any (Tryz.prog.loopsFrom ·))) = true := by kernel_rfl
theorem flat_k18 : ((Rows.topFlatRow.wideKeys == (Tryz.f3.params.toList ++ Rows.topFlatSpec.plain.varTypes Tryz.prog ++ Tryz.f3.resultTypes.toList).any (Tryz.prog.wideKeysFrom ·))) = true := by kernel_rfl
theorem flat_k19 : (Rows.topFlatSpec.vars.all (Tryz.prog.varReadable ·)) = true := by kernel_rfl
theorem flat_k20 : (Tryz.f3.resultTypes.all (fun t => Tryz.prog.readableRec t && decide (t < Tryz.prog.types.size))) = true := by kernel_rfl
theorem flat_k21 : ((Rows.topFlatRow.ifacesOut == Tryz.f3.resultTypes.toList.any (Tryz.prog.ifacesRec ·))) = true := by kernel_rfl
theorem flat_k22 : ((Rows.topFlatRow.loopsOut == Tryz.f3.resultTypes.toList.any (Tryz.prog.loopsFrom ·))) = true := by kernel_rfl
theorem flat_k23 : ((Rows.topFlatRow.plainKeys == Tryz.prog.plainKeys)) = true := by kernel_rfl
theorem flat_k24 : (Rows.topFlatRow.shortTexts.isNone) = true := by kernel_rfl
theorem flat_k25 : (Tryz.prog.stopsHeard) = true := by kernel_rfl
theorem flat_k26 : (Tryz.prog.mayEnter) = true := by kernel_rfl
theorem flat_k27 : ((Rows.topFlatRow.lifted == Tryz.prog.liftsFinal)) = true := by kernel_rfl
theorem flat_k28 : ((Tryz.prog.make == some Rows.topFlatRow.make)) = true := by kernel_rfl
theorem flat_k29 : ((Rows.topFlatRow.kinds == (if Rows.topFlatRow.domain.isEmpty then [] else Tryz.f3.params.toList.map fun t => match Tryz.prog.underlying t with | some (.int k) => some k | _ => none))) = true := by kernel_rfl
theorem flat_k30 : ((Rows.topFlatRow.pinned == Rows.topFlatRow.pinnedBy)) = true := by kernel_rfl
theorem flat_k31 : ((Rows.topFlatRow.veiled == (Tryz.f3.params.toList ++ Rows.topFlatSpec.plain.varTypes Tryz.prog ++ Tryz.f3.resultTypes.toList).any (Tryz.prog.veiledRec ·))) = true := by kernel_rfl
theorem flat_k32 : (Rows.topFlatRow.veiledFits Tryz.prog Tryz.f3.params.toList (Tryz.f3.params.toList ++ Rows.topFlatSpec.plain.varTypes Tryz.prog ++ Tryz.f3.resultTypes.toList)) = true := by kernel_rfl
theorem flat_funcNamed : Tryz.prog.funcNamed "breccia/brecciatop.TopFlat" = some 3 := by kernel_rfl
theorem flat_joined : joinedFacts Tryz.prog 3 Tryz.f3 Rows.topFlatSpec Rows.topFlatRow = true := by
  simp only [joinedFacts, Bool.and_eq_true]
  exact ⟨⟨⟨⟨⟨⟨⟨⟨⟨⟨⟨⟨⟨⟨⟨⟨⟨⟨⟨⟨⟨⟨⟨⟨⟨⟨⟨⟨⟨⟨⟨flat_k1, flat_k2⟩, flat_k3⟩, flat_k4⟩, flat_k5⟩, flat_k6⟩, flat_k7⟩, flat_k8⟩, flat_k9⟩, flat_k10⟩, flat_k11⟩, flat_k12⟩, flat_k13⟩, flat_k14⟩, flat_k15⟩, flat_k16⟩, flat_k17⟩, flat_k18⟩, flat_k19⟩, flat_k20⟩, flat_k21⟩, flat_k22⟩, flat_k23⟩, flat_k24⟩, flat_k25⟩, flat_k26⟩, flat_k27⟩, flat_k28⟩, flat_k29⟩, flat_k30⟩, flat_k31⟩, flat_k32⟩
theorem flat_instance : Tryz.f3.isInstance Tryz.prog Rows.topFlatRow.origin Rows.topFlatRow.targs := of_decide_eq_true (by kernel_rfl)
theorem flat_wrapper : Tryz.f3.isWrapper Tryz.prog Rows.topFlatRow.wrapper Rows.topFlatRow.mainSum := by
  unfold Func.isWrapper
  first | (rw [if_pos (by decide +kernel)]; kernel_rfl) | (rw [if_neg (by decide +kernel)]; exact ⟨rfl, rfl⟩)
theorem flat_byText : Rows.topFlatRow.wfByText (OpenSpec.ofChange Rows.topFlatSpec) = true := by kernel_rfl
theorem flat_main : Tryz.prog.mainIs = some ((true, "5d848ccf4afb3bf60006bc4f4488c6a24632bfd365d62e3cee8a26fe60e604f2").1, (true, "5d848ccf4afb3bf60006bc4f4488c6a24632bfd365d62e3cee8a26fe60e604f2").2.toList) := by kernel_rfl
theorem flat_looks : true = Tryz.prog.looks [] := by kernel_rfl
theorem flat_goes : false = Rows.topFlatRow.goesBy Tryz.prog := by kernel_rfl
theorem flat_stand : ([3, 22, 23, 3].all fun u => !Tryz.prog.wantsStandIn u) = true := by kernel_rfl
end Go.Proofs.YtnogfelfgclajaaGreatDoor
end
