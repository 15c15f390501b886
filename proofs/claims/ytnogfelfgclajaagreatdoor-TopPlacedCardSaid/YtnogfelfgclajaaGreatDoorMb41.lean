/-
  Facts of the row of TopPlaced.
-/
import Derived.Test.YtnogfelfgclajaaGreatDoorRows
import Derived.Stop.Joined
import Derived.JoinedOf
import Derived.ProofKit
import Derived.Test.YtnogfelfgclajaaGreatDoorCards
import Derived.SevenTiedAt
section
namespace Go.Proofs.YtnogfelfgclajaaGreatDoor
set_option maxRecDepth 100000
theorem placed_k1 : (Rows.topPlacedRow.wf (OpenSpec.ofChange Rows.topPlacedSpec)) = true := by kernel_rfl
theorem placed_k2 : (laidOutB Tryz.prog) = true := by kernel_rfl
theorem placed_k3 : (mapsRowed Tryz.prog) = true := by kernel_rfl
theorem placed_k4 : (Tryz.f4.params.all (Tryz.prog.readableRec ·)) = true := by kernel_rfl
theorem placed_k5 : (namedTie Tryz.prog Rows.topPlacedRow.named Rows.topPlacedSpec.vars) = true := by kernel_rfl
theorem placed_k6 : ((Rows.topPlacedRow.stops == [])) = true := by kernel_rfl
theorem placed_k7 : ((Tryz.prog.stops == [])) = true := by kernel_rfl
theorem placed_k8 : ((Rows.topPlacedRow.knobs == [])) = true := by kernel_rfl
theorem placed_k9 : ((Tryz.prog.stopKnobs == [])) = true := by kernel_rfl
theorem placed_k10 : ((Rows.topPlacedRow.inPlace == Tryz.prog.inPlace 4)) = true := by kernel_rfl
theorem placed_k11 : ((Rows.topPlacedRow.unfollowed == Tryz.prog.unfollowed 4)) = true := by kernel_rfl
theorem placed_k12 : ((Rows.topPlacedRow.recurses == Tryz.prog.recurses 4)) = true := by kernel_rfl
theorem placed_k13 : ((Rows.topPlacedRow.named == Tryz.prog.varsNamed 4)) = true := by kernel_rfl
theorem placed_k14 : ((Rows.topPlacedRow.maps == (Tryz.f4.params.toList ++ Rows.topPlacedSpec.plain.varTypes Tryz.prog).any (Tryz.prog.mapsRec ·))) = true := by kernel_rfl
theorem placed_k15 : ((Rows.topPlacedRow.ifaces == (Tryz.f4.params.toList ++ Rows.topPlacedSpec.plain.varTypes Tryz.prog).any (Tryz.prog.ifacesRec ·))) = true := by kernel_rfl
theorem placed_k16 : ((Rows.topPlacedRow.mapsOut == Tryz.prog.mapsAmong Tryz.f4.resultTypes.toList)) = true := by kernel_rfl
theorem placed_k17 : ((Rows.topPlacedRow.loops == (Tryz.f4.params.toList ++ Rows.topPlacedSpec.plain.varTypes Tryz.prog).any (Tryz.prog.loopsFrom ·))) = true := by kernel_rfl
theorem placed_k18 : ((Rows.topPlacedRow.wideKeys == (Tryz.f4.params.toList ++ Rows.topPlacedSpec.plain.varTypes Tryz.prog ++ Tryz.f4.resultTypes.toList).any (Tryz.prog.wideKeysFrom ·))) = true := by kernel_rfl
theorem placed_k19 : (Rows.topPlacedSpec.vars.all (Tryz.prog.varReadable ·)) = true := by kernel_rfl
theorem placed_k20 : (Tryz.f4.resultTypes.all (fun t => Tryz.prog.readableRec t && decide (t < Tryz.prog.types.size))) = true := by kernel_rfl
theorem placed_k21 : ((Rows.topPlacedRow.ifacesOut == Tryz.f4.resultTypes.toList.any (Tryz.prog.ifacesRec ·))) = true := by kernel_rfl
theorem placed_k22 : ((Rows.topPlacedRow.loopsOut == Tryz.f4.resultTypes.toList.any (Tryz.prog.loopsFrom ·))) = true := by kernel_rfl
theorem placed_k23 : ((Rows.topPlacedRow.plainKeys == Tryz.prog.plainKeys)) = true := by kernel_rfl
theorem placed_k24 : (Rows.topPlacedRow.shortTexts.isNone) = true := by kernel_rfl
theorem placed_k25 : (Tryz.prog.stopsHeard) = true := by kernel_rfl
theorem placed_k26 : (Tryz.prog.mayEnter) = true := by kernel_rfl
theorem placed_k27 : ((Rows.topPlacedRow.lifted == Tryz.prog.liftsFinal)) = true := by kernel_rfl
theorem placed_k28 : ((Tryz.prog.make == some Rows.topPlacedRow.make)) = true := by kernel_rfl
theorem placed_k29 : ((Rows.topPlacedRow.kinds == (if Rows.topPlacedRow.domain.isEmpty then [] else Tryz.f4.params.toList.map fun t => match Tryz.prog.underlying t with | some (.int k) => some k | _ => none))) = true := by kernel_rfl
theorem placed_k30 : ((Rows.topPlacedRow.pinned == Rows.topPlacedRow.pinnedBy)) = true := by kernel_rfl
theorem placed_k31 : ((Rows.topPlacedRow.veiled == (Tryz.f4.params.toList ++ Rows.topPlacedSpec.plain.varTypes Tryz.prog ++ Tryz.f4.resultTypes.toList).any (Tryz.prog.veiledRec ·))) = true := by kernel_rfl
theorem placed_k32 : (Rows.topPlacedRow.veiledFits Tryz.prog Tryz.f4.params.toList (Tryz.f4.params.toList ++ Rows.topPlacedSpec.plain.varTypes Tryz.prog ++ Tryz.f4.resultTypes.toList)) = true := by kernel_rfl
theorem placed_funcNamed : Tryz.prog.funcNamed "breccia/brecciatop.TopPlaced" = some 4 := by kernel_rfl
theorem placed_joined : joinedFacts Tryz.prog 4 Tryz.f4 Rows.topPlacedSpec Rows.topPlacedRow = true := by
  simp only [joinedFacts, Bool.and_eq_true]
  exact ⟨⟨⟨⟨⟨⟨⟨⟨⟨⟨⟨⟨⟨⟨⟨⟨⟨⟨⟨⟨⟨⟨⟨⟨⟨⟨⟨⟨⟨⟨⟨placed_k1, placed_k2⟩, placed_k3⟩, placed_k4⟩, placed_k5⟩, placed_k6⟩, placed_k7⟩, placed_k8⟩, placed_k9⟩, placed_k10⟩, placed_k11⟩, placed_k12⟩, placed_k13⟩, placed_k14⟩, placed_k15⟩, placed_k16⟩, placed_k17⟩, placed_k18⟩, placed_k19⟩, placed_k20⟩, placed_k21⟩, placed_k22⟩, placed_k23⟩, placed_k24⟩, placed_k25⟩, placed_k26⟩, placed_k27⟩, placed_k28⟩, placed_k29⟩, placed_k30⟩, placed_k31⟩, placed_k32⟩
theorem placed_instance : Tryz.f4.isInstance Tryz.prog Rows.topPlacedRow.origin Rows.topPlacedRow.targs := of_decide_eq_true (by kernel_rfl)
theorem placed_wrapper : Tryz.f4.isWrapper Tryz.prog Rows.topPlacedRow.wrapper Rows.topPlacedRow.mainSum := by
  unfold Func.isWrapper
  first | (rw [if_pos (by decide +kernel)]; kernel_rfl) | (rw [if_neg (by decide +kernel)]; exact ⟨rfl, rfl⟩)
theorem placed_byText : Rows.topPlacedRow.wfByText (OpenSpec.ofChange Rows.topPlacedSpec) = true := by kernel_rfl
theorem placed_main : Tryz.prog.mainIs = some ((true, "5d848ccf4afb3bf60006bc4f4488c6a24632bfd365d62e3cee8a26fe60e604f2").1, (true, "5d848ccf4afb3bf60006bc4f4488c6a24632bfd365d62e3cee8a26fe60e604f2").2.toList) := by kernel_rfl
theorem placed_looks : true = Tryz.prog.looks [] := by kernel_rfl
theorem placed_goes : false = Rows.topPlacedRow.goesBy Tryz.prog := by kernel_rfl
theorem placed_stand : ([3, 44, 23].all fun u => !Tryz.prog.wantsStandIn u) = true := by kernel_rfl
end Go.Proofs.YtnogfelfgclajaaGreatDoor
end
