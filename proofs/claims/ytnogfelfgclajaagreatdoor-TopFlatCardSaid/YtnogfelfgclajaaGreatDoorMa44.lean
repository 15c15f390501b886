/-
  TopFlat: of a world whose cells are set, and whose chunks come, go, and are flushed, each cell of a chunk that is here is told as a flat world has it: the card. The row lists five tables of Go's library as laid; the card ties them to the program's text. No other condition.
  TopFlat: from the walk to the card.
-/
import Derived.Test.YtnogfelfgclajaaGreatDoorMa41
import Derived.Test.YtnogfelfgclajaaGreatDoorMa43
import Derived.Test.YtnogfelfgclajaaGreatDoorTie
import Derived.Test.YtnogfelfgclajaaGreatDoorCards
import Derived.LaidMore
import Derived.Lay
import Derived.SevenTiedAt
import Derived.Stop.Joined
import Derived.Test.YtnogfelfgclajaaGreatDoorMa42
section
namespace Go.Proofs.YtnogfelfgclajaaGreatDoor
open Go.RowKit Go.ChangeShapes Go.WideShapes Go.ChangeAt Go.Deep
set_option linter.unusedVariables false

theorem flat_cells : Tryz.prog.cellsOf 33 = 4 := by kernel_rfl
/-- What the walk says. -/
def FlatWalk : Prop := ∀ (seed limit : Int) (lv wv : Value) (cs : List Ch) (ws : List Int) (w : World), Fit seed → Fit limit → ChIn w lv cs → IntsIn w wv ws →
    Calls Tryz.prog 3 #[.int .i64 seed, lv, wv, .int .i64 limit] w fun e w' => e = .returned (.bool true) ∧ Below w.heap.size w w'
set_option maxRecDepth 100000 in
theorem flat_lifted (hwalk : FlatWalk) (os : Os) (started : os.Started) (H : Type) (enc : TypeId × Value → H) :
    ReturnsInHanded {} Tryz.checked os 3 .any (fun w args => (Rows.topFlatSpec.pre enc Tryz.prog Tryz.f3 Rows.topFlatRow.domain false w args ∧ laidMetH Tryz.prog Rows.topFlatRow.laid w) ∧ sizedMet enc Tryz.prog Tryz.f3 (OpenSpec.ofChange Rows.topFlatSpec) false w args)
      (Rows.topFlatSpec.post enc Tryz.prog Tryz.f3 false true false false) := by
  refine returnsInHanded_of_change_and (C := Tryz.checked) (X := fun w _ => laidMetH Tryz.prog Rows.topFlatRow.laid w) (fun _ _ _ hh h => h.of_heap hh) own started (by kernel_rfl) Tryz.func3
    (ChangeSpec.witness_shaped (enc := enc) (C := Tryz.checked) (os := os) (X := fun w _ => laidMetH Tryz.prog Rows.topFlatRow.laid w) false (World.laidAll Tryz.prog os Rows.topFlatRow.laid) #[.int .i64 0, .slice none 0 0, .slice none 0 0, .int .i64 0] 8 (World.laidAll_os _ _ _)
      (World.shaped_of_ZipB (by kernel_rfl) (by kernel_rfl)) (by kernel_rfl) (by kernel_rfl) (by kernel_rfl)
      (by rw [MakeChecks.laidMetH_plain _ _ _ (by kernel_rfl)]; exact laidMet_laidAll _ (by kernel_rfl) (by kernel_rfl))) ?_
  intro W base args ds gs before hval0 hW _ _ _ _
  have hval : ∀ (j : Nat) t v, Tryz.f3.params[j]? = some t → args[j]? = some v → Value.okWide Tryz.prog W .any base t v := hval0
  have hW' := hW
  obtain ⟨p, q, hA0, hV, rfl, hfz, hnd⟩ := hW
  have hA : DataW.TrodAll enc Tryz.prog W 0 (fun _ => true) true Tryz.f3.params.toList args.toList ds p := hA0
  rw [Tryz.params3] at hA hval
  obtain ⟨v0, vs0, d0, ds0, p0, q0, hargs, rfl, rfl, h0, r0⟩ := trodAll_cons hA
  obtain ⟨v1, vs1, d1, ds1, p1, q1, rfl, rfl, rfl, h1, r1⟩ := trodAll_cons r0
  obtain ⟨v2, vs2, d2, ds2, p2, q2, rfl, rfl, rfl, h2, r2⟩ := trodAll_cons r1
  obtain ⟨v3, vs3, d3, ds3, p3, q3, rfl, rfl, rfl, h3, r3⟩ := trodAll_cons r2
  obtain ⟨rfl, rfl, rfl⟩ := trodAll_nil r3
  obtain rfl : args = #[v0, v1, v2, v3] := by cases args; simp_all
  obtain ⟨rfl, rfl⟩ := trodVars_none hV
  obtain ⟨a0, rfl, fa0⟩ := open_one Tryz.underlying3 (hval 0 3 v0 rfl rfl) h0
  obtain ⟨cs, hcs⟩ := open_changes Tryz.underlying3 Tryz.underlying22 Tryz.underlying33 Tryz.underlying30 (by kernel_rfl) (by kernel_rfl) (by kernel_rfl) (by kernel_rfl) rfl rfl rfl rfl rfl rfl rfl (hval 1 22 v1 rfl rfl) h1
  obtain ⟨ws, hws⟩ := open_ints1 Tryz.underlying23 Tryz.underlying3 (by kernel_rfl) (hval 2 23 v2 rfl rfl) h2
  obtain ⟨a3, rfl, fa3⟩ := open_one Tryz.underlying3 (hval 3 3 v3 rfl rfl) h3
  clear hA0 hval0
  simp only [List.append_nil] at hW'
  refine (hwalk a0 a3 v1 v2 cs ws W fa0 fa3 hcs hws).mono fun e W' ⟨he, hb⟩ => ?_
  subst he
  exact ⟨_, rfl, law_post laidOut rfl rfl (by kernel_rfl) Tryz.underlying4 (by rw [Tryz.params3]; decide +kernel) hW' hb⟩
theorem flat_holds (hwalk : FlatWalk) : Rows.TopFlatSaid :=
  OpenClaim.holds_of_wide (p := Tryz.pinned) 3 Tryz.f3 rfl rfl rfl rfl rfl rfl rfl ⟨rfl, rfl, rfl, rfl, rfl⟩ rfl rfl rfl rfl rfl flat_funcNamed Tryz.func3 flat_joined flat_instance flat_wrapper
    (fun os started H enc _ => flat_lifted hwalk os started H enc)
theorem flat_card (hwalk : FlatWalk) : Rows.TopFlatCardSaid :=
  Claim7.holds_tied_plain_at .later [] [.data, .data, .data, .data, .pinned] true (true, "5d848ccf4afb3bf60006bc4f4488c6a24632bfd365d62e3cee8a26fe60e604f2") true
    (flat_holds hwalk) (fun _ h => by cases h) flat_byText (fun _ h => by cases h) topFlat_row_tie rfl ⟨rfl, rfl⟩ flat_main rfl
    (fun f fn hf hfn => by
      obtain rfl : f = 3 := Option.some.inj (flat_funcNamed.symm.trans hf) |>.symm
      obtain rfl : fn = Tryz.f3 := (Option.some.inj (Tryz.func3.symm.trans hfn)).symm
      exact ⟨flat_looks, fun j t ht => by
        rw [Tryz.params3] at ht
        have hm : t ∈ [3, 22, 23, 3] := by simpa using Array.mem_of_getElem? ht
        exact (show Tryz.prog.wantsStandIn t = false by simpa using List.all_eq_true.1 flat_stand t hm)⟩)
    flat_goes
#print axioms flat_card
end Go.Proofs.YtnogfelfgclajaaGreatDoor
end

section
namespace Go.Proofs.YtnogfelfgclajaaGreatDoor
theorem topFlat_proved : Rows.TopFlatCardSaid := flat_card topflat_any
#print axioms topFlat_proved
end Go.Proofs.YtnogfelfgclajaaGreatDoor
end
