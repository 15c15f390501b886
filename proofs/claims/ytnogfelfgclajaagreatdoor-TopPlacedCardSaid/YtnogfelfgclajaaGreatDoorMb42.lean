/-
  TopPlaced: what is placed is never where a body is, and where no block may be placed, that is told: the card. The row lists tables of Go's library as laid; the card ties them to the program's text. No other condition.
  TopPlaced: from the walk to the card.
-/
import Derived.Test.YtnogfelfgclajaaGreatDoorMb39
import Derived.Test.YtnogfelfgclajaaGreatDoorMb41
import Derived.Test.YtnogfelfgclajaaGreatDoorTie
import Derived.Test.YtnogfelfgclajaaGreatDoorCards
import Derived.LaidMore
import Derived.Lay
import Derived.SevenTiedAt
import Derived.Stop.Joined
import Derived.Test.YtnogfelfgclajaaGreatDoorMb40
section
namespace Go.Proofs.YtnogfelfgclajaaGreatDoor
open Go.RowKit Go.ChangeShapes Go.WideShapes Go.ChangeAt Go.Deep
set_option linter.unusedVariables false

/-- What the walk says. -/
def PlacedWalk : Prop := ∀ (seed : Int) (vv bv : Value) (vs : List V3) (bs : List Int) (w : World), Fit seed → VecsIn w vv vs → IntsIn w bv bs →
    Calls Tryz.prog 4 #[.int .i64 seed, vv, bv] w fun e w' => e = .returned (.bool true) ∧ Below w.heap.size w w'
set_option maxRecDepth 100000 in
theorem placed_lifted (hwalk : PlacedWalk) (os : Os) (started : os.Started) (H : Type) (enc : TypeId × Value → H) :
    ReturnsInHanded {} Tryz.checked os 4 .any (fun w args => (Rows.topPlacedSpec.pre enc Tryz.prog Tryz.f4 Rows.topPlacedRow.domain false w args ∧ laidMetH Tryz.prog Rows.topPlacedRow.laid w) ∧ sizedMet enc Tryz.prog Tryz.f4 (OpenSpec.ofChange Rows.topPlacedSpec) false w args)
      (Rows.topPlacedSpec.post enc Tryz.prog Tryz.f4 false true false false) := by
  refine returnsInHanded_of_change_and (C := Tryz.checked) (X := fun w _ => laidMetH Tryz.prog Rows.topPlacedRow.laid w) (fun _ _ _ hh h => h.of_heap hh) own started (by kernel_rfl) Tryz.func4
    (ChangeSpec.witness_shaped (enc := enc) (C := Tryz.checked) (os := os) (X := fun w _ => laidMetH Tryz.prog Rows.topPlacedRow.laid w) false (World.laidAll Tryz.prog os Rows.topPlacedRow.laid) #[.int .i64 0, .slice none 0 0, .slice none 0 0] 8 (World.laidAll_os _ _ _)
      (World.shaped_of_ZipB (by kernel_rfl) (by kernel_rfl)) (by kernel_rfl) (by kernel_rfl) (by kernel_rfl)
      (by rw [MakeChecks.laidMetH_plain _ _ _ (by kernel_rfl)]; exact laidMet_laidAll _ (by kernel_rfl) (by kernel_rfl))) ?_
  intro W base args ds gs before hval0 hW _ _ _ _
  have hval : ∀ (j : Nat) t v, Tryz.f4.params[j]? = some t → args[j]? = some v → Value.okWide Tryz.prog W .any base t v := hval0
  have hW' := hW
  obtain ⟨p, q, hA0, hV, rfl, hfz, hnd⟩ := hW
  have hA : DataW.TrodAll enc Tryz.prog W 0 (fun _ => true) true Tryz.f4.params.toList args.toList ds p := hA0
  rw [Tryz.params4] at hA hval
  obtain ⟨v0, vs0, d0, ds0, p0, q0, hargs, rfl, rfl, h0, r0⟩ := trodAll_cons hA
  obtain ⟨v1, vs1, d1, ds1, p1, q1, rfl, rfl, rfl, h1, r1⟩ := trodAll_cons r0
  obtain ⟨v2, vs2, d2, ds2, p2, q2, rfl, rfl, rfl, h2, r2⟩ := trodAll_cons r1
  obtain ⟨rfl, rfl, rfl⟩ := trodAll_nil r2
  obtain rfl : args = #[v0, v1, v2] := by cases args; simp_all
  obtain ⟨rfl, rfl⟩ := trodVars_none hV
  obtain ⟨a0, rfl, fa0⟩ := open_one Tryz.underlying3 (hval 0 3 v0 rfl rfl) h0
  obtain ⟨vs, hvs⟩ := open_vecs Tryz.underlying3 Tryz.underlying44 Tryz.underlying46 (by kernel_rfl) (by kernel_rfl) rfl rfl rfl (hval 1 44 v1 rfl rfl) h1
  obtain ⟨ws, hws⟩ := open_ints1 Tryz.underlying23 Tryz.underlying3 (by kernel_rfl) (hval 2 23 v2 rfl rfl) h2
  clear hA0 hval0
  simp only [List.append_nil] at hW'
  refine (hwalk a0 v1 v2 vs ws W fa0 hvs hws).mono fun e W' ⟨he, hb⟩ => ?_
  subst he
  exact ⟨_, rfl, law_post laidOut rfl rfl (by kernel_rfl) Tryz.underlying4 (by rw [Tryz.params4]; decide +kernel) hW' hb⟩
theorem placed_holds (hwalk : PlacedWalk) : Rows.TopPlacedSaid :=
  OpenClaim.holds_of_wide (p := Tryz.pinned) 4 Tryz.f4 rfl rfl rfl rfl rfl rfl rfl ⟨rfl, rfl, rfl, rfl, rfl⟩ rfl rfl rfl rfl rfl placed_funcNamed Tryz.func4 placed_joined placed_instance placed_wrapper
    (fun os started H enc _ => placed_lifted hwalk os started H enc)
theorem placed_card (hwalk : PlacedWalk) : Rows.TopPlacedCardSaid :=
  Claim7.holds_tied_plain_at .later [] [.data, .data, .data, .data, .pinned] true (true, "5d848ccf4afb3bf60006bc4f4488c6a24632bfd365d62e3cee8a26fe60e604f2") true
    (placed_holds hwalk) (fun _ h => by cases h) placed_byText (fun _ h => by cases h) topPlaced_row_tie rfl ⟨rfl, rfl⟩ placed_main rfl
    (fun f fn hf hfn => by
      obtain rfl : f = 4 := Option.some.inj (placed_funcNamed.symm.trans hf) |>.symm
      obtain rfl : fn = Tryz.f4 := (Option.some.inj (Tryz.func4.symm.trans hfn)).symm
      exact ⟨placed_looks, fun j t ht => by
        rw [Tryz.params4] at ht
        have hm : t ∈ [3, 44, 23] := by simpa using Array.mem_of_getElem? ht
        exact (show Tryz.prog.wantsStandIn t = false by simpa using List.all_eq_true.1 placed_stand t hm)⟩)
    placed_goes
#print axioms placed_card
end Go.Proofs.YtnogfelfgclajaaGreatDoor
end

section
namespace Go.Proofs.YtnogfelfgclajaaGreatDoor
theorem topPlaced_proved : Rows.TopPlacedCardSaid := placed_card topplaced_any
#print axioms topPlaced_proved
end Go.Proofs.YtnogfelfgclajaaGreatDoor
end
