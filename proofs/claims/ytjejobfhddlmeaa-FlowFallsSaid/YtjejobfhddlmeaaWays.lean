/-
  What the laws of this layer share.
-/
import Derived.Test.YtjejobfhddlmeaaRefNext
import Derived.Test.YtjejobfhddlmeaaOpen
namespace Go.Proofs.Ytjejobfhddlmeaa
open Go.RowKit
attribute [local go_sem] ext_ext drew_ext ext_drew ext_cell ext_frozen in_lt in_le in_ne in_en in_ne1 in_en1 in_le1 in_ltn in_len in_nen in_enn size_le ite_max ite_min
set_option linter.unusedVariables false
set_option linter.unusedSimpArgs false

theorem IntsIn.grown {w W : World} {sv : Value} {bs : List Int} (h : IntsIn w sv bs) (hW : ∃ f, W = ext w f) : IntsIn W sv bs := by
  obtain ⟨f, rfl⟩ := hW
  refine ⟨h.fit, ?_⟩
  rcases h.lies with h0 | ⟨g, fo, cap, h1, h2, h3⟩
  · exact .inl h0
  · refine .inr ⟨g, fo, cap, h1, h2, fun k hk => ?_⟩
    have h4 := h3 k hk
    rw [(ext_below w f).cell (p := ⟨g, fo + k, none⟩) (World.block_lt_of_cell? w _ h4)]
    exact h4

theorem sand_len (V : Int → Int → Int → Int) (x y z : Int) : (sandS V x y z).length ≤ 4 := by unfold sandS; split <;> simp
theorem water_len (V : Int → Int → Int → Int) (x y z l : Int) : (waterS V x y z l).length ≤ 4 := by
  unfold waterS
  split
  · simp
  split
  · simp
  split
  · simp
  split
  · simp
  · rw [← dryL_4]
    exact dryL_len ..
theorem next_len (V : Int → Int → Int → Int) (x y z : Int) : (nextS V x y z).length ≤ 4 := by
  unfold nextS
  split
  · exact sand_len ..
  split
  · exact water_len ..
  · simp
/-- The document's At, of no changes. -/
theorem tells_nil (bs : List Int) (sv : Value) (el : Int) (w : World) (h : Blocks w sv bs) : Tells sv (.slice none 0 0) el (atS bs el) w :=
  tells_of bs sv (.slice none 0 0) [] 0 el w h (World.ownsRow_nil ..) (by simp)
theorem same_next (V : Int → Int → Int → Int) (x y z : Int) (s t : Value) (b1 b2 : Nat) (w : World) (hs : w.ownsRow b1 36 4 s (nextS V x y z).length (chV (nextS V x y z))) (ht : w.ownsRow b2 36 4 t (nextS V x y z).length (chV (nextS V x y z))) :
    Calls Try.prog 20 #[s, t] w fun e w' => e = .returned (.bool true) ∧ ∃ f, w' = ext w f :=
  same_any (nextS V x y z) s t b1 b2 w hs ht (by have := next_len V x y z; omega)
end Go.Proofs.Ytjejobfhddlmeaa
