/- The row of cells is the document's, and an order; in one chunk it is that of their indices: whatever three cells come in, CellRow hands back true; no conditions. -/
import Derived.Test.YtdlapfpjbcjaeaaRefComp
import Derived.Test.YtdlapfpjbcjaeaaEqs
import Derived.Test.YtdlapfpjbcjaeaaCell
import Derived.Test.YtdlapfpjbcjaeaaLaw
namespace Go.Proofs.Ytdlapfpjbcjaeaa
open Go.RowKit
attribute [local go_sem] ext_ext drew_ext ext_drew ext_cell ext_frozen in_lt in_le in_ne in_en in_ne1 in_en1 in_le1 size_le ite_max ite_min
set_option linter.unusedVariables false
set_option linter.unusedSimpArgs false

namespace cellRow
open Go.ChangeShapes Go.WideShapes Go.ChangeAt

theorem compS_cases (x y z a b c : Int) : (compS x y z a b c = -1 ∧ (y < b ∨ (y = b ∧ (z < c ∨ (z = c ∧ x < a))))) ∨ (compS x y z a b c = 0 ∧ x = a ∧ y = b ∧ z = c) ∨
    (compS x y z a b c = 1 ∧ (b < y ∨ (y = b ∧ (c < z ∨ (z = c ∧ a < x))))) := by
  rcases Int.lt_trichotomy y b with h | h | h
  · exact .inl ⟨compS_lt _ _ _ _ _ _ h, .inl h⟩
  · subst h
    rcases Int.lt_trichotomy z c with h | h | h
    · exact .inl ⟨compS_lt2 _ _ _ _ _ h, .inr ⟨rfl, .inl h⟩⟩
    · subst h
      rcases Int.lt_trichotomy x a with h | h | h
      · exact .inl ⟨compS_lt3 _ _ _ _ h, .inr ⟨rfl, .inr ⟨rfl, h⟩⟩⟩
      · subst h
        exact .inr (.inl ⟨compS_eq _ _ _, rfl, rfl, rfl⟩)
      · exact .inr (.inr ⟨compS_gt3 _ _ _ _ h, .inr ⟨rfl, .inr ⟨rfl, h⟩⟩⟩)
    · exact .inr (.inr ⟨compS_gt2 _ _ _ _ _ h, .inr ⟨rfl, .inl h⟩⟩)
  · exact .inr (.inr ⟨compS_gt _ _ _ _ _ _ h, .inl h⟩)
theorem compS_back (x y z a b c : Int) : compS a b c x y z = -compS x y z a b c := by
  rcases compS_cases x y z a b c with ⟨h, g⟩ | ⟨h, g⟩ | ⟨h, g⟩ <;> rcases compS_cases a b c x y z with ⟨h', g'⟩ | ⟨h', g'⟩ | ⟨h', g'⟩ <;> omega
theorem compS_trans (x y z a b c d e f : Int) (h1 : compS x y z a b c ≤ 0) (h2 : compS a b c d e f ≤ 0) : compS x y z d e f ≤ 0 := by
  rcases compS_cases x y z a b c with ⟨h, g⟩ | ⟨h, g⟩ | ⟨h, g⟩ <;> rcases compS_cases a b c d e f with ⟨h', g'⟩ | ⟨h', g'⟩ | ⟨h', g'⟩ <;> rcases compS_cases x y z d e f with ⟨h'', g''⟩ | ⟨h'', g''⟩ | ⟨h'', g''⟩ <;> omega
theorem compS_bd (x y z a b c : Int) : -1 ≤ compS x y z a b c ∧ compS x y z a b c ≤ 1 := by
  rcases compS_cases x y z a b c with ⟨h, g⟩ | ⟨h, g⟩ | ⟨h, g⟩ <;> omega
/-- In one chunk: the indices' order. -/
theorem idx_order (x y z a b c : Int) (h0 : divS x 16 = divS a 16) (h1 : divS z 16 = divS c 16) (hy : 0 ≤ y) (hy2 : y ≤ 31) (hb : 0 ≤ b) (hb2 : b ≤ 31) :
    (idxS x y z < idxS a b c ↔ compS x y z a b c < 0) ∧ (idxS x y z = idxS a b c ↔ compS x y z a b c = 0) := by
  rw [divS16, divS16] at h0 h1
  unfold idxS
  rw [modS16, modS16, modS16, modS16]
  rcases compS_cases x y z a b c with ⟨h, g⟩ | ⟨h, g⟩ | ⟨h, g⟩ <;> constructor <;> constructor <;> intro <;> omega
end cellRow
end Go.Proofs.Ytdlapfpjbcjaeaa
