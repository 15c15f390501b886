/-
  A cell's neighbours, a chunk and those beside it: what the Go functions hand back.
-/
import Derived.Test.YtjejobfhddlmeaaCell
import Derived.Test.YtjejobfhddlmeaaArr
import Derived.LoopN
namespace Go.Proofs.Ytjejobfhddlmeaa
open Go.RowKit
attribute [local go_sem] ext_ext drew_ext ext_drew ext_cell ext_frozen in_lt in_le in_ne in_en in_ne1 in_en1 in_le1 in_ltn in_len in_nen in_enn size_le ite_max ite_min
set_option linter.unusedVariables false
set_option linter.unusedSimpArgs false
attribute [local go_sem] cutS_fold cutS_cutS

theorem in_of_cell {w : World} {b o : Nat} {v : Value} (h : w.cell? ⟨b, o, none⟩ = some v) : Nonempty (In b w) := ⟨World.block_lt_of_cell? w _ h⟩

theorem near1_any (x y z a b c : Int) (g : Nat) (w : World) (h0 : w.cell? ⟨g, 0, none⟩ = some (.int .i64 a)) (h1 : w.cell? ⟨g, 1, none⟩ = some (.int .i64 b)) (h2 : w.cell? ⟨g, 2, none⟩ = some (.int .i64 c))
    (x1 : -1 ≤ x) (x2 : x ≤ 1) (y1 : -1 ≤ y) (y2 : y ≤ 1) (z1 : -1 ≤ z) (z2 : z ≤ 1) :
    Calls Try.prog 45 #[.int .i64 x, .int .i64 y, .int .i64 z, .pointer (some ⟨g, 0, none⟩)] w fun e w' => e = .returned (.agg #[.int .i64 (cutS (cutS a + x)), .int .i64 (cutS (cutS b + y)), .int .i64 (cutS (cutS c + z))]) ∧ ∃ f, w' = ext w f := by
  haveI := in_of_cell h0
  obtain ⟨a1, a2⟩ := cutS_bd a
  obtain ⟨b1, b2⟩ := cutS_bd b
  obtain ⟨c1, c2⟩ := cutS_bd c
  go_enter Try.func45, Try.ntmps45
  go_wp2_with fail
  first | (with_reducible refine wp_region_ext_tail_on 17 ?_ ?_ ?_) | refine wp_region_ext_tail 17 ?_ ?_ ?_
  · kernel_rfl
  · kernel_rfl
  simp only [List.take_succ_cons, List.take_zero, List.drop_succ_cons, List.drop_zero]
  repeat (go_big_quiet_step (first | (go_at_call 47; exact ext_same (cut_any _ _)) | (go_at_call 46; exact ext_call (cutcell_any _ _ _ _))))
  refine wpQuiet_nil ?_
  rintro _ ⟨t, rfl⟩
  go_wp2
  go_returns
  exact ⟨rfl, grown_of⟩

/-- The six neighbours' cells, one behind the other. -/
def nearS (x y z : Int) : Array Value := #[.int .i64 (cutS (cutS x + -1)), .int .i64 (cutS y), .int .i64 (cutS z), .int .i64 (cutS (cutS x + 1)), .int .i64 (cutS y), .int .i64 (cutS z), .int .i64 (cutS x), .int .i64 (cutS (cutS y + -1)), .int .i64 (cutS z), .int .i64 (cutS x), .int .i64 (cutS (cutS y + 1)), .int .i64 (cutS z), .int .i64 (cutS x), .int .i64 (cutS y), .int .i64 (cutS (cutS z + -1)), .int .i64 (cutS x), .int .i64 (cutS y), .int .i64 (cutS (cutS z + 1))]

end Go.Proofs.Ytjejobfhddlmeaa
