/-
  A chunk's place, and those beside it: what both Go functions hand back.
-/
import Derived.Test.YtdlapfpjbcjaeaaArr
import Derived.Test.YtdlapfpjbcjaeaaInts
import Derived.Test.YtdlapfpjbcjaeaaProg
namespace Go.Proofs.Ytdlapfpjbcjaeaa
open Go.RowKit
attribute [local go_sem] ext_ext drew_ext ext_drew ext_cell ext_frozen in_lt in_le in_ne in_en in_ne1 in_en1 in_le1 in_ltn in_len in_nen in_enn size_le ite_max ite_min
set_option linter.unusedVariables false
set_option linter.unusedSimpArgs false

def besS (x z : Int) : Array Value := #[.int .i64 x, .int .i64 z, .int .i64 (x - 1), .int .i64 z, .int .i64 (x + 1), .int .i64 z, .int .i64 x, .int .i64 (z - 1), .int .i64 x, .int .i64 (z + 1)]
theorem bes_size : (Try.prog.info? 39).map (·.size) = some 10 := by kernel_rfl

theorem beside_any (x z : Int) (w : World) (x1 : -134217728 ≤ x) (x2 : x ≤ 134217728) (z1 : -134217728 ≤ z) (z2 : z ≤ 134217728) :
    Calls Try.prog 26 #[.agg #[.int .i64 x, .int .i64 z]] w fun e w' => e = .returned (.agg (besS x z)) ∧ ∃ f, w' = ext w f := by
  go_enter Try.func26, Try.ntmps26
  go_wp2
  go_returns
  exact ⟨rfl, grown_of⟩
theorem refbeside_any (x z : Int) (w : World) (x1 : -134217728 ≤ x) (x2 : x ≤ 134217728) (z1 : -134217728 ≤ z) (z2 : z ≤ 134217728) :
    Calls Try.prog 27 #[.agg #[.int .i64 x, .int .i64 z]] w fun e w' => e = .returned (.agg (besS x z)) ∧ ∃ f, w' = ext w f := by
  go_enter Try.func27, Try.ntmps27
  go_wp2
  go_returns
  exact ⟨rfl, grown_of⟩
end Go.Proofs.Ytdlapfpjbcjaeaa
