/-
  Cells cut to the bounds.
-/
import Derived.Test.YtjejobfhddlmeaaProg
import Derived.Test.YtjejobfhddlmeaaExt
import Derived.Test.YtjejobfhddlmeaaInts
namespace Go.Proofs.Ytjejobfhddlmeaa
open Go.RowKit
attribute [local go_sem] ext_ext drew_ext ext_drew ext_cell ext_frozen in_lt in_le in_ne in_en in_ne1 in_en1 in_le1 in_ltn in_len in_nen in_enn size_le ite_max ite_min
set_option linter.unusedVariables false
set_option linter.unusedSimpArgs false
attribute [local go_sem] cutS_fold

theorem cut_any (n : Int) (w : World) :
    Calls Try.prog 47 #[.int .i64 n] w fun e w' => e = .returned (.int .i64 (cutS n)) ∧ w = w' := by
  go_enter Try.func47, Try.ntmps47
  go_wp2
  go_ret
  exact ⟨rfl, rfl⟩
theorem cutcell_any (x y z : Int) (w : World) :
    Calls Try.prog 46 #[.agg #[.int .i64 x, .int .i64 y, .int .i64 z]] w fun e w' => e = .returned (.agg #[.int .i64 (cutS x), .int .i64 (cutS y), .int .i64 (cutS z)]) ∧ ∃ f, w' = ext w f := by
  go_enter Try.func46, Try.ntmps46
  go_wp2_with fail
  first | (with_reducible refine wp_region_ext_tail_on 10 ?_ ?_ ?_) | refine wp_region_ext_tail 10 ?_ ?_ ?_
  · kernel_rfl
  · kernel_rfl
  simp only [List.take_succ_cons, List.take_zero, List.drop_succ_cons, List.drop_zero]
  repeat (go_big_quiet_step (first | (go_at_call 47; exact ext_same (cut_any _ _))))
  refine wpQuiet_nil ?_
  rintro _ ⟨t, rfl⟩
  go_wp2
  go_returns
  exact ⟨rfl, grown_of⟩
end Go.Proofs.Ytjejobfhddlmeaa
