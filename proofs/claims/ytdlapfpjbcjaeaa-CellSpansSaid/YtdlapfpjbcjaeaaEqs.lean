/-
  Two cells, two chunks' places: what '==' says of them, as one Bool.
-/
import Derived.Test.YtdlapfpjbcjaeaaSame
namespace Go.Proofs.Ytdlapfpjbcjaeaa
open Go.RowKit
attribute [local go_sem] ext_ext drew_ext ext_drew ext_cell ext_frozen in_lt in_le in_ne in_en in_ne1 in_en1 in_le1 in_ltn in_len in_nen in_enn size_le ite_max ite_min
set_option linter.unusedVariables false
set_option linter.unusedSimpArgs false

def eqcS (x y z a b c : Int) : Bool := decide (x = a ∧ y = b ∧ z = c)
def eqpS (x z a c : Int) : Bool := decide (x = a ∧ z = c)
theorem eqc_any (x y z a b c : Int) (w : World) : (Op.equalIn 10000 27 (.agg #[.int .i64 x, .int .i64 y, .int .i64 z]) (.agg #[.int .i64 a, .int .i64 b, .int .i64 c])).run Try.prog w = .ok (eqcS x y z a b c) w := by
  simp [go_sem]
  unfold eqcS
  by_cases h1 : x = a <;> by_cases h2 : y = b <;> by_cases h3 : z = c <;> simp [h1, h2, h3]
theorem eqp_any (x z a c : Int) (w : World) : (Op.equalIn 10000 29 (.agg #[.int .i64 x, .int .i64 z]) (.agg #[.int .i64 a, .int .i64 c])).run Try.prog w = .ok (eqpS x z a c) w := by
  simp [go_sem]
  unfold eqpS
  by_cases h1 : x = a <;> by_cases h2 : z = c <;> simp [h1, h2]
end Go.Proofs.Ytdlapfpjbcjaeaa
