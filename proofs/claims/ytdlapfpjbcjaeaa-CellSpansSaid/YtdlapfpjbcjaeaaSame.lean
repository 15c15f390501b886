/-
  Two arrays of cells, or of chunks' places, that are the same: what '==' says of them.
-/
import Derived.Test.YtdlapfpjbcjaeaaNear
import Derived.Test.YtdlapfpjbcjaeaaBeside
import Derived.ChangeKeysEq
namespace Go.Proofs.Ytdlapfpjbcjaeaa
open Go.RowKit
attribute [local go_sem] ext_ext drew_ext ext_drew ext_cell ext_frozen in_lt in_le in_ne in_en in_ne1 in_en1 in_le1 in_ltn in_len in_nen in_enn size_le ite_max ite_min
set_option linter.unusedVariables false
set_option linter.unusedSimpArgs false

theorem cells27 : Try.prog.cellsOf 27 = 3 := by kernel_rfl
theorem cells29 : Try.prog.cellsOf 29 = 2 := by kernel_rfl
theorem info27 : ∃ i, Try.prog.info? 27 = some i := ⟨_, rfl⟩
theorem info29 : ∃ i, Try.prog.info? 29 = some i := ⟨_, rfl⟩

set_option maxHeartbeats 1000000 in
theorem same_cells (a0 a1 a2 a3 a4 a5 a6 a7 a8 a9 a10 a11 a12 a13 a14 a15 a16 a17 : Int) (w : World) :
    (Op.equalIn 10000 37 (.agg #[.int .i64 a0, .int .i64 a1, .int .i64 a2, .int .i64 a3, .int .i64 a4, .int .i64 a5, .int .i64 a6, .int .i64 a7, .int .i64 a8, .int .i64 a9, .int .i64 a10, .int .i64 a11, .int .i64 a12, .int .i64 a13, .int .i64 a14, .int .i64 a15, .int .i64 a16, .int .i64 a17]) (.agg #[.int .i64 a0, .int .i64 a1, .int .i64 a2, .int .i64 a3, .int .i64 a4, .int .i64 a5, .int .i64 a6, .int .i64 a7, .int .i64 a8, .int .i64 a9, .int .i64 a10, .int .i64 a11, .int .i64 a12, .int .i64 a13, .int .i64 a14, .int .i64 a15, .int .i64 a16, .int .i64 a17])).run Try.prog w = .ok true w := by
  obtain ⟨i, hi⟩ := info27
  rw [run_equalIn_array w 9999 _ _ Try.underlying37 hi, cells27]
  simp only [show List.range 6 = [0, 1, 2, 3, 4, 5] from rfl, Op.eqItems]
  simp [go_sem]
theorem same_places (a0 a1 a2 a3 a4 a5 a6 a7 a8 a9 : Int) (w : World) :
    (Op.equalIn 10000 39 (.agg #[.int .i64 a0, .int .i64 a1, .int .i64 a2, .int .i64 a3, .int .i64 a4, .int .i64 a5, .int .i64 a6, .int .i64 a7, .int .i64 a8, .int .i64 a9]) (.agg #[.int .i64 a0, .int .i64 a1, .int .i64 a2, .int .i64 a3, .int .i64 a4, .int .i64 a5, .int .i64 a6, .int .i64 a7, .int .i64 a8, .int .i64 a9])).run Try.prog w = .ok true w := by
  obtain ⟨i, hi⟩ := info29
  rw [run_equalIn_array w 9999 _ _ Try.underlying39 hi, cells29]
  simp only [show List.range 5 = [0, 1, 2, 3, 4] from rfl, Op.eqItems]
  simp [go_sem]

theorem same_near (x y z : Int) (w : World) : (Op.equalIn 10000 37 (.agg (nearS x y z)) (.agg (nearS x y z))).run Try.prog w = .ok true w := same_cells ..
theorem same_bes (x z : Int) (w : World) : (Op.equalIn 10000 39 (.agg (besS x z)) (.agg (besS x z))).run Try.prog w = .ok true w := same_places ..

section
variable (x y z : Int)
theorem near_get0 : (nearS x y z)[0]? = some (.int .i64 (cutS (cutS x + -1))) := rfl
theorem near_get1 : (nearS x y z)[1]? = some (.int .i64 (cutS y)) := rfl
theorem near_get2 : (nearS x y z)[2]? = some (.int .i64 (cutS z)) := rfl
theorem near_get3 : (nearS x y z)[3]? = some (.int .i64 (cutS (cutS x + 1))) := rfl
theorem near_get4 : (nearS x y z)[4]? = some (.int .i64 (cutS y)) := rfl
theorem near_get5 : (nearS x y z)[5]? = some (.int .i64 (cutS z)) := rfl
theorem near_get6 : (nearS x y z)[6]? = some (.int .i64 (cutS x)) := rfl
theorem near_get7 : (nearS x y z)[7]? = some (.int .i64 (cutS (cutS y + -1))) := rfl
theorem near_get8 : (nearS x y z)[8]? = some (.int .i64 (cutS z)) := rfl
theorem near_get9 : (nearS x y z)[9]? = some (.int .i64 (cutS x)) := rfl
theorem near_get10 : (nearS x y z)[10]? = some (.int .i64 (cutS (cutS y + 1))) := rfl
theorem near_get11 : (nearS x y z)[11]? = some (.int .i64 (cutS z)) := rfl
theorem near_get12 : (nearS x y z)[12]? = some (.int .i64 (cutS x)) := rfl
theorem near_get13 : (nearS x y z)[13]? = some (.int .i64 (cutS y)) := rfl
theorem near_get14 : (nearS x y z)[14]? = some (.int .i64 (cutS (cutS z + -1))) := rfl
theorem near_get15 : (nearS x y z)[15]? = some (.int .i64 (cutS x)) := rfl
theorem near_get16 : (nearS x y z)[16]? = some (.int .i64 (cutS y)) := rfl
theorem near_get17 : (nearS x y z)[17]? = some (.int .i64 (cutS (cutS z + 1))) := rfl
end
section
variable (x z : Int)
theorem bes_get0 : (besS x z)[0]? = some (.int .i64 (x)) := rfl
theorem bes_get1 : (besS x z)[1]? = some (.int .i64 (z)) := rfl
theorem bes_get2 : (besS x z)[2]? = some (.int .i64 (x - 1)) := rfl
theorem bes_get3 : (besS x z)[3]? = some (.int .i64 (z)) := rfl
theorem bes_get4 : (besS x z)[4]? = some (.int .i64 (x + 1)) := rfl
theorem bes_get5 : (besS x z)[5]? = some (.int .i64 (z)) := rfl
theorem bes_get6 : (besS x z)[6]? = some (.int .i64 (x)) := rfl
theorem bes_get7 : (besS x z)[7]? = some (.int .i64 (z - 1)) := rfl
theorem bes_get8 : (besS x z)[8]? = some (.int .i64 (x)) := rfl
theorem bes_get9 : (besS x z)[9]? = some (.int .i64 (z + 1)) := rfl
end
end Go.Proofs.Ytdlapfpjbcjaeaa
