/-
  The cell of a chunk and an index: what both Go functions hand back.
-/
import Derived.Test.YtdlapfpjbcjaeaaCell
namespace Go.Proofs.Ytdlapfpjbcjaeaa
open Go.RowKit
attribute [local go_sem] ext_ext drew_ext ext_drew ext_cell ext_frozen in_lt in_le in_ne in_en in_ne1 in_en1 in_le1 size_le ite_max ite_min
set_option linter.unusedVariables false
set_option linter.unusedSimpArgs false

theorem ret_cell {a b c a' b' c' : Int} {x : Bool} (h1 : a = a') (h2 : b = b') (h3 : c = c') :
    Ending.returned (.tuple #[.agg #[.int .i64 a, .int .i64 b, .int .i64 c], .bool x]) = .returned (.tuple #[.agg #[.int .i64 a', .int .i64 b', .int .i64 c'], .bool x]) := by rw [h1, h2, h3]

theorem from_out (p q i : Int) (w : World) (hi : i < 0 ∨ 8191 < i) :
    Calls Try.prog 21 #[.agg #[.int .i64 p, .int .i64 q], .int .i64 i] w fun e w' => e = .returned (.tuple #[.agg #[.int .i64 0, .int .i64 0, .int .i64 0], .bool false]) ∧ ∃ f, w' = ext w f := by
  rcases hi with h | h
  · go_enter Try.func21, Try.ntmps21
    go_wp2
    go_returns
    exact ⟨rfl, grown_of⟩
  · have h1 : ¬ i < 0 := by omega
    have h2 : 8192 ≤ i := by omega
    go_enter Try.func21, Try.ntmps21
    go_wp2
    go_returns
    exact ⟨rfl, grown_of⟩
theorem from_in (p q i : Int) (w : World) (h1 : 0 ≤ i) (h2 : i ≤ 8191) (p1 : -134217728 ≤ p) (p2 : p ≤ 134217728) (q1 : -134217728 ≤ q) (q2 : q ≤ 134217728) :
    Calls Try.prog 21 #[.agg #[.int .i64 p, .int .i64 q], .int .i64 i] w fun e w' => e = .returned (.tuple #[.agg #[.int .i64 (atX p i), .int .i64 (atY i), .int .i64 (atZ q i)], .bool true]) ∧ ∃ f, w' = ext w f := by
  have g : ¬ 8192 ≤ i := by omega
  go_enter Try.func21, Try.ntmps21
  go_wp2
  go_returns
  exact ⟨ret_cell rfl rfl rfl, grown_of⟩
theorem reffrom_out (p q i : Int) (w : World) (hi : i < 0 ∨ 8191 < i) :
    Calls Try.prog 23 #[.agg #[.int .i64 p, .int .i64 q], .int .i64 i] w fun e w' => e = .returned (.tuple #[.agg #[.int .i64 0, .int .i64 0, .int .i64 0], .bool false]) ∧ ∃ f, w' = ext w f := by
  rcases hi with h | h
  · go_enter Try.func23, Try.ntmps23
    go_wp2
    go_returns
    exact ⟨rfl, grown_of⟩
  · have h1 : ¬ i < 0 := by omega
    go_enter Try.func23, Try.ntmps23
    go_wp2
    go_returns
    exact ⟨rfl, grown_of⟩
theorem reffrom_in (p q i : Int) (w : World) (h1 : 0 ≤ i) (h2 : i ≤ 8191) (p1 : -134217728 ≤ p) (p2 : p ≤ 134217728) (q1 : -134217728 ≤ q) (q2 : q ≤ 134217728) :
    Calls Try.prog 23 #[.agg #[.int .i64 p, .int .i64 q], .int .i64 i] w fun e w' => e = .returned (.tuple #[.agg #[.int .i64 (atX p i), .int .i64 (atY i), .int .i64 (atZ q i)], .bool true]) ∧ ∃ f, w' = ext w f := by
  have g : ¬ 8191 < i := by omega
  go_enter Try.func23, Try.ntmps23
  go_wp2
  go_returns
  exact ⟨ret_cell rfl rfl (by unfold atZ; omega), grown_of⟩
end Go.Proofs.Ytdlapfpjbcjaeaa
