/-
  A place in a box; boxes that are the same.
-/
import Derived.Test.YtdlapfpjbcjaeaaBox
import Derived.Test.YtdlapfpjbcjaeaaLaw
namespace Go.Proofs.Ytdlapfpjbcjaeaa
open Go.RowKit
attribute [local go_sem] ext_ext drew_ext ext_drew ext_cell ext_frozen in_lt in_le in_ne in_en in_ne1 in_en1 in_le1 in_ltn in_len in_nen in_enn size_le ite_max ite_min
set_option linter.unusedVariables false
set_option linter.unusedSimpArgs false
attribute [local go_sem ↓] eqc_any

theorem same_box (a b c d e f : Int) (w : World) : (Op.equalIn 10000 47 (.agg #[.int .i64 a, .int .i64 b, .int .i64 c, .int .i64 d, .int .i64 e, .int .i64 f]) (.agg #[.int .i64 a, .int .i64 b, .int .i64 c, .int .i64 d, .int .i64 e, .int .i64 f])).run Try.prog w = .ok true w := by
  simp [go_sem]
attribute [local go_sem ↓] same_box
theorem eqc_self (x y z : Int) : eqcS x y z x y z = true := by unfold eqcS; simp
attribute [local go_sem] eqc_self

set_option maxHeartbeats 8000000 in
/-- A place not below a box's least corner is within it just if it is below the greatest. -/
theorem refhas_any (a b c d e f x y z : Int) (r s t : Bool) (w : World) (h1 : a ≤ x) (h2 : b ≤ y) (h3 : c ≤ z) (hr : decide (x < d) = r) (hs : decide (y < e) = s) (ht : decide (z < f) = t) :
    Calls Try.prog 34 #[.agg #[.int .i64 a, .int .i64 b, .int .i64 c, .int .i64 d, .int .i64 e, .int .i64 f], .agg #[.int .i64 x, .int .i64 y, .int .i64 z]] w fun o w' => o = .returned (.bool (r && s && t)) ∧ ∃ f, w' = ext w f := by
  rcases r with _ | _ <;> rcases s with _ | _ <;> rcases t with _ | _
  · have g1 := of_decide_eq_false hr
    have g2 := of_decide_eq_false hs
    have g3 := of_decide_eq_false ht
    clear hr hs ht
    go_enter Try.func34, Try.ntmps34
    go_wp2
    go_ret
    exact ⟨rfl, grown_of⟩
  · have g1 := of_decide_eq_false hr
    have g2 := of_decide_eq_false hs
    have g3 := of_decide_eq_true ht
    clear hr hs ht
    go_enter Try.func34, Try.ntmps34
    go_wp2
    go_ret
    exact ⟨rfl, grown_of⟩
  · have g1 := of_decide_eq_false hr
    have g2 := of_decide_eq_true hs
    have g3 := of_decide_eq_false ht
    clear hr hs ht
    go_enter Try.func34, Try.ntmps34
    go_wp2
    go_ret
    exact ⟨rfl, grown_of⟩
  · have g1 := of_decide_eq_false hr
    have g2 := of_decide_eq_true hs
    have g3 := of_decide_eq_true ht
    clear hr hs ht
    go_enter Try.func34, Try.ntmps34
    go_wp2
    go_ret
    exact ⟨rfl, grown_of⟩
  · have g1 := of_decide_eq_true hr
    have g2 := of_decide_eq_false hs
    have g3 := of_decide_eq_false ht
    clear hr hs ht
    go_enter Try.func34, Try.ntmps34
    go_wp2
    go_ret
    exact ⟨rfl, grown_of⟩
  · have g1 := of_decide_eq_true hr
    have g2 := of_decide_eq_false hs
    have g3 := of_decide_eq_true ht
    clear hr hs ht
    go_enter Try.func34, Try.ntmps34
    go_wp2
    go_ret
    exact ⟨rfl, grown_of⟩
  · have g1 := of_decide_eq_true hr
    have g2 := of_decide_eq_true hs
    have g3 := of_decide_eq_false ht
    clear hr hs ht
    go_enter Try.func34, Try.ntmps34
    go_wp2
    go_ret
    exact ⟨rfl, grown_of⟩
  · have g1 := of_decide_eq_true hr
    have g2 := of_decide_eq_true hs
    have g3 := of_decide_eq_true ht
    clear hr hs ht
    go_enter Try.func34, Try.ntmps34
    go_wp2
    go_ret
    exact ⟨rfl, grown_of⟩

end Go.Proofs.Ytdlapfpjbcjaeaa
