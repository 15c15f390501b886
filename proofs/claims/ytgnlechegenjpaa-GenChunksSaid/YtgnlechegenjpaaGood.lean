/-
  A number made to lie below some most; a cell made near 0.
-/
import Derived.Test.YtgnlechegenjpaaDivs
namespace Go.Proofs.Ytgnlechegenjpaa
open Go.RowKit
attribute [local go_sem] ext_ext drew_ext ext_drew ext_cell ext_frozen in_lt in_le in_ne in_en in_ne1 in_en1 in_le1 in_ltn in_len in_nen in_enn size_le ite_max ite_min
set_option linter.unusedVariables false
set_option linter.unusedSimpArgs false

theorem around_fit (n m : Int) (w : World) (hn : Fit n) (h1 : 1 ≤ m) (h2 : m ≤ 4611686018427387904) :
    Calls Try.prog 14 #[.int .i64 n, .int .i64 m] w fun e w' => e = .returned (.int .i64 (arS n m)) ∧ w = w' := by
  have f1 := hn.1
  have f2 := hn.2
  have h3 : ¬ m = 0 := by omega
  by_cases h : n < 0
  · have H : Hid (arS n m = (-(n + 1)) % m) := by unfold arS; exact if_pos h
    have g : 0 ≤ -(n + 1) := by omega
    go_enter Try.func14, Try.ntmps14
    go_wp2
    go_ret
    exact ⟨ret_int (by rw [← Int.neg_tmod, Int.tmod_eq_emod_of_nonneg g]; exact H.out.symm), rfl⟩
  · have H : Hid (arS n m = n % m) := by unfold arS; exact if_neg h
    have g : 0 ≤ n := by omega
    go_enter Try.func14, Try.ntmps14
    go_wp2
    go_ret
    exact ⟨ret_int H.out.symm, rfl⟩

theorem good_any (x y z k : Int) (w : World) (hx : Fit x) (hy : Fit y) (hz : Fit z) (k1 : 0 ≤ k) (k2 : k ≤ 1000) :
    Calls Try.prog 5 #[.agg #[.int .i64 x, .int .i64 y, .int .i64 z], .int .i64 k] w fun e w' =>
      e = .returned (.agg #[.int .i64 (arS x (2 * k + 1) - k), .int .i64 (arS y 32), .int .i64 (arS z (2 * k + 1) - k)]) ∧ ∃ f, w' = ext w f := by
  obtain ⟨a1, a2⟩ := arS_bd (n := x) (m := 2 * k + 1) (by omega)
  obtain ⟨b1, b2⟩ := arS_bd (n := z) (m := 2 * k + 1) (by omega)
  go_enter Try.func5, Try.ntmps5
  go_wp2_with fail
  first | (with_reducible refine wp_region_ext_tail_on 20 ?_ ?_ ?_) | refine wp_region_ext_tail 20 ?_ ?_ ?_
  · kernel_rfl
  · kernel_rfl
  simp only [List.take_succ_cons, List.take_zero, List.drop_succ_cons, List.drop_zero]
  repeat (go_big_quiet_step (first | (go_at_call 14; exact ext_same (around_fit _ _ _ (by assumption) (by omega) (by omega)))))
  refine wpQuiet_nil ?_
  rintro _ ⟨t, rfl⟩
  go_wp2
  go_returns
  exact ⟨rfl, grown_of⟩
end Go.Proofs.Ytgnlechegenjpaa
