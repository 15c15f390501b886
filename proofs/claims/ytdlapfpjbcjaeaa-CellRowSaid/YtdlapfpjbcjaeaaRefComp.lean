/-
  The row of cells, the document's: the same number.
-/
import Derived.Test.YtdlapfpjbcjaeaaCompare
import Derived.Handy
namespace Go.Proofs.Ytdlapfpjbcjaeaa
open Go.RowKit
attribute [local go_sem] ext_ext drew_ext ext_drew ext_cell ext_frozen in_lt in_le in_ne in_en in_ne1 in_en1 in_le1 size_le ite_max ite_min
set_option linter.unusedVariables false
set_option linter.unusedSimpArgs false

theorem compS_lt (x y z a b c : Int) (h : y < b) : compS x y z a b c = -1 := by unfold compS orS cmpS; simp [h]
theorem compS_gt (x y z a b c : Int) (h : b < y) : compS x y z a b c = 1 := by unfold compS orS cmpS; simp [h, Int.not_lt.2 (Int.le_of_lt h)]
theorem compS_lt2 (x y z a c : Int) (h : z < c) : compS x y z a y c = -1 := by unfold compS orS cmpS; simp [h]
theorem compS_gt2 (x y z a c : Int) (h : c < z) : compS x y z a y c = 1 := by unfold compS orS cmpS; simp [h, Int.not_lt.2 (Int.le_of_lt h)]
theorem compS_lt3 (x y z a : Int) (h : x < a) : compS x y z a y z = -1 := by unfold compS orS cmpS; simp [h]
theorem compS_gt3 (x y z a : Int) (h : a < x) : compS x y z a y z = 1 := by unfold compS orS cmpS; simp [h, Int.not_lt.2 (Int.le_of_lt h)]
theorem compS_eq (x y z : Int) : compS x y z x y z = 0 := by unfold compS orS cmpS; simp

set_option maxHeartbeats 4000000 in
theorem refcompare_any (x y z a b c : Int) (w : World) :
    Calls Try.prog 37 #[.agg #[.int .i64 x, .int .i64 y, .int .i64 z], .agg #[.int .i64 a, .int .i64 b, .int .i64 c]] w fun e w' => e = .returned (.int .i64 (compS x y z a b c)) ∧ ∃ f, w' = ext w f := by
  rcases Int.lt_trichotomy y b with h | h | h
  · have H := Lib.hid (compS_lt x y z a b c h)
    go_enter Try.func37, Try.ntmps37
    go_wp2_with fail
    refine wp_loop_rounds 2 ?_
    rw [rounds_succ]
    go_wp2_with fail
    first | (with_reducible refine wp_region_ext_on ?_ ?_ ?_) | refine wp_region_ext ?_ ?_ ?_
    · kernel_rfl
    · kernel_rfl
    repeat (go_big_quiet_step (first | fail))
    refine wpQuiet_nil ?_
    rintro _ ⟨t, rfl⟩
    go_wp2_with fail
    go_ret
    exact ⟨ret_int H.out.symm, grown_of⟩
  · subst h
    rcases Int.lt_trichotomy z c with h | h | h
    · have H := Lib.hid (compS_lt2 x y z a c h)
      go_enter Try.func37, Try.ntmps37
      go_wp2_with fail
      refine wp_loop_rounds 3 ?_
      rw [rounds_succ]
      go_wp2_with fail
      first | (with_reducible refine wp_region_ext_on ?_ ?_ ?_) | refine wp_region_ext ?_ ?_ ?_
      · kernel_rfl
      · kernel_rfl
      repeat (go_big_quiet_step (first | fail))
      refine wpQuiet_nil ?_
      rintro _ ⟨t, rfl⟩
      go_wp2_with fail
      first | (with_reducible refine wp_region_ext_on ?_ ?_ ?_) | refine wp_region_ext ?_ ?_ ?_
      · kernel_rfl
      · kernel_rfl
      repeat (go_big_quiet_step (first | fail))
      refine wpQuiet_nil ?_
      rintro _ ⟨t, rfl⟩
      go_wp2_with fail
      rw [rounds_succ]
      go_wp2_with fail
      first | (with_reducible refine wp_region_ext_on ?_ ?_ ?_) | refine wp_region_ext ?_ ?_ ?_
      · kernel_rfl
      · kernel_rfl
      repeat (go_big_quiet_step (first | fail))
      refine wpQuiet_nil ?_
      rintro _ ⟨t, rfl⟩
      go_wp2_with fail
      go_ret
      exact ⟨ret_int H.out.symm, grown_of⟩
    · subst h
      rcases Int.lt_trichotomy x a with h | h | h
      · have H := Lib.hid (compS_lt3 x y z a h)
        go_enter Try.func37, Try.ntmps37
        go_wp2_with fail
        refine wp_loop_rounds 4 ?_
        rw [rounds_succ]
        go_wp2_with fail
        first | (with_reducible refine wp_region_ext_on ?_ ?_ ?_) | refine wp_region_ext ?_ ?_ ?_
        · kernel_rfl
        · kernel_rfl
        repeat (go_big_quiet_step (first | fail))
        refine wpQuiet_nil ?_
        rintro _ ⟨t, rfl⟩
        go_wp2_with fail
        first | (with_reducible refine wp_region_ext_on ?_ ?_ ?_) | refine wp_region_ext ?_ ?_ ?_
        · kernel_rfl
        · kernel_rfl
        repeat (go_big_quiet_step (first | fail))
        refine wpQuiet_nil ?_
        rintro _ ⟨t, rfl⟩
        go_wp2_with fail
        rw [rounds_succ]
        go_wp2_with fail
        first | (with_reducible refine wp_region_ext_on ?_ ?_ ?_) | refine wp_region_ext ?_ ?_ ?_
        · kernel_rfl
        · kernel_rfl
        repeat (go_big_quiet_step (first | fail))
        refine wpQuiet_nil ?_
        rintro _ ⟨t, rfl⟩
        go_wp2_with fail
        first | (with_reducible refine wp_region_ext_on ?_ ?_ ?_) | refine wp_region_ext ?_ ?_ ?_
        · kernel_rfl
        · kernel_rfl
        repeat (go_big_quiet_step (first | fail))
        refine wpQuiet_nil ?_
        rintro _ ⟨t, rfl⟩
        go_wp2_with fail
        rw [rounds_succ]
        go_wp2_with fail
        first | (with_reducible refine wp_region_ext_on ?_ ?_ ?_) | refine wp_region_ext ?_ ?_ ?_
        · kernel_rfl
        · kernel_rfl
        repeat (go_big_quiet_step (first | fail))
        refine wpQuiet_nil ?_
        rintro _ ⟨t, rfl⟩
        go_wp2_with fail
        go_ret
        exact ⟨ret_int H.out.symm, grown_of⟩
      · subst h
        have H := Lib.hid (compS_eq x y z)
        go_enter Try.func37, Try.ntmps37
        go_wp2_with fail
        refine wp_loop_rounds 4 ?_
        rw [rounds_succ]
        go_wp2_with fail
        first | (with_reducible refine wp_region_ext_on ?_ ?_ ?_) | refine wp_region_ext ?_ ?_ ?_
        · kernel_rfl
        · kernel_rfl
        repeat (go_big_quiet_step (first | fail))
        refine wpQuiet_nil ?_
        rintro _ ⟨t, rfl⟩
        go_wp2_with fail
        first | (with_reducible refine wp_region_ext_on ?_ ?_ ?_) | refine wp_region_ext ?_ ?_ ?_
        · kernel_rfl
        · kernel_rfl
        repeat (go_big_quiet_step (first | fail))
        refine wpQuiet_nil ?_
        rintro _ ⟨t, rfl⟩
        go_wp2_with fail
        rw [rounds_succ]
        go_wp2_with fail
        first | (with_reducible refine wp_region_ext_on ?_ ?_ ?_) | refine wp_region_ext ?_ ?_ ?_
        · kernel_rfl
        · kernel_rfl
        repeat (go_big_quiet_step (first | fail))
        refine wpQuiet_nil ?_
        rintro _ ⟨t, rfl⟩
        go_wp2_with fail
        first | (with_reducible refine wp_region_ext_on ?_ ?_ ?_) | refine wp_region_ext ?_ ?_ ?_
        · kernel_rfl
        · kernel_rfl
        repeat (go_big_quiet_step (first | fail))
        refine wpQuiet_nil ?_
        rintro _ ⟨t, rfl⟩
        go_wp2_with fail
        rw [rounds_succ]
        go_wp2_with fail
        first | (with_reducible refine wp_region_ext_on ?_ ?_ ?_) | refine wp_region_ext ?_ ?_ ?_
        · kernel_rfl
        · kernel_rfl
        repeat (go_big_quiet_step (first | fail))
        refine wpQuiet_nil ?_
        rintro _ ⟨t, rfl⟩
        go_wp2_with fail
        first | (with_reducible refine wp_region_ext_on ?_ ?_ ?_) | refine wp_region_ext ?_ ?_ ?_
        · kernel_rfl
        · kernel_rfl
        repeat (go_big_quiet_step (first | fail))
        refine wpQuiet_nil ?_
        rintro _ ⟨t, rfl⟩
        go_wp2_with fail
        rw [rounds_succ]
        go_wp2_with fail
        go_ret
        exact ⟨ret_int H.out.symm, grown_of⟩
      · have H := Lib.hid (compS_gt3 x y z a h)
        have h' : ¬ x < a := Int.not_lt.2 (Int.le_of_lt h)
        go_enter Try.func37, Try.ntmps37
        go_wp2_with fail
        refine wp_loop_rounds 4 ?_
        rw [rounds_succ]
        go_wp2_with fail
        first | (with_reducible refine wp_region_ext_on ?_ ?_ ?_) | refine wp_region_ext ?_ ?_ ?_
        · kernel_rfl
        · kernel_rfl
        repeat (go_big_quiet_step (first | fail))
        refine wpQuiet_nil ?_
        rintro _ ⟨t, rfl⟩
        go_wp2_with fail
        first | (with_reducible refine wp_region_ext_on ?_ ?_ ?_) | refine wp_region_ext ?_ ?_ ?_
        · kernel_rfl
        · kernel_rfl
        repeat (go_big_quiet_step (first | fail))
        refine wpQuiet_nil ?_
        rintro _ ⟨t, rfl⟩
        go_wp2_with fail
        rw [rounds_succ]
        go_wp2_with fail
        first | (with_reducible refine wp_region_ext_on ?_ ?_ ?_) | refine wp_region_ext ?_ ?_ ?_
        · kernel_rfl
        · kernel_rfl
        repeat (go_big_quiet_step (first | fail))
        refine wpQuiet_nil ?_
        rintro _ ⟨t, rfl⟩
        go_wp2_with fail
        first | (with_reducible refine wp_region_ext_on ?_ ?_ ?_) | refine wp_region_ext ?_ ?_ ?_
        · kernel_rfl
        · kernel_rfl
        repeat (go_big_quiet_step (first | fail))
        refine wpQuiet_nil ?_
        rintro _ ⟨t, rfl⟩
        go_wp2_with fail
        rw [rounds_succ]
        go_wp2_with fail
        first | (with_reducible refine wp_region_ext_on ?_ ?_ ?_) | refine wp_region_ext ?_ ?_ ?_
        · kernel_rfl
        · kernel_rfl
        repeat (go_big_quiet_step (first | fail))
        refine wpQuiet_nil ?_
        rintro _ ⟨t, rfl⟩
        go_wp2_with fail
        first | (with_reducible refine wp_region_ext_on ?_ ?_ ?_) | refine wp_region_ext ?_ ?_ ?_
        · kernel_rfl
        · kernel_rfl
        repeat (go_big_quiet_step (first | fail))
        refine wpQuiet_nil ?_
        rintro _ ⟨t, rfl⟩
        go_wp2_with fail
        go_ret
        exact ⟨ret_int H.out.symm, grown_of⟩
    · have H := Lib.hid (compS_gt2 x y z a c h)
      have h' : ¬ z < c := Int.not_lt.2 (Int.le_of_lt h)
      go_enter Try.func37, Try.ntmps37
      go_wp2_with fail
      refine wp_loop_rounds 3 ?_
      rw [rounds_succ]
      go_wp2_with fail
      first | (with_reducible refine wp_region_ext_on ?_ ?_ ?_) | refine wp_region_ext ?_ ?_ ?_
      · kernel_rfl
      · kernel_rfl
      repeat (go_big_quiet_step (first | fail))
      refine wpQuiet_nil ?_
      rintro _ ⟨t, rfl⟩
      go_wp2_with fail
      first | (with_reducible refine wp_region_ext_on ?_ ?_ ?_) | refine wp_region_ext ?_ ?_ ?_
      · kernel_rfl
      · kernel_rfl
      repeat (go_big_quiet_step (first | fail))
      refine wpQuiet_nil ?_
      rintro _ ⟨t, rfl⟩
      go_wp2_with fail
      rw [rounds_succ]
      go_wp2_with fail
      first | (with_reducible refine wp_region_ext_on ?_ ?_ ?_) | refine wp_region_ext ?_ ?_ ?_
      · kernel_rfl
      · kernel_rfl
      repeat (go_big_quiet_step (first | fail))
      refine wpQuiet_nil ?_
      rintro _ ⟨t, rfl⟩
      go_wp2_with fail
      first | (with_reducible refine wp_region_ext_on ?_ ?_ ?_) | refine wp_region_ext ?_ ?_ ?_
      · kernel_rfl
      · kernel_rfl
      repeat (go_big_quiet_step (first | fail))
      refine wpQuiet_nil ?_
      rintro _ ⟨t, rfl⟩
      go_wp2_with fail
      go_ret
      exact ⟨ret_int H.out.symm, grown_of⟩
  · have H := Lib.hid (compS_gt x y z a b c h)
    have h' : ¬ y < b := Int.not_lt.2 (Int.le_of_lt h)
    go_enter Try.func37, Try.ntmps37
    go_wp2_with fail
    refine wp_loop_rounds 2 ?_
    rw [rounds_succ]
    go_wp2_with fail
    first | (with_reducible refine wp_region_ext_on ?_ ?_ ?_) | refine wp_region_ext ?_ ?_ ?_
    · kernel_rfl
    · kernel_rfl
    repeat (go_big_quiet_step (first | fail))
    refine wpQuiet_nil ?_
    rintro _ ⟨t, rfl⟩
    go_wp2_with fail
    first | (with_reducible refine wp_region_ext_on ?_ ?_ ?_) | refine wp_region_ext ?_ ?_ ?_
    · kernel_rfl
    · kernel_rfl
    repeat (go_big_quiet_step (first | fail))
    refine wpQuiet_nil ?_
    rintro _ ⟨t, rfl⟩
    go_wp2_with fail
    go_ret
    exact ⟨ret_int H.out.symm, grown_of⟩
end Go.Proofs.Ytdlapfpjbcjaeaa
