/-
  A place's cell, a cell's box: what the Go functions hand back, and the document's: the same.
-/
import Derived.Test.YtdlapfpjbcjaeaaVec
import Derived.Test.YtdlapfpjbcjaeaaEqs
import Derived.Test.YtdlapfpjbcjaeaaFree
namespace Go.Proofs.Ytdlapfpjbcjaeaa
open Go.RowKit
attribute [local go_sem] ext_ext drew_ext ext_drew ext_cell ext_frozen in_lt in_le in_ne in_en in_ne1 in_en1 in_le1 in_ltn in_len in_nen in_enn size_le ite_max ite_min
set_option linter.unusedVariables false
set_option linter.unusedSimpArgs false
attribute [local go_sem] calm calmUpon

theorem of_any (x y z : Int) (w : World) :
    Calls Try.prog 29 #[.agg #[.int .i64 x, .int .i64 y, .int .i64 z]] w fun e w' => e = .returned (.agg #[.int .i64 (flS x), .int .i64 (flS y), .int .i64 (flS z)]) ∧ ∃ f, w' = ext w f := by
  go_enter Try.func29, Try.ntmps29
  go_wp2_with fail
  first | (with_reducible refine wp_region_ext_tail_on 10 ?_ ?_ ?_) | refine wp_region_ext_tail 10 ?_ ?_ ?_
  · kernel_rfl
  · kernel_rfl
  simp only [List.take_succ_cons, List.take_zero, List.drop_succ_cons, List.drop_zero]
  repeat (go_big_quiet_step (first | (go_at_call 46; exact ext_same (floor_any _ _))))
  refine wpQuiet_nil ?_
  rintro _ ⟨t, rfl⟩
  go_wp2
  go_returns
  exact ⟨rfl, grown_of⟩
theorem refof_any (x y z : Int) (w : World) :
    Calls Try.prog 32 #[.agg #[.int .i64 x, .int .i64 y, .int .i64 z]] w fun e w' => e = .returned (.agg #[.int .i64 (flS x), .int .i64 (flS y), .int .i64 (flS z)]) ∧ ∃ f, w' = ext w f := by
  go_enter Try.func32, Try.ntmps32
  go_wp2_with fail
  first | (with_reducible refine wp_region_ext_tail_on 10 ?_ ?_ ?_) | refine wp_region_ext_tail 10 ?_ ?_ ?_
  · kernel_rfl
  · kernel_rfl
  simp only [List.take_succ_cons, List.take_zero, List.drop_succ_cons, List.drop_zero]
  repeat (go_big_quiet_step (first | (go_at_call 50; exact ext_same (reffloor_any _ _))))
  refine wpQuiet_nil ?_
  rintro _ ⟨t, rfl⟩
  go_wp2
  go_returns
  exact ⟨rfl, grown_of⟩
theorem refvcut_any (x y z : Int) (w : World) :
    Calls Try.prog 31 #[.agg #[.int .i64 x, .int .i64 y, .int .i64 z]] w fun e w' => e = .returned (.agg #[.int .i64 (fcS x), .int .i64 (fcS y), .int .i64 (fcS z)]) ∧ ∃ f, w' = ext w f := by
  go_enter Try.func31, Try.ntmps31
  go_wp2_with fail
  first | (with_reducible refine wp_region_ext_tail_on 10 ?_ ?_ ?_) | refine wp_region_ext_tail 10 ?_ ?_ ?_
  · kernel_rfl
  · kernel_rfl
  simp only [List.take_succ_cons, List.take_zero, List.drop_succ_cons, List.drop_zero]
  repeat (go_big_quiet_step (first | (go_at_call 49; exact ext_same (reffcut_any _ _))))
  refine wpQuiet_nil ?_
  rintro _ ⟨t, rfl⟩
  go_wp2
  go_returns
  exact ⟨rfl, grown_of⟩
theorem refvadd_any (x y z a b c : Int) (w : World) :
    Calls Try.prog 51 #[.agg #[.int .i64 x, .int .i64 y, .int .i64 z], .agg #[.int .i64 a, .int .i64 b, .int .i64 c]] w fun e w' => e = .returned (.agg #[.int .i64 (faS x a), .int .i64 (faS y b), .int .i64 (faS z c)]) ∧ ∃ f, w' = ext w f := by
  go_enter Try.func51, Try.ntmps51
  go_wp2_with fail
  first | (with_reducible refine wp_region_ext_tail_on 16 ?_ ?_ ?_) | refine wp_region_ext_tail 16 ?_ ?_ ?_
  · kernel_rfl
  · kernel_rfl
  simp only [List.take_succ_cons, List.take_zero, List.drop_succ_cons, List.drop_zero]
  repeat (go_big_quiet_step (first | (go_at_call 64; exact ext_same (reffadd_any _ _ _))))
  refine wpQuiet_nil ?_
  rintro _ ⟨t, rfl⟩
  go_wp2
  go_returns
  exact ⟨rfl, grown_of⟩

/-- A cell's box, its six numbers. -/
def boxS (x y z : Int) : Array Value := #[.int .i64 (cutS x * 65536), .int .i64 (cutS y * 65536), .int .i64 (cutS z * 65536), .int .i64 (faS (cutS x * 65536) 65536), .int .i64 (faS (cutS y * 65536) 65536), .int .i64 (faS (cutS z * 65536) 65536)]

set_option maxHeartbeats 1000000 in
theorem box_any (x y z : Int) (w : World) :
    Calls Try.prog 30 #[.agg #[.int .i64 x, .int .i64 y, .int .i64 z]] w fun e w' => e = .returned (.agg (boxS x y z)) ∧ ∃ f, w' = ext w f := by
  go_enter Try.func30, Try.ntmps30
  go_wp2_with fail
  refine wp_region_free_named 10 3 44 #[.int .i64 0, .int .i64 0, .int .i64 0] (by kernel_rfl) (by kernel_rfl) rfl rfl rfl rfl (by intro a W; go_simp) ?_
  simp only [List.take_succ_cons, List.take_zero, List.drop_succ_cons, List.drop_zero]
  repeat (refine wpCalm_step (fun K hK => ?_); go_simp; first | (refine hK _ ?_; clear hK K) | (apply Exists.intro; refine ⟨fun _ => ?_, hK _ ?_⟩; (first | rfl | (go_at_call 47; exact calm_same (fof_any _ _))); clear hK K))
  refine wpCalm_nil ?_
  rintro w1 ⟨_t, hw⟩ w2 ⟨_t2, hw2⟩
  have hc1 := named_cell hw
  have hz1 := named_frozen hw
  have hh1 := named_heap hw
  haveI hi1 := named_in hw
  haveI hb1 := named_below (w := w) hw
  clear hw
  have hc2 := named_cell hw2
  have hz2 := named_frozen hw2
  have hh2 := named_heap hw2
  haveI hi2 := named_in hw2
  haveI hb2 := named_below (w := w) hw2
  clear hw2
  go_wp2_with fail
  refine wp_region_ext_tail 5 ?_ ?_ ?_
  · kernel_rfl
  · kernel_rfl
  simp only [List.take_succ_cons, List.take_zero, List.drop_succ_cons, List.drop_zero]
  repeat (go_big_quiet_step (first | (go_at_call 48; exact ext_call (add_any _ _ _ _ _ _ _))))
  refine wpQuiet_nil ?_
  rintro w3 ⟨_t, hw⟩
  have hc3 := named_cell hw
  have hz3 := named_frozen hw
  have hh3 := named_heap hw
  haveI hi3 := named_in hw
  haveI hb3 := named_below (w := w) hw
  clear hw
  go_wp2_with fail
  refine bodyPost_ret (by simp [results, Try.results30, go_sem, hc1, hc2, hc3]; try rfl) rfl ?_
  exact ⟨rfl, grown_of⟩

set_option maxHeartbeats 1000000 in
theorem refbox_any (x y z : Int) (w : World) :
    Calls Try.prog 33 #[.agg #[.int .i64 x, .int .i64 y, .int .i64 z]] w fun e w' => e = .returned (.agg (boxS x y z)) ∧ ∃ f, w' = ext w f := by
  obtain ⟨x1, x2⟩ := cutS_bd x
  obtain ⟨y1, y2⟩ := cutS_bd y
  obtain ⟨z1, z2⟩ := cutS_bd z
  go_enter Try.func33, Try.ntmps33
  go_wp2_with fail
  refine (refcut_any x y z _).mono ?_
  rintro e w1 ⟨rfl, _t, hw⟩
  have hc1 := named_cell hw
  have hz1 := named_frozen hw
  have hh1 := named_heap hw
  haveI hi1 := named_in hw
  haveI hb1 := named_below (w := w) hw
  clear hw
  go_wp2_with fail
  refine wp_region_ext_tail 5 ?_ ?_ ?_
  · kernel_rfl
  · kernel_rfl
  simp only [List.take_succ_cons, List.take_zero, List.drop_succ_cons, List.drop_zero]
  repeat (go_big_quiet_step (first | (go_at_call 51; exact ext_call (refvadd_any _ _ _ _ _ _ _))))
  refine wpQuiet_nil ?_
  rintro w2 ⟨_t, hw⟩
  have hc2 := named_cell hw
  have hz2 := named_frozen hw
  have hh2 := named_heap hw
  haveI hi2 := named_in hw
  haveI hb2 := named_below (w := w) hw
  clear hw
  go_wp2_with fail
  refine bodyPost_ret (by simp [results, Try.results33, go_sem, hc1, hc2]; try rfl) rfl ?_
  exact ⟨rfl, grown_of⟩
end Go.Proofs.Ytdlapfpjbcjaeaa
