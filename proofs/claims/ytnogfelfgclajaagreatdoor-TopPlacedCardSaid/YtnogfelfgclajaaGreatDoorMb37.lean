/-
  The document's cells of the two bodies' boxes. Printed by gen_prefs.py.
  The document's cells of the two bodies' boxes, one by one. Printed by gen_prefs.py.
-/
import Derived.Test.YtnogfelfgclajaaGreatDoorMb22
import Derived.Deep.RegionHeld3
import Derived.Test.YtnogfelfgclajaaGreatDoorMb16
import Derived.Laws.AppendOwn
section
namespace Go.Proofs.YtnogfelfgclajaaGreatDoor
open Go.RowKit
attribute [local go_sem] ext_ext drew_ext ext_drew ext_cell ext_frozen in_lt in_le in_ne in_en in_ne1 in_en1 in_le1 in_ltn in_len in_nen in_enn size_le ite_max ite_min
set_option linter.unusedVariables false
set_option linter.unusedSimpArgs false
set_option maxRecDepth 1000000
attribute [local go_sem] calm calmUpon

theorem refsub_any (a b : Int) (w : World) : Calls Tryz.prog 77 #[.int .i64 a, .int .i64 b] w fun e w' => e = .returned (.int .i64 (fsS a b)) ∧ w = w' := by
  obtain ⟨a1, a2⟩ := fcS_bd a
  obtain ⟨b1, b2⟩ := fcS_bd b
  go_enter Tryz.func77, Tryz.ntmps77
  go_wp2_with (first | (go_at_call 78; refine (reffcut_any _ _).mono ?_; rintro e w1 ⟨rfl, rfl⟩))
  go_ret
  exact ⟨rfl, rfl⟩
theorem refaxis0_any (a b c : Int) (w : World) : Calls Tryz.prog 75 #[.agg #[.int .i64 a, .int .i64 b, .int .i64 c], .int .i64 0] w fun e w' => e = .returned (.int .i64 a) ∧ ∃ f, w' = ext w f := by
  go_enter Tryz.func75, Tryz.ntmps75
  go_wp2
  go_ret
  exact ⟨rfl, grown_of⟩
theorem refaxis1_any (a b c : Int) (w : World) : Calls Tryz.prog 75 #[.agg #[.int .i64 a, .int .i64 b, .int .i64 c], .int .i64 1] w fun e w' => e = .returned (.int .i64 b) ∧ ∃ f, w' = ext w f := by
  go_enter Tryz.func75, Tryz.ntmps75
  go_wp2
  go_ret
  exact ⟨rfl, grown_of⟩
theorem refaxis2_any (a b c : Int) (w : World) : Calls Tryz.prog 75 #[.agg #[.int .i64 a, .int .i64 b, .int .i64 c], .int .i64 2] w fun e w' => e = .returned (.int .i64 c) ∧ ∃ f, w' = ext w f := by
  go_enter Tryz.func75, Tryz.ntmps75
  go_wp2
  go_ret
  exact ⟨rfl, grown_of⟩
theorem floor_is (n m : Int) (h : flS n = m) (w : World) : Calls Tryz.prog 76 #[.int .i64 n] w fun e w' => e = .returned (.int .i64 m) ∧ w = w' := h ▸ reffloor_any n w
theorem sub_is (a b m : Int) (h : fsS a b = m) (w : World) : Calls Tryz.prog 77 #[.int .i64 a, .int .i64 b] w fun e w' => e = .returned (.int .i64 m) ∧ w = w' := h ▸ refsub_any a b w
theorem add_is (a b m : Int) (h : faS a b = m) (w : World) : Calls Tryz.prog 79 #[.int .i64 a, .int .i64 b] w fun e w' => e = .returned (.int .i64 m) ∧ w = w' := h ▸ reffadd_any a b w
theorem cut_is (a : Int) (h : fcS a = a) (w : World) : Calls Tryz.prog 78 #[.int .i64 a] w fun e w' => e = .returned (.int .i64 a) ∧ w = w' := by have := reffcut_any a w; rwa [h] at this
/-- The box of the body at 557056. -/
def bx0 : Array Value := #[.int .i64 537056, .int .i64 1376256, .int .i64 537056, .int .i64 577056, .int .i64 1476256, .int .i64 577056]
set_option maxHeartbeats 2000000 in
theorem refstand0 (w : World) : Calls Tryz.prog 40 #[.agg #[.int .i64 557056, .int .i64 1376256, .int .i64 557056], .int .i64 40000, .int .i64 100000] w fun e w' => e = .returned (.agg bx0) ∧ ∃ f, w' = ext w f := by
  have s0 := Lib.hid (fun W => sub_is 557056 20000 537056 (by decide +kernel) W)
  have s1 := Lib.hid (fun W => cut_is 1376256 (by decide +kernel) W)
  have s2 := Lib.hid (fun W => sub_is 557056 20000 537056 (by decide +kernel) W)
  have s3 := Lib.hid (fun W => add_is 557056 20000 577056 (by decide +kernel) W)
  have s4 := Lib.hid (fun W => add_is 1376256 100000 1476256 (by decide +kernel) W)
  have s5 := Lib.hid (fun W => add_is 557056 20000 577056 (by decide +kernel) W)
  go_enter Tryz.func40, Tryz.ntmps40
  go_wp2_with fail
  refine wp_region_ext_tail 27 ?_ ?_ ?_
  · kernel_rfl
  · kernel_rfl
  simp only [List.take_succ_cons, List.take_zero, List.drop_succ_cons, List.drop_zero]
  repeat (go_big_quiet_step (first | (go_at_call 77; with_reducible exact ext_same (s0.out _)) | (go_at_call 77; with_reducible exact ext_same (s2.out _)) | (go_at_call 78; with_reducible exact ext_same (s1.out _)) | (go_at_call 79; with_reducible exact ext_same (s3.out _)) | (go_at_call 79; with_reducible exact ext_same (s4.out _)) | (go_at_call 79; with_reducible exact ext_same (s5.out _))))
  refine wpQuiet_nil ?_
  rintro w1 ⟨_t, hw⟩
  have hc1 := named_cell hw
  have hz1 := named_frozen hw
  have hh1 := named_heap hw
  haveI hi1 := named_in hw
  haveI hb1 := named_below (w := w) hw
  clear hw
  go_wp2_with fail
  refine bodyPost_ret (by simp [results, Tryz.results40, go_sem, hc1]; try rfl) rfl ?_
  exact ⟨rfl, grown_of⟩
set_option maxHeartbeats 2000000 in
theorem refbox0 (st : Bool) (w : World) : Calls Tryz.prog 22 #[.agg (bodyV 557056 1376256 557056 st)] w fun e w' => e = .returned (.agg bx0) ∧ ∃ f, w' = ext w f := by
  have SD := Lib.hid (fun W => refstand0 W)
  unfold bx0 at SD ⊢
  unfold bodyV
  go_enter Tryz.func22, Tryz.ntmps22
  go_wp2_with fail
  refine (SD.out _).mono ?_
  rintro e w1 ⟨rfl, _t, hw⟩
  have hc1 := named_cell hw
  have hz1 := named_frozen hw
  have hh1 := named_heap hw
  haveI hi1 := named_in hw
  haveI hb1 := named_below (w := w) hw
  clear hw
  go_wp2_with fail
  refine bodyPost_ret (by simp [results, Tryz.results22, go_sem, hc1]; try rfl) rfl ?_
  exact ⟨rfl, grown_of⟩
set_option maxHeartbeats 4000000 in
theorem refspan0 (w : World) : Calls Tryz.prog 39 #[.agg bx0] w fun e w' => e = .returned (.tuple #[.agg #[.int .i64 8, .int .i64 21, .int .i64 8], .agg #[.int .i64 8, .int .i64 22, .int .i64 8], .bool true]) ∧ ∃ f, w' = ext w f := by
  unfold bx0
  go_enter Tryz.func39, Tryz.ntmps39
  go_wp2_with fail
  refine wp_loop_rounds 4 ?_
  rw [rounds_succ]
  go_wp2_with fail
  refine (refaxis0_any _ _ _ _).mono ?_
  rintro e w1 ⟨rfl, _t, hw⟩
  have hc1 := named_cell hw
  have hz1 := named_frozen hw
  have hh1 := named_heap hw
  haveI hi1 := named_in hw
  haveI hb1 := named_below (w := w) hw
  clear hw
  go_wp2_with fail
  refine (refaxis0_any _ _ _ _).mono ?_
  rintro e w2 ⟨rfl, _t, hw⟩
  have hc2 := named_cell hw
  have hz2 := named_frozen hw
  have hh2 := named_heap hw
  haveI hi2 := named_in hw
  haveI hb2 := named_below (w := w) hw
  clear hw
  go_wp2_with fail
  refine (floor_is 537056 8 (by decide +kernel) _).mono ?_
  rintro e v1 ⟨rfl, rfl⟩
  go_wp2_with fail
  refine (floor_is 577056 8 (by decide +kernel) _).mono ?_
  rintro e v1 ⟨rfl, rfl⟩
  go_wp2_with fail
  refine wp_region_ext ?_ ?_ ?_
  · kernel_rfl
  · kernel_rfl
  repeat (go_big_quiet_step (first | fail))
  refine wpQuiet_nil ?_
  rintro w3 ⟨_t, hw⟩
  have hc3 := named_cell hw
  have hz3 := named_frozen hw
  have hh3 := named_heap hw
  haveI hi3 := named_in hw
  haveI hb3 := named_below (w := w) hw
  clear hw
  go_wp2_with fail
  rw [rounds_succ]
  go_wp2_with fail
  refine (refaxis1_any _ _ _ _).mono ?_
  rintro e w4 ⟨rfl, _t, hw⟩
  have hc4 := named_cell hw
  have hz4 := named_frozen hw
  have hh4 := named_heap hw
  haveI hi4 := named_in hw
  haveI hb4 := named_below (w := w) hw
  clear hw
  go_wp2_with fail
  refine (refaxis1_any _ _ _ _).mono ?_
  rintro e w5 ⟨rfl, _t, hw⟩
  have hc5 := named_cell hw
  have hz5 := named_frozen hw
  have hh5 := named_heap hw
  haveI hi5 := named_in hw
  haveI hb5 := named_below (w := w) hw
  clear hw
  go_wp2_with fail
  refine (floor_is 1376256 21 (by decide +kernel) _).mono ?_
  rintro e v1 ⟨rfl, rfl⟩
  go_wp2_with fail
  refine (floor_is 1476256 22 (by decide +kernel) _).mono ?_
  rintro e v1 ⟨rfl, rfl⟩
  go_wp2_with fail
  refine wp_region_ext ?_ ?_ ?_
  · kernel_rfl
  · kernel_rfl
  repeat (go_big_quiet_step (first | fail))
  refine wpQuiet_nil ?_
  rintro w6 ⟨_t, hw⟩
  have hc6 := named_cell hw
  have hz6 := named_frozen hw
  have hh6 := named_heap hw
  haveI hi6 := named_in hw
  haveI hb6 := named_below (w := w) hw
  clear hw
  go_wp2_with fail
  rw [rounds_succ]
  go_wp2_with fail
  refine (refaxis2_any _ _ _ _).mono ?_
  rintro e w7 ⟨rfl, _t, hw⟩
  have hc7 := named_cell hw
  have hz7 := named_frozen hw
  have hh7 := named_heap hw
  haveI hi7 := named_in hw
  haveI hb7 := named_below (w := w) hw
  clear hw
  go_wp2_with fail
  refine (refaxis2_any _ _ _ _).mono ?_
  rintro e w8 ⟨rfl, _t, hw⟩
  have hc8 := named_cell hw
  have hz8 := named_frozen hw
  have hh8 := named_heap hw
  haveI hi8 := named_in hw
  haveI hb8 := named_below (w := w) hw
  clear hw
  go_wp2_with fail
  refine (floor_is 537056 8 (by decide +kernel) _).mono ?_
  rintro e v1 ⟨rfl, rfl⟩
  go_wp2_with fail
  refine (floor_is 577056 8 (by decide +kernel) _).mono ?_
  rintro e v1 ⟨rfl, rfl⟩
  go_wp2_with fail
  refine wp_region_ext ?_ ?_ ?_
  · kernel_rfl
  · kernel_rfl
  repeat (go_big_quiet_step (first | fail))
  refine wpQuiet_nil ?_
  rintro w9 ⟨_t, hw⟩
  have hc9 := named_cell hw
  have hz9 := named_frozen hw
  have hh9 := named_heap hw
  haveI hi9 := named_in hw
  haveI hb9 := named_below (w := w) hw
  clear hw
  go_wp2_with fail
  rw [rounds_succ]
  go_wp2_with fail
  have h0 : w9.cell? ⟨w.heap.size + 1 + 1 + 1, 0, none⟩ = some (.int .i64 8) := by go_simp
  have h1 : w9.cell? ⟨w.heap.size + 1 + 1 + 1, 1, none⟩ = some (.int .i64 21) := by go_simp
  have h2 : w9.cell? ⟨w.heap.size + 1 + 1 + 1, 2, none⟩ = some (.int .i64 8) := by go_simp
  have h3 : w9.cell? ⟨w.heap.size + 1 + 1 + 1 + 1, 0, none⟩ = some (.int .i64 8) := by go_simp
  have h4 : w9.cell? ⟨w.heap.size + 1 + 1 + 1 + 1, 1, none⟩ = some (.int .i64 22) := by go_simp
  have h5 : w9.cell? ⟨w.heap.size + 1 + 1 + 1 + 1, 2, none⟩ = some (.int .i64 8) := by go_simp
  have h6 : w9.cell? ⟨w.heap.size + 1, 0, none⟩ = some (.int .i64 0) := by go_simp
  have f6 : w9.frozen? ⟨w.heap.size + 1, 0, none⟩ = false := by go_simp
  have h7 : w9.cell? ⟨w.heap.size + 1, 1, none⟩ = some (.int .i64 0) := by go_simp
  have f7 : w9.frozen? ⟨w.heap.size + 1, 1, none⟩ = false := by go_simp
  have h8 : w9.cell? ⟨w.heap.size + 1, 2, none⟩ = some (.int .i64 0) := by go_simp
  have f8 : w9.frozen? ⟨w.heap.size + 1, 2, none⟩ = false := by go_simp
  have h9 : w9.cell? ⟨w.heap.size + 1 + 1, 0, none⟩ = some (.int .i64 0) := by go_simp
  have f9 : w9.frozen? ⟨w.heap.size + 1 + 1, 0, none⟩ = false := by go_simp
  have h10 : w9.cell? ⟨w.heap.size + 1 + 1, 1, none⟩ = some (.int .i64 0) := by go_simp
  have f10 : w9.frozen? ⟨w.heap.size + 1 + 1, 1, none⟩ = false := by go_simp
  have h11 : w9.cell? ⟨w.heap.size + 1 + 1, 2, none⟩ = some (.int .i64 0) := by go_simp
  have f11 : w9.frozen? ⟨w.heap.size + 1 + 1, 2, none⟩ = false := by go_simp
  have BW := Lib.hid (grown_now (w := w) (W := w9))
  clear hc1 hc2 hc3 hc4 hc5 hc6 hc7 hc8 hc9 hz1 hz2 hz3 hz4 hz5 hz6 hz7 hz8 hz9
  go_region_held3 (fun w' => w'.cell? ⟨w.heap.size + 1 + 1 + 1, 0, none⟩ = some (.int .i64 8) ∧ w'.cell? ⟨w.heap.size + 1 + 1 + 1, 1, none⟩ = some (.int .i64 21) ∧ w'.cell? ⟨w.heap.size + 1 + 1 + 1, 2, none⟩ = some (.int .i64 8) ∧ w'.cell? ⟨w.heap.size + 1 + 1 + 1 + 1, 0, none⟩ = some (.int .i64 8) ∧ w'.cell? ⟨w.heap.size + 1 + 1 + 1 + 1, 1, none⟩ = some (.int .i64 22) ∧ w'.cell? ⟨w.heap.size + 1 + 1 + 1 + 1, 2, none⟩ = some (.int .i64 8))
    (((try dsimp only); refine ⟨?_, ?_, ?_, ?_, ?_, ?_⟩ <;> go_simp))
    (fail)
  all_goals
    go_wp2_with fail
    refine bodyPost_ret (by simp [results, Tryz.results39, go_sem, h6, h7, h8, h9, h10, h11]; try rfl) rfl ?_
    exact ⟨rfl, grown_of⟩
/-- The box of the body at 622592. -/
def bx1 : Array Value := #[.int .i64 602592, .int .i64 1376256, .int .i64 537056, .int .i64 642592, .int .i64 1476256, .int .i64 577056]
set_option maxHeartbeats 2000000 in
theorem refstand1 (w : World) : Calls Tryz.prog 40 #[.agg #[.int .i64 622592, .int .i64 1376256, .int .i64 557056], .int .i64 40000, .int .i64 100000] w fun e w' => e = .returned (.agg bx1) ∧ ∃ f, w' = ext w f := by
  have s0 := Lib.hid (fun W => sub_is 622592 20000 602592 (by decide +kernel) W)
  have s1 := Lib.hid (fun W => cut_is 1376256 (by decide +kernel) W)
  have s2 := Lib.hid (fun W => sub_is 557056 20000 537056 (by decide +kernel) W)
  have s3 := Lib.hid (fun W => add_is 622592 20000 642592 (by decide +kernel) W)
  have s4 := Lib.hid (fun W => add_is 1376256 100000 1476256 (by decide +kernel) W)
  have s5 := Lib.hid (fun W => add_is 557056 20000 577056 (by decide +kernel) W)
  go_enter Tryz.func40, Tryz.ntmps40
  go_wp2_with fail
  refine wp_region_ext_tail 27 ?_ ?_ ?_
  · kernel_rfl
  · kernel_rfl
  simp only [List.take_succ_cons, List.take_zero, List.drop_succ_cons, List.drop_zero]
  repeat (go_big_quiet_step (first | (go_at_call 77; with_reducible exact ext_same (s0.out _)) | (go_at_call 77; with_reducible exact ext_same (s2.out _)) | (go_at_call 78; with_reducible exact ext_same (s1.out _)) | (go_at_call 79; with_reducible exact ext_same (s3.out _)) | (go_at_call 79; with_reducible exact ext_same (s4.out _)) | (go_at_call 79; with_reducible exact ext_same (s5.out _))))
  refine wpQuiet_nil ?_
  rintro w1 ⟨_t, hw⟩
  have hc1 := named_cell hw
  have hz1 := named_frozen hw
  have hh1 := named_heap hw
  haveI hi1 := named_in hw
  haveI hb1 := named_below (w := w) hw
  clear hw
  go_wp2_with fail
  refine bodyPost_ret (by simp [results, Tryz.results40, go_sem, hc1]; try rfl) rfl ?_
  exact ⟨rfl, grown_of⟩
set_option maxHeartbeats 2000000 in
theorem refbox1 (st : Bool) (w : World) : Calls Tryz.prog 22 #[.agg (bodyV 622592 1376256 557056 st)] w fun e w' => e = .returned (.agg bx1) ∧ ∃ f, w' = ext w f := by
  have SD := Lib.hid (fun W => refstand1 W)
  unfold bx1 at SD ⊢
  unfold bodyV
  go_enter Tryz.func22, Tryz.ntmps22
  go_wp2_with fail
  refine (SD.out _).mono ?_
  rintro e w1 ⟨rfl, _t, hw⟩
  have hc1 := named_cell hw
  have hz1 := named_frozen hw
  have hh1 := named_heap hw
  haveI hi1 := named_in hw
  haveI hb1 := named_below (w := w) hw
  clear hw
  go_wp2_with fail
  refine bodyPost_ret (by simp [results, Tryz.results22, go_sem, hc1]; try rfl) rfl ?_
  exact ⟨rfl, grown_of⟩
set_option maxHeartbeats 4000000 in
theorem refspan1 (w : World) : Calls Tryz.prog 39 #[.agg bx1] w fun e w' => e = .returned (.tuple #[.agg #[.int .i64 9, .int .i64 21, .int .i64 8], .agg #[.int .i64 9, .int .i64 22, .int .i64 8], .bool true]) ∧ ∃ f, w' = ext w f := by
  unfold bx1
  go_enter Tryz.func39, Tryz.ntmps39
  go_wp2_with fail
  refine wp_loop_rounds 4 ?_
  rw [rounds_succ]
  go_wp2_with fail
  refine (refaxis0_any _ _ _ _).mono ?_
  rintro e w1 ⟨rfl, _t, hw⟩
  have hc1 := named_cell hw
  have hz1 := named_frozen hw
  have hh1 := named_heap hw
  haveI hi1 := named_in hw
  haveI hb1 := named_below (w := w) hw
  clear hw
  go_wp2_with fail
  refine (refaxis0_any _ _ _ _).mono ?_
  rintro e w2 ⟨rfl, _t, hw⟩
  have hc2 := named_cell hw
  have hz2 := named_frozen hw
  have hh2 := named_heap hw
  haveI hi2 := named_in hw
  haveI hb2 := named_below (w := w) hw
  clear hw
  go_wp2_with fail
  refine (floor_is 602592 9 (by decide +kernel) _).mono ?_
  rintro e v1 ⟨rfl, rfl⟩
  go_wp2_with fail
  refine (floor_is 642592 9 (by decide +kernel) _).mono ?_
  rintro e v1 ⟨rfl, rfl⟩
  go_wp2_with fail
  refine wp_region_ext ?_ ?_ ?_
  · kernel_rfl
  · kernel_rfl
  repeat (go_big_quiet_step (first | fail))
  refine wpQuiet_nil ?_
  rintro w3 ⟨_t, hw⟩
  have hc3 := named_cell hw
  have hz3 := named_frozen hw
  have hh3 := named_heap hw
  haveI hi3 := named_in hw
  haveI hb3 := named_below (w := w) hw
  clear hw
  go_wp2_with fail
  rw [rounds_succ]
  go_wp2_with fail
  refine (refaxis1_any _ _ _ _).mono ?_
  rintro e w4 ⟨rfl, _t, hw⟩
  have hc4 := named_cell hw
  have hz4 := named_frozen hw
  have hh4 := named_heap hw
  haveI hi4 := named_in hw
  haveI hb4 := named_below (w := w) hw
  clear hw
  go_wp2_with fail
  refine (refaxis1_any _ _ _ _).mono ?_
  rintro e w5 ⟨rfl, _t, hw⟩
  have hc5 := named_cell hw
  have hz5 := named_frozen hw
  have hh5 := named_heap hw
  haveI hi5 := named_in hw
  haveI hb5 := named_below (w := w) hw
  clear hw
  go_wp2_with fail
  refine (floor_is 1376256 21 (by decide +kernel) _).mono ?_
  rintro e v1 ⟨rfl, rfl⟩
  go_wp2_with fail
  refine (floor_is 1476256 22 (by decide +kernel) _).mono ?_
  rintro e v1 ⟨rfl, rfl⟩
  go_wp2_with fail
  refine wp_region_ext ?_ ?_ ?_
  · kernel_rfl
  · kernel_rfl
  repeat (go_big_quiet_step (first | fail))
  refine wpQuiet_nil ?_
  rintro w6 ⟨_t, hw⟩
  have hc6 := named_cell hw
  have hz6 := named_frozen hw
  have hh6 := named_heap hw
  haveI hi6 := named_in hw
  haveI hb6 := named_below (w := w) hw
  clear hw
  go_wp2_with fail
  rw [rounds_succ]
  go_wp2_with fail
  refine (refaxis2_any _ _ _ _).mono ?_
  rintro e w7 ⟨rfl, _t, hw⟩
  have hc7 := named_cell hw
  have hz7 := named_frozen hw
  have hh7 := named_heap hw
  haveI hi7 := named_in hw
  haveI hb7 := named_below (w := w) hw
  clear hw
  go_wp2_with fail
  refine (refaxis2_any _ _ _ _).mono ?_
  rintro e w8 ⟨rfl, _t, hw⟩
  have hc8 := named_cell hw
  have hz8 := named_frozen hw
  have hh8 := named_heap hw
  haveI hi8 := named_in hw
  haveI hb8 := named_below (w := w) hw
  clear hw
  go_wp2_with fail
  refine (floor_is 537056 8 (by decide +kernel) _).mono ?_
  rintro e v1 ⟨rfl, rfl⟩
  go_wp2_with fail
  refine (floor_is 577056 8 (by decide +kernel) _).mono ?_
  rintro e v1 ⟨rfl, rfl⟩
  go_wp2_with fail
  refine wp_region_ext ?_ ?_ ?_
  · kernel_rfl
  · kernel_rfl
  repeat (go_big_quiet_step (first | fail))
  refine wpQuiet_nil ?_
  rintro w9 ⟨_t, hw⟩
  have hc9 := named_cell hw
  have hz9 := named_frozen hw
  have hh9 := named_heap hw
  haveI hi9 := named_in hw
  haveI hb9 := named_below (w := w) hw
  clear hw
  go_wp2_with fail
  rw [rounds_succ]
  go_wp2_with fail
  have h0 : w9.cell? ⟨w.heap.size + 1 + 1 + 1, 0, none⟩ = some (.int .i64 9) := by go_simp
  have h1 : w9.cell? ⟨w.heap.size + 1 + 1 + 1, 1, none⟩ = some (.int .i64 21) := by go_simp
  have h2 : w9.cell? ⟨w.heap.size + 1 + 1 + 1, 2, none⟩ = some (.int .i64 8) := by go_simp
  have h3 : w9.cell? ⟨w.heap.size + 1 + 1 + 1 + 1, 0, none⟩ = some (.int .i64 9) := by go_simp
  have h4 : w9.cell? ⟨w.heap.size + 1 + 1 + 1 + 1, 1, none⟩ = some (.int .i64 22) := by go_simp
  have h5 : w9.cell? ⟨w.heap.size + 1 + 1 + 1 + 1, 2, none⟩ = some (.int .i64 8) := by go_simp
  have h6 : w9.cell? ⟨w.heap.size + 1, 0, none⟩ = some (.int .i64 0) := by go_simp
  have f6 : w9.frozen? ⟨w.heap.size + 1, 0, none⟩ = false := by go_simp
  have h7 : w9.cell? ⟨w.heap.size + 1, 1, none⟩ = some (.int .i64 0) := by go_simp
  have f7 : w9.frozen? ⟨w.heap.size + 1, 1, none⟩ = false := by go_simp
  have h8 : w9.cell? ⟨w.heap.size + 1, 2, none⟩ = some (.int .i64 0) := by go_simp
  have f8 : w9.frozen? ⟨w.heap.size + 1, 2, none⟩ = false := by go_simp
  have h9 : w9.cell? ⟨w.heap.size + 1 + 1, 0, none⟩ = some (.int .i64 0) := by go_simp
  have f9 : w9.frozen? ⟨w.heap.size + 1 + 1, 0, none⟩ = false := by go_simp
  have h10 : w9.cell? ⟨w.heap.size + 1 + 1, 1, none⟩ = some (.int .i64 0) := by go_simp
  have f10 : w9.frozen? ⟨w.heap.size + 1 + 1, 1, none⟩ = false := by go_simp
  have h11 : w9.cell? ⟨w.heap.size + 1 + 1, 2, none⟩ = some (.int .i64 0) := by go_simp
  have f11 : w9.frozen? ⟨w.heap.size + 1 + 1, 2, none⟩ = false := by go_simp
  have BW := Lib.hid (grown_now (w := w) (W := w9))
  clear hc1 hc2 hc3 hc4 hc5 hc6 hc7 hc8 hc9 hz1 hz2 hz3 hz4 hz5 hz6 hz7 hz8 hz9
  go_region_held3 (fun w' => w'.cell? ⟨w.heap.size + 1 + 1 + 1, 0, none⟩ = some (.int .i64 9) ∧ w'.cell? ⟨w.heap.size + 1 + 1 + 1, 1, none⟩ = some (.int .i64 21) ∧ w'.cell? ⟨w.heap.size + 1 + 1 + 1, 2, none⟩ = some (.int .i64 8) ∧ w'.cell? ⟨w.heap.size + 1 + 1 + 1 + 1, 0, none⟩ = some (.int .i64 9) ∧ w'.cell? ⟨w.heap.size + 1 + 1 + 1 + 1, 1, none⟩ = some (.int .i64 22) ∧ w'.cell? ⟨w.heap.size + 1 + 1 + 1 + 1, 2, none⟩ = some (.int .i64 8))
    (((try dsimp only); refine ⟨?_, ?_, ?_, ?_, ?_, ?_⟩ <;> go_simp))
    (fail)
  all_goals
    go_wp2_with fail
    refine bodyPost_ret (by simp [results, Tryz.results39, go_sem, h6, h7, h8, h9, h10, h11]; try rfl) rfl ?_
    exact ⟨rfl, grown_of⟩
end Go.Proofs.YtnogfelfgclajaaGreatDoor
end

section
namespace Go.Proofs.YtnogfelfgclajaaGreatDoor
open Go.RowKit
attribute [local go_sem] ext_ext drew_ext ext_drew ext_cell ext_frozen in_lt in_le in_ne in_en in_ne1 in_en1 in_le1 in_ltn in_len in_nen in_enn size_le ite_max ite_min
set_option linter.unusedVariables false
set_option linter.unusedSimpArgs false
set_option maxRecDepth 1000000
attribute [local go_sem] calm calmUpon

set_option maxHeartbeats 8000000 in
/-- The cells of the body's box. -/
theorem refcells0 (w : World) : Calls Tryz.prog 21 #[.agg bx0] w fun e w' => (∃ g cap, e = .returned (.slice (some ⟨g, 0, none⟩) 2 cap) ∧ w'.cell? ⟨g, 0, none⟩ = some (.int .i64 8) ∧ w'.cell? ⟨g, 1, none⟩ = some (.int .i64 21) ∧ w'.cell? ⟨g, 2, none⟩ = some (.int .i64 8) ∧ w'.cell? ⟨g, 3, none⟩ = some (.int .i64 8) ∧ w'.cell? ⟨g, 4, none⟩ = some (.int .i64 22) ∧ w'.cell? ⟨g, 5, none⟩ = some (.int .i64 8)) ∧ Below w.heap.size w w' := by
  have SP := Lib.hid (fun W => refspan0 W)
  obtain ⟨i0, iz0, iz1, iz2, iz3⟩ := info_parts cellInfo
  unfold bx0 at SP ⊢
  go_enter Tryz.func21, Tryz.ntmps21
  go_wp2_with fail
  refine (SP.out _).mono ?_
  rintro e w1 ⟨rfl, _t, hw⟩
  have hc1 := named_cell hw
  have hz1 := named_frozen hw
  have hh1 := named_heap hw
  haveI hi1 := named_in hw
  haveI hb1 := named_below (w := w) hw
  clear hw
  go_wp2_with fail
  have B2 := Lib.hid (show Below w.heap.size w ((w1.alloc (.cells #[.int .i64 8, .int .i64 21, .int .i64 8] 30)).alloc (.cells #[.int .i64 8, .int .i64 22, .int .i64 8] 30)) from grown_now)
  have X2 : ((w1.alloc (.cells #[.int .i64 8, .int .i64 21, .int .i64 8] 30)).alloc (.cells #[.int .i64 8, .int .i64 22, .int .i64 8] 30)).heap[w1.heap.size]? = some (.cells #[.int .i64 8, .int .i64 21, .int .i64 8] 30 (0, 0)) := (heap_alloc_old _ _ (by simp)).trans (heap_alloc_new _ _)
  have Y2 : ((w1.alloc (.cells #[.int .i64 8, .int .i64 21, .int .i64 8] 30)).alloc (.cells #[.int .i64 8, .int .i64 22, .int .i64 8] 30)).heap[w1.heap.size + 1]? = some (.cells #[.int .i64 8, .int .i64 22, .int .i64 8] 30 (0, 0)) := by
    have := heap_alloc_new (w1.alloc (.cells #[.int .i64 8, .int .i64 21, .int .i64 8] 30)) (.cells #[.int .i64 8, .int .i64 22, .int .i64 8] 30)
    rw [World.size_alloc] at this
    exact this
  generalize (w1.alloc (.cells #[.int .i64 8, .int .i64 21, .int .i64 8] 30)).alloc (.cells #[.int .i64 8, .int .i64 22, .int .i64 8] 30) = w2 at *
  generalize w1.heap.size + 1 = by2 at *
  generalize w1.heap.size = by1 at *
  clear hc1 hz1 hh1 hi1 hb1
  have p0 := cell_of_block (i := 0) X2 rfl
  have p1 := cell_of_block (i := 1) X2 rfl
  have p2 := cell_of_block (i := 2) X2 rfl
  have r0 := cell_of_block (i := 0) Y2 rfl
  have r1 := cell_of_block (i := 1) Y2 rfl
  have r2 := cell_of_block (i := 2) Y2 rfl
  haveI := in_of_cell p0
  haveI := in_of_cell r0
  refine wp_loop_rounds 3 ?_
  rw [rounds_succ]
  go_wp2_with fail
  refine wp_loop_rounds 2 ?_
  rw [rounds_succ]
  go_wp2_with fail
  refine wp_loop_rounds 2 ?_
  rw [rounds_succ]
  go_wp2_with (at_builtin; refine wpList_append_own _ rfl (.tmp 43) (.tmp 48) 54 rfl w2.heap.size 30 i0 _ 3 24 Tryz.underlying54 iz0 iz1 iz2 iz3 rfl (by omega) _ _ _ rfl (World.ownsRow_nil _ w2.heap.size 30 3) _ 1 1 [.int .i64 8, .int .i64 21, .int .i64 8] rfl rfl (World.news_of_block (heap_alloc_new w2 _)) (by simp [Value.oneCell']) (by unfold maxLen; omega) (by omega) (by simp) ?_; intro v3 w3 ho3 hgr3 hx; clear hx)
  have B3 := Lib.hid (show Below w.heap.size w w3 from (B2.out.alloc B2.out.size _).grown hgr3 (by have := B2.out.size; simp; omega) (fun k hk => by cases hk))
  have X3 := (hgr3.block by1 (by simp; have := lt_of_block X2; omega) (fun e => by cases e)).trans ((heap_alloc_old _ _ (lt_of_block X2)).trans X2)
  have Y3 := (hgr3.block by2 (by simp; have := lt_of_block Y2; omega) (fun e => by cases e)).trans ((heap_alloc_old _ _ (lt_of_block Y2)).trans Y2)
  have S3 : w2.heap.size ≤ w3.heap.size := Nat.le_trans (by simp) hgr3.size
  have O3 := Lib.hid ho3
  clear p0 p1 p2 r0 r1 r2 hgr3 ho3
  have p0 := cell_of_block (i := 0) X3 rfl
  have p1 := cell_of_block (i := 1) X3 rfl
  have p2 := cell_of_block (i := 2) X3 rfl
  have r0 := cell_of_block (i := 0) Y3 rfl
  have r1 := cell_of_block (i := 1) Y3 rfl
  have r2 := cell_of_block (i := 2) Y3 rfl
  haveI := in_of_cell p0
  haveI := in_of_cell r0
  obtain ⟨g3, cap3, hv3, hb3, _⟩ := owns_some O3.out (by omega)
  subst hv3
  rw [rounds_succ]
  go_wp2_with fail
  rw [rounds_succ]
  go_wp2_with fail
  rw [rounds_succ]
  go_wp2_with fail
  refine wp_loop_rounds 2 ?_
  rw [rounds_succ]
  go_wp2_with fail
  refine wp_loop_rounds 2 ?_
  rw [rounds_succ]
  go_wp2_with (at_builtin; refine wpList_append_own _ rfl (.tmp 43) (.tmp 48) 54 rfl w2.heap.size 30 i0 _ 3 24 Tryz.underlying54 iz0 iz1 iz2 iz3 rfl (by omega) _ _ _ rfl (O3.out.alloc _) _ 1 1 [.int .i64 8, .int .i64 22, .int .i64 8] rfl rfl (World.news_of_block (heap_alloc_new w3 _)) (by simp [Value.oneCell']) (by unfold maxLen; omega) (by omega) (by have := S3; simp; omega) ?_; intro v4 w4 ho4 hgr4 hx; clear hx)
  have B4 := Lib.hid (show Below w.heap.size w w4 from (B3.out.alloc B3.out.size _).grown hgr4 (by have := B3.out.size; simp; omega) (fun k hk => Nat.le_trans B2.out.size (O3.out.lt k hk).1))
  have m1 := lt_of_block X2
  have m2 := lt_of_block Y2
  have X4 := (hgr4.block by1 (by simp; have := lt_of_block X3; omega) (fun e => by have e := Option.some.inj e; simp only at e; omega)).trans ((heap_alloc_old _ _ (lt_of_block X3)).trans X3)
  have Y4 := (hgr4.block by2 (by simp; have := lt_of_block Y3; omega) (fun e => by have e := Option.some.inj e; simp only at e; omega)).trans ((heap_alloc_old _ _ (lt_of_block Y3)).trans Y3)
  have O4 := Lib.hid ho4
  clear p0 p1 p2 r0 r1 r2 hgr4 ho4
  have p0 := cell_of_block (i := 0) X4 rfl
  have p1 := cell_of_block (i := 1) X4 rfl
  have p2 := cell_of_block (i := 2) X4 rfl
  have r0 := cell_of_block (i := 0) Y4 rfl
  have r1 := cell_of_block (i := 1) Y4 rfl
  have r2 := cell_of_block (i := 2) Y4 rfl
  haveI := in_of_cell p0
  haveI := in_of_cell r0
  obtain ⟨g4, cap4, hv4, hb4, _, _, hcell4⟩ := owns_some O4.out (by omega)
  subst hv4
  have HC := Lib.hid hcell4
  clear hcell4
  rw [rounds_succ]
  go_wp2_with fail
  rw [rounds_succ]
  go_wp2_with fail
  rw [rounds_succ]
  go_wp2_with fail
  go_ret
  exact ⟨⟨g4, cap4, rfl, HC.out 0 _ rfl, HC.out 1 _ rfl, HC.out 2 _ rfl, HC.out 3 _ rfl, HC.out 4 _ rfl, HC.out 5 _ rfl⟩, B4.out⟩
set_option maxHeartbeats 8000000 in
/-- The cells of the body's box. -/
theorem refcells1 (w : World) : Calls Tryz.prog 21 #[.agg bx1] w fun e w' => (∃ g cap, e = .returned (.slice (some ⟨g, 0, none⟩) 2 cap) ∧ w'.cell? ⟨g, 0, none⟩ = some (.int .i64 9) ∧ w'.cell? ⟨g, 1, none⟩ = some (.int .i64 21) ∧ w'.cell? ⟨g, 2, none⟩ = some (.int .i64 8) ∧ w'.cell? ⟨g, 3, none⟩ = some (.int .i64 9) ∧ w'.cell? ⟨g, 4, none⟩ = some (.int .i64 22) ∧ w'.cell? ⟨g, 5, none⟩ = some (.int .i64 8)) ∧ Below w.heap.size w w' := by
  have SP := Lib.hid (fun W => refspan1 W)
  obtain ⟨i0, iz0, iz1, iz2, iz3⟩ := info_parts cellInfo
  unfold bx1 at SP ⊢
  go_enter Tryz.func21, Tryz.ntmps21
  go_wp2_with fail
  refine (SP.out _).mono ?_
  rintro e w1 ⟨rfl, _t, hw⟩
  have hc1 := named_cell hw
  have hz1 := named_frozen hw
  have hh1 := named_heap hw
  haveI hi1 := named_in hw
  haveI hb1 := named_below (w := w) hw
  clear hw
  go_wp2_with fail
  have B2 := Lib.hid (show Below w.heap.size w ((w1.alloc (.cells #[.int .i64 9, .int .i64 21, .int .i64 8] 30)).alloc (.cells #[.int .i64 9, .int .i64 22, .int .i64 8] 30)) from grown_now)
  have X2 : ((w1.alloc (.cells #[.int .i64 9, .int .i64 21, .int .i64 8] 30)).alloc (.cells #[.int .i64 9, .int .i64 22, .int .i64 8] 30)).heap[w1.heap.size]? = some (.cells #[.int .i64 9, .int .i64 21, .int .i64 8] 30 (0, 0)) := (heap_alloc_old _ _ (by simp)).trans (heap_alloc_new _ _)
  have Y2 : ((w1.alloc (.cells #[.int .i64 9, .int .i64 21, .int .i64 8] 30)).alloc (.cells #[.int .i64 9, .int .i64 22, .int .i64 8] 30)).heap[w1.heap.size + 1]? = some (.cells #[.int .i64 9, .int .i64 22, .int .i64 8] 30 (0, 0)) := by
    have := heap_alloc_new (w1.alloc (.cells #[.int .i64 9, .int .i64 21, .int .i64 8] 30)) (.cells #[.int .i64 9, .int .i64 22, .int .i64 8] 30)
    rw [World.size_alloc] at this
    exact this
  generalize (w1.alloc (.cells #[.int .i64 9, .int .i64 21, .int .i64 8] 30)).alloc (.cells #[.int .i64 9, .int .i64 22, .int .i64 8] 30) = w2 at *
  generalize w1.heap.size + 1 = by2 at *
  generalize w1.heap.size = by1 at *
  clear hc1 hz1 hh1 hi1 hb1
  have p0 := cell_of_block (i := 0) X2 rfl
  have p1 := cell_of_block (i := 1) X2 rfl
  have p2 := cell_of_block (i := 2) X2 rfl
  have r0 := cell_of_block (i := 0) Y2 rfl
  have r1 := cell_of_block (i := 1) Y2 rfl
  have r2 := cell_of_block (i := 2) Y2 rfl
  haveI := in_of_cell p0
  haveI := in_of_cell r0
  refine wp_loop_rounds 3 ?_
  rw [rounds_succ]
  go_wp2_with fail
  refine wp_loop_rounds 2 ?_
  rw [rounds_succ]
  go_wp2_with fail
  refine wp_loop_rounds 2 ?_
  rw [rounds_succ]
  go_wp2_with (at_builtin; refine wpList_append_own _ rfl (.tmp 43) (.tmp 48) 54 rfl w2.heap.size 30 i0 _ 3 24 Tryz.underlying54 iz0 iz1 iz2 iz3 rfl (by omega) _ _ _ rfl (World.ownsRow_nil _ w2.heap.size 30 3) _ 1 1 [.int .i64 9, .int .i64 21, .int .i64 8] rfl rfl (World.news_of_block (heap_alloc_new w2 _)) (by simp [Value.oneCell']) (by unfold maxLen; omega) (by omega) (by simp) ?_; intro v3 w3 ho3 hgr3 hx; clear hx)
  have B3 := Lib.hid (show Below w.heap.size w w3 from (B2.out.alloc B2.out.size _).grown hgr3 (by have := B2.out.size; simp; omega) (fun k hk => by cases hk))
  have X3 := (hgr3.block by1 (by simp; have := lt_of_block X2; omega) (fun e => by cases e)).trans ((heap_alloc_old _ _ (lt_of_block X2)).trans X2)
  have Y3 := (hgr3.block by2 (by simp; have := lt_of_block Y2; omega) (fun e => by cases e)).trans ((heap_alloc_old _ _ (lt_of_block Y2)).trans Y2)
  have S3 : w2.heap.size ≤ w3.heap.size := Nat.le_trans (by simp) hgr3.size
  have O3 := Lib.hid ho3
  clear p0 p1 p2 r0 r1 r2 hgr3 ho3
  have p0 := cell_of_block (i := 0) X3 rfl
  have p1 := cell_of_block (i := 1) X3 rfl
  have p2 := cell_of_block (i := 2) X3 rfl
  have r0 := cell_of_block (i := 0) Y3 rfl
  have r1 := cell_of_block (i := 1) Y3 rfl
  have r2 := cell_of_block (i := 2) Y3 rfl
  haveI := in_of_cell p0
  haveI := in_of_cell r0
  obtain ⟨g3, cap3, hv3, hb3, _⟩ := owns_some O3.out (by omega)
  subst hv3
  rw [rounds_succ]
  go_wp2_with fail
  rw [rounds_succ]
  go_wp2_with fail
  rw [rounds_succ]
  go_wp2_with fail
  refine wp_loop_rounds 2 ?_
  rw [rounds_succ]
  go_wp2_with fail
  refine wp_loop_rounds 2 ?_
  rw [rounds_succ]
  go_wp2_with (at_builtin; refine wpList_append_own _ rfl (.tmp 43) (.tmp 48) 54 rfl w2.heap.size 30 i0 _ 3 24 Tryz.underlying54 iz0 iz1 iz2 iz3 rfl (by omega) _ _ _ rfl (O3.out.alloc _) _ 1 1 [.int .i64 9, .int .i64 22, .int .i64 8] rfl rfl (World.news_of_block (heap_alloc_new w3 _)) (by simp [Value.oneCell']) (by unfold maxLen; omega) (by omega) (by have := S3; simp; omega) ?_; intro v4 w4 ho4 hgr4 hx; clear hx)
  have B4 := Lib.hid (show Below w.heap.size w w4 from (B3.out.alloc B3.out.size _).grown hgr4 (by have := B3.out.size; simp; omega) (fun k hk => Nat.le_trans B2.out.size (O3.out.lt k hk).1))
  have m1 := lt_of_block X2
  have m2 := lt_of_block Y2
  have X4 := (hgr4.block by1 (by simp; have := lt_of_block X3; omega) (fun e => by have e := Option.some.inj e; simp only at e; omega)).trans ((heap_alloc_old _ _ (lt_of_block X3)).trans X3)
  have Y4 := (hgr4.block by2 (by simp; have := lt_of_block Y3; omega) (fun e => by have e := Option.some.inj e; simp only at e; omega)).trans ((heap_alloc_old _ _ (lt_of_block Y3)).trans Y3)
  have O4 := Lib.hid ho4
  clear p0 p1 p2 r0 r1 r2 hgr4 ho4
  have p0 := cell_of_block (i := 0) X4 rfl
  have p1 := cell_of_block (i := 1) X4 rfl
  have p2 := cell_of_block (i := 2) X4 rfl
  have r0 := cell_of_block (i := 0) Y4 rfl
  have r1 := cell_of_block (i := 1) Y4 rfl
  have r2 := cell_of_block (i := 2) Y4 rfl
  haveI := in_of_cell p0
  haveI := in_of_cell r0
  obtain ⟨g4, cap4, hv4, hb4, _, _, hcell4⟩ := owns_some O4.out (by omega)
  subst hv4
  have HC := Lib.hid hcell4
  clear hcell4
  rw [rounds_succ]
  go_wp2_with fail
  rw [rounds_succ]
  go_wp2_with fail
  rw [rounds_succ]
  go_wp2_with fail
  go_ret
  exact ⟨⟨g4, cap4, rfl, HC.out 0 _ rfl, HC.out 1 _ rfl, HC.out 2 _ rfl, HC.out 3 _ rfl, HC.out 4 _ rfl, HC.out 5 _ rfl⟩, B4.out⟩
#print axioms refcells1
end Go.Proofs.YtnogfelfgclajaaGreatDoor
end
