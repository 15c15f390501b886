/-
  A box that overlaps no cell: what both functions hand back.
-/
import Derived.Test.YtdlapfpjbcjaeaaRefSpan
import Derived.Handy
import Derived.Deep.CutRange
namespace Go.Proofs.Ytdlapfpjbcjaeaa
open Go.RowKit
attribute [local go_sem] ext_ext drew_ext ext_drew ext_cell ext_frozen in_lt in_le in_ne in_en in_ne1 in_en1 in_le1 in_ltn in_len in_nen in_enn size_le ite_max ite_min
set_option linter.unusedVariables false
set_option linter.unusedSimpArgs false

set_option maxRecDepth 100000 in
set_option maxHeartbeats 8000000 in
theorem span_none0 (a b c d e f : Int) (ha : voidS a d = true) (w : World) :
    Calls Try.prog 39 #[.agg #[.int .i64 a, .int .i64 b, .int .i64 c, .int .i64 d, .int .i64 e, .int .i64 f]] w fun o w' => o = .returned (.tuple #[.agg #[.int .i64 0, .int .i64 0, .int .i64 0], .agg #[.int .i64 0, .int .i64 0, .int .i64 0], .bool false]) ∧ ∃ f, w' = ext w f := by
  obtain ⟨v1, v2⟩ := voidS_true ha
  go_enter Try.func39, Try.ntmps39
  go_wp2_with fail
  refine (of_any _ _ _ _).mono ?_
  rintro e w1 ⟨rfl, _t, hw⟩
  have hc1 := named_cell hw
  have hz1 := named_frozen hw
  have hh1 := named_heap hw
  haveI hi1 := named_in hw
  haveI hb1 := named_below (w := w) hw
  clear hw
  go_wp2_with fail
  refine (add_any _ _ _ _ _ _ _).mono ?_
  rintro e w2 ⟨rfl, _t, hw⟩
  have hc2 := named_cell hw
  have hz2 := named_frozen hw
  have hh2 := named_heap hw
  haveI hi2 := named_in hw
  haveI hb2 := named_below (w := w) hw
  clear hw
  go_wp2_with fail
  refine (of_any _ _ _ _).mono ?_
  rintro e w3 ⟨rfl, _t, hw⟩
  have hc3 := named_cell hw
  have hz3 := named_frozen hw
  have hh3 := named_heap hw
  haveI hi3 := named_in hw
  haveI hb3 := named_below (w := w) hw
  clear hw
  go_wp2_with fail
  refine wp_loop_rounds 4 ?_
  rw [rounds_succ]
  go_wp2_with fail
  refine wp_region_ext ?_ ?_ ?_
  · kernel_rfl
  · kernel_rfl
  repeat (go_big_quiet_step (first | (go_at_call 54; exact ext_call (axis0_any _ _ _ _))))
  refine wpQuiet_nil ?_
  rintro w4 ⟨_t, hw⟩
  have hc4 := named_cell hw
  have hz4 := named_frozen hw
  have hh4 := named_heap hw
  haveI hi4 := named_in hw
  haveI hb4 := named_below (w := w) hw
  clear hw
  clear ha
  go_wp2_with (first | (go_at_call 55; refine (frac_any _ _).mono ?_; rintro e w1 ⟨rfl, rfl⟩))
  refine bodyPost_ret (by simp [results, Try.results39, go_sem, hc1, hc2, hc3, hc4]; try rfl) rfl ?_
  exact ⟨rfl, grown_of⟩

set_option maxRecDepth 100000 in
set_option maxHeartbeats 8000000 in
theorem span_none1 (a b c d e f : Int) (ha : voidS a d = false) (hb : voidS b e = true) (w : World) :
    Calls Try.prog 39 #[.agg #[.int .i64 a, .int .i64 b, .int .i64 c, .int .i64 d, .int .i64 e, .int .i64 f]] w fun o w' => o = .returned (.tuple #[.agg #[.int .i64 0, .int .i64 0, .int .i64 0], .agg #[.int .i64 0, .int .i64 0, .int .i64 0], .bool false]) ∧ ∃ f, w' = ext w f := by
  obtain ⟨v1, v2⟩ := voidS_true hb
  go_enter Try.func39, Try.ntmps39
  go_wp2_with fail
  refine (of_any _ _ _ _).mono ?_
  rintro e w1 ⟨rfl, _t, hw⟩
  have hc1 := named_cell hw
  have hz1 := named_frozen hw
  have hh1 := named_heap hw
  haveI hi1 := named_in hw
  haveI hb1 := named_below (w := w) hw
  clear hw
  go_wp2_with fail
  refine (add_any _ _ _ _ _ _ _).mono ?_
  rintro e w2 ⟨rfl, _t, hw⟩
  have hc2 := named_cell hw
  have hz2 := named_frozen hw
  have hh2 := named_heap hw
  haveI hi2 := named_in hw
  haveI hb2 := named_below (w := w) hw
  clear hw
  go_wp2_with fail
  refine (of_any _ _ _ _).mono ?_
  rintro e w3 ⟨rfl, _t, hw⟩
  have hc3 := named_cell hw
  have hz3 := named_frozen hw
  have hh3 := named_heap hw
  haveI hi3 := named_in hw
  haveI hb3 := named_below (w := w) hw
  clear hw
  go_wp2_with fail
  refine wp_loop_rounds 4 ?_
  rw [rounds_succ]
  go_wp2_with fail
  refine wp_region_ext ?_ ?_ ?_
  · kernel_rfl
  · kernel_rfl
  repeat (go_big_quiet_step (first | (go_at_call 54; exact ext_call (axis0_any _ _ _ _))))
  refine wpQuiet_nil ?_
  rintro w4 ⟨_t, hw⟩
  have hc4 := named_cell hw
  have hz4 := named_frozen hw
  have hh4 := named_heap hw
  haveI hi4 := named_in hw
  haveI hb4 := named_below (w := w) hw
  clear hw
  go_upto_region 7 with fail
  go_cut [37] from 30 to 38 (fun v wx => v = .bool false ∧ wx = w4)
  case first =>
    rcases voidS_cases ha with g | ⟨g, g2⟩
    · clear ha hb v1 v2
      go_wp2_with (first | (go_at_call 55; refine (frac_any _ _).mono ?_; rintro e w1 ⟨rfl, rfl⟩))
      go_meet
      exact ⟨rfl, rfl⟩
    · clear ha hb v1 v2
      go_wp2_with (first | (go_at_call 55; refine (frac_any _ _).mono ?_; rintro e w1 ⟨rfl, rfl⟩))
      go_meet
      exact ⟨rfl, rfl⟩
  case rest =>
    obtain ⟨rfl, rfl⟩ := hcut
    go_wp2_with fail
    rw [rounds_succ]
    go_wp2_with fail
    refine wp_region_ext ?_ ?_ ?_
    · kernel_rfl
    · kernel_rfl
    repeat (go_big_quiet_step (first | (go_at_call 54; exact ext_call (axis1_any _ _ _ _))))
    refine wpQuiet_nil ?_
    rintro w5 ⟨_t, hw⟩
    have hc5 := named_cell hw
    have hz5 := named_frozen hw
    have hh5 := named_heap hw
    haveI hi5 := named_in hw
    haveI hb5 := named_below (w := w) hw
    clear hw
    clear ha hb
    go_wp2_with (first | (go_at_call 55; refine (frac_any _ _).mono ?_; rintro e w1 ⟨rfl, rfl⟩))
    refine bodyPost_ret (by simp [results, Try.results39, go_sem, hc1, hc2, hc3, hc4, hc5]; try rfl) rfl ?_
    exact ⟨rfl, grown_of⟩

set_option maxRecDepth 100000 in
set_option maxHeartbeats 8000000 in
theorem span_none2 (a b c d e f : Int) (ha : voidS a d = false) (hb : voidS b e = false) (hc : voidS c f = true) (w : World) :
    Calls Try.prog 39 #[.agg #[.int .i64 a, .int .i64 b, .int .i64 c, .int .i64 d, .int .i64 e, .int .i64 f]] w fun o w' => o = .returned (.tuple #[.agg #[.int .i64 0, .int .i64 0, .int .i64 0], .agg #[.int .i64 0, .int .i64 0, .int .i64 0], .bool false]) ∧ ∃ f, w' = ext w f := by
  obtain ⟨v1, v2⟩ := voidS_true hc
  go_enter Try.func39, Try.ntmps39
  go_wp2_with fail
  refine (of_any _ _ _ _).mono ?_
  rintro e w1 ⟨rfl, _t, hw⟩
  have hc1 := named_cell hw
  have hz1 := named_frozen hw
  have hh1 := named_heap hw
  haveI hi1 := named_in hw
  haveI hb1 := named_below (w := w) hw
  clear hw
  go_wp2_with fail
  refine (add_any _ _ _ _ _ _ _).mono ?_
  rintro e w2 ⟨rfl, _t, hw⟩
  have hc2 := named_cell hw
  have hz2 := named_frozen hw
  have hh2 := named_heap hw
  haveI hi2 := named_in hw
  haveI hb2 := named_below (w := w) hw
  clear hw
  go_wp2_with fail
  refine (of_any _ _ _ _).mono ?_
  rintro e w3 ⟨rfl, _t, hw⟩
  have hc3 := named_cell hw
  have hz3 := named_frozen hw
  have hh3 := named_heap hw
  haveI hi3 := named_in hw
  haveI hb3 := named_below (w := w) hw
  clear hw
  go_wp2_with fail
  refine wp_loop_rounds 4 ?_
  rw [rounds_succ]
  go_wp2_with fail
  refine wp_region_ext ?_ ?_ ?_
  · kernel_rfl
  · kernel_rfl
  repeat (go_big_quiet_step (first | (go_at_call 54; exact ext_call (axis0_any _ _ _ _))))
  refine wpQuiet_nil ?_
  rintro w4 ⟨_t, hw⟩
  have hc4 := named_cell hw
  have hz4 := named_frozen hw
  have hh4 := named_heap hw
  haveI hi4 := named_in hw
  haveI hb4 := named_below (w := w) hw
  clear hw
  go_upto_region 7 with fail
  go_cut [37] from 30 to 38 (fun v wx => v = .bool false ∧ wx = w4)
  case first =>
    rcases voidS_cases ha with g | ⟨g, g2⟩
    · clear ha hb hc v1 v2
      go_wp2_with (first | (go_at_call 55; refine (frac_any _ _).mono ?_; rintro e w1 ⟨rfl, rfl⟩))
      go_meet
      exact ⟨rfl, rfl⟩
    · clear ha hb hc v1 v2
      go_wp2_with (first | (go_at_call 55; refine (frac_any _ _).mono ?_; rintro e w1 ⟨rfl, rfl⟩))
      go_meet
      exact ⟨rfl, rfl⟩
  case rest =>
    obtain ⟨rfl, rfl⟩ := hcut
    go_wp2_with fail
    rw [rounds_succ]
    go_wp2_with fail
    refine wp_region_ext ?_ ?_ ?_
    · kernel_rfl
    · kernel_rfl
    repeat (go_big_quiet_step (first | (go_at_call 54; exact ext_call (axis1_any _ _ _ _))))
    refine wpQuiet_nil ?_
    rintro w5 ⟨_t, hw⟩
    have hc5 := named_cell hw
    have hz5 := named_frozen hw
    have hh5 := named_heap hw
    haveI hi5 := named_in hw
    haveI hb5 := named_below (w := w) hw
    clear hw
    go_upto_region 7 with fail
    go_cut [37] from 30 to 38 (fun v wx => v = .bool false ∧ wx = w5)
    case first =>
      rcases voidS_cases hb with g | ⟨g, g2⟩
      · clear ha hb hc v1 v2
        go_wp2_with (first | (go_at_call 55; refine (frac_any _ _).mono ?_; rintro e w1 ⟨rfl, rfl⟩))
        go_meet
        exact ⟨rfl, rfl⟩
      · clear ha hb hc v1 v2
        go_wp2_with (first | (go_at_call 55; refine (frac_any _ _).mono ?_; rintro e w1 ⟨rfl, rfl⟩))
        go_meet
        exact ⟨rfl, rfl⟩
    case rest =>
      obtain ⟨rfl, rfl⟩ := hcut
      go_wp2_with fail
      rw [rounds_succ]
      go_wp2_with fail
      refine wp_region_ext ?_ ?_ ?_
      · kernel_rfl
      · kernel_rfl
      repeat (go_big_quiet_step (first | (go_at_call 54; exact ext_call (axis2_any _ _ _ _))))
      refine wpQuiet_nil ?_
      rintro w6 ⟨_t, hw⟩
      have hc6 := named_cell hw
      have hz6 := named_frozen hw
      have hh6 := named_heap hw
      haveI hi6 := named_in hw
      haveI hb6 := named_below (w := w) hw
      clear hw
      clear ha hb hc
      go_wp2_with (first | (go_at_call 55; refine (frac_any _ _).mono ?_; rintro e w1 ⟨rfl, rfl⟩))
      refine bodyPost_ret (by simp [results, Try.results39, go_sem, hc1, hc2, hc3, hc4, hc5, hc6]; try rfl) rfl ?_
      exact ⟨rfl, grown_of⟩

set_option maxRecDepth 100000 in
set_option maxHeartbeats 8000000 in
theorem refspan_none0 (a b c d e f : Int) (sa : Side a d) (ha : voidS a d = true) (w : World) :
    Calls Try.prog 40 #[.agg #[.int .i64 a, .int .i64 b, .int .i64 c, .int .i64 d, .int .i64 e, .int .i64 f]] w fun o w' => o = .returned (.tuple #[.agg #[.int .i64 0, .int .i64 0, .int .i64 0], .agg #[.int .i64 0, .int .i64 0, .int .i64 0], .bool false]) ∧ ∃ f, w' = ext w f := by
  obtain ⟨rfl, f2⟩ := side_full sa ha
  clear sa ha
  obtain ⟨a1, a2⟩ := flS_bd a
  have f3 : (a == a) = true := by simp
  go_enter Try.func40, Try.ntmps40
  go_wp2_with fail
  refine wp_loop_rounds 4 ?_
  rw [rounds_succ]
  go_wp2_with fail
  refine (refaxis0_any _ _ _ _).mono ?_
  rintro e w1 ⟨rfl, _t, hw⟩
  have hc1 := named_cell hw
  have hz1 := named_frozen hw
  have hh1 := named_heap hw
  haveI hi1 := named_in hw
  haveI hb1 := named_below (w := w) hw
  clear hw
  go_wp2_with fail
  refine (refaxis0_any _ _ _ _).mono ?_
  rintro e w2 ⟨rfl, _t, hw⟩
  have hc2 := named_cell hw
  have hz2 := named_frozen hw
  have hh2 := named_heap hw
  haveI hi2 := named_in hw
  haveI hb2 := named_below (w := w) hw
  clear hw
  skip
  have f4 : (flS a * 65536 == a) = true := by simp [f2]
  clear f2
  have f5 : ¬ flS a < flS a := by omega
  go_wp2_with (first | (go_at_call 50; refine (reffloor_any _ _).mono ?_; rintro e w1 ⟨rfl, rfl⟩))
  refine wp_region_ext ?_ ?_ ?_
  · kernel_rfl
  · kernel_rfl
  repeat (go_big_quiet_step (first | fail))
  refine wpQuiet_nil ?_
  rintro w3 ⟨_t, hw⟩
  have hc3 := named_cell hw
  have hz3 := named_frozen hw
  have hh3 := named_heap hw
  haveI hi3 := named_in hw
  haveI hb3 := named_below (w := w) hw
  clear hw
  go_wp2_with fail
  refine bodyPost_ret (by simp [results, Try.results40, go_sem, hc1, hc2, hc3]; try rfl) rfl ?_
  exact ⟨rfl, grown_of⟩

set_option maxRecDepth 100000 in
set_option maxHeartbeats 8000000 in
theorem refspan_none1 (a b c d e f : Int) (sa : Side a d) (ha : voidS a d = false) (sb : Side b e) (hb : voidS b e = true) (w : World) :
    Calls Try.prog 40 #[.agg #[.int .i64 a, .int .i64 b, .int .i64 c, .int .i64 d, .int .i64 e, .int .i64 f]] w fun o w' => o = .returned (.tuple #[.agg #[.int .i64 0, .int .i64 0, .int .i64 0], .agg #[.int .i64 0, .int .i64 0, .int .i64 0], .bool false]) ∧ ∃ f, w' = ext w f := by
  have ca := side_cases sa ha
  have oa := side_open sa ha
  obtain ⟨rfl, f2⟩ := side_full sb hb
  clear sa ha sb hb
  obtain ⟨a1, a2⟩ := flS_bd a
  obtain ⟨d1, d2⟩ := flS_bd d
  obtain ⟨b1, b2⟩ := flS_bd b
  have f3 : (b == b) = true := by simp
  go_enter Try.func40, Try.ntmps40
  go_wp2_with fail
  refine wp_loop_rounds 4 ?_
  rw [rounds_succ]
  go_wp2_with fail
  refine (refaxis0_any _ _ _ _).mono ?_
  rintro e w1 ⟨rfl, _t, hw⟩
  have hc1 := named_cell hw
  have hz1 := named_frozen hw
  have hh1 := named_heap hw
  haveI hi1 := named_in hw
  haveI hb1 := named_below (w := w) hw
  clear hw
  go_wp2_with fail
  refine (refaxis0_any _ _ _ _).mono ?_
  rintro e w2 ⟨rfl, _t, hw⟩
  have hc2 := named_cell hw
  have hz2 := named_frozen hw
  have hh2 := named_heap hw
  haveI hi2 := named_in hw
  haveI hb2 := named_below (w := w) hw
  clear hw
  go_upto_region 10 with (first | (go_at_call 50; refine (reffloor_any _ _).mono ?_; rintro e w1 ⟨rfl, rfl⟩))
  go_cut [44] from 10 to 62 (fun v wx => v = .bool (lessB a d) ∧ ∃ g, wx = ext ((w2.setCell ⟨w.heap.size + 1 + 1 + 1, 0, none⟩ (.int .i64 (flS a))).setCell ⟨w.heap.size + 1 + 1 + 1 + 1, 0, none⟩ (.int .i64 (flS d))) g)
  case first =>
    rcases ca with ⟨g1, g2, g3⟩ | ⟨g1, g4, g2, g3⟩
    · have G := Lib.hid g2
      clear g2 g3; (try clear ca); (try clear oa)
      refine wp_region_ext ?_ ?_ ?_
      · kernel_rfl
      · kernel_rfl
      repeat (go_big_quiet_step (fail))
      refine wpQuiet_nil ?_
      rintro wq hq
      go_wp2_with fail
      go_meet
      exact ⟨congrArg Value.bool G.out.symm, hq⟩
    · have G := Lib.hid g2
      clear g2 g3; (try clear ca); (try clear oa)
      refine wp_region_ext ?_ ?_ ?_
      · kernel_rfl
      · kernel_rfl
      repeat (go_big_quiet_step (fail))
      refine wpQuiet_nil ?_
      rintro wq hq
      go_wp2_with fail
      go_meet
      exact ⟨congrArg Value.bool G.out.symm, hq⟩
  case rest =>
    obtain ⟨rfl, _, hw⟩ := hcut
    rename World => w3
    have hc3 := named_cell hw
    have hz3 := named_frozen hw
    have hh3 := named_heap hw
    haveI hi3 := named_in hw
    haveI hb3 := named_below (w := w) hw
    clear hw
    have q0 : w3.cell? ⟨w.heap.size + 1 + 1 + 1 + 1, 0, none⟩ = some (.int .i64 (flS d)) := by go_simp
    go_upto_if 44 with fail
    go_cut [44] from 10 to 62 (fun v wx => wx = w3.setCell ⟨w.heap.size + 1 + 1 + 1 + 1, 0, none⟩ (.int .i64 (topS a d)))
    case first =>
      rcases ca with ⟨g1, g2, g3⟩ | ⟨g1, g4, g2, g3⟩
      · have G := Lib.hid g3
        clear g3; (try clear ca); (try clear oa)
        have hs := setCell_self (w := w3) (b := w.heap.size + 1 + 1 + 1 + 1) (o := 0) (v := .int .i64 (flS d)) (by go_simp)
        rw [g2]
        go_wp2_with fail
        go_meet
        exact by rw [G.out, hs]
      · have G := Lib.hid g3
        clear g3; (try clear ca); (try clear oa)
        rw [g2]
        go_wp2_with fail
        go_meet
        exact by rw [G.out]
    case rest =>
      subst hcut
      have r0 : (w3.setCell ⟨w.heap.size + 1 + 1 + 1 + 1, 0, none⟩ (.int .i64 (topS a d))).cell? ⟨w.heap.size + 1 + 1 + 1 + 1, 0, none⟩ = some (.int .i64 (topS a d)) := by apply World.cell?_setCell_same; exact q0
      go_upto_region 12 with fail
      go_cut [60] from 10 to 62 (fun v wx => v = .bool false ∧ wx = w3.setCell ⟨w.heap.size + 1 + 1 + 1 + 1, 0, none⟩ (.int .i64 (topS a d)))
      case first =>
        rcases oa with g | ⟨g, g2⟩
        · (try clear ca); (try clear oa)
          go_wp2_with fail
          go_meet
          exact ⟨rfl, rfl⟩
        · (try clear ca); (try clear oa)
          go_wp2_with fail
          go_meet
          exact ⟨rfl, rfl⟩
      case rest =>
        obtain ⟨rfl, rfl⟩ := hcut
        go_wp2_with fail
        rw [rounds_succ]
        go_wp2_with fail
        refine (refaxis1_any _ _ _ _).mono ?_
        rintro e w4 ⟨rfl, _t, hw⟩
        have hc4 := named_cell hw
        have hz4 := named_frozen hw
        have hh4 := named_heap hw
        haveI hi4 := named_in hw
        haveI hb4 := named_below (w := w) hw
        clear hw
        go_wp2_with fail
        refine (refaxis1_any _ _ _ _).mono ?_
        rintro e w5 ⟨rfl, _t, hw⟩
        have hc5 := named_cell hw
        have hz5 := named_frozen hw
        have hh5 := named_heap hw
        haveI hi5 := named_in hw
        haveI hb5 := named_below (w := w) hw
        clear hw
        (try clear ca); (try clear oa)
        have f4 : (flS b * 65536 == b) = true := by simp [f2]
        clear f2
        have f5 : ¬ flS b < flS b := by omega
        go_wp2_with (first | (go_at_call 50; refine (reffloor_any _ _).mono ?_; rintro e w1 ⟨rfl, rfl⟩))
        refine wp_region_ext ?_ ?_ ?_
        · kernel_rfl
        · kernel_rfl
        repeat (go_big_quiet_step (first | fail))
        refine wpQuiet_nil ?_
        rintro w6 ⟨_t, hw⟩
        have hc6 := named_cell hw
        have hz6 := named_frozen hw
        have hh6 := named_heap hw
        haveI hi6 := named_in hw
        haveI hb6 := named_below (w := w) hw
        clear hw
        go_wp2_with fail
        refine bodyPost_ret (by simp [results, Try.results40, go_sem, hc1, hc2, hc3, hc4, hc5, hc6]; try rfl) rfl ?_
        exact ⟨rfl, grown_of⟩

set_option maxRecDepth 100000 in
set_option maxHeartbeats 8000000 in
theorem refspan_none2 (a b c d e f : Int) (sa : Side a d) (ha : voidS a d = false) (sb : Side b e) (hb : voidS b e = false) (sc : Side c f) (hc : voidS c f = true) (w : World) :
    Calls Try.prog 40 #[.agg #[.int .i64 a, .int .i64 b, .int .i64 c, .int .i64 d, .int .i64 e, .int .i64 f]] w fun o w' => o = .returned (.tuple #[.agg #[.int .i64 0, .int .i64 0, .int .i64 0], .agg #[.int .i64 0, .int .i64 0, .int .i64 0], .bool false]) ∧ ∃ f, w' = ext w f := by
  have ca := side_cases sa ha
  have oa := side_open sa ha
  have cb := side_cases sb hb
  have ob := side_open sb hb
  obtain ⟨rfl, f2⟩ := side_full sc hc
  clear sa ha sb hb sc hc
  obtain ⟨a1, a2⟩ := flS_bd a
  obtain ⟨d1, d2⟩ := flS_bd d
  obtain ⟨b1, b2⟩ := flS_bd b
  obtain ⟨e1, e2⟩ := flS_bd e
  obtain ⟨c1, c2⟩ := flS_bd c
  have f3 : (c == c) = true := by simp
  go_enter Try.func40, Try.ntmps40
  go_wp2_with fail
  refine wp_loop_rounds 4 ?_
  rw [rounds_succ]
  go_wp2_with fail
  refine (refaxis0_any _ _ _ _).mono ?_
  rintro e w1 ⟨rfl, _t, hw⟩
  have hc1 := named_cell hw
  have hz1 := named_frozen hw
  have hh1 := named_heap hw
  haveI hi1 := named_in hw
  haveI hb1 := named_below (w := w) hw
  clear hw
  go_wp2_with fail
  refine (refaxis0_any _ _ _ _).mono ?_
  rintro e w2 ⟨rfl, _t, hw⟩
  have hc2 := named_cell hw
  have hz2 := named_frozen hw
  have hh2 := named_heap hw
  haveI hi2 := named_in hw
  haveI hb2 := named_below (w := w) hw
  clear hw
  go_upto_region 10 with (first | (go_at_call 50; refine (reffloor_any _ _).mono ?_; rintro e w1 ⟨rfl, rfl⟩))
  go_cut [44] from 10 to 62 (fun v wx => v = .bool (lessB a d) ∧ ∃ g, wx = ext ((w2.setCell ⟨w.heap.size + 1 + 1 + 1, 0, none⟩ (.int .i64 (flS a))).setCell ⟨w.heap.size + 1 + 1 + 1 + 1, 0, none⟩ (.int .i64 (flS d))) g)
  case first =>
    rcases ca with ⟨g1, g2, g3⟩ | ⟨g1, g4, g2, g3⟩
    · have G := Lib.hid g2
      clear g2 g3; (try clear ca); (try clear cb); (try clear oa); (try clear ob)
      refine wp_region_ext ?_ ?_ ?_
      · kernel_rfl
      · kernel_rfl
      repeat (go_big_quiet_step (fail))
      refine wpQuiet_nil ?_
      rintro wq hq
      go_wp2_with fail
      go_meet
      exact ⟨congrArg Value.bool G.out.symm, hq⟩
    · have G := Lib.hid g2
      clear g2 g3; (try clear ca); (try clear cb); (try clear oa); (try clear ob)
      refine wp_region_ext ?_ ?_ ?_
      · kernel_rfl
      · kernel_rfl
      repeat (go_big_quiet_step (fail))
      refine wpQuiet_nil ?_
      rintro wq hq
      go_wp2_with fail
      go_meet
      exact ⟨congrArg Value.bool G.out.symm, hq⟩
  case rest =>
    obtain ⟨rfl, _, hw⟩ := hcut
    rename World => w3
    have hc3 := named_cell hw
    have hz3 := named_frozen hw
    have hh3 := named_heap hw
    haveI hi3 := named_in hw
    haveI hb3 := named_below (w := w) hw
    clear hw
    have q0 : w3.cell? ⟨w.heap.size + 1 + 1 + 1 + 1, 0, none⟩ = some (.int .i64 (flS d)) := by go_simp
    go_upto_if 44 with fail
    go_cut [44] from 10 to 62 (fun v wx => wx = w3.setCell ⟨w.heap.size + 1 + 1 + 1 + 1, 0, none⟩ (.int .i64 (topS a d)))
    case first =>
      rcases ca with ⟨g1, g2, g3⟩ | ⟨g1, g4, g2, g3⟩
      · have G := Lib.hid g3
        clear g3; (try clear ca); (try clear cb); (try clear oa); (try clear ob)
        have hs := setCell_self (w := w3) (b := w.heap.size + 1 + 1 + 1 + 1) (o := 0) (v := .int .i64 (flS d)) (by go_simp)
        rw [g2]
        go_wp2_with fail
        go_meet
        exact by rw [G.out, hs]
      · have G := Lib.hid g3
        clear g3; (try clear ca); (try clear cb); (try clear oa); (try clear ob)
        rw [g2]
        go_wp2_with fail
        go_meet
        exact by rw [G.out]
    case rest =>
      subst hcut
      have r0 : (w3.setCell ⟨w.heap.size + 1 + 1 + 1 + 1, 0, none⟩ (.int .i64 (topS a d))).cell? ⟨w.heap.size + 1 + 1 + 1 + 1, 0, none⟩ = some (.int .i64 (topS a d)) := by apply World.cell?_setCell_same; exact q0
      go_upto_region 12 with fail
      go_cut [60] from 10 to 62 (fun v wx => v = .bool false ∧ wx = w3.setCell ⟨w.heap.size + 1 + 1 + 1 + 1, 0, none⟩ (.int .i64 (topS a d)))
      case first =>
        rcases oa with g | ⟨g, g2⟩
        · (try clear ca); (try clear cb); (try clear oa); (try clear ob)
          go_wp2_with fail
          go_meet
          exact ⟨rfl, rfl⟩
        · (try clear ca); (try clear cb); (try clear oa); (try clear ob)
          go_wp2_with fail
          go_meet
          exact ⟨rfl, rfl⟩
      case rest =>
        obtain ⟨rfl, rfl⟩ := hcut
        go_wp2_with fail
        rw [rounds_succ]
        go_wp2_with fail
        refine (refaxis1_any _ _ _ _).mono ?_
        rintro e w4 ⟨rfl, _t, hw⟩
        have hc4 := named_cell hw
        have hz4 := named_frozen hw
        have hh4 := named_heap hw
        haveI hi4 := named_in hw
        haveI hb4 := named_below (w := w) hw
        clear hw
        go_wp2_with fail
        refine (refaxis1_any _ _ _ _).mono ?_
        rintro e w5 ⟨rfl, _t, hw⟩
        have hc5 := named_cell hw
        have hz5 := named_frozen hw
        have hh5 := named_heap hw
        haveI hi5 := named_in hw
        haveI hb5 := named_below (w := w) hw
        clear hw
        go_upto_region 10 with (first | (go_at_call 50; refine (reffloor_any _ _).mono ?_; rintro e w1 ⟨rfl, rfl⟩))
        go_cut [44] from 10 to 62 (fun v wx => v = .bool (lessB b e) ∧ ∃ g, wx = ext ((w5.setCell ⟨w.heap.size + 1 + 1 + 1, 1, none⟩ (.int .i64 (flS b))).setCell ⟨w.heap.size + 1 + 1 + 1 + 1, 1, none⟩ (.int .i64 (flS e))) g)
        case first =>
          rcases cb with ⟨g1, g2, g3⟩ | ⟨g1, g4, g2, g3⟩
          · have G := Lib.hid g2
            clear g2 g3; (try clear ca); (try clear cb); (try clear oa); (try clear ob)
            refine wp_region_ext ?_ ?_ ?_
            · kernel_rfl
            · kernel_rfl
            repeat (go_big_quiet_step (fail))
            refine wpQuiet_nil ?_
            rintro wq hq
            go_wp2_with fail
            go_meet
            exact ⟨congrArg Value.bool G.out.symm, hq⟩
          · have G := Lib.hid g2
            clear g2 g3; (try clear ca); (try clear cb); (try clear oa); (try clear ob)
            refine wp_region_ext ?_ ?_ ?_
            · kernel_rfl
            · kernel_rfl
            repeat (go_big_quiet_step (fail))
            refine wpQuiet_nil ?_
            rintro wq hq
            go_wp2_with fail
            go_meet
            exact ⟨congrArg Value.bool G.out.symm, hq⟩
        case rest =>
          obtain ⟨rfl, _, hw⟩ := hcut
          rename World => w6
          have hc6 := named_cell hw
          have hz6 := named_frozen hw
          have hh6 := named_heap hw
          haveI hi6 := named_in hw
          haveI hb6 := named_below (w := w) hw
          clear hw
          have q1 : w6.cell? ⟨w.heap.size + 1 + 1 + 1 + 1, 1, none⟩ = some (.int .i64 (flS e)) := by go_simp
          go_upto_if 44 with fail
          go_cut [44] from 10 to 62 (fun v wx => wx = w6.setCell ⟨w.heap.size + 1 + 1 + 1 + 1, 1, none⟩ (.int .i64 (topS b e)))
          case first =>
            rcases cb with ⟨g1, g2, g3⟩ | ⟨g1, g4, g2, g3⟩
            · have G := Lib.hid g3
              clear g3; (try clear ca); (try clear cb); (try clear oa); (try clear ob)
              have hs := setCell_self (w := w6) (b := w.heap.size + 1 + 1 + 1 + 1) (o := 1) (v := .int .i64 (flS e)) (by go_simp)
              rw [g2]
              go_wp2_with fail
              go_meet
              exact by rw [G.out, hs]
            · have G := Lib.hid g3
              clear g3; (try clear ca); (try clear cb); (try clear oa); (try clear ob)
              rw [g2]
              go_wp2_with fail
              go_meet
              exact by rw [G.out]
          case rest =>
            subst hcut
            have r1 : (w6.setCell ⟨w.heap.size + 1 + 1 + 1 + 1, 1, none⟩ (.int .i64 (topS b e))).cell? ⟨w.heap.size + 1 + 1 + 1 + 1, 1, none⟩ = some (.int .i64 (topS b e)) := by apply World.cell?_setCell_same; exact q1
            go_upto_region 12 with fail
            go_cut [60] from 10 to 62 (fun v wx => v = .bool false ∧ wx = w6.setCell ⟨w.heap.size + 1 + 1 + 1 + 1, 1, none⟩ (.int .i64 (topS b e)))
            case first =>
              rcases ob with g | ⟨g, g2⟩
              · (try clear ca); (try clear cb); (try clear oa); (try clear ob)
                go_wp2_with fail
                go_meet
                exact ⟨rfl, rfl⟩
              · (try clear ca); (try clear cb); (try clear oa); (try clear ob)
                go_wp2_with fail
                go_meet
                exact ⟨rfl, rfl⟩
            case rest =>
              obtain ⟨rfl, rfl⟩ := hcut
              go_wp2_with fail
              rw [rounds_succ]
              go_wp2_with fail
              refine (refaxis2_any _ _ _ _).mono ?_
              rintro e w7 ⟨rfl, _t, hw⟩
              have hc7 := named_cell hw
              have hz7 := named_frozen hw
              have hh7 := named_heap hw
              haveI hi7 := named_in hw
              haveI hb7 := named_below (w := w) hw
              clear hw
              go_wp2_with fail
              refine (refaxis2_any _ _ _ _).mono ?_
              rintro e w8 ⟨rfl, _t, hw⟩
              have hc8 := named_cell hw
              have hz8 := named_frozen hw
              have hh8 := named_heap hw
              haveI hi8 := named_in hw
              haveI hb8 := named_below (w := w) hw
              clear hw
              (try clear ca); (try clear cb); (try clear oa); (try clear ob)
              have f4 : (flS c * 65536 == c) = true := by simp [f2]
              clear f2
              have f5 : ¬ flS c < flS c := by omega
              go_wp2_with (first | (go_at_call 50; refine (reffloor_any _ _).mono ?_; rintro e w1 ⟨rfl, rfl⟩))
              refine wp_region_ext ?_ ?_ ?_
              · kernel_rfl
              · kernel_rfl
              repeat (go_big_quiet_step (first | fail))
              refine wpQuiet_nil ?_
              rintro w9 ⟨_t, hw⟩
              have hc9 := named_cell hw
              have hz9 := named_frozen hw
              have hh9 := named_heap hw
              haveI hi9 := named_in hw
              haveI hb9 := named_below (w := w) hw
              clear hw
              go_wp2_with fail
              refine bodyPost_ret (by simp [results, Try.results40, go_sem, hc1, hc2, hc3, hc4, hc5, hc6, hc7, hc8, hc9]; try rfl) rfl ?_
              exact ⟨rfl, grown_of⟩

end Go.Proofs.Ytdlapfpjbcjaeaa
