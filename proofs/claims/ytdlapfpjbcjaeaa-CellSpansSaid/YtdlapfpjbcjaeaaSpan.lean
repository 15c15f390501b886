/-
  The cells that a box overlaps: what the Go function hands back.
-/
import Derived.Test.YtdlapfpjbcjaeaaBox
import Derived.Handy
import Derived.Deep.CutRange
namespace Go.Proofs.Ytdlapfpjbcjaeaa
open Go.RowKit
attribute [local go_sem] ext_ext drew_ext ext_drew ext_cell ext_frozen in_lt in_le in_ne in_en in_ne1 in_en1 in_le1 in_ltn in_len in_nen in_enn size_le ite_max ite_min
set_option linter.unusedVariables false
set_option linter.unusedSimpArgs false

/-- Of an axis, the greatest cell. -/
def thinS (n m l t : Int) : Int := if n = m then l else t
theorem thin_any (n m l t : Int) (w : World) : Calls Try.prog 56 #[.int .i64 n, .int .i64 m, .int .i64 l, .int .i64 t] w fun e w' => e = .returned (.int .i64 (thinS n m l t)) ∧ w = w' := by
  by_cases h : n = m
  · have H := Lib.hid (show thinS n m l t = l by unfold thinS; rw [if_pos h])
    have h' : (n == m) = true := by simp [h]
    clear h
    go_enter Try.func56, Try.ntmps56
    go_wp2
    go_ret
    exact ⟨ret_int H.out.symm, rfl⟩
  · have H := Lib.hid (show thinS n m l t = t by unfold thinS; rw [if_neg h])
    have h' : (n == m) = false := by simp [h]
    clear h
    go_enter Try.func56, Try.ntmps56
    go_wp2
    go_ret
    exact ⟨ret_int H.out.symm, rfl⟩

/-- Of an axis: there is no cell. -/
def voidS (n m : Int) : Bool := (n == m) && (frS n == 0)
theorem voidS_cases {n m : Int} (h : voidS n m = false) : (n == m) = false ∨ ((n == m) = true ∧ (frS n == 0) = false) := by
  unfold voidS at h
  cases h1 : (n == m) <;> simp_all
theorem voidS_true {n m : Int} (h : voidS n m = true) : (n == m) = true ∧ (frS n == 0) = true := by
  unfold voidS at h
  cases h1 : (n == m) <;> simp_all
set_option maxRecDepth 100000 in
set_option maxHeartbeats 8000000 in
theorem span_some (a b c d e f : Int) (ha : voidS a d = false) (hb : voidS b e = false) (hc : voidS c f = false) (w : World) :
    Calls Try.prog 39 #[.agg #[.int .i64 a, .int .i64 b, .int .i64 c, .int .i64 d, .int .i64 e, .int .i64 f]] w fun o w' =>
      o = .returned (.tuple #[.agg #[.int .i64 (flS a), .int .i64 (flS b), .int .i64 (flS c)], .agg #[.int .i64 (thinS a d (flS a) (flS (faS d (-1)))), .int .i64 (thinS b e (flS b) (flS (faS e (-1)))), .int .i64 (thinS c f (flS c) (flS (faS f (-1))))], .bool true]) ∧ ∃ f, w' = ext w f := by
  go_enter Try.func39, Try.ntmps39
  go_wp2_with fail
  refine (of_any _ _ _ _).mono ?_
  rintro e w1 ⟨rfl, _t, hw⟩
  have hc1 := named_cell hw
  have hz1 := named_frozen hw
  have hh1 := named_heap hw
  haveI hi1 := named_in hw
  haveI hb1 := named_below (w := w) hw
  clear hw
  go_wp2_with fail
  refine (add_any _ _ _ _ _ _ _).mono ?_
  rintro e w2 ⟨rfl, _t, hw⟩
  have hc2 := named_cell hw
  have hz2 := named_frozen hw
  have hh2 := named_heap hw
  haveI hi2 := named_in hw
  haveI hb2 := named_below (w := w) hw
  clear hw
  go_wp2_with fail
  refine (of_any _ _ _ _).mono ?_
  rintro e w3 ⟨rfl, _t, hw⟩
  have hc3 := named_cell hw
  have hz3 := named_frozen hw
  have hh3 := named_heap hw
  haveI hi3 := named_in hw
  haveI hb3 := named_below (w := w) hw
  clear hw
  go_wp2_with fail
  refine wp_loop_rounds 4 ?_
  rw [rounds_succ]
  go_wp2_with fail
  refine wp_region_ext ?_ ?_ ?_
  · kernel_rfl
  · kernel_rfl
  repeat (go_big_quiet_step (first | (go_at_call 54; exact ext_call (axis0_any _ _ _ _))))
  refine wpQuiet_nil ?_
  rintro w4 ⟨_t, hw⟩
  have hc4 := named_cell hw
  have hz4 := named_frozen hw
  have hh4 := named_heap hw
  haveI hi4 := named_in hw
  haveI hb4 := named_below (w := w) hw
  clear hw
  go_upto_region 7 with fail
  go_cut [37] from 30 to 38 (fun v wx => v = .bool false ∧ wx = w4)
  case first =>
    rcases voidS_cases ha with g | ⟨g, g2⟩
    · clear ha hb hc
      go_wp2_with fail
      go_meet
      exact ⟨rfl, rfl⟩
    · clear ha hb hc
      go_wp2_with (first | (go_at_call 55; refine (frac_any _ _).mono ?_; rintro e w1 ⟨rfl, rfl⟩))
      go_meet
      exact ⟨rfl, rfl⟩
  case rest =>
    obtain ⟨rfl, rfl⟩ := hcut
    go_wp2_with fail
    rw [rounds_succ]
    go_wp2_with fail
    refine wp_region_ext ?_ ?_ ?_
    · kernel_rfl
    · kernel_rfl
    repeat (go_big_quiet_step (first | (go_at_call 54; exact ext_call (axis1_any _ _ _ _))))
    refine wpQuiet_nil ?_
    rintro w5 ⟨_t, hw⟩
    have hc5 := named_cell hw
    have hz5 := named_frozen hw
    have hh5 := named_heap hw
    haveI hi5 := named_in hw
    haveI hb5 := named_below (w := w) hw
    clear hw
    go_upto_region 7 with fail
    go_cut [37] from 30 to 38 (fun v wx => v = .bool false ∧ wx = w5)
    case first =>
      rcases voidS_cases hb with g | ⟨g, g2⟩
      · clear ha hb hc
        go_wp2_with fail
        go_meet
        exact ⟨rfl, rfl⟩
      · clear ha hb hc
        go_wp2_with (first | (go_at_call 55; refine (frac_any _ _).mono ?_; rintro e w1 ⟨rfl, rfl⟩))
        go_meet
        exact ⟨rfl, rfl⟩
    case rest =>
      obtain ⟨rfl, rfl⟩ := hcut
      go_wp2_with fail
      rw [rounds_succ]
      go_wp2_with fail
      refine wp_region_ext ?_ ?_ ?_
      · kernel_rfl
      · kernel_rfl
      repeat (go_big_quiet_step (first | (go_at_call 54; exact ext_call (axis2_any _ _ _ _))))
      refine wpQuiet_nil ?_
      rintro w6 ⟨_t, hw⟩
      have hc6 := named_cell hw
      have hz6 := named_frozen hw
      have hh6 := named_heap hw
      haveI hi6 := named_in hw
      haveI hb6 := named_below (w := w) hw
      clear hw
      go_upto_region 7 with fail
      go_cut [37] from 30 to 38 (fun v wx => v = .bool false ∧ wx = w6)
      case first =>
        rcases voidS_cases hc with g | ⟨g, g2⟩
        · clear ha hb hc
          go_wp2_with fail
          go_meet
          exact ⟨rfl, rfl⟩
        · clear ha hb hc
          go_wp2_with (first | (go_at_call 55; refine (frac_any _ _).mono ?_; rintro e w1 ⟨rfl, rfl⟩))
          go_meet
          exact ⟨rfl, rfl⟩
      case rest =>
        obtain ⟨rfl, rfl⟩ := hcut
        go_wp2_with fail
        rw [rounds_succ]
        go_wp2_with fail
        refine wp_region_ext_tail 37 ?_ ?_ ?_
        · kernel_rfl
        · kernel_rfl
        simp only [List.take_succ_cons, List.take_zero, List.drop_succ_cons, List.drop_zero]
        repeat (go_big_quiet_step (first | (go_at_call 56; exact ext_same (thin_any _ _ _ _ _))))
        refine wpQuiet_nil ?_
        rintro w7 ⟨_t, hw⟩
        have hc7 := named_cell hw
        have hz7 := named_frozen hw
        have hh7 := named_heap hw
        haveI hi7 := named_in hw
        haveI hb7 := named_below (w := w) hw
        clear hw
        go_wp2_with fail
        obtain ⟨W, hW⟩ : ∃ W, W = ((w7.setCell ⟨w3.heap.size, 0, none⟩ (.int .i64 (thinS a d (flS a) (flS (faS d (-1)))))).setCell ⟨w3.heap.size, 1, none⟩ (.int .i64 (thinS b e (flS b) (flS (faS e (-1)))))).setCell ⟨w3.heap.size, 2, none⟩ (.int .i64 (thinS c f (flS c) (flS (faS f (-1))))) := ⟨_, rfl⟩
        go_region
        all_goals
          go_wp2
          refine bodyPost_ret (by simp [results, Try.results39, go_sem, hc1, hc2, hc3, hc4, hc5, hc6, hc7]; try rfl) rfl ?_
          exact ⟨rfl, grown_of⟩
end Go.Proofs.Ytdlapfpjbcjaeaa
