/-
  What an update changes: of any cell; whether it changes nothing.
-/
import Derived.Test.YtjejobfhddlmeaaWater
namespace Go.Proofs.Ytjejobfhddlmeaa
open Go.RowKit
attribute [local go_sem] ext_ext drew_ext ext_drew ext_cell ext_frozen in_lt in_le in_ne in_en in_ne1 in_en1 in_le1 in_ltn in_len in_nen in_enn size_le ite_max ite_min
set_option linter.unusedVariables false
set_option linter.unusedSimpArgs false

def nextS (V : Int → Int → Int → Int) (x y z : Int) : List Ch := if V x y z = 3 then sandS V x y z else if wetB (V x y z) then waterS V x y z (lvlS (V x y z)) else []

set_option maxHeartbeats 1000000 in
theorem next_any (v : Value) (V : Int → Int → Int → Int) (x y z : Int) (w : World) (hv : ViewVal Try.prog v V w) (hx : Mid x) (hy : Mid y) (hz : Mid z) :
    Calls Try.prog 10 #[v, .agg #[.int .i64 x, .int .i64 y, .int .i64 z]] w (MadeCh (nextS V x y z) w) := by
  have hvv := hv
  obtain ⟨f, caps, rfl, hv⟩ := hv
  have hvf := hv.enters
  by_cases a1 : V x y z = 3
  · have H := Lib.hid (show nextS V x y z = sandS V x y z by unfold nextS; rw [if_pos a1])
    have a2 : (V x y z == 3) = true := by simp [a1]
    clear a1
    go_enter Try.func10, Try.ntmps10
    go_wp2_with fail
    refine (hv.tells _ (by exact grown_of) _ _ _ (by first | exact hx.wid | exact hx.up | exact hx.down) (by first | exact hy.wid | exact hy.up | exact hy.down) (by first | exact hz.wid | exact hz.up | exact hz.down)).mono ?_
    rintro e w1 ⟨rfl, _t, hw⟩
    have hc1 := named_cell hw
    have hz1 := named_frozen hw
    have hh1 := named_heap hw
    haveI hi1 := named_in hw
    haveI hb1 := named_below (w := w) hw
    clear hw
    go_wp2_with (first | (go_at_call 31; refine (falls_any _ _).mono ?_; rintro e w1 ⟨rfl, rfl⟩))
    refine (sand_any _ _ _ _ _ _ (hvv.grow (by exact grown_of)) hx hy hz).mono ?_
    rintro e w2 ⟨v2, rfl, ho2, _t, hw⟩
    have hc2 := named_cell hw
    have hz2 := named_frozen hw
    have hh2 := named_heap hw
    haveI hi2 := named_in hw
    haveI hb2 := named_below (w := w) hw
    clear hw
    go_wp2_with fail
    go_ret
    rw [H.out]
    exact ⟨_, rfl, owns_base ho2 (grown_now (w := w) (W := w1)).size, grown_of⟩
  have a2 : (V x y z == 3) = false := by simp [a1]
  rcases a3 : wetB (V x y z) with _ | _
  · have H := Lib.hid (show nextS V x y z = [] by unfold nextS; rw [if_neg a1, a3]; rfl)
    clear a1
    go_enter Try.func10, Try.ntmps10
    go_wp2_with fail
    refine (hv.tells _ (by exact grown_of) _ _ _ (by first | exact hx.wid | exact hx.up | exact hx.down) (by first | exact hy.wid | exact hy.up | exact hy.down) (by first | exact hz.wid | exact hz.up | exact hz.down)).mono ?_
    rintro e w1 ⟨rfl, _t, hw⟩
    have hc1 := named_cell hw
    have hz1 := named_frozen hw
    have hh1 := named_heap hw
    haveI hi1 := named_in hw
    haveI hb1 := named_below (w := w) hw
    clear hw
    go_wp2_with (first | (go_at_call 31; refine (falls_any _ _).mono ?_; rintro e w1 ⟨rfl, rfl⟩) | (go_at_call 33; refine (wet_any _ _).mono ?_; rintro e w1 ⟨rfl, rfl⟩))
    go_ret
    rw [H.out]
    exact madeCh_nil grown_of
  · have H := Lib.hid (show nextS V x y z = waterS V x y z (lvlS (V x y z)) by unfold nextS; rw [if_neg a1, a3]; rfl)
    have lb := lvl_bd (V x y z)
    have l0 : 0 ≤ lvlS (V x y z) := by
      unfold wetB at a3
      rw [decide_eq_true_eq] at a3
      unfold lvlS
      rw [if_pos a3]
      omega
    obtain ⟨_, l7⟩ := lb
    clear a1
    go_enter Try.func10, Try.ntmps10
    go_wp2_with fail
    refine (hv.tells _ (by exact grown_of) _ _ _ (by first | exact hx.wid | exact hx.up | exact hx.down) (by first | exact hy.wid | exact hy.up | exact hy.down) (by first | exact hz.wid | exact hz.up | exact hz.down)).mono ?_
    rintro e w1 ⟨rfl, _t, hw⟩
    have hc1 := named_cell hw
    have hz1 := named_frozen hw
    have hh1 := named_heap hw
    haveI hi1 := named_in hw
    haveI hb1 := named_below (w := w) hw
    clear hw
    go_wp2_with (first | (go_at_call 31; refine (falls_any _ _).mono ?_; rintro e w1 ⟨rfl, rfl⟩) | (go_at_call 33; refine (wet_any _ _).mono ?_; rintro e w1 ⟨rfl, rfl⟩))
    refine wp_region_ext_tail 4 ?_ ?_ ?_
    · kernel_rfl
    · kernel_rfl
    simp only [List.take_succ_cons, List.take_zero, List.drop_succ_cons, List.drop_zero]
    repeat (go_big_quiet_step (first | (go_at_call 35; exact ext_same (lvl_any _ _))))
    refine wpQuiet_nil ?_
    rintro w2 ⟨_t, hw⟩
    have hc2 := named_cell hw
    have hz2 := named_frozen hw
    have hh2 := named_heap hw
    haveI hi2 := named_in hw
    haveI hb2 := named_below (w := w) hw
    clear hw
    go_wp2_with fail
    refine (water_upd _ _ _ _ _ _ _ (hvv.grow (by exact grown_of)) hx hy hz l0 l7).mono ?_
    rintro e w3 ⟨v3, rfl, ho3, _t, hw⟩
    have hc3 := named_cell hw
    have hz3 := named_frozen hw
    have hh3 := named_heap hw
    haveI hi3 := named_in hw
    haveI hb3 := named_below (w := w) hw
    clear hw
    go_wp2_with fail
    go_ret
    rw [H.out]
    exact ⟨_, rfl, owns_base ho3 (grown_now (w := w) (W := w2)).size, grown_of⟩

theorem still_any (v : Value) (V : Int → Int → Int → Int) (x y z : Int) (w : World) (hv : ViewVal Try.prog v V w) (hx : Mid x) (hy : Mid y) (hz : Mid z) :
    Calls Try.prog 24 #[v, .agg #[.int .i64 x, .int .i64 y, .int .i64 z]] w fun e w' => e = .returned (.bool (((nextS V x y z).length : Int) == 0)) ∧ ∃ f, w' = ext w f := by
  have hvv := hv
  obtain ⟨f, caps, rfl, hv⟩ := hv
  go_enter Try.func24, Try.ntmps24
  go_wp2_with fail
  refine (next_any _ _ _ _ _ _ (hvv.grow (by exact grown_of)) hx hy hz).mono ?_
  rintro e w1 ⟨v1, rfl, ho1, _t, hw⟩
  have hc1 := named_cell hw
  have hz1 := named_frozen hw
  have hh1 := named_heap hw
  haveI hi1 := named_in hw
  haveI hb1 := named_below (w := w) hw
  clear hw
  obtain ⟨og, cap, rfl⟩ := owns_form ho1
  go_wp2_with fail
  go_ret
  exact ⟨rfl, grown_of⟩
end Go.Proofs.Ytjejobfhddlmeaa
