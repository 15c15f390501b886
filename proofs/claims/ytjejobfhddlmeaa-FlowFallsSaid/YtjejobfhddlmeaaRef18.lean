/-
  The document's neighbours: what its functions hand back.
-/
import Derived.Test.YtjejobfhddlmeaaWorld
namespace Go.Proofs.Ytjejobfhddlmeaa
open Go.RowKit
attribute [local go_sem] ext_ext drew_ext ext_drew ext_cell ext_frozen in_lt in_le in_ne in_en in_ne1 in_en1 in_le1 in_ltn in_len in_nen in_enn size_le ite_max ite_min
set_option linter.unusedVariables false
set_option linter.unusedSimpArgs false

theorem by_w (x y z : Int) (w : World) (hx : Mid x) (hy : Mid y) (hz : Mid z) :
    Calls Try.prog 39 #[.agg #[.int .i64 x, .int .i64 y, .int .i64 z], .int .i64 (-1), .int .i64 0, .int .i64 0] w fun e w' => e = .returned (.agg #[.int .i64 (x + -1), .int .i64 (y), .int .i64 (z)]) ∧ ∃ f, w' = ext w f := by
  obtain ⟨x1, x2⟩ := hx
  obtain ⟨y1, y2⟩ := hy
  obtain ⟨z1, z2⟩ := hz
  go_enter Try.func39, Try.ntmps39
  go_wp2_with fail
  go_returns
  exact ⟨rfl, grown_of⟩
theorem by_e (x y z : Int) (w : World) (hx : Mid x) (hy : Mid y) (hz : Mid z) :
    Calls Try.prog 39 #[.agg #[.int .i64 x, .int .i64 y, .int .i64 z], .int .i64 1, .int .i64 0, .int .i64 0] w fun e w' => e = .returned (.agg #[.int .i64 (x + 1), .int .i64 (y), .int .i64 (z)]) ∧ ∃ f, w' = ext w f := by
  obtain ⟨x1, x2⟩ := hx
  obtain ⟨y1, y2⟩ := hy
  obtain ⟨z1, z2⟩ := hz
  go_enter Try.func39, Try.ntmps39
  go_wp2_with fail
  go_returns
  exact ⟨rfl, grown_of⟩
theorem by_d (x y z : Int) (w : World) (hx : Mid x) (hy : Mid y) (hz : Mid z) :
    Calls Try.prog 39 #[.agg #[.int .i64 x, .int .i64 y, .int .i64 z], .int .i64 0, .int .i64 (-1), .int .i64 0] w fun e w' => e = .returned (.agg #[.int .i64 (x), .int .i64 (y + -1), .int .i64 (z)]) ∧ ∃ f, w' = ext w f := by
  obtain ⟨x1, x2⟩ := hx
  obtain ⟨y1, y2⟩ := hy
  obtain ⟨z1, z2⟩ := hz
  go_enter Try.func39, Try.ntmps39
  go_wp2_with fail
  go_returns
  exact ⟨rfl, grown_of⟩
theorem by_u (x y z : Int) (w : World) (hx : Mid x) (hy : Mid y) (hz : Mid z) :
    Calls Try.prog 39 #[.agg #[.int .i64 x, .int .i64 y, .int .i64 z], .int .i64 0, .int .i64 1, .int .i64 0] w fun e w' => e = .returned (.agg #[.int .i64 (x), .int .i64 (y + 1), .int .i64 (z)]) ∧ ∃ f, w' = ext w f := by
  obtain ⟨x1, x2⟩ := hx
  obtain ⟨y1, y2⟩ := hy
  obtain ⟨z1, z2⟩ := hz
  go_enter Try.func39, Try.ntmps39
  go_wp2_with fail
  go_returns
  exact ⟨rfl, grown_of⟩
theorem by_n (x y z : Int) (w : World) (hx : Mid x) (hy : Mid y) (hz : Mid z) :
    Calls Try.prog 39 #[.agg #[.int .i64 x, .int .i64 y, .int .i64 z], .int .i64 0, .int .i64 0, .int .i64 (-1)] w fun e w' => e = .returned (.agg #[.int .i64 (x), .int .i64 (y), .int .i64 (z + -1)]) ∧ ∃ f, w' = ext w f := by
  obtain ⟨x1, x2⟩ := hx
  obtain ⟨y1, y2⟩ := hy
  obtain ⟨z1, z2⟩ := hz
  go_enter Try.func39, Try.ntmps39
  go_wp2_with fail
  go_returns
  exact ⟨rfl, grown_of⟩
theorem by_s (x y z : Int) (w : World) (hx : Mid x) (hy : Mid y) (hz : Mid z) :
    Calls Try.prog 39 #[.agg #[.int .i64 x, .int .i64 y, .int .i64 z], .int .i64 0, .int .i64 0, .int .i64 1] w fun e w' => e = .returned (.agg #[.int .i64 (x), .int .i64 (y), .int .i64 (z + 1)]) ∧ ∃ f, w' = ext w f := by
  obtain ⟨x1, x2⟩ := hx
  obtain ⟨y1, y2⟩ := hy
  obtain ⟨z1, z2⟩ := hz
  go_enter Try.func39, Try.ntmps39
  go_wp2_with fail
  go_returns
  exact ⟨rfl, grown_of⟩

def addS (a b : Int) : Int := a + b
theorem by_any (x y z a b c : Int) (w : World) (hx : Mid x) (hy : Mid y) (hz : Mid z) (a1 : -1 ≤ a) (a2 : a ≤ 1) (b1 : -1 ≤ b) (b2 : b ≤ 1) (c1 : -1 ≤ c) (c2 : c ≤ 1) :
    Calls Try.prog 39 #[.agg #[.int .i64 x, .int .i64 y, .int .i64 z], .int .i64 a, .int .i64 b, .int .i64 c] w fun e w' => e = .returned (.agg #[.int .i64 (addS x a), .int .i64 (addS y b), .int .i64 (addS z c)]) ∧ ∃ f, w' = ext w f := by
  obtain ⟨x1, x2⟩ := hx
  obtain ⟨y1, y2⟩ := hy
  obtain ⟨z1, z2⟩ := hz
  go_enter Try.func39, Try.ntmps39
  go_wp2_with fail
  go_returns
  exact ⟨rfl, grown_of⟩
theorem side_add (x y z : Int) : sideL x y z = [.int .i64 (addS x (-1)), .int .i64 (addS y 0), .int .i64 (addS z 0), .int .i64 (addS x 1), .int .i64 (addS y 0), .int .i64 (addS z 0), .int .i64 (addS x 0), .int .i64 (addS y 0), .int .i64 (addS z (-1)), .int .i64 (addS x 0), .int .i64 (addS y 0), .int .i64 (addS z 1)] := by
  simp [sideL, addS]

set_option maxHeartbeats 1000000 in
theorem sides_any (x y z : Int) (w : World) (hx : Mid x) (hy : Mid y) (hz : Mid z) :
    Calls Try.prog 40 #[.agg #[.int .i64 x, .int .i64 y, .int .i64 z]] w (MadeRow 26 3 4 (sideL x y z) w) := by
  go_enter Try.func40, Try.ntmps40
  go_wp2_with fail
  refine wp_region_ext_tail 8 ?_ ?_ ?_
  · kernel_rfl
  · kernel_rfl
  simp only [List.take_succ_cons, List.take_zero, List.drop_succ_cons, List.drop_zero]
  repeat (go_big_quiet_step (first | (go_at_call 39; exact ext_call (by_any _ _ _ _ _ _ _ hx hy hz (by omega) (by omega) (by omega) (by omega) (by omega) (by omega)))))
  refine wpQuiet_nil ?_
  rintro w1 ⟨_t, hw⟩
  have hc1 := named_cell hw
  have hz1 := named_frozen hw
  have hh1 := named_heap hw
  haveI hi1 := named_in hw
  haveI hb1 := named_below (w := w) hw
  clear hw
  go_wp2_with fail
  go_ret
  rw [side_add]
  exact ⟨_, rfl, owns_lit (n := 4) (size := 3) rfl (by unfold maxLen; omega) (grown_now (w := w) (W := w1)).size, grown_of⟩
/-- A cell, and its neighbours, number by number. -/
def near7L (x y z : Int) : List Value := [.int .i64 x, .int .i64 y, .int .i64 z, .int .i64 (x + -1), .int .i64 y, .int .i64 z, .int .i64 (x + 1), .int .i64 y, .int .i64 z, .int .i64 x, .int .i64 (y + -1), .int .i64 z, .int .i64 x, .int .i64 (y + 1), .int .i64 z, .int .i64 x, .int .i64 y, .int .i64 (z + -1), .int .i64 x, .int .i64 y, .int .i64 (z + 1)]
theorem near7_add (x y z : Int) : near7L x y z = [.int .i64 x, .int .i64 y, .int .i64 z, .int .i64 (addS x (-1)), .int .i64 (addS y (0)), .int .i64 (addS z (0)), .int .i64 (addS x (1)), .int .i64 (addS y (0)), .int .i64 (addS z (0)), .int .i64 (addS x (0)), .int .i64 (addS y (-1)), .int .i64 (addS z (0)), .int .i64 (addS x (0)), .int .i64 (addS y (1)), .int .i64 (addS z (0)), .int .i64 (addS x (0)), .int .i64 (addS y (0)), .int .i64 (addS z (-1)), .int .i64 (addS x (0)), .int .i64 (addS y (0)), .int .i64 (addS z (1))] := by
  simp [near7L, addS]
set_option maxHeartbeats 2000000 in
theorem near7_any (x y z : Int) (w : World) (hx : Mid x) (hy : Mid y) (hz : Mid z) :
    Calls Try.prog 25 #[.agg #[.int .i64 x, .int .i64 y, .int .i64 z]] w (MadeRow 26 3 7 (near7L x y z) w) := by
  go_enter Try.func25, Try.ntmps25
  go_wp2_with fail
  refine wp_region_ext_tail 13 ?_ ?_ ?_
  · kernel_rfl
  · kernel_rfl
  simp only [List.take_succ_cons, List.take_zero, List.drop_succ_cons, List.drop_zero]
  repeat (go_big_quiet_step (first | (go_at_call 39; exact ext_call (by_any _ _ _ _ _ _ _ hx hy hz (by omega) (by omega) (by omega) (by omega) (by omega) (by omega)))))
  refine wpQuiet_nil ?_
  rintro w1 ⟨_t, hw⟩
  have hc1 := named_cell hw
  have hz1 := named_frozen hw
  have hh1 := named_heap hw
  haveI hi1 := named_in hw
  haveI hb1 := named_below (w := w) hw
  clear hw
  go_wp2_with fail
  go_ret
  rw [near7_add]
  exact ⟨_, rfl, owns_lit (n := 7) (size := 3) rfl (by unfold maxLen; omega) (grown_now (w := w) (W := w1)).size, grown_of⟩
end Go.Proofs.Ytjejobfhddlmeaa
