/-
  The document's block of a cell; a chunk's blocks, number by number.
-/
import Derived.Test.YtgnlechegenjpaaRef10
namespace Go.Proofs.Ytgnlechegenjpaa
open Go.RowKit
attribute [local go_sem] ext_ext drew_ext ext_drew ext_cell ext_frozen in_lt in_le in_ne in_en in_ne1 in_en1 in_le1 in_ltn in_len in_nen in_enn size_le ite_max ite_min
set_option linter.unusedVariables false
set_option linter.unusedSimpArgs false

theorem refblock_any (s x y z : Int) (w : World) (hx : Fit x) (hz : Fit z) (y1 : 0 ≤ y) (y2 : y < 32) :
    Calls Try.prog 16 #[.int .i64 s, .agg #[.int .i64 x, .int .i64 y, .int .i64 z]] w fun e w' => e = .returned (.int .i64 (ofS y (groundS s x z))) ∧ ∃ f, w' = ext w f := by
  obtain ⟨g1, g2⟩ := groundS_bd s x z
  have GR := fun w => refground_any s x z w hx hz
  generalize groundS s x z = g at *
  by_cases c3 : y = 0
  · have H : Hid (ofS y g = 1) := by subst c3; unfold ofS; rw [if_neg (by omega), if_pos (.inl rfl)]; exact rfl
    have d3 : (y == 0) = true := by simp [c3]
    clear c3
    go_enter Try.func16, Try.ntmps16
    go_wp2_with (first | (go_at_call 27; refine (GR _).mono ?_; rintro e w1 ⟨rfl, rfl⟩))
    go_ret
    exact ⟨ret_int H.out.symm, grown_of⟩
  have d3 : (y == 0) = false := by simp [c3]
  by_cases c4 : y < g - 3
  · have H : Hid (ofS y g = 1) := by unfold ofS; rw [if_neg (by omega), if_pos (.inr c4)]; exact rfl
    clear c3
    go_enter Try.func16, Try.ntmps16
    go_wp2_with (first | (go_at_call 27; refine (GR _).mono ?_; rintro e w1 ⟨rfl, rfl⟩))
    go_ret
    exact ⟨ret_int H.out.symm, grown_of⟩
  by_cases c5 : y < g - 1
  · have H : Hid (ofS y g = 2) := by unfold ofS; rw [if_neg (by omega), if_neg (by omega), if_pos (.inl c5)]; exact rfl
    clear c3
    go_enter Try.func16, Try.ntmps16
    go_wp2_with (first | (go_at_call 27; refine (GR _).mono ?_; rintro e w1 ⟨rfl, rfl⟩))
    go_ret
    exact ⟨ret_int H.out.symm, grown_of⟩
  by_cases c6 : y = g - 1
  · have d6 : (y == g - 1) = true := by simp [c6]
    by_cases c7 : 9 < g
    · have H : Hid (ofS y g = 2) := by unfold ofS; rw [if_neg (by omega), if_neg (by omega), if_pos (.inr ⟨c6, c7⟩)]; exact rfl
      clear c6 c3
      go_enter Try.func16, Try.ntmps16
      go_wp2_with (first | (go_at_call 27; refine (GR _).mono ?_; rintro e w1 ⟨rfl, rfl⟩))
      go_ret
      exact ⟨ret_int H.out.symm, grown_of⟩
    · have H : Hid (ofS y g = 3) := by unfold ofS; rw [if_neg (by omega), if_neg (by omega), if_neg (by omega), if_pos c6]; exact rfl
      clear c6 c3
      go_enter Try.func16, Try.ntmps16
      go_wp2_with (first | (go_at_call 27; refine (GR _).mono ?_; rintro e w1 ⟨rfl, rfl⟩))
      go_ret
      exact ⟨ret_int H.out.symm, grown_of⟩
  have d6 : (y == g - 1) = false := by simp [c6]
  by_cases c8 : y < 9
  · have H : Hid (ofS y g = 8) := by unfold ofS; rw [if_neg (by omega), if_neg (by omega), if_neg (by omega), if_neg (by omega), if_pos c8]; exact rfl
    clear c6 c3
    go_enter Try.func16, Try.ntmps16
    go_wp2_with (first | (go_at_call 27; refine (GR _).mono ?_; rintro e w1 ⟨rfl, rfl⟩))
    go_ret
    exact ⟨ret_int H.out.symm, grown_of⟩
  · have H : Hid (ofS y g = 0) := by unfold ofS; rw [if_neg (by omega), if_neg (by omega), if_neg (by omega), if_neg (by omega), if_neg (by omega)]; exact rfl
    clear c6 c3
    go_enter Try.func16, Try.ntmps16
    go_wp2_with (first | (go_at_call 27; refine (GR _).mono ?_; rintro e w1 ⟨rfl, rfl⟩))
    go_ret
    exact ⟨ret_int H.out.symm, grown_of⟩

/-- A chunk's block, by its number. -/
def blkS (s px pz : Int) (i : Nat) : Int := ofS ((i : Int) / 256) (groundS s (px * 16 + (i : Int) % 16) (pz * 16 + (i : Int) / 16 % 16))
/-- A chunk's place is not too far. -/
structure Pl (px pz : Int) : Prop where
  p1 : -134217728 ≤ px
  p2 : px ≤ 134217728
  q1 : -134217728 ≤ pz
  q2 : pz ≤ 134217728
theorem pl_fit {px pz : Int} (h : Pl px pz) (i j : Int) (i1 : 0 ≤ i) (i2 : i < 16) (j1 : 0 ≤ j) (j2 : j < 16) : Fit (px * 16 + i) ∧ Fit (pz * 16 + j) := by
  obtain ⟨p1, p2, q1, q2⟩ := h
  exact ⟨⟨by omega, by omega⟩, ⟨by omega, by omega⟩⟩
end Go.Proofs.Ytgnlechegenjpaa
