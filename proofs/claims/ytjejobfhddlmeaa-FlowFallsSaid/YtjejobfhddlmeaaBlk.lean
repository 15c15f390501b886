/-
  What blocks are: the Go functions, and the document's, in plain definitions.
-/
import Derived.Test.YtjejobfhddlmeaaProg
import Derived.Test.YtjejobfhddlmeaaExt
import Derived.Test.YtjejobfhddlmeaaInts
namespace Go.Proofs.Ytjejobfhddlmeaa
open Go.RowKit
attribute [local go_sem] ext_ext drew_ext ext_drew ext_cell ext_frozen in_lt in_le in_ne in_en in_ne1 in_en1 in_le1 in_ltn in_len in_nen in_enn size_le ite_max ite_min
set_option linter.unusedVariables false
set_option linter.unusedSimpArgs false

/-- A block flows. -/
def wetB (b : Int) : Bool := decide (8 ≤ b ∧ b ≤ 15)
/-- A block gives way. -/
def yldB (b : Int) : Bool := decide (b = 0 ∨ 8 ≤ b ∧ b ≤ 15)
def mayB (b : Int) : Bool := decide (0 ≤ b ∧ b ≤ 15 ∧ b ≠ 6 ∧ b ≠ 7)
def lvlS (b : Int) : Int := if 8 ≤ b ∧ b ≤ 15 then b - 8 else -1
def watS (l : Int) : Int := 8 + min 7 (max l 0)
def dlyS (b : Int) : Int := if b = 3 then 2 else if 8 ≤ b ∧ b ≤ 15 then 5 else 0
/-- A block, made of any number. -/
def gdS (n : Int) : Int := if 5 < arS n 14 then arS n 14 + 2 else arS n 14
theorem wetB_in {b : Int} (h1 : 8 ≤ b) (h2 : b ≤ 15) : wetB b = true := by simp [wetB, h1, h2]
theorem wetB_lo {b : Int} (h1 : b < 8) : wetB b = false := by unfold wetB; rw [decide_eq_false_iff_not]; omega
theorem wetB_hi {b : Int} (h1 : 15 < b) : wetB b = false := by unfold wetB; rw [decide_eq_false_iff_not]; omega
theorem ret_boolv {a b : Bool} (h : a = b) : Ending.returned (.bool a) = .returned (.bool b) := by rw [h]

theorem wet_any (b : Int) (w : World) : Calls Try.prog 33 #[.int .i64 b] w fun e w' => e = .returned (.bool (wetB b)) ∧ w = w' := by
  by_cases h1 : b < 8
  · have H := Lib.hid (wetB_lo h1)
    go_enter Try.func33, Try.ntmps33
    go_wp2
    go_ret
    exact ⟨ret_boolv (by rw [H.out] <;> first | rfl | (simp <;> omega)), rfl⟩
  · by_cases h2 : 15 < b
    · have H := Lib.hid (wetB_hi h2)
      go_enter Try.func33, Try.ntmps33
      go_wp2
      go_ret
      exact ⟨ret_boolv (by rw [H.out] <;> first | rfl | (simp <;> omega)), rfl⟩
    · have H := Lib.hid (wetB_in (b := b) (by omega) (by omega))
      go_enter Try.func33, Try.ntmps33
      go_wp2
      go_ret
      exact ⟨ret_boolv (by rw [H.out] <;> first | rfl | (simp <;> omega)), rfl⟩
theorem refwet_any (b : Int) (w : World) : Calls Try.prog 37 #[.int .i64 b] w fun e w' => e = .returned (.bool (wetB b)) ∧ w = w' := by
  by_cases h1 : b < 8
  · have H := Lib.hid (wetB_lo h1)
    go_enter Try.func37, Try.ntmps37
    go_wp2
    go_ret
    exact ⟨ret_boolv (by rw [H.out] <;> first | rfl | (simp <;> omega)), rfl⟩
  · by_cases h2 : 15 < b
    · have H := Lib.hid (wetB_hi h2)
      go_enter Try.func37, Try.ntmps37
      go_wp2
      go_ret
      exact ⟨ret_boolv (by rw [H.out] <;> first | rfl | (simp <;> omega)), rfl⟩
    · have H := Lib.hid (wetB_in (b := b) (by omega) (by omega))
      go_enter Try.func37, Try.ntmps37
      go_wp2
      go_ret
      exact ⟨ret_boolv (by rw [H.out] <;> first | rfl | (simp <;> omega)), rfl⟩
theorem yld_any (b : Int) (w : World) : Calls Try.prog 43 #[.int .i64 b] w fun e w' => e = .returned (.bool (yldB b)) ∧ w = w' := by
  by_cases h1 : b = 0
  · have H := Lib.hid (show yldB b = true by simp [yldB, h1])
    have h2 : (b == 0) = true := by simp [h1]
    clear h1
    go_enter Try.func43, Try.ntmps43
    go_wp2
    go_ret
    exact ⟨ret_boolv (by rw [H.out] <;> first | rfl | (simp <;> omega)), rfl⟩
  · have H := Lib.hid (show yldB b = wetB b by unfold yldB wetB; simp [h1])
    have h2 : (b == 0) = false := by simp [h1]
    clear h1
    go_enter Try.func43, Try.ntmps43
    go_wp2_with (first | (go_at_call 33; refine (wet_any _ _).mono ?_; rintro e w1 ⟨rfl, rfl⟩))
    go_ret
    exact ⟨ret_boolv (by rw [H.out] <;> first | rfl | (simp <;> omega)), rfl⟩
theorem refyld_any (b : Int) (w : World) : Calls Try.prog 14 #[.int .i64 b] w fun e w' => e = .returned (.bool (yldB b)) ∧ w = w' := by
  by_cases h1 : b = 0
  · have H := Lib.hid (show yldB b = true by simp [yldB, h1])
    have h2 : (b == 0) = true := by simp [h1]
    clear h1
    go_enter Try.func14, Try.ntmps14
    go_wp2
    go_ret
    exact ⟨ret_boolv (by rw [H.out] <;> first | rfl | (simp <;> omega)), rfl⟩
  · have H := Lib.hid (show yldB b = wetB b by unfold yldB wetB; simp [h1])
    have h2 : (b == 0) = false := by simp [h1]
    clear h1
    go_enter Try.func14, Try.ntmps14
    go_wp2_with (first | (go_at_call 37; refine (refwet_any _ _).mono ?_; rintro e w1 ⟨rfl, rfl⟩))
    go_ret
    exact ⟨ret_boolv (by rw [H.out] <;> first | rfl | (simp <;> omega)), rfl⟩
theorem lvl_any (b : Int) (w : World) : Calls Try.prog 35 #[.int .i64 b] w fun e w' => e = .returned (.int .i64 (lvlS b)) ∧ w = w' := by
  by_cases h1 : 8 ≤ b ∧ b ≤ 15
  · have H := Lib.hid (show lvlS b = b - 8 by unfold lvlS; rw [if_pos h1])
    obtain ⟨h2, h3⟩ := h1
    have h4 := wetB_in h2 h3
    go_enter Try.func35, Try.ntmps35
    go_wp2_with (first | (go_at_call 33; refine (wet_any _ _).mono ?_; rintro e w1 ⟨rfl, rfl⟩))
    go_ret
    exact ⟨ret_int H.out.symm, rfl⟩
  · have H := Lib.hid (show lvlS b = -1 by unfold lvlS; rw [if_neg h1])
    have h4 : wetB b = false := by unfold wetB; rw [decide_eq_false_iff_not]; exact h1
    clear h1
    go_enter Try.func35, Try.ntmps35
    go_wp2_with (first | (go_at_call 33; refine (wet_any _ _).mono ?_; rintro e w1 ⟨rfl, rfl⟩))
    go_ret
    exact ⟨ret_int H.out.symm, rfl⟩
theorem water_any (l : Int) (w : World) : Calls Try.prog 44 #[.int .i64 l] w fun e w' => e = .returned (.int .i64 (watS l)) ∧ w = w' := by
  go_enter Try.func44, Try.ntmps44
  go_wp2
  go_ret
  exact ⟨rfl, rfl⟩
theorem falls_any (b : Int) (w : World) : Calls Try.prog 31 #[.int .i64 b] w fun e w' => e = .returned (.bool (b == 3)) ∧ w = w' := by
  go_enter Try.func31, Try.ntmps31
  go_wp2
  go_ret
  exact ⟨rfl, rfl⟩
theorem delay_any (b : Int) (w : World) : Calls Try.prog 27 #[.int .i64 b] w fun e w' => e = .returned (.int .i64 (dlyS b)) ∧ w = w' := by
  by_cases h : b = 3
  · have H := Lib.hid (show dlyS b = 2 by unfold dlyS; rw [if_pos h])
    have h2 : (b == 3) = true := by simp [h]
    clear h
    go_enter Try.func27, Try.ntmps27
    go_wp2_with (first | (go_at_call 31; refine (falls_any _ _).mono ?_; rintro e w1 ⟨rfl, rfl⟩))
    go_ret
    exact ⟨ret_int H.out.symm, rfl⟩
  · have h2 : (b == 3) = false := by simp [h]
    by_cases h1 : 8 ≤ b ∧ b ≤ 15
    · have H := Lib.hid (show dlyS b = 5 by unfold dlyS; rw [if_neg h, if_pos h1])
      have h4 := wetB_in h1.1 h1.2
      clear h h1
      go_enter Try.func27, Try.ntmps27
      go_wp2_with (first | (go_at_call 31; refine (falls_any _ _).mono ?_; rintro e w1 ⟨rfl, rfl⟩) | (go_at_call 33; refine (wet_any _ _).mono ?_; rintro e w1 ⟨rfl, rfl⟩))
      go_ret
      exact ⟨ret_int H.out.symm, rfl⟩
    · have H := Lib.hid (show dlyS b = 0 by unfold dlyS; rw [if_neg h, if_neg h1])
      have h4 : wetB b = false := by unfold wetB; rw [decide_eq_false_iff_not]; exact h1
      clear h h1
      go_enter Try.func27, Try.ntmps27
      go_wp2_with (first | (go_at_call 31; refine (falls_any _ _).mono ?_; rintro e w1 ⟨rfl, rfl⟩) | (go_at_call 33; refine (wet_any _ _).mono ?_; rintro e w1 ⟨rfl, rfl⟩))
      go_ret
      exact ⟨ret_int H.out.symm, rfl⟩
theorem refdelay_any (b : Int) (w : World) : Calls Try.prog 26 #[.int .i64 b] w fun e w' => e = .returned (.int .i64 (dlyS b)) ∧ w = w' := by
  by_cases h : b = 3
  · have H := Lib.hid (show dlyS b = 2 by unfold dlyS; rw [if_pos h])
    have h2 : (b == 3) = true := by simp [h]
    clear h
    go_enter Try.func26, Try.ntmps26
    go_wp2
    go_ret
    exact ⟨ret_int H.out.symm, rfl⟩
  · have h2 : (b == 3) = false := by simp [h]
    by_cases h1 : 8 ≤ b ∧ b ≤ 15
    · have H := Lib.hid (show dlyS b = 5 by unfold dlyS; rw [if_neg h, if_pos h1])
      have h4 := wetB_in h1.1 h1.2
      clear h h1
      go_enter Try.func26, Try.ntmps26
      go_wp2_with (first | (go_at_call 37; refine (refwet_any _ _).mono ?_; rintro e w1 ⟨rfl, rfl⟩))
      go_ret
      exact ⟨ret_int H.out.symm, rfl⟩
    · have H := Lib.hid (show dlyS b = 0 by unfold dlyS; rw [if_neg h, if_neg h1])
      have h4 : wetB b = false := by unfold wetB; rw [decide_eq_false_iff_not]; exact h1
      clear h h1
      go_enter Try.func26, Try.ntmps26
      go_wp2_with (first | (go_at_call 37; refine (refwet_any _ _).mono ?_; rintro e w1 ⟨rfl, rfl⟩))
      go_ret
      exact ⟨ret_int H.out.symm, rfl⟩
theorem refmay_any (b : Int) (w : World) (h1 : 0 ≤ b) (h2 : b ≤ 15) (h3 : (b == 6) = false) (h4 : (b == 7) = false) : Calls Try.prog 15 #[.int .i64 b] w fun e w' => e = .returned (.bool true) ∧ w = w' := by
  have h5 : (b != 6) = true := by simp [bne, h3]
  have h6 : (b != 7) = true := by simp [bne, h4]
  go_enter Try.func15, Try.ntmps15
  go_wp2
  go_ret
  exact ⟨rfl, rfl⟩

theorem around_fit (n m : Int) (w : World) (hn : Fit n) (h1 : 1 ≤ m) (h2 : m ≤ 4611686018427387904) :
    Calls Try.prog 30 #[.int .i64 n, .int .i64 m] w fun e w' => e = .returned (.int .i64 (arS n m)) ∧ w = w' := by
  have f1 := hn.1
  have f2 := hn.2
  have h3 : ¬ m = 0 := by omega
  by_cases h : n < 0
  · have H : Hid (arS n m = (-(n + 1)) % m) := by unfold arS; exact if_pos h
    have g : 0 ≤ -(n + 1) := by omega
    go_enter Try.func30, Try.ntmps30
    go_wp2
    go_ret
    exact ⟨ret_int (by rw [← Int.neg_tmod, Int.tmod_eq_emod_of_nonneg g]; exact H.out.symm), rfl⟩
  · have H : Hid (arS n m = n % m) := by unfold arS; exact if_neg h
    have g : 0 ≤ n := by omega
    go_enter Try.func30, Try.ntmps30
    go_wp2
    go_ret
    exact ⟨ret_int H.out.symm, rfl⟩


theorem gd_bd (n : Int) : 0 ≤ gdS n ∧ gdS n ≤ 15 ∧ gdS n ≠ 6 ∧ gdS n ≠ 7 := by
  have := arS_bd (n := n) (m := 14) (by omega)
  unfold gdS
  split <;> omega
theorem refgood_any (n : Int) (w : World) (hn : Fit n) : Calls Try.prog 17 #[.int .i64 n] w fun e w' => e = .returned (.int .i64 (gdS n)) ∧ w = w' := by
  obtain ⟨a1, a2⟩ := arS_bd (n := n) (m := 14) (by omega)
  by_cases h : 5 < arS n 14
  · have H := Lib.hid (show gdS n = arS n 14 + 2 by unfold gdS; rw [if_pos h])
    go_enter Try.func17, Try.ntmps17
    go_wp2_with (first | (go_at_call 30; refine (around_fit _ _ _ hn (by omega) (by omega)).mono ?_; rintro e w1 ⟨rfl, rfl⟩))
    go_ret
    exact ⟨ret_int H.out.symm, rfl⟩
  · have H := Lib.hid (show gdS n = arS n 14 by unfold gdS; rw [if_neg h])
    go_enter Try.func17, Try.ntmps17
    go_wp2_with (first | (go_at_call 30; refine (around_fit _ _ _ hn (by omega) (by omega)).mono ?_; rintro e w1 ⟨rfl, rfl⟩))
    go_ret
    exact ⟨ret_int H.out.symm, rfl⟩
end Go.Proofs.Ytjejobfhddlmeaa
