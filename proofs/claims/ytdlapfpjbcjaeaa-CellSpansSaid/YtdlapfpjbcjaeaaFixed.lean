/-
  Fixed numbers: cut, added, their whole part, what is left.
-/
import Derived.Test.YtdlapfpjbcjaeaaCell
namespace Go.Proofs.Ytdlapfpjbcjaeaa
open Go.RowKit
attribute [local go_sem] ext_ext drew_ext ext_drew ext_cell ext_frozen in_lt in_le in_ne in_en in_ne1 in_en1 in_le1 in_ltn in_len in_nen in_enn size_le ite_max ite_min
set_option linter.unusedVariables false
set_option linter.unusedSimpArgs false

/-- A fixed number, cut to the bounds. -/
def fcS (n : Int) : Int := min 140737488355328 (max n (-140737488355328))
theorem fcS_fold (n : Int) : min 140737488355328 (max n (-140737488355328)) = fcS n := rfl
theorem fcS_bd (n : Int) : -140737488355328 ≤ fcS n ∧ fcS n ≤ 140737488355328 := by unfold fcS; omega
theorem fcS_in {n : Int} (h1 : -140737488355328 ≤ n) (h2 : n ≤ 140737488355328) : fcS n = n := by unfold fcS; omega
theorem fcS_fcS (n : Int) : fcS (fcS n) = fcS n := fcS_in (fcS_bd n).1 (fcS_bd n).2
theorem fcS_fit (n : Int) : Fit (fcS n) := by have := fcS_bd n; exact ⟨by omega, by omega⟩
def faS (a b : Int) : Int := fcS (fcS a + fcS b)
def flS (n : Int) : Int := fcS n / 65536
theorem flS_bd (n : Int) : -2147483648 ≤ flS n ∧ flS n ≤ 2147483648 := by have := fcS_bd n; unfold flS; omega
def frS (n : Int) : Int := fcS n % 65536
attribute [local go_sem] fcS_fold
theorem i64_and65535 (n : Int) : bits .and .i64 n 65535 = n % 65536 := by
  have h127 : (BitVec.ofInt 64 65535).toNat = 2 ^ 16 - 1 := by decide
  have key : (BitVec.ofInt 64 n &&& BitVec.ofInt 64 65535).toNat = (n % ((2 ^ 64 : Nat) : Int)).toNat % 2 ^ 16 := by
    rw [BitVec.toNat_and, BitVec.toNat_ofInt, h127, Nat.and_two_pow_sub_one_eq_mod]
  show IntKind.i64.wrap ((BitVec.ofInt 64 n &&& BitVec.ofInt 64 65535).toNat : Nat) = n % 65536
  rw [key, IntKind.wrap_i64]
  omega

theorem fcut_any (n : Int) (w : World) : Calls Try.prog 60 #[.int .i64 n] w fun e w' => e = .returned (.int .i64 (fcS n)) ∧ w = w' := by
  go_enter Try.func60, Try.ntmps60
  go_wp2
  go_ret
  exact ⟨rfl, rfl⟩
theorem reffcut_any (n : Int) (w : World) : Calls Try.prog 49 #[.int .i64 n] w fun e w' => e = .returned (.int .i64 (fcS n)) ∧ w = w' := by
  by_cases h : 140737488355328 < n
  · have H := Lib.hid (show fcS n = 140737488355328 by unfold fcS; omega)
    go_enter Try.func49, Try.ntmps49
    go_wp2
    go_ret
    exact ⟨ret_int H.out.symm, rfl⟩
  · by_cases h2 : n < -140737488355328
    · have H := Lib.hid (show fcS n = -140737488355328 by unfold fcS; omega)
      go_enter Try.func49, Try.ntmps49
      go_wp2
      go_ret
      exact ⟨ret_int H.out.symm, rfl⟩
    · have H := Lib.hid (show fcS n = n by unfold fcS; omega)
      go_enter Try.func49, Try.ntmps49
      go_wp2
      go_ret
      exact ⟨ret_int H.out.symm, rfl⟩
theorem fadd_any (a b : Int) (w : World) : Calls Try.prog 63 #[.int .i64 a, .int .i64 b] w fun e w' => e = .returned (.int .i64 (faS a b)) ∧ w = w' := by
  obtain ⟨a1, a2⟩ := fcS_bd a
  obtain ⟨b1, b2⟩ := fcS_bd b
  go_enter Try.func63, Try.ntmps63
  go_wp2_with (first | (go_at_call 60; refine (fcut_any _ _).mono ?_; rintro e w1 ⟨rfl, rfl⟩))
  go_ret
  exact ⟨rfl, rfl⟩
theorem reffadd_any (a b : Int) (w : World) : Calls Try.prog 64 #[.int .i64 a, .int .i64 b] w fun e w' => e = .returned (.int .i64 (faS a b)) ∧ w = w' := by
  obtain ⟨a1, a2⟩ := fcS_bd a
  obtain ⟨b1, b2⟩ := fcS_bd b
  go_enter Try.func64, Try.ntmps64
  go_wp2_with (first | (go_at_call 49; refine (reffcut_any _ _).mono ?_; rintro e w1 ⟨rfl, rfl⟩))
  go_ret
  exact ⟨rfl, rfl⟩
theorem floor_any (n : Int) (w : World) : Calls Try.prog 46 #[.int .i64 n] w fun e w' => e = .returned (.int .i64 (flS n)) ∧ w = w' := by
  obtain ⟨a1, a2⟩ := fcS_bd n
  go_enter Try.func46, Try.ntmps46
  go_wp2_with (first | (go_at_call 60; refine (fcut_any _ _).mono ?_; rintro e w1 ⟨rfl, rfl⟩))
  go_ret
  exact ⟨rfl, rfl⟩
theorem reffloor_any (n : Int) (w : World) : Calls Try.prog 50 #[.int .i64 n] w fun e w' => e = .returned (.int .i64 (flS n)) ∧ w = w' := by
  have h1 := fcS_fit n
  have h2 : Fit 65536 := ⟨by omega, by omega⟩
  have H := Lib.hid (show divS (fcS n) 65536 = flS n by unfold divS flS; simp)
  go_enter Try.func50, Try.ntmps50
  go_wp2_with (first | (go_at_call 49; refine (reffcut_any _ _).mono ?_; rintro e w1 ⟨rfl, rfl⟩) | (go_at_call 59; refine (ref01div_any _ _ _ h1 h2 (by omega)).mono ?_; rintro e w1 ⟨rfl, rfl⟩))
  go_ret
  exact ⟨ret_int H.out.symm, rfl⟩
theorem frac_any (n : Int) (w : World) : Calls Try.prog 55 #[.int .i64 n] w fun e w' => e = .returned (.int .i64 (frS n)) ∧ w = w' := by
  obtain ⟨a1, a2⟩ := fcS_bd n
  go_enter Try.func55, Try.ntmps55
  go_wp2_with (first | (go_at_call 60; refine (fcut_any _ _).mono ?_; rintro e w1 ⟨rfl, rfl⟩))
  go_ret
  exact ⟨ret_int (i64_and65535 _), rfl⟩
theorem fof_any (n : Int) (w : World) : Calls Try.prog 47 #[.int .i64 n] w fun e w' => e = .returned (.int .i64 (cutS n * 65536)) ∧ w = w' := by
  obtain ⟨a1, a2⟩ := cutS_bd n
  go_enter Try.func47, Try.ntmps47
  go_wp2
  go_ret
  exact ⟨rfl, rfl⟩
end Go.Proofs.Ytdlapfpjbcjaeaa
