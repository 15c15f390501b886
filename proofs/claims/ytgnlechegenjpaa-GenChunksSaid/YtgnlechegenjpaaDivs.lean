/-
  The Go functions for quotients and what is left: each hands back what the plain definitions say, and leaves the world as it was.
-/
import Derived.Test.YtgnlechegenjpaaProg
import Derived.Test.YtgnlechegenjpaaExt
import Derived.Test.YtgnlechegenjpaaInts
namespace Go.Proofs.Ytgnlechegenjpaa
open Go.RowKit
set_option linter.unusedVariables false

theorem div_any (a b : Int) (w : World) (ha : Fit a) (hb : Fit b) :
    Calls Try.prog 18 #[.int .i64 a, .int .i64 b] w fun e w' => e = .returned (.int .i64 (divS a b)) ∧ w = w' := by
  by_cases h1 : b < 1
  · have H := Lib.hid (divS_low (a := a) h1)
    go_enter Try.func18, Try.ntmps18
    go_wp2
    go_ret
    exact ⟨ret_int H.out.symm, rfl⟩
  · have h2 : ¬ b = 0 := by omega
    have f1 := ha.1
    have f2 := ha.2
    have f3 := hb.2
    have f4 := tdiv_bd (a := a) (b := b) (by omega)
    have f5 : -9223372036854775808 ≤ a.tdiv b := by
      rcases Int.le_total 0 a with h0 | h0
      · have := f4.1 h0; omega
      · have := f4.2 h0; omega
    have f6 : a.tdiv b ≤ 9223372036854775807 := by
      rcases Int.le_total 0 a with h0 | h0
      · have := f4.1 h0; omega
      · have := f4.2 h0; omega
    by_cases h3 : a.tmod b < 0
    · have H := Lib.hid (divS_neg (a := a) (b := b) (by omega) h3)
      have f7 := tdiv_low (a := a) (b := b) (by omega) h3
      clear f4
      go_enter Try.func18, Try.ntmps18
      go_wp2
      go_ret
      exact ⟨ret_int H.out.symm, rfl⟩
    · have H := Lib.hid (divS_pos (a := a) (b := b) (by omega) (by omega))
      clear f4
      go_enter Try.func18, Try.ntmps18
      go_wp2
      go_ret
      exact ⟨ret_int H.out.symm, rfl⟩

theorem mod_any (a b : Int) (w : World) (ha : Fit a) (hb : Fit b) :
    Calls Try.prog 19 #[.int .i64 a, .int .i64 b] w fun e w' => e = .returned (.int .i64 (modS a b)) ∧ w = w' := by
  by_cases h1 : b < 1
  · have H := Lib.hid (modS_low (a := a) h1)
    go_enter Try.func19, Try.ntmps19
    go_wp2
    go_ret
    exact ⟨ret_int H.out.symm, rfl⟩
  · have h2 : ¬ b = 0 := by omega
    have f3 := hb.2
    have f4 := (tmod_bd (a := a) (b := b) (by omega)).1
    have f5 := (tmod_bd (a := a) (b := b) (by omega)).2
    by_cases h3 : a.tmod b < 0
    · have H := Lib.hid (modS_neg (a := a) (b := b) (by omega) h3)
      go_enter Try.func19, Try.ntmps19
      go_wp2
      go_ret
      exact ⟨ret_int H.out.symm, rfl⟩
    · have H := Lib.hid (modS_pos (a := a) (b := b) (by omega) (by omega))
      go_enter Try.func19, Try.ntmps19
      go_wp2
      go_ret
      exact ⟨ret_int H.out.symm, rfl⟩

theorem refmod_any (a b : Int) (w : World) (ha : Fit a) (hb : Fit b) :
    Calls Try.prog 29 #[.int .i64 a, .int .i64 b] w fun e w' => e = .returned (.int .i64 (modS a b)) ∧ w = w' := by
  by_cases h1 : b < 1
  · have H := Lib.hid (modS_low (a := a) h1)
    go_enter Try.func29, Try.ntmps29
    go_wp2
    go_ret
    exact ⟨ret_int H.out.symm, rfl⟩
  · have h2 : ¬ b = 0 := by omega
    have f3 := hb.2
    have f4 := (tmod_bd (a := a) (b := b) (by omega)).1
    have f5 := (tmod_bd (a := a) (b := b) (by omega)).2
    by_cases h3 : a.tmod b < 0
    · have H := Lib.hid (modS_neg (a := a) (b := b) (by omega) h3)
      go_enter Try.func29, Try.ntmps29
      go_wp2
      go_ret
      exact ⟨ret_int H.out.symm, rfl⟩
    · have H := Lib.hid (modS_pos (a := a) (b := b) (by omega) (by omega))
      go_enter Try.func29, Try.ntmps29
      go_wp2
      go_ret
      exact ⟨ret_int H.out.symm, rfl⟩
end Go.Proofs.Ytgnlechegenjpaa
