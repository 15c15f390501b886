/-
  The row of cells: what the Go functions that compare hand back.
-/
import Derived.Test.YtdlapfpjbcjaeaaArr
import Derived.Test.YtdlapfpjbcjaeaaDivs
import Derived.LoopN
namespace Go.Proofs.Ytdlapfpjbcjaeaa
open Go.RowKit
attribute [local go_sem] ext_ext drew_ext ext_drew ext_cell ext_frozen in_lt in_le in_ne in_en in_ne1 in_en1 in_le1 size_le ite_max ite_min
set_option linter.unusedVariables false
set_option linter.unusedSimpArgs false

def cmpS (a b : Int) : Int := if a < b then -1 else if b < a then 1 else 0
theorem cmpS_bd (a b : Int) : -1 ≤ cmpS a b ∧ cmpS a b ≤ 1 := by unfold cmpS; split <;> (try split) <;> omega
theorem cmp_any (a b : Int) (w : World) : Calls Try.prog 53 #[.int .i64 a, .int .i64 b] w fun e w' => e = .returned (.int .i64 (cmpS a b)) ∧ w = w' := by
  by_cases h : a < b
  · have H := Lib.hid (show cmpS a b = -1 by unfold cmpS; rw [if_pos h])
    go_enter Try.func53, Try.ntmps53
    go_wp2
    go_ret
    exact ⟨ret_int H.out.symm, rfl⟩
  · by_cases h2 : b < a
    · have H := Lib.hid (show cmpS a b = 1 by unfold cmpS; rw [if_neg h, if_pos h2])
      go_enter Try.func53, Try.ntmps53
      go_wp2
      go_ret
      exact ⟨ret_int H.out.symm, rfl⟩
    · have H := Lib.hid (show cmpS a b = 0 by unfold cmpS; rw [if_neg h, if_neg h2])
      go_enter Try.func53, Try.ntmps53
      go_wp2
      go_ret
      exact ⟨ret_int H.out.symm, rfl⟩

def orS (a b c : Int) : Int := if a ≠ 0 then a else if b ≠ 0 then b else c
theorem or_any (a b c : Int) (g : Nat) (w : World) (h0 : w.cell? ⟨g, 0, none⟩ = some (.int .i64 a)) (h1 : w.cell? ⟨g, 1, none⟩ = some (.int .i64 b)) (h2 : w.cell? ⟨g, 2, none⟩ = some (.int .i64 c)) :
    Calls Try.prog 52 #[.slice (some ⟨g, 0, none⟩) 3 3] w fun e w' => e = .returned (.int .i64 (orS a b c)) ∧ w = w' := by
  by_cases ha : a = 0
  · subst ha
    by_cases hb : b = 0
    · subst hb
      by_cases hc : c = 0
      · subst hc
        go_enter Try.func52, Try.ntmps52
        go_wp2
        go_rounds 4
        go_ret
        exact ⟨rfl, rfl⟩
      · have H := Lib.hid (show orS 0 0 c = c by unfold orS; simp)
        have hc' : (c != 0) = true := by simp [hc]
        clear hc
        go_enter Try.func52, Try.ntmps52
        go_wp2
        go_rounds 3
        go_ret
        exact ⟨ret_int H.out.symm, rfl⟩
    · have H := Lib.hid (show orS 0 b c = b by unfold orS; simp [hb])
      have hb' : (b != 0) = true := by simp [hb]
      clear hb
      go_enter Try.func52, Try.ntmps52
      go_wp2
      go_rounds 2
      go_ret
      exact ⟨ret_int H.out.symm, rfl⟩
  · have H := Lib.hid (show orS a b c = a by unfold orS; simp [ha])
    have ha' : (a != 0) = true := by simp [ha]
    clear ha
    go_enter Try.func52, Try.ntmps52
    go_wp2
    go_rounds 1
    go_ret
    exact ⟨ret_int H.out.symm, rfl⟩

/-- By Y, then by Z, then by X. -/
def compS (x y z a b c : Int) : Int := orS (cmpS y b) (cmpS z c) (cmpS x a)

theorem compare_any (x y z a b c : Int) (w : World) :
    Calls Try.prog 36 #[.agg #[.int .i64 x, .int .i64 y, .int .i64 z], .agg #[.int .i64 a, .int .i64 b, .int .i64 c]] w fun e w' => e = .returned (.int .i64 (compS x y z a b c)) ∧ ∃ f, w' = ext w f := by
  go_enter Try.func36, Try.ntmps36
  go_wp2_with fail
  first | (with_reducible refine wp_region_ext_tail_on 15 ?_ ?_ ?_) | refine wp_region_ext_tail 15 ?_ ?_ ?_
  · kernel_rfl
  · kernel_rfl
  simp only [List.take_succ_cons, List.take_zero, List.drop_succ_cons, List.drop_zero]
  repeat (go_big_quiet_step (first | (go_at_call 53; exact ext_same (cmp_any _ _ _))))
  refine wpQuiet_nil ?_
  rintro _ ⟨t, rfl⟩
  go_wp2_with (go_at_call 52; refine (or_any (cmpS y b) (cmpS z c) (cmpS x a) _ _ ?_ ?_ ?_).mono ?_; (go_simp); (go_simp); (go_simp); rintro e w1 ⟨rfl, rfl⟩)
  go_ret
  exact ⟨rfl, grown_of⟩
end Go.Proofs.Ytdlapfpjbcjaeaa
