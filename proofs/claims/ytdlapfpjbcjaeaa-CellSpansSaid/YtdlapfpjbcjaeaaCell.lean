/-
  The Go functions on cells that keep to whole numbers: what each hands back, in plain definitions; none changes what was there.
-/
import Derived.Test.YtdlapfpjbcjaeaaDivs
namespace Go.Proofs.Ytdlapfpjbcjaeaa
open Go.RowKit
attribute [local go_sem] ext_ext drew_ext ext_drew ext_cell ext_frozen in_lt in_le in_ne in_en in_ne1 in_en1 in_le1 in_ltn in_len in_nen in_enn size_le ite_max ite_min
set_option linter.unusedVariables false
set_option linter.unusedSimpArgs false
attribute [local go_sem] cutS_fold

theorem ref01div_any (a b : Int) (w : World) (ha : Fit a) (hb : Fit b) (h1 : 1 ≤ b) :
    Calls Try.prog 59 #[.int .i64 a, .int .i64 b] w fun e w' => e = .returned (.int .i64 (divS a b)) ∧ w = w' := by
  have h2 : ¬ b = 0 := by omega
  have f1 := ha.1
  have f2 := ha.2
  have f3 := hb.2
  have f4 := tdiv_bd (a := a) (b := b) (by omega)
  have f5 : -9223372036854775808 ≤ a.tdiv b := by
    rcases Int.le_total 0 a with h0 | h0
    · have := f4.1 h0; omega
    · have := f4.2 h0; omega
  have f6 : a.tdiv b ≤ 9223372036854775807 := by
    rcases Int.le_total 0 a with h0 | h0
    · have := f4.1 h0; omega
    · have := f4.2 h0; omega
  have f8 : a.tdiv b * b = a - a.tmod b := by rw [tdiv_tmod, Int.mul_comm]; omega
  have f9 : -9223372036854775808 ≤ a.tdiv b * b ∧ a.tdiv b * b ≤ 9223372036854775807 := by
    rw [f8]
    rcases Int.le_total 0 a with h0 | h0
    · have := Int.tmod_nonneg b h0
      have := f4.1 h0
      have h3 : a.tdiv b * b = b * a.tdiv b := Int.mul_comm _ _
      have h5 : 0 ≤ a.tdiv b * b := Int.mul_nonneg this.1 (by omega)
      omega
    · have h4 : a.tmod b ≤ 0 := by
        obtain ⟨n, rfl⟩ : ∃ n, a = -n := ⟨-a, by omega⟩
        rw [Int.neg_tmod]
        have := Int.tmod_nonneg (a := n) b (by omega)
        omega
      have := f4.2 h0
      have h5 : a.tdiv b * b ≤ 0 := Int.mul_nonpos_of_nonpos_of_nonneg this.2 (by omega)
      omega
  obtain ⟨f10, f11⟩ := f9
  by_cases h3 : a.tmod b < 0
  · have H := Lib.hid (divS_neg (a := a) (b := b) (by omega) h3)
    have f7 := tdiv_low (a := a) (b := b) (by omega) h3
    have h9 : a < a.tdiv b * b := by omega
    clear f4 f8
    go_enter Try.func59, Try.ntmps59
    go_wp2
    go_ret
    exact ⟨ret_int H.out.symm, rfl⟩
  · have H := Lib.hid (divS_pos (a := a) (b := b) (by omega) (by omega))
    have h9 : ¬ a < a.tdiv b * b := by omega
    clear f4 f8
    go_enter Try.func59, Try.ntmps59
    go_wp2
    go_ret
    exact ⟨ret_int H.out.symm, rfl⟩

theorem ref03div_any (a b : Int) (w : World) (ha : Fit a) (hb : Fit b) :
    Calls Try.prog 43 #[.int .i64 a, .int .i64 b] w fun e w' => e = .returned (.int .i64 (divS a b)) ∧ w = w' := by
  by_cases h1 : b < 1
  · have H := Lib.hid (divS_low (a := a) h1)
    go_enter Try.func43, Try.ntmps43
    go_wp2
    go_ret
    exact ⟨ret_int H.out.symm, rfl⟩
  · have h2 : 1 ≤ b := by omega
    go_enter Try.func43, Try.ntmps43
    go_wp2_with (first | (go_at_call 59; refine (ref01div_any _ _ _ ha hb h2).mono ?_; rintro e w1 ⟨rfl, rfl⟩))
    go_ret
    exact ⟨rfl, rfl⟩

theorem chunk_any (x y z : Int) (w : World) (hx : Fit x) (hz : Fit z) :
    Calls Try.prog 17 #[.agg #[.int .i64 x, .int .i64 y, .int .i64 z]] w fun e w' => e = .returned (.agg #[.int .i64 (divS x 16), .int .i64 (divS z 16)]) ∧ ∃ f, w' = ext w f := by
  go_enter Try.func17, Try.ntmps17
  go_wp2_with fail
  first | (with_reducible refine wp_region_ext_tail_on 7 ?_ ?_ ?_) | refine wp_region_ext_tail 7 ?_ ?_ ?_
  · kernel_rfl
  · kernel_rfl
  simp only [List.take_succ_cons, List.take_zero, List.drop_succ_cons, List.drop_zero]
  repeat (go_big_quiet_step (first | (go_at_call 11; exact ext_same (div_any _ _ _ (by assumption) fit16))))
  refine wpQuiet_nil ?_
  rintro _ ⟨t, rfl⟩
  go_wp2
  go_returns
  exact ⟨rfl, grown_of⟩
theorem refchunk_any (x y z : Int) (w : World) (hx : Fit x) (hz : Fit z) :
    Calls Try.prog 20 #[.agg #[.int .i64 x, .int .i64 y, .int .i64 z]] w fun e w' => e = .returned (.agg #[.int .i64 (divS x 16), .int .i64 (divS z 16)]) ∧ ∃ f, w' = ext w f := by
  go_enter Try.func20, Try.ntmps20
  go_wp2_with fail
  first | (with_reducible refine wp_region_ext_tail_on 7 ?_ ?_ ?_) | refine wp_region_ext_tail 7 ?_ ?_ ?_
  · kernel_rfl
  · kernel_rfl
  simp only [List.take_succ_cons, List.take_zero, List.drop_succ_cons, List.drop_zero]
  repeat (go_big_quiet_step (first | (go_at_call 43; exact ext_same (ref03div_any _ _ _ (by assumption) fit16))))
  refine wpQuiet_nil ?_
  rintro _ ⟨t, rfl⟩
  go_wp2
  go_returns
  exact ⟨rfl, grown_of⟩

theorem index_out (x y z : Int) (w : World) (hy : y < 0 ∨ 31 < y) :
    Calls Try.prog 18 #[.agg #[.int .i64 x, .int .i64 y, .int .i64 z]] w fun e w' => e = .returned (.tuple #[.int .i64 0, .bool false]) ∧ ∃ f, w' = ext w f := by
  rcases hy with hy | hy
  · go_enter Try.func18, Try.ntmps18
    go_wp2
    go_ret2
    exact ⟨rfl, grown_of⟩
  · have h1 : ¬ y < 0 := by omega
    have h2 : 32 ≤ y := by omega
    go_enter Try.func18, Try.ntmps18
    go_wp2
    go_ret2
    exact ⟨rfl, grown_of⟩
theorem index_in (x y z : Int) (w : World) (hx : Fit x) (hz : Fit z) (h1 : 0 ≤ y) (h2 : y ≤ 31) :
    Calls Try.prog 18 #[.agg #[.int .i64 x, .int .i64 y, .int .i64 z]] w fun e w' => e = .returned (.tuple #[.int .i64 (idxS x y z), .bool true]) ∧ ∃ f, w' = ext w f := by
  obtain ⟨a1, a2⟩ := mod16 x
  obtain ⟨b1, b2⟩ := mod16 z
  have g : ¬ 32 ≤ y := by omega
  go_enter Try.func18, Try.ntmps18
  go_wp2_with fail
  first | (with_reducible refine wp_region_ext_on ?_ ?_ ?_) | refine wp_region_ext ?_ ?_ ?_
  · kernel_rfl
  · kernel_rfl
  repeat (go_big_quiet_step (first | (go_at_call 12; exact ext_same (mod_any _ _ _ (by assumption) fit16))))
  refine wpQuiet_nil ?_
  rintro _ ⟨t, rfl⟩
  go_wp2
  go_ret2
  exact ⟨ret_ib (by unfold idxS; omega), grown_of⟩
theorem refindex_out (x y z : Int) (w : World) (hy : y < 0 ∨ 31 < y) :
    Calls Try.prog 19 #[.agg #[.int .i64 x, .int .i64 y, .int .i64 z]] w fun e w' => e = .returned (.tuple #[.int .i64 0, .bool false]) ∧ ∃ f, w' = ext w f := by
  rcases hy with hy | hy
  · go_enter Try.func19, Try.ntmps19
    go_wp2
    go_ret2
    exact ⟨rfl, grown_of⟩
  · have h1 : ¬ y < 0 := by omega
    go_enter Try.func19, Try.ntmps19
    go_wp2
    go_ret2
    exact ⟨rfl, grown_of⟩
theorem refindex_in (x y z : Int) (w : World) (hx : Fit x) (hz : Fit z) (h1 : 0 ≤ y) (h2 : y ≤ 31) :
    Calls Try.prog 19 #[.agg #[.int .i64 x, .int .i64 y, .int .i64 z]] w fun e w' => e = .returned (.tuple #[.int .i64 (idxS x y z), .bool true]) ∧ ∃ f, w' = ext w f := by
  obtain ⟨a1, a2⟩ := mod16 x
  obtain ⟨b1, b2⟩ := mod16 z
  have g : ¬ 31 < y := by omega
  go_enter Try.func19, Try.ntmps19
  go_wp2_with fail
  first | (with_reducible refine wp_region_ext_on ?_ ?_ ?_) | refine wp_region_ext ?_ ?_ ?_
  · kernel_rfl
  · kernel_rfl
  repeat (go_big_quiet_step (first | (go_at_call 15; exact ext_same (refmod_any _ _ _ (by assumption) fit16))))
  refine wpQuiet_nil ?_
  rintro _ ⟨t, rfl⟩
  go_wp2
  go_ret2
  exact ⟨ret_ib (by unfold idxS; omega), grown_of⟩

theorem cut_any (n : Int) (w : World) :
    Calls Try.prog 45 #[.int .i64 n] w fun e w' => e = .returned (.int .i64 (cutS n)) ∧ w = w' := by
  go_enter Try.func45, Try.ntmps45
  go_wp2
  go_ret
  exact ⟨rfl, rfl⟩
theorem cutcell_any (x y z : Int) (w : World) :
    Calls Try.prog 35 #[.agg #[.int .i64 x, .int .i64 y, .int .i64 z]] w fun e w' => e = .returned (.agg #[.int .i64 (cutS x), .int .i64 (cutS y), .int .i64 (cutS z)]) ∧ ∃ f, w' = ext w f := by
  go_enter Try.func35, Try.ntmps35
  go_wp2_with fail
  first | (with_reducible refine wp_region_ext_tail_on 10 ?_ ?_ ?_) | refine wp_region_ext_tail 10 ?_ ?_ ?_
  · kernel_rfl
  · kernel_rfl
  simp only [List.take_succ_cons, List.take_zero, List.drop_succ_cons, List.drop_zero]
  repeat (go_big_quiet_step (first | (go_at_call 45; exact ext_same (cut_any _ _))))
  refine wpQuiet_nil ?_
  rintro _ ⟨t, rfl⟩
  go_wp2
  go_returns
  exact ⟨rfl, grown_of⟩
theorem refcut_any (x y z : Int) (w : World) :
    Calls Try.prog 16 #[.agg #[.int .i64 x, .int .i64 y, .int .i64 z]] w fun e w' => e = .returned (.agg #[.int .i64 (cutS x), .int .i64 (cutS y), .int .i64 (cutS z)]) ∧ ∃ f, w' = ext w f := by
  go_enter Try.func16, Try.ntmps16
  go_wp2
  go_returns
  exact ⟨rfl, grown_of⟩

theorem around_any (n m : Int) (w : World) (hn : Fit n) (h1 : 1 ≤ m) (h2 : m ≤ 4611686018427387904) :
    Calls Try.prog 22 #[.int .i64 n, .int .i64 m] w fun e w' => e = .returned (.int .i64 (arS n m)) ∧ w = w' := by
  have f1 := hn.1
  have f2 := hn.2
  have h3 : ¬ m = 0 := by omega
  by_cases h : n < 0
  · have H : Hid (arS n m = (-(n + 1)) % m) := by unfold arS; exact if_pos h
    have g : 0 ≤ -(n + 1) := by omega
    go_enter Try.func22, Try.ntmps22
    go_wp2
    go_ret
    exact ⟨ret_int (by rw [← Int.neg_tmod, Int.tmod_eq_emod_of_nonneg g]; exact H.out.symm), rfl⟩
  · have H : Hid (arS n m = n % m) := by unfold arS; exact if_neg h
    have g : 0 ≤ n := by omega
    go_enter Try.func22, Try.ntmps22
    go_wp2
    go_ret
    exact ⟨ret_int H.out.symm, rfl⟩

theorem lives_any (w : World) : Calls Try.prog 13 #[] w fun e w' => e = .returned (.bool true) ∧ ∃ f, w' = ext w f := by
  have m1 : Fit (-1) := ⟨by omega, by omega⟩
  have e1 : idxS (-1) 0 (-1) = 255 := by decide
  have e2 : divS (-1) 16 = -1 := by decide
  go_enter Try.func13, Try.ntmps13
  go_wp2_with (first | (go_at_call 18; refine (index_in _ _ _ _ m1 m1 (by omega) (by omega)).mono ?_; rintro e w1 ⟨rfl, t1, rfl⟩) | (go_at_call 17; refine (chunk_any _ _ _ _ m1 m1).mono ?_; rintro e w1 ⟨rfl, t1, rfl⟩))
  go_ret
  exact ⟨rfl, grown_of⟩
end Go.Proofs.Ytdlapfpjbcjaeaa
