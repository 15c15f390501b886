/-
  Ways of fixed numbers: the numbers' places, an axis's number, a sum.
-/
import Derived.Test.YtnogfelfgclajaaGreatDoorMa28
import Derived.Test.YtnogfelfgclajaaGreatDoorMa23
import Derived.Handy
section
namespace Go.Proofs.YtnogfelfgclajaaGreatDoor
open Go.RowKit
attribute [local go_sem] ext_ext drew_ext ext_drew ext_cell ext_frozen in_lt in_le in_ne in_en in_ne1 in_en1 in_le1 in_ltn in_len in_nen in_enn size_le ite_max ite_min
set_option linter.unusedVariables false
set_option linter.unusedSimpArgs false

theorem parts_any (g : Nat) (a b c : Value) (w : World) (h0 : w.cell? ⟨g, 0, none⟩ = some a) (h1 : w.cell? ⟨g, 1, none⟩ = some b) (h2 : w.cell? ⟨g, 2, none⟩ = some c) :
    Calls Tryz.prog 319 #[.pointer (some ⟨g, 0, none⟩)] w fun e w' => e = .returned (.agg #[.pointer (some ⟨g, 0, none⟩), .pointer (some ⟨g, 1, none⟩), .pointer (some ⟨g, 2, none⟩)]) ∧ ∃ f, w' = ext w f := by
  haveI := in_of_cell h0
  go_enter Tryz.func319, Tryz.ntmps319
  go_wp2_with fail
  first | (with_reducible refine wp_region_ext_tail_on 10 ?_ ?_ ?_) | refine wp_region_ext_tail 10 ?_ ?_ ?_
  · kernel_rfl
  · kernel_rfl
  simp only [List.take_succ_cons, List.take_zero, List.drop_succ_cons, List.drop_zero]
  repeat (go_big_quiet_step (first | fail))
  refine wpQuiet_nil ?_
  rintro _ ⟨t, rfl⟩
  go_wp2
  go_returns
  exact ⟨rfl, grown_of⟩

theorem ix0 (p0 p1 p2 : Option Addr) (w : World) : (Instr.index 359 (.agg #[.pointer p0, .pointer p1, .pointer p2]) (.int .i64 0)).run Tryz.prog w = .ok (.pointer p0) w := by kernel_rfl
theorem ix1 (p0 p1 p2 : Option Addr) (w : World) : (Instr.index 359 (.agg #[.pointer p0, .pointer p1, .pointer p2]) (.int .i64 1)).run Tryz.prog w = .ok (.pointer p1) w := by kernel_rfl
theorem ix2 (p0 p1 p2 : Option Addr) (w : World) : (Instr.index 359 (.agg #[.pointer p0, .pointer p1, .pointer p2]) (.int .i64 2)).run Tryz.prog w = .ok (.pointer p2) w := by kernel_rfl
attribute [local go_sem] ix0 ix1 ix2

theorem axis0_any (a b c : Int) (w : World) : Calls Tryz.prog 263 #[.agg #[.int .i64 a, .int .i64 b, .int .i64 c], .int .i64 0] w fun e w' => e = .returned (.int .i64 a) ∧ ∃ f, w' = ext w f := by
  go_enter Tryz.func263, Tryz.ntmps263
  go_wp2_with fail
  refine (parts_any _ (.int .i64 a) (.int .i64 b) (.int .i64 c) _ (by go_simp) (by go_simp) (by go_simp)).mono ?_
  rintro e w1 ⟨rfl, _t, hw⟩
  have hc1 := named_cell hw
  have hz1 := named_frozen hw
  have hh1 := named_heap hw
  haveI hi1 := named_in hw
  haveI hb1 := named_below (w := w) hw
  clear hw
  go_wp2_with fail
  go_ret
  exact ⟨rfl, grown_of⟩
theorem axis1_any (a b c : Int) (w : World) : Calls Tryz.prog 263 #[.agg #[.int .i64 a, .int .i64 b, .int .i64 c], .int .i64 1] w fun e w' => e = .returned (.int .i64 b) ∧ ∃ f, w' = ext w f := by
  go_enter Tryz.func263, Tryz.ntmps263
  go_wp2_with fail
  refine (parts_any _ (.int .i64 a) (.int .i64 b) (.int .i64 c) _ (by go_simp) (by go_simp) (by go_simp)).mono ?_
  rintro e w1 ⟨rfl, _t, hw⟩
  have hc1 := named_cell hw
  have hz1 := named_frozen hw
  have hh1 := named_heap hw
  haveI hi1 := named_in hw
  haveI hb1 := named_below (w := w) hw
  clear hw
  go_wp2_with fail
  go_ret
  exact ⟨rfl, grown_of⟩
theorem axis2_any (a b c : Int) (w : World) : Calls Tryz.prog 263 #[.agg #[.int .i64 a, .int .i64 b, .int .i64 c], .int .i64 2] w fun e w' => e = .returned (.int .i64 c) ∧ ∃ f, w' = ext w f := by
  go_enter Tryz.func263, Tryz.ntmps263
  go_wp2_with fail
  refine (parts_any _ (.int .i64 a) (.int .i64 b) (.int .i64 c) _ (by go_simp) (by go_simp) (by go_simp)).mono ?_
  rintro e w1 ⟨rfl, _t, hw⟩
  have hc1 := named_cell hw
  have hz1 := named_frozen hw
  have hh1 := named_heap hw
  haveI hi1 := named_in hw
  haveI hb1 := named_below (w := w) hw
  clear hw
  go_wp2_with fail
  go_ret
  exact ⟨rfl, grown_of⟩

/-- What a sum's closure adds: an axis's number. -/
theorem add1_any (i n a b c m : Int) (g : Nat) (w : World) (hm : (i = 0 ∧ m = a) ∨ (i = 1 ∧ m = b) ∨ (i = 2 ∧ m = c)) (h0 : w.cell? ⟨g, 0, none⟩ = some (.int .i64 a)) (h1 : w.cell? ⟨g, 1, none⟩ = some (.int .i64 b)) (h2 : w.cell? ⟨g, 2, none⟩ = some (.int .i64 c)) :
    Calls Tryz.prog 276 #[.int .i64 i, .int .i64 n, .pointer (some ⟨g, 0, none⟩)] w fun e w' => e = .returned (.int .i64 (faS n m)) ∧ ∃ f, w' = ext w f := by
  haveI := in_of_cell h0
  have C : ∀ w, Calls Tryz.prog 263 #[.agg #[.int .i64 a, .int .i64 b, .int .i64 c], .int .i64 i] w fun e w' => e = .returned (.int .i64 m) ∧ ∃ f, w' = ext w f := by
    intro w
    rcases hm with ⟨rfl, rfl⟩ | ⟨rfl, rfl⟩ | ⟨rfl, rfl⟩
    · exact axis0_any _ _ _ w
    · exact axis1_any _ _ _ w
    · exact axis2_any _ _ _ w
  go_enter Tryz.func276, Tryz.ntmps276
  go_wp2_with fail
  refine (C _).mono ?_
  rintro e w1 ⟨rfl, _t, hw⟩
  have hc1 := named_cell hw
  have hz1 := named_frozen hw
  have hh1 := named_heap hw
  haveI hi1 := named_in hw
  haveI hb1 := named_below (w := w) hw
  clear hw
  go_wp2_with (first | (go_at_call 277; refine (fadd_any _ _ _).mono ?_; rintro e w1 ⟨rfl, rfl⟩))
  go_ret
  exact ⟨rfl, grown_of⟩

set_option maxHeartbeats 4000000 in
/-- A sum, number by number. -/
theorem each_add (x y z a b c : Int) (g : Nat) (w : World) (h0 : w.cell? ⟨g, 0, none⟩ = some (.int .i64 a)) (h1 : w.cell? ⟨g, 1, none⟩ = some (.int .i64 b)) (h2 : w.cell? ⟨g, 2, none⟩ = some (.int .i64 c)) :
    Calls Tryz.prog 275 #[.agg #[.int .i64 x, .int .i64 y, .int .i64 z], .func (.func 276) #[] #[.pointer (some ⟨g, 0, none⟩)]] w fun e w' => e = .returned (.agg #[.int .i64 (faS x a), .int .i64 (faS y b), .int .i64 (faS z c)]) ∧ ∃ f, w' = ext w f := by
  haveI := in_of_cell h0
  go_enter Tryz.func275, Tryz.ntmps275
  go_wp2_with fail
  refine (parts_any _ (.int .i64 x) (.int .i64 y) (.int .i64 z) _ (by go_simp) (by go_simp) (by go_simp)).mono ?_
  rintro e w1 ⟨rfl, _t, hw⟩
  have hc1 := named_cell hw
  have hz1 := named_frozen hw
  have hh1 := named_heap hw
  haveI hi1 := named_in hw
  haveI hb1 := named_below (w := w) hw
  clear hw
  go_wp2_with fail
  refine wp_loop_rounds 4 ?_
  rw [rounds_succ]
  go_wp2_with fail
  refine (add1_any _ _ a b c a g _ (.inl ⟨rfl, rfl⟩) (by go_simp) (by go_simp) (by go_simp)).mono ?_
  rintro e w2 ⟨rfl, _t, hw⟩
  have hc2 := named_cell hw
  have hz2 := named_frozen hw
  have hh2 := named_heap hw
  haveI hi2 := named_in hw
  haveI hb2 := named_below (w := w) hw
  clear hw
  go_wp2_with fail
  rw [rounds_succ]
  go_wp2_with fail
  refine (add1_any _ _ a b c b g _ (.inr (.inl ⟨rfl, rfl⟩)) (by go_simp) (by go_simp) (by go_simp)).mono ?_
  rintro e w3 ⟨rfl, _t, hw⟩
  have hc3 := named_cell hw
  have hz3 := named_frozen hw
  have hh3 := named_heap hw
  haveI hi3 := named_in hw
  haveI hb3 := named_below (w := w) hw
  clear hw
  go_wp2_with fail
  rw [rounds_succ]
  go_wp2_with fail
  refine (add1_any _ _ a b c c g _ (.inr (.inr ⟨rfl, rfl⟩)) (by go_simp) (by go_simp) (by go_simp)).mono ?_
  rintro e w4 ⟨rfl, _t, hw⟩
  have hc4 := named_cell hw
  have hz4 := named_frozen hw
  have hh4 := named_heap hw
  haveI hi4 := named_in hw
  haveI hb4 := named_below (w := w) hw
  clear hw
  go_wp2_with fail
  rw [rounds_succ]
  go_wp2_with fail
  refine bodyPost_ret (by simp [results, Tryz.results275, go_sem, hc1, hc2, hc3, hc4]; try rfl) rfl ?_
  exact ⟨rfl, grown_of⟩

theorem add_any (x y z a b c : Int) (w : World) :
    Calls Tryz.prog 210 #[.agg #[.int .i64 x, .int .i64 y, .int .i64 z], .agg #[.int .i64 a, .int .i64 b, .int .i64 c]] w fun e w' => e = .returned (.agg #[.int .i64 (faS x a), .int .i64 (faS y b), .int .i64 (faS z c)]) ∧ ∃ f, w' = ext w f := by
  have hmf : ∀ (fn : Fn) (first cap : Array Value) (w : World), (Instr.makeFunc fn first cap).run Tryz.prog w = .ok (.func fn first cap) w := fun _ _ _ _ => rfl
  go_enter Tryz.func210, Tryz.ntmps210
  go_wp2_with fail
  refine (each_add x y z a b c _ _ (by go_simp) (by go_simp) (by go_simp)).mono ?_
  rintro e w1 ⟨rfl, _t, hw⟩
  have hc1 := named_cell hw
  have hz1 := named_frozen hw
  have hh1 := named_heap hw
  haveI hi1 := named_in hw
  haveI hb1 := named_below (w := w) hw
  clear hw
  go_wp2_with fail
  refine bodyPost_ret (by simp [results, Tryz.results210, go_sem, hc1]; try rfl) rfl ?_
  exact ⟨rfl, grown_of⟩
end Go.Proofs.YtnogfelfgclajaaGreatDoor
end
