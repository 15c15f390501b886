/- Boxes of two cells overlap only if they are one cell, and a cell's Span is itself: whatever two cells come in, CellApart hands back true; no conditions. -/
import Derived.Test.YtdlapfpjbcjaeaaHas
import Derived.Test.YtdlapfpjbcjaeaaOver
import Derived.Test.YtdlapfpjbcjaeaaSpan
import Derived.Test.YtdlapfpjbcjaeaaGood
namespace Go.Proofs.Ytdlapfpjbcjaeaa
open Go.RowKit
attribute [local go_sem] ext_ext drew_ext ext_drew ext_cell ext_frozen in_lt in_le in_ne in_en in_ne1 in_en1 in_le1 in_ltn in_len in_nen in_enn size_le ite_max ite_min
set_option linter.unusedVariables false
set_option linter.unusedSimpArgs false
attribute [local go_sem ↓] eqc_any
attribute [local go_sem] eqc_self calm calmUpon

namespace cellApart
open Go.ChangeShapes Go.WideShapes Go.ChangeAt

/-- A number near enough to 0. -/
def Low (x : Int) : Prop := -1073741824 ≤ x ∧ x ≤ 1073741824
theorem low_cut {x : Int} (h : Low x) : cutS x = x := cutS_in (by have := h.1; omega) (by have := h.2; omega)
theorem low_fc {x : Int} (h : Low x) : fcS (x * 65536) = x * 65536 := fcS_in (by have := h.1; omega) (by have := h.2; omega)
theorem low_end {x : Int} (h : Low x) : faS (x * 65536) 65536 = x * 65536 + 65536 := by
  unfold faS
  rw [low_fc h, show fcS 65536 = 65536 by decide]
  exact fcS_in (by have := h.1; omega) (by have := h.2; omega)
theorem low_fl {x : Int} (h : Low x) : flS (x * 65536) = x := by unfold flS; rw [low_fc h]; omega
theorem low_top {x : Int} (h : Low x) : flS (faS (x * 65536 + 65536) (-1)) = x := by
  have h1 := h.1
  have h2 := h.2
  unfold flS faS
  rw [fcS_in (n := x * 65536 + 65536) (by omega) (by omega), show fcS (-1) = -1 by decide, fcS_in (n := x * 65536 + 65536 + -1) (by omega) (by omega), fcS_in (n := x * 65536 + 65536 + -1) (by omega) (by omega)]
  omega
theorem low_void (x : Int) : voidS (x * 65536) (x * 65536 + 65536) = false := by
  unfold voidS
  have : (x * 65536 == x * 65536 + 65536) = false := by
    rw [beq_eq_false_iff_ne]
    omega
  rw [this]
  rfl
theorem low_thin (x m n : Int) : thinS (x * 65536) (x * 65536 + 65536) m n = n := by unfold thinS; rw [if_neg (by omega)]
theorem low_ov (x y : Int) : ovS (x * 65536) (x * 65536 + 65536) (y * 65536) (y * 65536 + 65536) = decide (x = y) := by
  unfold ovS
  by_cases h : x = y
  · subst h
    simp
    omega
  · simp [h]
    omega
theorem eqc_and (x y z a b c : Int) : (decide (x = a) && decide (y = b) && decide (z = c)) = eqcS x y z a b c := by
  unfold eqcS
  by_cases h1 : x = a <;> by_cases h2 : y = b <;> by_cases h3 : z = c <;> simp [h1, h2, h3]

theorem bx (x y z : Int) (w : World) (hx : Low x) (hy : Low y) (hz : Low z) :
    Calls Try.prog 30 #[.agg #[.int .i64 x, .int .i64 y, .int .i64 z]] w fun e w' => e = .returned (.agg #[.int .i64 (x * 65536), .int .i64 (y * 65536), .int .i64 (z * 65536), .int .i64 (x * 65536 + 65536), .int .i64 (y * 65536 + 65536), .int .i64 (z * 65536 + 65536)]) ∧ ∃ f, w' = ext w f := by
  have h := box_any x y z w
  unfold boxS at h
  rw [low_cut hx, low_cut hy, low_cut hz, low_end hx, low_end hy, low_end hz] at h
  exact h
theorem sp (x y z : Int) (w : World) (hx : Low x) (hy : Low y) (hz : Low z) :
    Calls Try.prog 39 #[.agg #[.int .i64 (x * 65536), .int .i64 (y * 65536), .int .i64 (z * 65536), .int .i64 (x * 65536 + 65536), .int .i64 (y * 65536 + 65536), .int .i64 (z * 65536 + 65536)]] w fun e w' =>
      e = .returned (.tuple #[.agg #[.int .i64 x, .int .i64 y, .int .i64 z], .agg #[.int .i64 x, .int .i64 y, .int .i64 z], .bool true]) ∧ ∃ f, w' = ext w f := by
  have h := span_some _ _ _ _ _ _ (low_void x) (low_void y) (low_void z) w
  simp only [low_thin, low_top hx, low_top hy, low_top hz, low_fl hx, low_fl hy, low_fl hz] at h
  exact h
theorem ov (x y z a b c : Int) (w : World) :
    Calls Try.prog 42 #[.agg #[.int .i64 (x * 65536), .int .i64 (y * 65536), .int .i64 (z * 65536), .int .i64 (x * 65536 + 65536), .int .i64 (y * 65536 + 65536), .int .i64 (z * 65536 + 65536)], .agg #[.int .i64 (a * 65536), .int .i64 (b * 65536), .int .i64 (c * 65536), .int .i64 (a * 65536 + 65536), .int .i64 (b * 65536 + 65536), .int .i64 (c * 65536 + 65536)]] w fun e w' =>
      e = .returned (.bool (eqcS x y z a b c)) ∧ ∃ f, w' = ext w f := by
  have h := over_any (x * 65536) (y * 65536) (z * 65536) (x * 65536 + 65536) (y * 65536 + 65536) (z * 65536 + 65536) (a * 65536) (b * 65536) (c * 65536) (a * 65536 + 65536) (b * 65536 + 65536) (c * 65536 + 65536) w
  rw [low_ov, low_ov, low_ov, eqc_and] at h
  exact h
theorem of (x y z : Int) (w : World) (hx : Low x) (hy : Low y) (hz : Low z) :
    Calls Try.prog 29 #[.agg #[.int .i64 (x * 65536), .int .i64 (y * 65536), .int .i64 (z * 65536)]] w fun e w' => e = .returned (.agg #[.int .i64 x, .int .i64 y, .int .i64 z]) ∧ ∃ f, w' = ext w f := by
  have h := of_any (x * 65536) (y * 65536) (z * 65536) w
  rw [low_fl hx, low_fl hy, low_fl hz] at h
  exact h

set_option maxRecDepth 100000 in
set_option maxHeartbeats 8000000 in
theorem walk (x y z a b c : Int) (fx : Fit x) (fy : Fit y) (fz : Fit z) (fa : Fit a) (fb : Fit b) (fc : Fit c) (w : World) :
    Calls Try.prog 10 #[.agg #[.int .i64 x, .int .i64 y, .int .i64 z], .agg #[.int .i64 a, .int .i64 b, .int .i64 c]] w fun e w' => e = .returned (.bool true) ∧ ∃ f, w' = ext w f := by
  obtain ⟨x1, x2⟩ := arS_bd (n := x) (m := 1073741824) (by omega)
  obtain ⟨y1, y2⟩ := arS_bd (n := y) (m := 1073741824) (by omega)
  obtain ⟨z1, z2⟩ := arS_bd (n := z) (m := 1073741824) (by omega)
  obtain ⟨a1, a2⟩ := arS_bd (n := a) (m := 1073741824) (by omega)
  obtain ⟨b1, b2⟩ := arS_bd (n := b) (m := 1073741824) (by omega)
  obtain ⟨c1, c2⟩ := arS_bd (n := c) (m := 1073741824) (by omega)
  go_enter Try.func10, Try.ntmps10
  go_wp2_with fail
  refine wp_region_free_named 11 5 27 #[.int .i64 0, .int .i64 0, .int .i64 0] (by kernel_rfl) (by kernel_rfl) rfl rfl rfl rfl (by intro a W; go_simp) ?_
  simp only [List.take_succ_cons, List.take_zero, List.drop_succ_cons, List.drop_zero]
  repeat (refine wpCalm_step (fun K hK => ?_); go_simp; first | (refine hK _ ?_; clear hK K) | (apply Exists.intro; refine ⟨fun _ => ?_, hK _ ?_⟩; (first | rfl | (go_at_call 22; exact calm_same (around_fit _ _ _ (by assumption) (by omega) (by omega)))); clear hK K))
  refine wpCalm_nil ?_
  rintro w1 ⟨_t, hw⟩ w2 ⟨_t2, hw2⟩
  have hc1 := named_cell hw
  have hz1 := named_frozen hw
  have hh1 := named_heap hw
  haveI hi1 := named_in hw
  haveI hb1 := named_below (w := w) hw
  clear hw
  have hc2 := named_cell hw2
  have hz2 := named_frozen hw2
  have hh2 := named_heap hw2
  haveI hi2 := named_in hw2
  haveI hb2 := named_below (w := w) hw2
  clear hw2
  go_wp2_with fail
  refine wp_region_free_named 11 6 27 #[.int .i64 0, .int .i64 0, .int .i64 0] (by kernel_rfl) (by kernel_rfl) rfl rfl rfl rfl (by intro a W; go_simp) ?_
  simp only [List.take_succ_cons, List.take_zero, List.drop_succ_cons, List.drop_zero]
  repeat (refine wpCalm_step (fun K hK => ?_); go_simp; first | (refine hK _ ?_; clear hK K) | (apply Exists.intro; refine ⟨fun _ => ?_, hK _ ?_⟩; (first | rfl | (go_at_call 22; exact calm_same (around_fit _ _ _ (by assumption) (by omega) (by omega)))); clear hK K))
  refine wpCalm_nil ?_
  rintro w3 ⟨_t, hw⟩ w4 ⟨_t2, hw2⟩
  have hc3 := named_cell hw
  have hz3 := named_frozen hw
  have hh3 := named_heap hw
  haveI hi3 := named_in hw
  haveI hb3 := named_below (w := w) hw
  clear hw
  have hc4 := named_cell hw2
  have hz4 := named_frozen hw2
  have hh4 := named_heap hw2
  haveI hi4 := named_in hw2
  haveI hb4 := named_below (w := w) hw2
  clear hw2
  go_wp2_with fail
  have L : ∀ n, Low (arS n 1073741824) := fun n => by have := arS_bd (n := n) (m := 1073741824) (by omega); exact ⟨by omega, by omega⟩
  have LN : ∀ n, Low (-(arS n 1073741824)) := fun n => by have := arS_bd (n := n) (m := 1073741824) (by omega); exact ⟨by omega, by omega⟩
  have B : ∀ n m k w, Calls Try.prog 30 #[.agg #[.int .i64 (arS n 1073741824), .int .i64 (arS m 1073741824), .int .i64 (-(arS k 1073741824))]] w fun e w' => _ := fun n m k w => bx _ _ _ w (L n) (L m) (LN k)
  have S := fun n m k w => sp _ _ _ w (L n) (L m) (LN k)
  have O := fun n m k w => of _ _ _ w (L n) (L m) (LN k)
  clear L LN
  refine (B _ _ _ _).mono ?_
  rintro e w5 ⟨rfl, _t, hw⟩
  have hc5 := named_cell hw
  have hz5 := named_frozen hw
  have hh5 := named_heap hw
  haveI hi5 := named_in hw
  haveI hb5 := named_below (w := w) hw
  clear hw
  go_wp2_with fail
  refine (S _ _ _ _).mono ?_
  rintro e w6 ⟨rfl, _t, hw⟩
  have hc6 := named_cell hw
  have hz6 := named_frozen hw
  have hh6 := named_heap hw
  haveI hi6 := named_in hw
  haveI hb6 := named_below (w := w) hw
  clear hw
  go_wp2_with fail
  refine wp_region_ext ?_ ?_ ?_
  · kernel_rfl
  · kernel_rfl
  repeat (go_big_quiet_step (first | (go_at_call 30; exact ext_call (B _ _ _ _)) | (go_at_call 42; exact ext_call (ov _ _ _ _ _ _ _)) | (go_at_call 29; exact ext_call (O _ _ _ _)) | (go_at_call 13; exact ext_call (lives_any _))))
  refine wpQuiet_nil ?_
  rintro w7 ⟨_t, hw⟩
  have hc7 := named_cell hw
  have hz7 := named_frozen hw
  have hh7 := named_heap hw
  haveI hi7 := named_in hw
  haveI hb7 := named_below (w := w) hw
  clear hw
  go_wp2_with fail
  go_ret
  exact ⟨rfl, grown_of⟩
set_option maxRecDepth 100000 in
theorem lifted (os : Os) (started : os.Started) (H : Type) (enc : TypeId × Value → H) :
    ReturnsInHanded {} Try.checked os 10 .any (Rows.cellApartSpec.pre6 enc Try.prog Try.f10 Rows.cellApartRow.domain false) (Rows.cellApartSpec.post enc Try.prog Try.f10 false true false false) := by
  refine returnsInHanded_of_change (C := Try.checked) own started (by kernel_rfl) Try.func10
    (ChangeSpec.witness6 (enc := enc) (C := Try.checked) false ⟨#[], #[.agg #[.int .i64 0, .int .i64 0, .int .i64 0], .agg #[.int .i64 0, .int .i64 0, .int .i64 0]], []⟩ 8 (by kernel_rfl) (by kernel_rfl) (by kernel_rfl) (by kernel_rfl)) ?_
  intro W base args ds gs before hval0 hW hcnd hsz
  have hval : ∀ (j : Nat) t v, Try.f10.params[j]? = some t → args[j]? = some v → Value.okWide Try.prog W .any base t v := hval0
  have hW' := hW
  obtain ⟨p, q, hA0, hV, rfl, hfz, hnd⟩ := hW
  have hA : DataW.TrodAll enc Try.prog W 0 (fun _ => true) true Try.f10.params.toList args.toList ds p := hA0
  rw [Try.params10] at hA hval
  obtain ⟨v0, vs0, d0, ds0, p0, q0, hargs, rfl, rfl, h0, r0⟩ := trodAll_cons hA
  obtain ⟨v1, vs1, d1, ds1, p1, q1, rfl, rfl, rfl, h1, r1⟩ := trodAll_cons r0
  obtain ⟨rfl, rfl, rfl⟩ := trodAll_nil r1
  obtain rfl : args = #[v0, v1] := by cases args; simp_all
  obtain ⟨rfl, rfl⟩ := trodVars_none hV
  obtain ⟨a0, b0, c0, rfl, fa0, fb0, fc0⟩ := open_three Try.underlying3 Try.underlying27 (by kernel_rfl) (by kernel_rfl) rfl rfl rfl (hval 0 27 v0 rfl rfl) h0
  obtain ⟨a1, b1, c1, rfl, fa1, fb1, fc1⟩ := open_three Try.underlying3 Try.underlying27 (by kernel_rfl) (by kernel_rfl) rfl rfl rfl (hval 1 27 v1 rfl rfl) h1
  simp only [List.append_nil] at hW'
  refine (walk a0 b0 c0 a1 b1 c1 fa0 fb0 fc0 fa1 fb1 fc1 W).mono fun e W' ⟨he, g, hg⟩ => ?_
  subst he
  subst hg
  exact ⟨_, rfl, law_post laidOut rfl rfl (by kernel_rfl) Try.underlying4 (by rw [Try.params10]; decide +kernel) hW' (ext_below _ _)⟩

theorem over : Rows.cellApartRow.holds Try.pinned (OpenSpec.ofChange Rows.cellApartSpec) :=
  OpenClaim.holds_of_wide 10 Try.f10 rfl rfl rfl rfl rfl rfl rfl ⟨rfl, rfl, rfl, rfl, rfl⟩ rfl rfl rfl rfl rfl (by kernel_rfl) Try.func10 (by kernel_rfl)
    (of_decide_eq_true (by kernel_rfl)) (by unfold Func.isWrapper; first | (rw [if_pos (by decide +kernel)]; kernel_rfl) | (rw [if_neg (by decide +kernel)]; exact ⟨rfl, rfl⟩))
    (fun os started H enc _ => lifted os started H enc)

theorem proved : Rows.CellApartSaid := over
#print axioms proved
end cellApart
end Go.Proofs.Ytdlapfpjbcjaeaa
