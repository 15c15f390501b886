/- What an update changes, and what feeds a cell, is the document's: whatever small world and cell come in, FlowNext hands back true; no conditions. -/
import Derived.Test.YtjejobfhddlmeaaWays
namespace Go.Proofs.Ytjejobfhddlmeaa
open Go.RowKit
attribute [local go_sem] ext_ext drew_ext ext_drew ext_cell ext_frozen in_lt in_le in_ne in_en in_ne1 in_en1 in_le1 in_ltn in_len in_nen in_enn size_le ite_max ite_min
set_option linter.unusedVariables false
set_option linter.unusedSimpArgs false

namespace flowNext
open Go.ChangeShapes Go.WideShapes Go.ChangeAt

set_option maxHeartbeats 4000000 in
theorem walk (w : World) (sv : Value) (bs : List Int) (el x y z : Int) (hs : IntsIn w sv bs) (fe : Fit el) (fx : Fit x) (fy : Fit y) (fz : Fit z) :
    Calls Try.prog 7 #[.agg #[sv, .int .i64 el], .agg #[.int .i64 x, .int .i64 y, .int .i64 z]] w fun e w' => e = .returned (.bool true) ∧ ∃ f, w' = ext w f := by
  have HS := Lib.hid hs
  have GOOD := fun (w : World) (h : IntsIn w sv bs) => goodw_any sv bs el w h fe
  generalize (bs.take 216).map gdS = BS at GOOD
  obtain ⟨V, hV⟩ : ∃ V, V = atS BS (arS el 3 - 1) := ⟨_, rfl⟩
  have VIEW := fun (w : World) (sv : Value) => view_any BS sv (arS el 3 - 1) w
  have TELLS := fun (w : World) (sv : Value) => tells_nil BS sv (arS el 3 - 1) w
  rw [← hV] at VIEW TELLS
  obtain ⟨F, hF⟩ : ∃ F, F = fedR V (arS x 8 - 1) (arS y 8 - 1) (arS z 8 - 1) := ⟨_, rfl⟩
  have FEEDS := fun (v : Value) (w : World) (hv : ViewVal Try.prog v V w) => feeds_any v V (arS x 8 - 1) (arS y 8 - 1) (arS z 8 - 1) w hv near_mid near_mid near_mid
  have RFEEDS := fun (sv lv : Value) (w : World) (ht : Tells sv lv (arS el 3 - 1) V w) => reffeeds_any sv lv _ V (arS x 8 - 1) (arS y 8 - 1) (arS z 8 - 1) w ht near_mid near_mid near_mid
  rw [← hF] at RFEEDS
  obtain ⟨f1, f2, f3⟩ := fed_eq V (arS x 8 - 1) (arS y 8 - 1) (arS z 8 - 1)
  rw [← hF] at f1 f2
  clear hs hV hF
  rcases hfb : fedB V (arS x 8 - 1) (arS y 8 - 1) (arS z 8 - 1) with _ | _
  · rw [hfb, f3 hfb] at FEEDS
    have d1 : decide (F ≤ 7) = false := f1.symm.trans hfb
    have d2 : ¬ F ≤ 7 := of_decide_eq_false d1
    clear f1 f2 f3 hfb
    go_enter Try.func7, Try.ntmps7
    go_wp2_with fail
    refine (GOOD _ (HS.out.grown (by exact grown_of))).mono ?_
    rintro e w1 ⟨o1, rfl, hB1, _t, hw⟩
    have hc1 := named_cell hw
    have hz1 := named_frozen hw
    have hh1 := named_heap hw
    haveI hi1 := named_in hw
    haveI hb1 := named_below (w := w) hw
    clear hw
    obtain ⟨og1, cp1, rfl⟩ := owns_form hB1.1
    go_wp2_with fail
    refine (VIEW _ _ (hB1.grown (by exact grown_of))).mono ?_
    rintro e w2 ⟨v2, rfl, hv2, _t, hw⟩
    haveI hb2_1 := named_below (w := w1) hw
    have hc2 := named_cell hw
    have hz2 := named_frozen hw
    have hh2 := named_heap hw
    haveI hi2 := named_in hw
    haveI hb2 := named_below (w := w) hw
    clear hw
    go_wp2_with fail
    refine (near18_any _ _ _ _ fx fy fz).mono ?_
    rintro e w3 ⟨rfl, _t, hw⟩
    haveI hb3_1 := named_below (w := w1) hw
    haveI hb3_2 := named_below (w := w2) hw
    have hc3 := named_cell hw
    have hz3 := named_frozen hw
    have hh3 := named_heap hw
    haveI hi3 := named_in hw
    haveI hb3 := named_below (w := w) hw
    clear hw
    go_wp2_with fail
    refine (next_any v2 V _ _ _ _ (hv2.grow (by exact grown_of)) near_mid near_mid near_mid).mono ?_
    rintro e w4 ⟨v4, rfl, ho4, _t, hw⟩
    haveI hb4_1 := named_below (w := w1) hw
    haveI hb4_2 := named_below (w := w2) hw
    have hc4 := named_cell hw
    have hz4 := named_frozen hw
    have hh4 := named_heap hw
    haveI hi4 := named_in hw
    haveI hb4 := named_below (w := w) hw
    clear hw
    go_wp2_with fail
    refine (FEEDS v2 _ (hv2.grow (by exact grown_of))).mono ?_
    rintro e w5 ⟨rfl, _t, hw⟩
    haveI hb5_1 := named_below (w := w1) hw
    haveI hb5_2 := named_below (w := w2) hw
    haveI hb5_4 := named_below (w := w4) hw
    have hc5 := named_cell hw
    have hz5 := named_frozen hw
    have hh5 := named_heap hw
    haveI hi5 := named_in hw
    haveI hb5 := named_below (w := w) hw
    clear hw
    go_wp2_with fail
    refine (RFEEDS _ _ _ (TELLS _ _ (hB1.grown (by exact grown_of)))).mono ?_
    rintro e w6 ⟨rfl, _t, hw⟩
    haveI hb6_1 := named_below (w := w1) hw
    haveI hb6_2 := named_below (w := w2) hw
    haveI hb6_4 := named_below (w := w4) hw
    have hc6 := named_cell hw
    have hz6 := named_frozen hw
    have hh6 := named_heap hw
    haveI hi6 := named_in hw
    haveI hb6 := named_below (w := w) hw
    clear hw
    go_wp2_with fail
    refine (refnext_any _ _ _ V _ _ _ _ (TELLS _ _ (hB1.grown (by exact grown_of))) near_mid near_mid near_mid).mono ?_
    rintro e w7 ⟨v7, rfl, ho7, _t, hw⟩
    haveI hb7_1 := named_below (w := w1) hw
    haveI hb7_2 := named_below (w := w2) hw
    haveI hb7_4 := named_below (w := w4) hw
    have hc7 := named_cell hw
    have hz7 := named_frozen hw
    have hh7 := named_heap hw
    haveI hi7 := named_in hw
    haveI hb7 := named_below (w := w) hw
    clear hw
    go_wp2_with fail
    refine (same_next V _ _ _ _ _ _ _ _ (owns_grown ho4 (by exact grown_of)) (owns_grown ho7 (by exact grown_of))).mono ?_
    rintro e w8 ⟨rfl, _t, hw⟩
    haveI hb8_1 := named_below (w := w1) hw
    haveI hb8_2 := named_below (w := w2) hw
    haveI hb8_4 := named_below (w := w4) hw
    haveI hb8_7 := named_below (w := w7) hw
    have hc8 := named_cell hw
    have hz8 := named_frozen hw
    have hh8 := named_heap hw
    haveI hi8 := named_in hw
    haveI hb8 := named_below (w := w) hw
    clear hw
    go_wp2_with fail
    refine (still_any v2 V _ _ _ _ (hv2.grow (by exact grown_of)) near_mid near_mid near_mid).mono ?_
    rintro e w9 ⟨rfl, _t, hw⟩
    haveI hb9_1 := named_below (w := w1) hw
    haveI hb9_2 := named_below (w := w2) hw
    haveI hb9_4 := named_below (w := w4) hw
    haveI hb9_7 := named_below (w := w7) hw
    have hc9 := named_cell hw
    have hz9 := named_frozen hw
    have hh9 := named_heap hw
    haveI hi9 := named_in hw
    haveI hb9 := named_below (w := w) hw
    clear hw
    obtain ⟨og, cap, rfl⟩ := owns_form ho4
    go_wp2_with fail
    refine (lives_any _).mono ?_
    rintro e w10 ⟨rfl, _t, hw⟩
    haveI hb10_1 := named_below (w := w1) hw
    haveI hb10_2 := named_below (w := w2) hw
    haveI hb10_4 := named_below (w := w4) hw
    haveI hb10_7 := named_below (w := w7) hw
    have hc10 := named_cell hw
    have hz10 := named_frozen hw
    have hh10 := named_heap hw
    haveI hi10 := named_in hw
    haveI hb10 := named_below (w := w) hw
    clear hw
    go_wp2_with fail
    go_ret
    exact ⟨rfl, grown_of⟩
  · rw [hfb, f2 hfb] at FEEDS
    have d1 : decide (F ≤ 7) = true := f1.symm.trans hfb
    have d2 : F ≤ 7 := of_decide_eq_true d1
    clear f1 f2 f3 hfb
    go_enter Try.func7, Try.ntmps7
    go_wp2_with fail
    refine (GOOD _ (HS.out.grown (by exact grown_of))).mono ?_
    rintro e w1 ⟨o1, rfl, hB1, _t, hw⟩
    have hc1 := named_cell hw
    have hz1 := named_frozen hw
    have hh1 := named_heap hw
    haveI hi1 := named_in hw
    haveI hb1 := named_below (w := w) hw
    clear hw
    obtain ⟨og1, cp1, rfl⟩ := owns_form hB1.1
    go_wp2_with fail
    refine (VIEW _ _ (hB1.grown (by exact grown_of))).mono ?_
    rintro e w2 ⟨v2, rfl, hv2, _t, hw⟩
    haveI hb2_1 := named_below (w := w1) hw
    have hc2 := named_cell hw
    have hz2 := named_frozen hw
    have hh2 := named_heap hw
    haveI hi2 := named_in hw
    haveI hb2 := named_below (w := w) hw
    clear hw
    go_wp2_with fail
    refine (near18_any _ _ _ _ fx fy fz).mono ?_
    rintro e w3 ⟨rfl, _t, hw⟩
    haveI hb3_1 := named_below (w := w1) hw
    haveI hb3_2 := named_below (w := w2) hw
    have hc3 := named_cell hw
    have hz3 := named_frozen hw
    have hh3 := named_heap hw
    haveI hi3 := named_in hw
    haveI hb3 := named_below (w := w) hw
    clear hw
    go_wp2_with fail
    refine (next_any v2 V _ _ _ _ (hv2.grow (by exact grown_of)) near_mid near_mid near_mid).mono ?_
    rintro e w4 ⟨v4, rfl, ho4, _t, hw⟩
    haveI hb4_1 := named_below (w := w1) hw
    haveI hb4_2 := named_below (w := w2) hw
    have hc4 := named_cell hw
    have hz4 := named_frozen hw
    have hh4 := named_heap hw
    haveI hi4 := named_in hw
    haveI hb4 := named_below (w := w) hw
    clear hw
    go_wp2_with fail
    refine (FEEDS v2 _ (hv2.grow (by exact grown_of))).mono ?_
    rintro e w5 ⟨rfl, _t, hw⟩
    haveI hb5_1 := named_below (w := w1) hw
    haveI hb5_2 := named_below (w := w2) hw
    haveI hb5_4 := named_below (w := w4) hw
    have hc5 := named_cell hw
    have hz5 := named_frozen hw
    have hh5 := named_heap hw
    haveI hi5 := named_in hw
    haveI hb5 := named_below (w := w) hw
    clear hw
    go_wp2_with fail
    refine (RFEEDS _ _ _ (TELLS _ _ (hB1.grown (by exact grown_of)))).mono ?_
    rintro e w6 ⟨rfl, _t, hw⟩
    haveI hb6_1 := named_below (w := w1) hw
    haveI hb6_2 := named_below (w := w2) hw
    haveI hb6_4 := named_below (w := w4) hw
    have hc6 := named_cell hw
    have hz6 := named_frozen hw
    have hh6 := named_heap hw
    haveI hi6 := named_in hw
    haveI hb6 := named_below (w := w) hw
    clear hw
    go_wp2_with fail
    refine (refnext_any _ _ _ V _ _ _ _ (TELLS _ _ (hB1.grown (by exact grown_of))) near_mid near_mid near_mid).mono ?_
    rintro e w7 ⟨v7, rfl, ho7, _t, hw⟩
    haveI hb7_1 := named_below (w := w1) hw
    haveI hb7_2 := named_below (w := w2) hw
    haveI hb7_4 := named_below (w := w4) hw
    have hc7 := named_cell hw
    have hz7 := named_frozen hw
    have hh7 := named_heap hw
    haveI hi7 := named_in hw
    haveI hb7 := named_below (w := w) hw
    clear hw
    go_wp2_with fail
    refine (same_next V _ _ _ _ _ _ _ _ (owns_grown ho4 (by exact grown_of)) (owns_grown ho7 (by exact grown_of))).mono ?_
    rintro e w8 ⟨rfl, _t, hw⟩
    haveI hb8_1 := named_below (w := w1) hw
    haveI hb8_2 := named_below (w := w2) hw
    haveI hb8_4 := named_below (w := w4) hw
    haveI hb8_7 := named_below (w := w7) hw
    have hc8 := named_cell hw
    have hz8 := named_frozen hw
    have hh8 := named_heap hw
    haveI hi8 := named_in hw
    haveI hb8 := named_below (w := w) hw
    clear hw
    go_wp2_with fail
    refine (still_any v2 V _ _ _ _ (hv2.grow (by exact grown_of)) near_mid near_mid near_mid).mono ?_
    rintro e w9 ⟨rfl, _t, hw⟩
    haveI hb9_1 := named_below (w := w1) hw
    haveI hb9_2 := named_below (w := w2) hw
    haveI hb9_4 := named_below (w := w4) hw
    haveI hb9_7 := named_below (w := w7) hw
    have hc9 := named_cell hw
    have hz9 := named_frozen hw
    have hh9 := named_heap hw
    haveI hi9 := named_in hw
    haveI hb9 := named_below (w := w) hw
    clear hw
    obtain ⟨og, cap, rfl⟩ := owns_form ho4
    go_wp2_with fail
    refine (lives_any _).mono ?_
    rintro e w10 ⟨rfl, _t, hw⟩
    haveI hb10_1 := named_below (w := w1) hw
    haveI hb10_2 := named_below (w := w2) hw
    haveI hb10_4 := named_below (w := w4) hw
    haveI hb10_7 := named_below (w := w7) hw
    have hc10 := named_cell hw
    have hz10 := named_frozen hw
    have hh10 := named_heap hw
    haveI hi10 := named_in hw
    haveI hb10 := named_below (w := w) hw
    clear hw
    go_wp2_with fail
    go_ret
    exact ⟨rfl, grown_of⟩
set_option maxRecDepth 100000 in
theorem lifted (os : Os) (started : os.Started) (H : Type) (enc : TypeId × Value → H) :
    ReturnsInHanded {} Try.checked os 7 .any (Rows.flowNextSpec.pre6 enc Try.prog Try.f7 Rows.flowNextRow.domain false) (Rows.flowNextSpec.post enc Try.prog Try.f7 false true false false) := by
  refine returnsInHanded_of_change (C := Try.checked) own started (by kernel_rfl) Try.func7
    (ChangeSpec.witness6 (enc := enc) (C := Try.checked) false ⟨#[], #[.agg #[.slice none 0 0, .int .i64 0], .agg #[.int .i64 0, .int .i64 0, .int .i64 0]], []⟩ 8 (by kernel_rfl) (by kernel_rfl) (by kernel_rfl) (by kernel_rfl)) ?_
  intro W base args ds gs before hval0 hW hcnd hsz
  have hval : ∀ (j : Nat) t v, Try.f7.params[j]? = some t → args[j]? = some v → Value.okWide Try.prog W .any base t v := hval0
  have hW' := hW
  obtain ⟨p, q, hA0, hV, rfl, hfz, hnd⟩ := hW
  have hA : DataW.TrodAll enc Try.prog W 0 (fun _ => true) true Try.f7.params.toList args.toList ds p := hA0
  rw [Try.params7] at hA hval
  obtain ⟨v0, vs0, d0, ds0, p0, q0, hargs, rfl, rfl, h0, r0⟩ := trodAll_cons hA
  obtain ⟨v1, vs1, d1, ds1, p1, q1, rfl, rfl, rfl, h1, r1⟩ := trodAll_cons r0
  obtain ⟨rfl, rfl, rfl⟩ := trodAll_nil r1
  obtain rfl : args = #[v0, v1] := by cases args; simp_all
  obtain ⟨rfl, rfl⟩ := trodVars_none hV
  obtain ⟨s0, bs0, el0, rfl, hs0, fe0⟩ := open_world Try.underlying3 Try.underlying22 Try.underlying24 (by kernel_rfl) (by kernel_rfl) (by kernel_rfl) (by kernel_rfl) rfl rfl (hval 0 24 v0 rfl rfl) h0
  obtain ⟨a1, b1, c1, rfl, fa1, fb1, fc1⟩ := open_three Try.underlying3 Try.underlying26 (by kernel_rfl) (by kernel_rfl) rfl rfl rfl (hval 1 26 v1 rfl rfl) h1
  simp only [List.append_nil] at hW'
  refine (walk W s0 bs0 el0 a1 b1 c1 hs0 fe0 fa1 fb1 fc1).mono fun e W' ⟨he, g, hg⟩ => ?_
  subst he
  subst hg
  exact ⟨_, rfl, law_post laidOut rfl rfl (by kernel_rfl) Try.underlying4 (by rw [Try.params7]; decide +kernel) hW' (ext_below _ _)⟩

theorem over : Rows.flowNextRow.holds Try.pinned (OpenSpec.ofChange Rows.flowNextSpec) :=
  OpenClaim.holds_of_wide 7 Try.f7 rfl rfl rfl rfl rfl rfl rfl ⟨rfl, rfl, rfl, rfl, rfl⟩ rfl rfl rfl rfl rfl (by kernel_rfl) Try.func7 (by kernel_rfl)
    (of_decide_eq_true (by kernel_rfl)) (by unfold Func.isWrapper; first | (rw [if_pos (by decide +kernel)]; kernel_rfl) | (rw [if_neg (by decide +kernel)]; exact ⟨rfl, rfl⟩))
    (fun os started H enc _ => lifted os started H enc)

theorem proved : Rows.FlowNextSaid := over
#print axioms proved
end flowNext
end Go.Proofs.Ytjejobfhddlmeaa
