/- The cell of a place, and its box, are the document's, and the place is within it, below the bounds: whatever place and cell come in, CellOf hands back true; no conditions. -/
import Derived.Test.YtdlapfpjbcjaeaaHas
namespace Go.Proofs.Ytdlapfpjbcjaeaa
open Go.RowKit
attribute [local go_sem] ext_ext drew_ext ext_drew ext_cell ext_frozen in_lt in_le in_ne in_en in_ne1 in_en1 in_le1 size_le ite_max ite_min
set_option linter.unusedVariables false
set_option linter.unusedSimpArgs false
attribute [local go_sem ↓] eqc_any same_box
attribute [local go_sem] eqc_self

namespace cellOf
open Go.ChangeShapes Go.WideShapes Go.ChangeAt

/-- Below the bounds a place's number is below its cell's end. -/
theorem below (n : Int) : cutS (flS n) * 65536 ≤ fcS n ∧ (fcS n < faS (cutS (flS n) * 65536) 65536 ↔ ¬ fcS n = 140737488355328) := by
  have h1 := fcS_bd n
  have h2 := flS_bd n
  rw [cutS_in h2.1 h2.2]
  have h3 : fcS (flS n * 65536) = flS n * 65536 := fcS_in (by omega) (by omega)
  have h4 : fcS 65536 = 65536 := by decide
  unfold faS
  rw [h3, h4]
  unfold flS at *
  generalize fcS n = m at *
  unfold fcS
  omega

set_option maxRecDepth 100000 in
set_option maxHeartbeats 8000000 in
theorem walk (x y z a b c : Int) (_fx : Fit x) (_fy : Fit y) (_fz : Fit z) (_fa : Fit a) (_fb : Fit b) (_fc : Fit c) (w : World) :
    Calls Try.prog 7 #[.agg #[.int .i64 x, .int .i64 y, .int .i64 z], .agg #[.int .i64 a, .int .i64 b, .int .i64 c]] w fun e w' => e = .returned (.bool true) ∧ ∃ f, w' = ext w f := by
  obtain ⟨x1, x2⟩ := below x
  obtain ⟨y1, y2⟩ := below y
  obtain ⟨z1, z2⟩ := below z
  have key : ∀ p q : Prop, [Decidable p] → [Decidable q] → (p ↔ ¬ q) → decide p = !decide q := by
    intro p q _ _ h
    by_cases hq : q <;> simp [h, hq]
  have hx := key _ _ x2
  have hy := key _ _ y2
  have hz := key _ _ z2
  have B1 : ∀ m n o w, Calls Try.prog 30 #[.agg #[.int .i64 m, .int .i64 n, .int .i64 o]] w fun e w' => e = .returned (.agg #[.int .i64 (cutS m * 65536), .int .i64 (cutS n * 65536), .int .i64 (cutS o * 65536), .int .i64 (faS (cutS m * 65536) 65536), .int .i64 (faS (cutS n * 65536) 65536), .int .i64 (faS (cutS o * 65536) 65536)]) ∧ ∃ f, w' = ext w f := fun m n o w => box_any m n o w
  have B2 : ∀ m n o w, Calls Try.prog 33 #[.agg #[.int .i64 m, .int .i64 n, .int .i64 o]] w fun e w' => e = .returned (.agg #[.int .i64 (cutS m * 65536), .int .i64 (cutS n * 65536), .int .i64 (cutS o * 65536), .int .i64 (faS (cutS m * 65536) 65536), .int .i64 (faS (cutS n * 65536) 65536), .int .i64 (faS (cutS o * 65536) 65536)]) ∧ ∃ f, w' = ext w f := fun m n o w => refbox_any m n o w
  have HS := fun w => refhas_any _ _ _ _ _ _ _ _ _ _ _ _ w x1 y1 z1 hx hy hz
  clear x1 x2 y1 y2 z1 z2 hx hy hz key
  obtain ⟨t1, ht1⟩ : ∃ t, decide (fcS x = 140737488355328) = t := ⟨_, rfl⟩
  obtain ⟨t2, ht2⟩ : ∃ t, decide (fcS y = 140737488355328) = t := ⟨_, rfl⟩
  obtain ⟨t3, ht3⟩ : ∃ t, decide (fcS z = 140737488355328) = t := ⟨_, rfl⟩
  rw [ht1, ht2, ht3] at HS
  have k1 : (fcS x == 140737488355328) = t1 := ht1
  have k2 : (fcS y == 140737488355328) = t2 := ht2
  have k3 : (fcS z == 140737488355328) = t3 := ht3
  clear ht1 ht2 ht3
  go_enter Try.func7, Try.ntmps7
  go_wp2_with fail
  refine (of_any x y z _).mono ?_
  rintro e w1 ⟨rfl, _t, hw⟩
  have hc1 := named_cell hw
  have hz1 := named_frozen hw
  have hh1 := named_heap hw
  haveI hi1 := named_in hw
  haveI hb1 := named_below (w := w) hw
  clear hw
  go_wp2_with fail
  refine (B1 _ _ _ _).mono ?_
  rintro e w2 ⟨rfl, _t, hw⟩
  have hc2 := named_cell hw
  have hz2 := named_frozen hw
  have hh2 := named_heap hw
  haveI hi2 := named_in hw
  haveI hb2 := named_below (w := w) hw
  clear hw
  go_wp2_with fail
  refine (refvcut_any x y z _).mono ?_
  rintro e w3 ⟨rfl, _t, hw⟩
  have hc3 := named_cell hw
  have hz3 := named_frozen hw
  have hh3 := named_heap hw
  haveI hi3 := named_in hw
  haveI hb3 := named_below (w := w) hw
  clear hw
  rcases t1 with _ | _
  · rcases t2 with _ | _
    · rcases t3 with _ | _
      · go_wp2_with fail
        refine wp_region_ext ?_ ?_ ?_
        · kernel_rfl
        · kernel_rfl
        repeat (go_big_quiet_step (first | (go_at_call 32; exact ext_call (refof_any _ _ _ _)) | (go_at_call 33; exact ext_call (B2 _ _ _ _)) | (go_at_call 34; exact ext_call (HS _)) | (go_at_call 30; exact ext_call (B1 _ _ _ _)) | (go_at_call 35; exact ext_call (cutcell_any _ _ _ _)) | (go_at_call 16; exact ext_call (refcut_any _ _ _ _)) | (go_at_call 13; exact ext_call (lives_any _))))
        refine wpQuiet_nil ?_
        rintro w4 ⟨_t, hw⟩
        have hc4 := named_cell hw
        have hz4 := named_frozen hw
        have hh4 := named_heap hw
        haveI hi4 := named_in hw
        haveI hb4 := named_below (w := w) hw
        clear hw
        go_wp2_with fail
        go_ret
        exact ⟨rfl, grown_of⟩
      · go_wp2_with fail
        refine wp_region_ext ?_ ?_ ?_
        · kernel_rfl
        · kernel_rfl
        repeat (go_big_quiet_step (first | (go_at_call 32; exact ext_call (refof_any _ _ _ _)) | (go_at_call 33; exact ext_call (B2 _ _ _ _)) | (go_at_call 34; exact ext_call (HS _)) | (go_at_call 30; exact ext_call (B1 _ _ _ _)) | (go_at_call 35; exact ext_call (cutcell_any _ _ _ _)) | (go_at_call 16; exact ext_call (refcut_any _ _ _ _)) | (go_at_call 13; exact ext_call (lives_any _))))
        refine wpQuiet_nil ?_
        rintro w4 ⟨_t, hw⟩
        have hc4 := named_cell hw
        have hz4 := named_frozen hw
        have hh4 := named_heap hw
        haveI hi4 := named_in hw
        haveI hb4 := named_below (w := w) hw
        clear hw
        go_wp2_with fail
        go_ret
        exact ⟨rfl, grown_of⟩
    · go_wp2_with fail
      refine wp_region_ext ?_ ?_ ?_
      · kernel_rfl
      · kernel_rfl
      repeat (go_big_quiet_step (first | (go_at_call 32; exact ext_call (refof_any _ _ _ _)) | (go_at_call 33; exact ext_call (B2 _ _ _ _)) | (go_at_call 34; exact ext_call (HS _)) | (go_at_call 30; exact ext_call (B1 _ _ _ _)) | (go_at_call 35; exact ext_call (cutcell_any _ _ _ _)) | (go_at_call 16; exact ext_call (refcut_any _ _ _ _)) | (go_at_call 13; exact ext_call (lives_any _))))
      refine wpQuiet_nil ?_
      rintro w4 ⟨_t, hw⟩
      have hc4 := named_cell hw
      have hz4 := named_frozen hw
      have hh4 := named_heap hw
      haveI hi4 := named_in hw
      haveI hb4 := named_below (w := w) hw
      clear hw
      go_wp2_with fail
      go_ret
      exact ⟨rfl, grown_of⟩
  · go_wp2_with fail
    refine wp_region_ext ?_ ?_ ?_
    · kernel_rfl
    · kernel_rfl
    repeat (go_big_quiet_step (first | (go_at_call 32; exact ext_call (refof_any _ _ _ _)) | (go_at_call 33; exact ext_call (B2 _ _ _ _)) | (go_at_call 34; exact ext_call (HS _)) | (go_at_call 30; exact ext_call (B1 _ _ _ _)) | (go_at_call 35; exact ext_call (cutcell_any _ _ _ _)) | (go_at_call 16; exact ext_call (refcut_any _ _ _ _)) | (go_at_call 13; exact ext_call (lives_any _))))
    refine wpQuiet_nil ?_
    rintro w4 ⟨_t, hw⟩
    have hc4 := named_cell hw
    have hz4 := named_frozen hw
    have hh4 := named_heap hw
    haveI hi4 := named_in hw
    haveI hb4 := named_below (w := w) hw
    clear hw
    go_wp2_with fail
    go_ret
    exact ⟨rfl, grown_of⟩
set_option maxRecDepth 100000 in
theorem lifted (os : Os) (started : os.Started) (H : Type) (enc : TypeId × Value → H) :
    ReturnsInHanded {} Try.checked os 7 .any (Rows.cellOfSpec.pre6 enc Try.prog Try.f7 Rows.cellOfRow.domain false) (Rows.cellOfSpec.post enc Try.prog Try.f7 false true false false) := by
  refine returnsInHanded_of_change (C := Try.checked) own started (by kernel_rfl) Try.func7
    (ChangeSpec.witness6 (enc := enc) (C := Try.checked) false ⟨#[], #[.agg #[.int .i64 0, .int .i64 0, .int .i64 0], .agg #[.int .i64 0, .int .i64 0, .int .i64 0]], []⟩ 8 (by kernel_rfl) (by kernel_rfl) (by kernel_rfl) (by kernel_rfl)) ?_
  intro W base args ds gs before hval0 hW hcnd hsz
  have hval : ∀ (j : Nat) t v, Try.f7.params[j]? = some t → args[j]? = some v → Value.okWide Try.prog W .any base t v := hval0
  have hW' := hW
  obtain ⟨p, q, hA0, hV, rfl, hfz, hnd⟩ := hW
  have hA : DataW.TrodAll enc Try.prog W 0 (fun _ => true) true Try.f7.params.toList args.toList ds p := hA0
  rw [Try.params7] at hA hval
  obtain ⟨v0, vs0, d0, ds0, p0, q0, hargs, rfl, rfl, h0, r0⟩ := trodAll_cons hA
  obtain ⟨v1, vs1, d1, ds1, p1, q1, rfl, rfl, rfl, h1, r1⟩ := trodAll_cons r0
  obtain ⟨rfl, rfl, rfl⟩ := trodAll_nil r1
  obtain rfl : args = #[v0, v1] := by cases args; simp_all
  obtain ⟨rfl, rfl⟩ := trodVars_none hV
  obtain ⟨a0, b0, c0, rfl, fa0, fb0, fc0⟩ := open_three Try.underlying3 Try.underlying44 (by kernel_rfl) (by kernel_rfl) rfl rfl rfl (hval 0 44 v0 rfl rfl) h0
  obtain ⟨a1, b1, c1, rfl, fa1, fb1, fc1⟩ := open_three Try.underlying3 Try.underlying27 (by kernel_rfl) (by kernel_rfl) rfl rfl rfl (hval 1 27 v1 rfl rfl) h1
  simp only [List.append_nil] at hW'
  refine (walk a0 b0 c0 a1 b1 c1 fa0 fb0 fc0 fa1 fb1 fc1 W).mono fun e W' ⟨he, g, hg⟩ => ?_
  subst he
  subst hg
  exact ⟨_, rfl, law_post laidOut rfl rfl (by kernel_rfl) Try.underlying4 (by rw [Try.params7]; decide +kernel) hW' (ext_below _ _)⟩

theorem over : Rows.cellOfRow.holds Try.pinned (OpenSpec.ofChange Rows.cellOfSpec) :=
  OpenClaim.holds_of_wide 7 Try.f7 rfl rfl rfl rfl rfl rfl rfl ⟨rfl, rfl, rfl, rfl, rfl⟩ rfl rfl rfl rfl rfl (by kernel_rfl) Try.func7 (by kernel_rfl)
    (of_decide_eq_true (by kernel_rfl)) (by unfold Func.isWrapper; first | (rw [if_pos (by decide +kernel)]; kernel_rfl) | (rw [if_neg (by decide +kernel)]; exact ⟨rfl, rfl⟩))
    (fun os started H enc _ => lifted os started H enc)

theorem proved : Rows.CellOfSaid := over
#print axioms proved
end cellOf
end Go.Proofs.Ytdlapfpjbcjaeaa
