/- Water is only below 9, and a source; sand only where the ground is 9 or less, at its top; no ladder, and no glass, is there: whatever seed and cell come in, GenSeas hands back true; no conditions. -/
import Derived.Test.YtgnlechegenjpaaGood
import Derived.Test.YtgnlechegenjpaaGround
import Derived.Test.YtgnlechegenjpaaLaw
namespace Go.Proofs.Ytgnlechegenjpaa
open Go.RowKit
attribute [local go_sem] ext_ext drew_ext ext_drew ext_cell ext_frozen in_lt in_le in_ne in_en in_ne1 in_en1 in_le1 size_le ite_max ite_min
set_option linter.unusedVariables false
set_option linter.unusedSimpArgs false

namespace genSeas
open Go.ChangeShapes Go.WideShapes Go.ChangeAt

theorem ofS_cases (y g : Int) (y1 : 0 ≤ y) (y2 : y < 32) :
    (ofS y g = 1 ∧ (y = 0 ∨ y < g - 3)) ∨ (ofS y g = 2 ∧ (y < g - 1 ∨ (y = g - 1 ∧ 9 < g))) ∨ (ofS y g = 3 ∧ y = g - 1 ∧ g ≤ 9) ∨ (ofS y g = 8 ∧ y < 9 ∧ g ≤ y) ∨ (ofS y g = 0 ∧ 9 ≤ y ∧ g ≤ y) := by
  unfold ofS
  omega

theorem walk (s x y z : Int) (_fs : Fit s) (fx : Fit x) (fy : Fit y) (fz : Fit z) (w : World) :
    Calls Try.prog 3 #[.int .i64 s, .agg #[.int .i64 x, .int .i64 y, .int .i64 z]] w fun e w' => e = .returned (.bool true) ∧ ∃ f, w' = ext w f := by
  obtain ⟨x1, x2⟩ := arS_bd (n := x) (m := 401) (by omega)
  obtain ⟨z1, z2⟩ := arS_bd (n := z) (m := 401) (by omega)
  obtain ⟨y1, y2⟩ := arS_bd (n := y) (m := 32) (by omega)
  have gx : Fit (arS x 401 - 200) := ⟨by omega, by omega⟩
  have gz : Fit (arS z 401 - 200) := ⟨by omega, by omega⟩
  obtain ⟨g1, g2⟩ := groundS_bd s (arS x 401 - 200) (arS z 401 - 200)
  rcases ofS_cases (arS y 32) (groundS s (arS x 401 - 200) (arS z 401 - 200)) y1 y2 with ⟨h, hc⟩ | ⟨h, hc⟩ | ⟨h, hc, hd⟩ | ⟨h, hc, hd⟩ | ⟨h, hc, hd⟩
  · have k1 : decide (max (groundS s (arS x 401 - 200) (arS z 401 - 200)) 9 ≤ arS y 32) = false := decide_eq_false (by omega)
    clear hc
    go_enter Try.func3, Try.ntmps3
    go_wp2_with (first | (go_at_call 5; refine (good_any _ _ _ _ _ fx fy fz (by omega) (by omega)).mono ?_; rintro e w1 ⟨rfl, t1, rfl⟩) | (go_at_call 6; refine (block_any _ _ _ _ _ gx gz).mono ?_; rintro e w1 ⟨rfl, t1, rfl⟩) | (go_at_call 7; refine (ground_any _ _ _ _ gx gz).mono ?_; rintro e w1 ⟨rfl, t1, rfl⟩) | (go_at_call 8; refine (lives10_any _).mono ?_; rintro e w1 ⟨rfl, t1, rfl⟩))
    go_ret
    exact ⟨rfl, grown_of⟩
  · have k1 : decide (max (groundS s (arS x 401 - 200) (arS z 401 - 200)) 9 ≤ arS y 32) = false := decide_eq_false (by omega)
    clear hc
    go_enter Try.func3, Try.ntmps3
    go_wp2_with (first | (go_at_call 5; refine (good_any _ _ _ _ _ fx fy fz (by omega) (by omega)).mono ?_; rintro e w1 ⟨rfl, t1, rfl⟩) | (go_at_call 6; refine (block_any _ _ _ _ _ gx gz).mono ?_; rintro e w1 ⟨rfl, t1, rfl⟩) | (go_at_call 7; refine (ground_any _ _ _ _ gx gz).mono ?_; rintro e w1 ⟨rfl, t1, rfl⟩) | (go_at_call 8; refine (lives10_any _).mono ?_; rintro e w1 ⟨rfl, t1, rfl⟩))
    go_ret
    exact ⟨rfl, grown_of⟩
  · have k1 : (arS y 32 == groundS s (arS x 401 - 200) (arS z 401 - 200) - 1) = true := by rw [hc]; exact beq_self_eq_true _
    clear hc
    go_enter Try.func3, Try.ntmps3
    go_wp2_with (first | (go_at_call 5; refine (good_any _ _ _ _ _ fx fy fz (by omega) (by omega)).mono ?_; rintro e w1 ⟨rfl, t1, rfl⟩) | (go_at_call 6; refine (block_any _ _ _ _ _ gx gz).mono ?_; rintro e w1 ⟨rfl, t1, rfl⟩) | (go_at_call 7; refine (ground_any _ _ _ _ gx gz).mono ?_; rintro e w1 ⟨rfl, t1, rfl⟩) | (go_at_call 8; refine (lives10_any _).mono ?_; rintro e w1 ⟨rfl, t1, rfl⟩))
    go_ret
    exact ⟨rfl, grown_of⟩
  · go_enter Try.func3, Try.ntmps3
    go_wp2_with (first | (go_at_call 5; refine (good_any _ _ _ _ _ fx fy fz (by omega) (by omega)).mono ?_; rintro e w1 ⟨rfl, t1, rfl⟩) | (go_at_call 6; refine (block_any _ _ _ _ _ gx gz).mono ?_; rintro e w1 ⟨rfl, t1, rfl⟩) | (go_at_call 7; refine (ground_any _ _ _ _ gx gz).mono ?_; rintro e w1 ⟨rfl, t1, rfl⟩) | (go_at_call 8; refine (lives10_any _).mono ?_; rintro e w1 ⟨rfl, t1, rfl⟩))
    go_ret
    exact ⟨rfl, grown_of⟩
  · have k1 : decide (max (groundS s (arS x 401 - 200) (arS z 401 - 200)) 9 ≤ arS y 32) = true := decide_eq_true (by omega)
    go_enter Try.func3, Try.ntmps3
    go_wp2_with (first | (go_at_call 5; refine (good_any _ _ _ _ _ fx fy fz (by omega) (by omega)).mono ?_; rintro e w1 ⟨rfl, t1, rfl⟩) | (go_at_call 6; refine (block_any _ _ _ _ _ gx gz).mono ?_; rintro e w1 ⟨rfl, t1, rfl⟩) | (go_at_call 7; refine (ground_any _ _ _ _ gx gz).mono ?_; rintro e w1 ⟨rfl, t1, rfl⟩) | (go_at_call 8; refine (lives10_any _).mono ?_; rintro e w1 ⟨rfl, t1, rfl⟩))
    go_ret
    exact ⟨rfl, grown_of⟩
set_option maxRecDepth 100000 in
theorem lifted (os : Os) (started : os.Started) (H : Type) (enc : TypeId × Value → H) :
    ReturnsInHanded {} Try.checked os 3 .any (Rows.genSeasSpec.pre6 enc Try.prog Try.f3 Rows.genSeasRow.domain false) (Rows.genSeasSpec.post enc Try.prog Try.f3 false true false false) := by
  refine returnsInHanded_of_change (C := Try.checked) own started (by kernel_rfl) Try.func3
    (ChangeSpec.witness6 (enc := enc) (C := Try.checked) false ⟨#[], #[.int .i64 0, .agg #[.int .i64 0, .int .i64 0, .int .i64 0]], []⟩ 8 (by kernel_rfl) (by kernel_rfl) (by kernel_rfl) (by kernel_rfl)) ?_
  intro W base args ds gs before hval0 hW hcnd hsz
  have hval : ∀ (j : Nat) t v, Try.f3.params[j]? = some t → args[j]? = some v → Value.okWide Try.prog W .any base t v := hval0
  have hW' := hW
  obtain ⟨p, q, hA0, hV, rfl, hfz, hnd⟩ := hW
  have hA : DataW.TrodAll enc Try.prog W 0 (fun _ => true) true Try.f3.params.toList args.toList ds p := hA0
  rw [Try.params3] at hA hval
  obtain ⟨v0, vs0, d0, ds0, p0, q0, hargs, rfl, rfl, h0, r0⟩ := trodAll_cons hA
  obtain ⟨v1, vs1, d1, ds1, p1, q1, rfl, rfl, rfl, h1, r1⟩ := trodAll_cons r0
  obtain ⟨rfl, rfl, rfl⟩ := trodAll_nil r1
  obtain rfl : args = #[v0, v1] := by cases args; simp_all
  obtain ⟨rfl, rfl⟩ := trodVars_none hV
  obtain ⟨a0, rfl, fa0⟩ := open_one Try.underlying3 (hval 0 3 v0 rfl rfl) h0
  obtain ⟨a1, b1, c1, rfl, fa1, fb1, fc1⟩ := open_three Try.underlying3 Try.underlying23 (by kernel_rfl) (by kernel_rfl) rfl rfl rfl (hval 1 23 v1 rfl rfl) h1
  simp only [List.append_nil] at hW'
  refine (walk a0 a1 b1 c1 fa0 fa1 fb1 fc1 W).mono fun e W' ⟨he, g, hg⟩ => ?_
  subst he
  subst hg
  exact ⟨_, rfl, law_post laidOut rfl rfl (by kernel_rfl) Try.underlying4 (by rw [Try.params3]; decide +kernel) hW' (ext_below _ _)⟩

theorem over : Rows.genSeasRow.holds Try.pinned (OpenSpec.ofChange Rows.genSeasSpec) :=
  OpenClaim.holds_of_wide 3 Try.f3 rfl rfl rfl rfl rfl rfl rfl ⟨rfl, rfl, rfl, rfl, rfl⟩ rfl rfl rfl rfl rfl (by kernel_rfl) Try.func3 (by kernel_rfl)
    (of_decide_eq_true (by kernel_rfl)) (by unfold Func.isWrapper; first | (rw [if_pos (by decide +kernel)]; kernel_rfl) | (rw [if_neg (by decide +kernel)]; exact ⟨rfl, rfl⟩))
    (fun os started H enc _ => lifted os started H enc)

theorem proved : Rows.GenSeasSaid := over
#print axioms proved
end genSeas
end Go.Proofs.Ytgnlechegenjpaa
