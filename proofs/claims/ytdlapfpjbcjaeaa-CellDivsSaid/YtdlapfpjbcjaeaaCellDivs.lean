/- Quotients, rounded down, and what is left, are the document's, and make the number: whatever two ints come in, CellDivs hands back true; no conditions. -/
import Derived.Test.YtdlapfpjbcjaeaaCell
import Derived.Test.YtdlapfpjbcjaeaaLaw
namespace Go.Proofs.Ytdlapfpjbcjaeaa
open Go.RowKit
attribute [local go_sem] ext_ext drew_ext ext_drew ext_cell ext_frozen ext_lt ext_le ite_max ite_min
set_option linter.unusedVariables false
set_option linter.unusedSimpArgs false

def lowS (n : Int) : Int := if n < 0 then 1 else 0
theorem low_any (n : Int) (w : World) : Calls Try.prog 14 #[.int .i64 n] w fun e w' => e = .returned (.int .i64 (lowS n)) ∧ w = w' := by
  by_cases h : n < 0
  · have H : Hid (lowS n = 1) := by unfold lowS; exact if_pos h
    go_enter Try.func14, Try.ntmps14
    go_wp2
    go_ret
    exact ⟨ret_int H.out.symm, rfl⟩
  · have H : Hid (lowS n = 0) := by unfold lowS; exact if_neg h
    go_enter Try.func14, Try.ntmps14
    go_wp2
    go_ret
    exact ⟨ret_int H.out.symm, rfl⟩

theorem quo_low {a b : Int} (hb : 1 ≤ b) : divS a b = a.tdiv b - lowS (a.tmod b) := by
  by_cases h : a.tmod b < 0
  · rw [divS_neg hb h, lowS, if_pos h]
  · rw [divS_pos hb (by omega), lowS, if_neg h, Int.sub_zero]

namespace cellDivs
open Go.ChangeShapes Go.WideShapes Go.ChangeAt
theorem walk (a b : Int) (fa : Fit a) (fb : Fit b) (w : World) :
    Calls Try.prog 3 #[.int .i64 a, .int .i64 b] w fun e w' => e = .returned (.bool true) ∧ ∃ f, w' = ext w f := by
  by_cases h1 : b < 1
  · have h2 := divS_low (a := a) h1
    have h3 := modS_low (a := a) h1
    go_enter Try.func3, Try.ntmps3
    go_wp2_with (first | (go_at_call 11; refine (div_any _ _ _ fa fb).mono ?_; rintro e w1 ⟨rfl, rfl⟩) | (go_at_call 12; refine (mod_any _ _ _ fa fb).mono ?_; rintro e w1 ⟨rfl, rfl⟩) | (go_at_call 13; refine (lives_any _).mono ?_; rintro e w1 ⟨rfl, t1, rfl⟩))
    go_ret
    exact ⟨rfl, ext_of (by (repeat' first | (with_reducible exact Below.refl _ _) | (with_reducible assumption) | (with_reducible refine below_ext ?_ ?_ _) | (with_reducible refine Below.alloc ?_ ?_ _) | (with_reducible refine Below.drew ?_) | (with_reducible refine Below.setCell ?_ ?_ _) | (simp only [World.size_alloc, World.size_setCell, World.size_drew]; omega) | (refine Nat.le_trans ?_ (ext_size _ _)) | (simp; done) | omega))⟩
  · have hb : 1 ≤ b := by omega
    have h2 : ¬ b = 0 := by omega
    have f1 := fa.1
    have f2 := fa.2
    have f3 := fb.2
    have fd := (Fit.divS (b := b) fa)
    have d1 := fd.1
    have d2 := fd.2
    obtain ⟨m1, m2⟩ := modS_bd (a := a) hb
    have hq := Lib.hid (quo_low (a := a) hb)
    have l1 : a.tdiv b - lowS (a.tmod b) = divS a b := hq.out.symm
    have e1 : a - modS a b = divS a b * b := by have := divS_modS (a := a) hb; rw [Int.mul_comm b] at this; omega
    clear fd
    go_enter Try.func3, Try.ntmps3
    go_wp2_with (first | (go_at_call 11; refine (div_any _ _ _ fa fb).mono ?_; rintro e w1 ⟨rfl, rfl⟩) | (go_at_call 12; refine (mod_any _ _ _ fa fb).mono ?_; rintro e w1 ⟨rfl, rfl⟩))
    refine wp_region_ext (by kernel_rfl) (by kernel_rfl) ?_
    repeat (go_big_quiet_step (first | (go_at_call 14; exact ext_same (low_any _ _)) | (go_at_call 15; exact ext_same (refmod_any _ _ _ fa fb)) | (go_at_call 13; exact ext_call (lives_any _))))
    refine wpQuiet_nil ?_
    rintro _ ⟨t, rfl⟩
    go_wp2
    go_ret
    exact ⟨rfl, ext_of (by (repeat' first | (with_reducible exact Below.refl _ _) | (with_reducible assumption) | (with_reducible refine below_ext ?_ ?_ _) | (with_reducible refine Below.alloc ?_ ?_ _) | (with_reducible refine Below.drew ?_) | (with_reducible refine Below.setCell ?_ ?_ _) | (simp only [World.size_alloc, World.size_setCell, World.size_drew]; omega) | (refine Nat.le_trans ?_ (ext_size _ _)) | (simp; done) | omega))⟩
set_option maxRecDepth 100000 in
theorem lifted (os : Os) (started : os.Started) (H : Type) (enc : TypeId × Value → H) :
    ReturnsInHanded {} Try.checked os 3 .any (Rows.cellDivsSpec.pre6 enc Try.prog Try.f3 Rows.cellDivsRow.domain false) (Rows.cellDivsSpec.post enc Try.prog Try.f3 false true false false) := by
  refine returnsInHanded_of_change (C := Try.checked) own started (by kernel_rfl) Try.func3
    (ChangeSpec.witness6 (enc := enc) (C := Try.checked) false ⟨#[], #[.int .i64 0, .int .i64 0], []⟩ 8 (by kernel_rfl) (by kernel_rfl) (by kernel_rfl) (by kernel_rfl)) ?_
  intro W base args ds gs before hval0 hW hcnd hsz
  have hval : ∀ (j : Nat) t v, Try.f3.params[j]? = some t → args[j]? = some v → Value.okWide Try.prog W .any base t v := hval0
  have hW' := hW
  obtain ⟨p, q, hA0, hV, rfl, hfz, hnd⟩ := hW
  have hA : DataW.TrodAll enc Try.prog W 0 (fun _ => true) true Try.f3.params.toList args.toList ds p := hA0
  rw [Try.params3] at hA hval
  obtain ⟨v0, vs0, d0, ds0, p0, q0, hargs, rfl, rfl, h0, r0⟩ := trodAll_cons hA
  obtain ⟨v1, vs1, d1, ds1, p1, q1, rfl, rfl, rfl, h1, r1⟩ := trodAll_cons r0
  obtain ⟨rfl, rfl, rfl⟩ := trodAll_nil r1
  obtain rfl : args = #[v0, v1] := by cases args; simp_all
  obtain ⟨rfl, rfl⟩ := trodVars_none hV
  obtain ⟨a0, rfl, fa0⟩ := open_one Try.underlying3 (hval 0 3 v0 rfl rfl) h0
  obtain ⟨a1, rfl, fa1⟩ := open_one Try.underlying3 (hval 1 3 v1 rfl rfl) h1
  simp only [List.append_nil] at hW'
  refine (walk a0 a1 fa0 fa1 W).mono fun e W' ⟨he, g, hg⟩ => ?_
  subst he
  subst hg
  exact ⟨_, rfl, law_post laidOut rfl rfl (by kernel_rfl) Try.underlying4 (by rw [Try.params3]; decide +kernel) hW' (ext_below _ _)⟩

theorem over : Rows.cellDivsRow.holds Try.pinned (OpenSpec.ofChange Rows.cellDivsSpec) :=
  OpenClaim.holds_of_wide 3 Try.f3 rfl rfl rfl rfl rfl rfl rfl ⟨rfl, rfl, rfl, rfl, rfl⟩ rfl rfl rfl rfl rfl (by kernel_rfl) Try.func3 (by kernel_rfl)
    (of_decide_eq_true (by kernel_rfl)) (by unfold Func.isWrapper; first | (rw [if_pos (by decide +kernel)]; kernel_rfl) | (rw [if_neg (by decide +kernel)]; exact ⟨rfl, rfl⟩))
    (fun os started H enc _ => lifted os started H enc)

theorem proved : Rows.CellDivsSaid := over
#print axioms proved
end cellDivs
end Go.Proofs.Ytdlapfpjbcjaeaa
