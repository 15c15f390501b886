/- A cell's chunk and index are the document's, and tell the cell again; each index is told one cell: whatever cell, chunk and index come in, CellIndices hands back true; no conditions. -/
import Derived.Test.YtdlapfpjbcjaeaaFrom
import Derived.Test.YtdlapfpjbcjaeaaFree
import Derived.Test.YtdlapfpjbcjaeaaLaw
namespace Go.Proofs.Ytdlapfpjbcjaeaa
open Go.RowKit
attribute [local go_sem] ext_ext drew_ext ext_drew ext_cell ext_frozen in_lt in_le in_ne in_en in_ne1 in_en1 in_le1 size_le ite_max ite_min
set_option linter.unusedVariables false
set_option linter.unusedSimpArgs false
attribute [local go_sem] calm calmUpon

namespace cellIndices
open Go.ChangeShapes Go.WideShapes Go.ChangeAt

theorem walk_in_in (x y z p q i : Int) (fp : Fit p) (fq : Fit q) (y1 : 0 ≤ cutS y) (y2 : cutS y ≤ 31) (i1 : 0 ≤ i) (i2 : i ≤ 8191) (w : World) :
    Calls Try.prog 4 #[.agg #[.int .i64 x, .int .i64 y, .int .i64 z], .agg #[.int .i64 p, .int .i64 q], .int .i64 i] w fun e w' => e = .returned (.bool true) ∧ ∃ f, w' = ext w f := by
  have fx := cutS_fit x
  have fz := cutS_fit z
  obtain ⟨k1, k2⟩ := idxS_bd (x := cutS x) (z := cutS z) y1 y2
  have bx := cutS_bd x
  have bz := cutS_bd z
  have dx : -134217728 ≤ divS (cutS x) 16 ∧ divS (cutS x) 16 ≤ 134217728 := by rw [divS16]; omega
  have dz : -134217728 ≤ divS (cutS z) 16 ∧ divS (cutS z) 16 ≤ 134217728 := by rw [divS16]; omega
  have e1 := atX_idx (x := cutS x) (y := cutS y) (z := cutS z)
  have e2 := atY_idx (x := cutS x) (y := cutS y) (z := cutS z)
  have e3 := atZ_idx (x := cutS x) (y := cutS y) (z := cutS z)
  obtain ⟨p1, p2⟩ := arS_bd (n := p) (m := 268435457) (by omega)
  obtain ⟨q1, q2⟩ := arS_bd (n := q) (m := 268435457) (by omega)
  have u1 := at_idx (p := arS p 268435457 - 134217728) (q := arS q 268435457 - 134217728) (i := i)
  have u2 := divX (p := arS p 268435457 - 134217728) (i := i)
  have u3 := divZ (p := arS q 268435457 - 134217728) (i := i)
  obtain ⟨v1, v2⟩ := atY_bd i1 i2
  have fX := atX_fit (p := arS p 268435457 - 134217728) (i := i) (by omega) (by omega)
  have fZ := atZ_fit (p := arS q 268435457 - 134217728) (i := i) (by omega) (by omega)
  go_enter Try.func4, Try.ntmps4
  go_wp2_with (first | (go_at_call 16; refine (refcut_any _ _ _ _).mono ?_; rintro e w1 ⟨rfl, t1, rfl⟩) | (go_at_call 17; refine (chunk_any _ _ _ _ fx fz).mono ?_; rintro e w1 ⟨rfl, t1, rfl⟩) | (go_at_call 18; refine (index_in _ _ _ _ fx fz y1 y2).mono ?_; rintro e w1 ⟨rfl, t1, rfl⟩) | (go_at_call 19; refine (refindex_in _ _ _ _ fx fz y1 y2).mono ?_; rintro e w1 ⟨rfl, t1, rfl⟩))
  first | (with_reducible refine wp_region_ext_on ?_ ?_ ?_) | refine wp_region_ext ?_ ?_ ?_
  · kernel_rfl
  · kernel_rfl
  repeat (go_big_quiet_step (first | (go_at_call 20; exact ext_call (refchunk_any _ _ _ _ fx fz))))
  refine wpQuiet_nil ?_
  rintro _ ⟨t, rfl⟩
  go_wp2_with fail
  refine (from_in _ _ _ _ k1 k2 dx.1 dx.2 dz.1 dz.2).mono ?_
  rintro e w1 ⟨rfl, t1, rfl⟩
  go_wp2_with fail
  refine wp_region_free_last 9 15 29 #[.int .i64 0, .int .i64 0] (by kernel_rfl) (by kernel_rfl) rfl rfl rfl rfl (by intro a W; go_simp) ?_
  simp only [List.take_succ_cons, List.take_zero, List.drop_succ_cons, List.drop_zero]
  repeat (refine wpCalm_step (fun K hK => ?_); go_simp; first | (refine hK _ ?_; clear hK K) | (apply Exists.intro; refine ⟨fun _ => ?_, hK _ ?_⟩; (first | rfl | (go_at_call 22; exact calm_same (around_any _ _ _ (by assumption) (by omega) (by omega)))); clear hK K))
  refine wpCalm_nil ?_
  intro t t2
  go_wp2_with fail
  refine (from_in _ _ _ _ i1 i2 (by omega) (by omega) (by omega) (by omega)).mono ?_
  rintro e w1 ⟨rfl, t1, rfl⟩
  go_wp2_with fail
  refine (reffrom_in _ _ _ _ i1 i2 (by omega) (by omega) (by omega) (by omega)).mono ?_
  rintro e w1 ⟨rfl, t1, rfl⟩
  go_wp2_with (first | (go_at_call 18; refine (index_in _ _ _ _ fX fZ v1 v2).mono ?_; rintro e w1 ⟨rfl, t1, rfl⟩))
  first | (with_reducible refine wp_region_ext_on ?_ ?_ ?_) | refine wp_region_ext ?_ ?_ ?_
  · kernel_rfl
  · kernel_rfl
  repeat (go_big_quiet_step (first | (go_at_call 17; exact ext_call (chunk_any _ _ _ _ fX fZ)) | (go_at_call 13; exact ext_call (lives_any _))))
  refine wpQuiet_nil ?_
  rintro _ ⟨t, rfl⟩
  go_wp2
  go_ret
  exact ⟨rfl, grown_of⟩
theorem walk_in_out (x y z p q i : Int) (fp : Fit p) (fq : Fit q) (y1 : 0 ≤ cutS y) (y2 : cutS y ≤ 31) (hi : i < 0 ∨ 8191 < i) (w : World) :
    Calls Try.prog 4 #[.agg #[.int .i64 x, .int .i64 y, .int .i64 z], .agg #[.int .i64 p, .int .i64 q], .int .i64 i] w fun e w' => e = .returned (.bool true) ∧ ∃ f, w' = ext w f := by
  have fx := cutS_fit x
  have fz := cutS_fit z
  obtain ⟨k1, k2⟩ := idxS_bd (x := cutS x) (z := cutS z) y1 y2
  have bx := cutS_bd x
  have bz := cutS_bd z
  have dx : -134217728 ≤ divS (cutS x) 16 ∧ divS (cutS x) 16 ≤ 134217728 := by rw [divS16]; omega
  have dz : -134217728 ≤ divS (cutS z) 16 ∧ divS (cutS z) 16 ≤ 134217728 := by rw [divS16]; omega
  have e1 := atX_idx (x := cutS x) (y := cutS y) (z := cutS z)
  have e2 := atY_idx (x := cutS x) (y := cutS y) (z := cutS z)
  have e3 := atZ_idx (x := cutS x) (y := cutS y) (z := cutS z)
  obtain ⟨p1, p2⟩ := arS_bd (n := p) (m := 268435457) (by omega)
  obtain ⟨q1, q2⟩ := arS_bd (n := q) (m := 268435457) (by omega)
  rcases hi with hi | hi
  · go_enter Try.func4, Try.ntmps4
    go_wp2_with (first | (go_at_call 16; refine (refcut_any _ _ _ _).mono ?_; rintro e w1 ⟨rfl, t1, rfl⟩) | (go_at_call 17; refine (chunk_any _ _ _ _ fx fz).mono ?_; rintro e w1 ⟨rfl, t1, rfl⟩) | (go_at_call 18; refine (index_in _ _ _ _ fx fz y1 y2).mono ?_; rintro e w1 ⟨rfl, t1, rfl⟩) | (go_at_call 19; refine (refindex_in _ _ _ _ fx fz y1 y2).mono ?_; rintro e w1 ⟨rfl, t1, rfl⟩))
    first | (with_reducible refine wp_region_ext_on ?_ ?_ ?_) | refine wp_region_ext ?_ ?_ ?_
    · kernel_rfl
    · kernel_rfl
    repeat (go_big_quiet_step (first | (go_at_call 20; exact ext_call (refchunk_any _ _ _ _ fx fz))))
    refine wpQuiet_nil ?_
    rintro _ ⟨t, rfl⟩
    go_wp2_with fail
    refine (from_in _ _ _ _ k1 k2 dx.1 dx.2 dz.1 dz.2).mono ?_
    rintro e w1 ⟨rfl, t1, rfl⟩
    go_wp2_with fail
    refine wp_region_free_last 9 15 29 #[.int .i64 0, .int .i64 0] (by kernel_rfl) (by kernel_rfl) rfl rfl rfl rfl (by intro a W; go_simp) ?_
    simp only [List.take_succ_cons, List.take_zero, List.drop_succ_cons, List.drop_zero]
    repeat (refine wpCalm_step (fun K hK => ?_); go_simp; first | (refine hK _ ?_; clear hK K) | (apply Exists.intro; refine ⟨fun _ => ?_, hK _ ?_⟩; (first | rfl | (go_at_call 22; exact calm_same (around_any _ _ _ (by assumption) (by omega) (by omega)))); clear hK K))
    refine wpCalm_nil ?_
    intro t t2
    go_wp2_with fail
    refine (from_out _ _ _ _ (.inl hi)).mono ?_
    rintro e w1 ⟨rfl, t1, rfl⟩
    go_wp2_with fail
    refine (reffrom_out _ _ _ _ (.inl hi)).mono ?_
    rintro e w1 ⟨rfl, t1, rfl⟩
    go_wp2_with (first | (go_at_call 18; refine (index_in _ _ _ _ fit0 fit0 (by omega) (by omega)).mono ?_; rintro e w1 ⟨rfl, t1, rfl⟩))
    first | (with_reducible refine wp_region_ext_on ?_ ?_ ?_) | refine wp_region_ext ?_ ?_ ?_
    · kernel_rfl
    · kernel_rfl
    repeat (go_big_quiet_step (first | (go_at_call 13; exact ext_call (lives_any _))))
    refine wpQuiet_nil ?_
    rintro _ ⟨t, rfl⟩
    go_wp2
    go_ret
    exact ⟨rfl, grown_of⟩
  · have hi0 : ¬ i < 0 := by omega
    have hi1 : ¬ i ≤ 8191 := by omega
    go_enter Try.func4, Try.ntmps4
    go_wp2_with (first | (go_at_call 16; refine (refcut_any _ _ _ _).mono ?_; rintro e w1 ⟨rfl, t1, rfl⟩) | (go_at_call 17; refine (chunk_any _ _ _ _ fx fz).mono ?_; rintro e w1 ⟨rfl, t1, rfl⟩) | (go_at_call 18; refine (index_in _ _ _ _ fx fz y1 y2).mono ?_; rintro e w1 ⟨rfl, t1, rfl⟩) | (go_at_call 19; refine (refindex_in _ _ _ _ fx fz y1 y2).mono ?_; rintro e w1 ⟨rfl, t1, rfl⟩))
    first | (with_reducible refine wp_region_ext_on ?_ ?_ ?_) | refine wp_region_ext ?_ ?_ ?_
    · kernel_rfl
    · kernel_rfl
    repeat (go_big_quiet_step (first | (go_at_call 20; exact ext_call (refchunk_any _ _ _ _ fx fz))))
    refine wpQuiet_nil ?_
    rintro _ ⟨t, rfl⟩
    go_wp2_with fail
    refine (from_in _ _ _ _ k1 k2 dx.1 dx.2 dz.1 dz.2).mono ?_
    rintro e w1 ⟨rfl, t1, rfl⟩
    go_wp2_with fail
    refine wp_region_free_last 9 15 29 #[.int .i64 0, .int .i64 0] (by kernel_rfl) (by kernel_rfl) rfl rfl rfl rfl (by intro a W; go_simp) ?_
    simp only [List.take_succ_cons, List.take_zero, List.drop_succ_cons, List.drop_zero]
    repeat (refine wpCalm_step (fun K hK => ?_); go_simp; first | (refine hK _ ?_; clear hK K) | (apply Exists.intro; refine ⟨fun _ => ?_, hK _ ?_⟩; (first | rfl | (go_at_call 22; exact calm_same (around_any _ _ _ (by assumption) (by omega) (by omega)))); clear hK K))
    refine wpCalm_nil ?_
    intro t t2
    go_wp2_with fail
    refine (from_out _ _ _ _ (.inr hi)).mono ?_
    rintro e w1 ⟨rfl, t1, rfl⟩
    go_wp2_with fail
    refine (reffrom_out _ _ _ _ (.inr hi)).mono ?_
    rintro e w1 ⟨rfl, t1, rfl⟩
    go_wp2_with (first | (go_at_call 18; refine (index_in _ _ _ _ fit0 fit0 (by omega) (by omega)).mono ?_; rintro e w1 ⟨rfl, t1, rfl⟩))
    first | (with_reducible refine wp_region_ext_on ?_ ?_ ?_) | refine wp_region_ext ?_ ?_ ?_
    · kernel_rfl
    · kernel_rfl
    repeat (go_big_quiet_step (first | (go_at_call 13; exact ext_call (lives_any _))))
    refine wpQuiet_nil ?_
    rintro _ ⟨t, rfl⟩
    go_wp2
    go_ret
    exact ⟨rfl, grown_of⟩
theorem walk_out_in (x y z p q i : Int) (fp : Fit p) (fq : Fit q) (hy : cutS y < 0 ∨ 31 < cutS y) (i1 : 0 ≤ i) (i2 : i ≤ 8191) (w : World) :
    Calls Try.prog 4 #[.agg #[.int .i64 x, .int .i64 y, .int .i64 z], .agg #[.int .i64 p, .int .i64 q], .int .i64 i] w fun e w' => e = .returned (.bool true) ∧ ∃ f, w' = ext w f := by
  have fx := cutS_fit x
  have fz := cutS_fit z
  have bx := cutS_bd x
  have bz := cutS_bd z
  have dx : -134217728 ≤ divS (cutS x) 16 ∧ divS (cutS x) 16 ≤ 134217728 := by rw [divS16]; omega
  have dz : -134217728 ≤ divS (cutS z) 16 ∧ divS (cutS z) 16 ≤ 134217728 := by rw [divS16]; omega
  obtain ⟨p1, p2⟩ := arS_bd (n := p) (m := 268435457) (by omega)
  obtain ⟨q1, q2⟩ := arS_bd (n := q) (m := 268435457) (by omega)
  have u1 := at_idx (p := arS p 268435457 - 134217728) (q := arS q 268435457 - 134217728) (i := i)
  have u2 := divX (p := arS p 268435457 - 134217728) (i := i)
  have u3 := divZ (p := arS q 268435457 - 134217728) (i := i)
  obtain ⟨v1, v2⟩ := atY_bd i1 i2
  have fX := atX_fit (p := arS p 268435457 - 134217728) (i := i) (by omega) (by omega)
  have fZ := atZ_fit (p := arS q 268435457 - 134217728) (i := i) (by omega) (by omega)
  go_enter Try.func4, Try.ntmps4
  go_wp2_with (first | (go_at_call 16; refine (refcut_any _ _ _ _).mono ?_; rintro e w1 ⟨rfl, t1, rfl⟩) | (go_at_call 17; refine (chunk_any _ _ _ _ fx fz).mono ?_; rintro e w1 ⟨rfl, t1, rfl⟩) | (go_at_call 18; refine (index_out _ _ _ _ hy).mono ?_; rintro e w1 ⟨rfl, t1, rfl⟩) | (go_at_call 19; refine (refindex_out _ _ _ _ hy).mono ?_; rintro e w1 ⟨rfl, t1, rfl⟩))
  first | (with_reducible refine wp_region_ext_on ?_ ?_ ?_) | refine wp_region_ext ?_ ?_ ?_
  · kernel_rfl
  · kernel_rfl
  repeat (go_big_quiet_step (first | (go_at_call 20; exact ext_call (refchunk_any _ _ _ _ fx fz))))
  refine wpQuiet_nil ?_
  rintro _ ⟨t, rfl⟩
  go_wp2_with fail
  refine (from_in _ _ _ _ (by omega) (by omega) dx.1 dx.2 dz.1 dz.2).mono ?_
  rintro e w1 ⟨rfl, t1, rfl⟩
  go_wp2_with fail
  refine wp_region_free_last 9 15 29 #[.int .i64 0, .int .i64 0] (by kernel_rfl) (by kernel_rfl) rfl rfl rfl rfl (by intro a W; go_simp) ?_
  simp only [List.take_succ_cons, List.take_zero, List.drop_succ_cons, List.drop_zero]
  repeat (refine wpCalm_step (fun K hK => ?_); go_simp; first | (refine hK _ ?_; clear hK K) | (apply Exists.intro; refine ⟨fun _ => ?_, hK _ ?_⟩; (first | rfl | (go_at_call 22; exact calm_same (around_any _ _ _ (by assumption) (by omega) (by omega)))); clear hK K))
  refine wpCalm_nil ?_
  intro t t2
  go_wp2_with fail
  refine (from_in _ _ _ _ i1 i2 (by omega) (by omega) (by omega) (by omega)).mono ?_
  rintro e w1 ⟨rfl, t1, rfl⟩
  go_wp2_with fail
  refine (reffrom_in _ _ _ _ i1 i2 (by omega) (by omega) (by omega) (by omega)).mono ?_
  rintro e w1 ⟨rfl, t1, rfl⟩
  go_wp2_with (first | (go_at_call 18; refine (index_in _ _ _ _ fX fZ v1 v2).mono ?_; rintro e w1 ⟨rfl, t1, rfl⟩))
  first | (with_reducible refine wp_region_ext_on ?_ ?_ ?_) | refine wp_region_ext ?_ ?_ ?_
  · kernel_rfl
  · kernel_rfl
  repeat (go_big_quiet_step (first | (go_at_call 17; exact ext_call (chunk_any _ _ _ _ fX fZ)) | (go_at_call 13; exact ext_call (lives_any _))))
  refine wpQuiet_nil ?_
  rintro _ ⟨t, rfl⟩
  go_wp2
  go_ret
  exact ⟨rfl, grown_of⟩
theorem walk_out_out (x y z p q i : Int) (fp : Fit p) (fq : Fit q) (hy : cutS y < 0 ∨ 31 < cutS y) (hi : i < 0 ∨ 8191 < i) (w : World) :
    Calls Try.prog 4 #[.agg #[.int .i64 x, .int .i64 y, .int .i64 z], .agg #[.int .i64 p, .int .i64 q], .int .i64 i] w fun e w' => e = .returned (.bool true) ∧ ∃ f, w' = ext w f := by
  have fx := cutS_fit x
  have fz := cutS_fit z
  have bx := cutS_bd x
  have bz := cutS_bd z
  have dx : -134217728 ≤ divS (cutS x) 16 ∧ divS (cutS x) 16 ≤ 134217728 := by rw [divS16]; omega
  have dz : -134217728 ≤ divS (cutS z) 16 ∧ divS (cutS z) 16 ≤ 134217728 := by rw [divS16]; omega
  obtain ⟨p1, p2⟩ := arS_bd (n := p) (m := 268435457) (by omega)
  obtain ⟨q1, q2⟩ := arS_bd (n := q) (m := 268435457) (by omega)
  rcases hi with hi | hi
  · go_enter Try.func4, Try.ntmps4
    go_wp2_with (first | (go_at_call 16; refine (refcut_any _ _ _ _).mono ?_; rintro e w1 ⟨rfl, t1, rfl⟩) | (go_at_call 17; refine (chunk_any _ _ _ _ fx fz).mono ?_; rintro e w1 ⟨rfl, t1, rfl⟩) | (go_at_call 18; refine (index_out _ _ _ _ hy).mono ?_; rintro e w1 ⟨rfl, t1, rfl⟩) | (go_at_call 19; refine (refindex_out _ _ _ _ hy).mono ?_; rintro e w1 ⟨rfl, t1, rfl⟩))
    first | (with_reducible refine wp_region_ext_on ?_ ?_ ?_) | refine wp_region_ext ?_ ?_ ?_
    · kernel_rfl
    · kernel_rfl
    repeat (go_big_quiet_step (first | (go_at_call 20; exact ext_call (refchunk_any _ _ _ _ fx fz))))
    refine wpQuiet_nil ?_
    rintro _ ⟨t, rfl⟩
    go_wp2_with fail
    refine (from_in _ _ _ _ (by omega) (by omega) dx.1 dx.2 dz.1 dz.2).mono ?_
    rintro e w1 ⟨rfl, t1, rfl⟩
    go_wp2_with fail
    refine wp_region_free_last 9 15 29 #[.int .i64 0, .int .i64 0] (by kernel_rfl) (by kernel_rfl) rfl rfl rfl rfl (by intro a W; go_simp) ?_
    simp only [List.take_succ_cons, List.take_zero, List.drop_succ_cons, List.drop_zero]
    repeat (refine wpCalm_step (fun K hK => ?_); go_simp; first | (refine hK _ ?_; clear hK K) | (apply Exists.intro; refine ⟨fun _ => ?_, hK _ ?_⟩; (first | rfl | (go_at_call 22; exact calm_same (around_any _ _ _ (by assumption) (by omega) (by omega)))); clear hK K))
    refine wpCalm_nil ?_
    intro t t2
    go_wp2_with fail
    refine (from_out _ _ _ _ (.inl hi)).mono ?_
    rintro e w1 ⟨rfl, t1, rfl⟩
    go_wp2_with fail
    refine (reffrom_out _ _ _ _ (.inl hi)).mono ?_
    rintro e w1 ⟨rfl, t1, rfl⟩
    go_wp2_with (first | (go_at_call 18; refine (index_in _ _ _ _ fit0 fit0 (by omega) (by omega)).mono ?_; rintro e w1 ⟨rfl, t1, rfl⟩))
    first | (with_reducible refine wp_region_ext_on ?_ ?_ ?_) | refine wp_region_ext ?_ ?_ ?_
    · kernel_rfl
    · kernel_rfl
    repeat (go_big_quiet_step (first | (go_at_call 13; exact ext_call (lives_any _))))
    refine wpQuiet_nil ?_
    rintro _ ⟨t, rfl⟩
    go_wp2
    go_ret
    exact ⟨rfl, grown_of⟩
  · have hi0 : ¬ i < 0 := by omega
    have hi1 : ¬ i ≤ 8191 := by omega
    go_enter Try.func4, Try.ntmps4
    go_wp2_with (first | (go_at_call 16; refine (refcut_any _ _ _ _).mono ?_; rintro e w1 ⟨rfl, t1, rfl⟩) | (go_at_call 17; refine (chunk_any _ _ _ _ fx fz).mono ?_; rintro e w1 ⟨rfl, t1, rfl⟩) | (go_at_call 18; refine (index_out _ _ _ _ hy).mono ?_; rintro e w1 ⟨rfl, t1, rfl⟩) | (go_at_call 19; refine (refindex_out _ _ _ _ hy).mono ?_; rintro e w1 ⟨rfl, t1, rfl⟩))
    first | (with_reducible refine wp_region_ext_on ?_ ?_ ?_) | refine wp_region_ext ?_ ?_ ?_
    · kernel_rfl
    · kernel_rfl
    repeat (go_big_quiet_step (first | (go_at_call 20; exact ext_call (refchunk_any _ _ _ _ fx fz))))
    refine wpQuiet_nil ?_
    rintro _ ⟨t, rfl⟩
    go_wp2_with fail
    refine (from_in _ _ _ _ (by omega) (by omega) dx.1 dx.2 dz.1 dz.2).mono ?_
    rintro e w1 ⟨rfl, t1, rfl⟩
    go_wp2_with fail
    refine wp_region_free_last 9 15 29 #[.int .i64 0, .int .i64 0] (by kernel_rfl) (by kernel_rfl) rfl rfl rfl rfl (by intro a W; go_simp) ?_
    simp only [List.take_succ_cons, List.take_zero, List.drop_succ_cons, List.drop_zero]
    repeat (refine wpCalm_step (fun K hK => ?_); go_simp; first | (refine hK _ ?_; clear hK K) | (apply Exists.intro; refine ⟨fun _ => ?_, hK _ ?_⟩; (first | rfl | (go_at_call 22; exact calm_same (around_any _ _ _ (by assumption) (by omega) (by omega)))); clear hK K))
    refine wpCalm_nil ?_
    intro t t2
    go_wp2_with fail
    refine (from_out _ _ _ _ (.inr hi)).mono ?_
    rintro e w1 ⟨rfl, t1, rfl⟩
    go_wp2_with fail
    refine (reffrom_out _ _ _ _ (.inr hi)).mono ?_
    rintro e w1 ⟨rfl, t1, rfl⟩
    go_wp2_with (first | (go_at_call 18; refine (index_in _ _ _ _ fit0 fit0 (by omega) (by omega)).mono ?_; rintro e w1 ⟨rfl, t1, rfl⟩))
    first | (with_reducible refine wp_region_ext_on ?_ ?_ ?_) | refine wp_region_ext ?_ ?_ ?_
    · kernel_rfl
    · kernel_rfl
    repeat (go_big_quiet_step (first | (go_at_call 13; exact ext_call (lives_any _))))
    refine wpQuiet_nil ?_
    rintro _ ⟨t, rfl⟩
    go_wp2
    go_ret
    exact ⟨rfl, grown_of⟩
theorem walk (x y z p q i : Int) (_fx : Fit x) (_fy : Fit y) (_fz : Fit z) (fp : Fit p) (fq : Fit q) (_fi : Fit i) (w : World) :
    Calls Try.prog 4 #[.agg #[.int .i64 x, .int .i64 y, .int .i64 z], .agg #[.int .i64 p, .int .i64 q], .int .i64 i] w fun e w' => e = .returned (.bool true) ∧ ∃ f, w' = ext w f := by
  by_cases hy : 0 ≤ cutS y ∧ cutS y ≤ 31
  · by_cases hi : 0 ≤ i ∧ i ≤ 8191
    · exact walk_in_in x y z p q i fp fq hy.1 hy.2 hi.1 hi.2 w
    · exact walk_in_out x y z p q i fp fq hy.1 hy.2 (by omega) w
  · by_cases hi : 0 ≤ i ∧ i ≤ 8191
    · exact walk_out_in x y z p q i fp fq (by omega) hi.1 hi.2 w
    · exact walk_out_out x y z p q i fp fq (by omega) (by omega) w
set_option maxRecDepth 100000 in
theorem lifted (os : Os) (started : os.Started) (H : Type) (enc : TypeId × Value → H) :
    ReturnsInHanded {} Try.checked os 4 .any (Rows.cellIndicesSpec.pre6 enc Try.prog Try.f4 Rows.cellIndicesRow.domain false) (Rows.cellIndicesSpec.post enc Try.prog Try.f4 false true false false) := by
  refine returnsInHanded_of_change (C := Try.checked) own started (by kernel_rfl) Try.func4
    (ChangeSpec.witness6 (enc := enc) (C := Try.checked) false ⟨#[], #[.agg #[.int .i64 0, .int .i64 0, .int .i64 0], .agg #[.int .i64 0, .int .i64 0], .int .i64 0], []⟩ 8 (by kernel_rfl) (by kernel_rfl) (by kernel_rfl) (by kernel_rfl)) ?_
  intro W base args ds gs before hval0 hW hcnd hsz
  have hval : ∀ (j : Nat) t v, Try.f4.params[j]? = some t → args[j]? = some v → Value.okWide Try.prog W .any base t v := hval0
  have hW' := hW
  obtain ⟨p, q, hA0, hV, rfl, hfz, hnd⟩ := hW
  have hA : DataW.TrodAll enc Try.prog W 0 (fun _ => true) true Try.f4.params.toList args.toList ds p := hA0
  rw [Try.params4] at hA hval
  obtain ⟨v0, vs0, d0, ds0, p0, q0, hargs, rfl, rfl, h0, r0⟩ := trodAll_cons hA
  obtain ⟨v1, vs1, d1, ds1, p1, q1, rfl, rfl, rfl, h1, r1⟩ := trodAll_cons r0
  obtain ⟨v2, vs2, d2, ds2, p2, q2, rfl, rfl, rfl, h2, r2⟩ := trodAll_cons r1
  obtain ⟨rfl, rfl, rfl⟩ := trodAll_nil r2
  obtain rfl : args = #[v0, v1, v2] := by cases args; simp_all
  obtain ⟨rfl, rfl⟩ := trodVars_none hV
  obtain ⟨a0, b0, c0, rfl, fa0, fb0, fc0⟩ := open_three Try.underlying3 Try.underlying27 (by kernel_rfl) (by kernel_rfl) rfl rfl rfl (hval 0 27 v0 rfl rfl) h0
  obtain ⟨a1, b1, rfl, fa1, fb1⟩ := open_two Try.underlying3 Try.underlying29 (by kernel_rfl) (by kernel_rfl) rfl rfl (hval 1 29 v1 rfl rfl) h1
  obtain ⟨a2, rfl, fa2⟩ := open_one Try.underlying3 (hval 2 3 v2 rfl rfl) h2
  simp only [List.append_nil] at hW'
  refine (walk a0 b0 c0 a1 b1 a2 fa0 fb0 fc0 fa1 fb1 fa2 W).mono fun e W' ⟨he, g, hg⟩ => ?_
  subst he
  subst hg
  exact ⟨_, rfl, law_post laidOut rfl rfl (by kernel_rfl) Try.underlying4 (by rw [Try.params4]; decide +kernel) hW' (ext_below _ _)⟩

theorem over : Rows.cellIndicesRow.holds Try.pinned (OpenSpec.ofChange Rows.cellIndicesSpec) :=
  OpenClaim.holds_of_wide 4 Try.f4 rfl rfl rfl rfl rfl rfl rfl ⟨rfl, rfl, rfl, rfl, rfl⟩ rfl rfl rfl rfl rfl (by kernel_rfl) Try.func4 (by kernel_rfl)
    (of_decide_eq_true (by kernel_rfl)) (by unfold Func.isWrapper; first | (rw [if_pos (by decide +kernel)]; kernel_rfl) | (rw [if_neg (by decide +kernel)]; exact ⟨rfl, rfl⟩))
    (fun os started H enc _ => lifted os started H enc)

theorem proved : Rows.CellIndicesSaid := over
#print axioms proved
end cellIndices
end Go.Proofs.Ytdlapfpjbcjaeaa
