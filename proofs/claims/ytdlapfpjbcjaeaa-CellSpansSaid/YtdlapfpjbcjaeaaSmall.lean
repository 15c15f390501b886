/-
  A box made one that may be; a box made small, near 0.
-/
import Derived.Test.YtdlapfpjbcjaeaaRefSpan
import Derived.Test.YtdlapfpjbcjaeaaGood
import Derived.Handy
namespace Go.Proofs.Ytdlapfpjbcjaeaa
open Go.RowKit
attribute [local go_sem] ext_ext drew_ext ext_drew ext_cell ext_frozen in_lt in_le in_ne in_en in_ne1 in_en1 in_le1 in_ltn in_len in_nen in_enn size_le ite_max ite_min
set_option linter.unusedVariables false
set_option linter.unusedSimpArgs false

theorem goodbox_any (a b c d e f : Int) (w : World) :
    Calls Try.prog 38 #[.agg #[.int .i64 a, .int .i64 b, .int .i64 c, .int .i64 d, .int .i64 e, .int .i64 f]] w fun o w' =>
      o = .returned (.agg #[.int .i64 (min (fcS a) (fcS d)), .int .i64 (min (fcS b) (fcS e)), .int .i64 (min (fcS c) (fcS f)), .int .i64 (max (fcS a) (fcS d)), .int .i64 (max (fcS b) (fcS e)), .int .i64 (max (fcS c) (fcS f))]) ∧ ∃ f, w' = ext w f := by
  go_enter Try.func38, Try.ntmps38
  go_wp2_with fail
  refine (refvcut_any _ _ _ _).mono ?_
  rintro e w1 ⟨rfl, _t, hw⟩
  have hc1 := named_cell hw
  have hz1 := named_frozen hw
  have hh1 := named_heap hw
  haveI hi1 := named_in hw
  haveI hb1 := named_below (w := w) hw
  clear hw
  go_wp2_with fail
  refine (refvcut_any _ _ _ _).mono ?_
  rintro e w2 ⟨rfl, _t, hw⟩
  have hc2 := named_cell hw
  have hz2 := named_frozen hw
  have hh2 := named_heap hw
  haveI hi2 := named_in hw
  haveI hb2 := named_below (w := w) hw
  clear hw
  go_wp2_with fail
  refine bodyPost_ret (v := .agg #[.int .i64 (min (fcS a) (fcS d)), .int .i64 (min (fcS b) (fcS e)), .int .i64 (min (fcS c) (fcS f)), .int .i64 (max (fcS a) (fcS d)), .int .i64 (max (fcS b) (fcS e)), .int .i64 (max (fcS c) (fcS f))]) (by simp [results, Try.results38, go_sem, hc1, hc2, Int.min_comm, Int.max_comm]) rfl ?_
  exact ⟨rfl, grown_of⟩

theorem with0_any (a b c n : Int) (w : World) :
    Calls Try.prog 58 #[.agg #[.int .i64 a, .int .i64 b, .int .i64 c], .int .i64 0, .int .i64 n] w fun e w' => e = .returned (.agg #[.int .i64 (fcS n), .int .i64 b, .int .i64 c]) ∧ ∃ f, w' = ext w f := by
  go_enter Try.func58, Try.ntmps58
  go_wp2_with (first | (go_at_call 49; refine (reffcut_any _ _).mono ?_; rintro e w1 ⟨rfl, rfl⟩))
  go_returns
  exact ⟨rfl, grown_of⟩
theorem with1_any (a b c n : Int) (w : World) :
    Calls Try.prog 58 #[.agg #[.int .i64 a, .int .i64 b, .int .i64 c], .int .i64 1, .int .i64 n] w fun e w' => e = .returned (.agg #[.int .i64 a, .int .i64 (fcS n), .int .i64 c]) ∧ ∃ f, w' = ext w f := by
  go_enter Try.func58, Try.ntmps58
  go_wp2_with (first | (go_at_call 49; refine (reffcut_any _ _).mono ?_; rintro e w1 ⟨rfl, rfl⟩))
  go_returns
  exact ⟨rfl, grown_of⟩
theorem with2_any (a b c n : Int) (w : World) :
    Calls Try.prog 58 #[.agg #[.int .i64 a, .int .i64 b, .int .i64 c], .int .i64 2, .int .i64 n] w fun e w' => e = .returned (.agg #[.int .i64 a, .int .i64 b, .int .i64 (fcS n)]) ∧ ∃ f, w' = ext w f := by
  go_enter Try.func58, Try.ntmps58
  go_wp2_with (first | (go_at_call 49; refine (reffcut_any _ _).mono ?_; rintro e w1 ⟨rfl, rfl⟩))
  go_returns
  exact ⟨rfl, grown_of⟩

theorem cell_near {w : World} {b o i : Nat} {v : Value} (h : i ≠ o) : (w.setCell ⟨b, o, none⟩ v).cell? ⟨b, i, none⟩ = w.cell? ⟨b, i, none⟩ := by
  unfold World.setCell World.cell?
  simp only [Array.getElem?_modify, if_true]
  cases hb : w.heap[b]? with
  | none => rfl
  | some x =>
    cases x with
    | cells c elem frozen => simp [Array.getElem?_setIfInBounds_ne (Ne.symm h)]
    | _ => rfl
theorem far3 {w : World} {n b i : Nat} (h : n ≠ b) (o1 o2 o3 : Nat) (v1 v2 v3 : Value) (_u : Unit) : (((w.setCell ⟨b, o1, none⟩ v1).setCell ⟨b, o2, none⟩ v2).setCell ⟨b, o3, none⟩ v3).cell? ⟨n, i, none⟩ = w.cell? ⟨n, i, none⟩ := by
  rw [cell_far h, cell_far h, cell_far h]
theorem set3 {w : World} {b : Nat} (o : Nat) {x0 x1 x2 : Value} (v0 v1 v2 : Value) (h0 : w.cell? ⟨b, o, none⟩ = some x0) (h1 : w.cell? ⟨b, o + 1, none⟩ = some x1) (h2 : w.cell? ⟨b, o + 2, none⟩ = some x2) :
    (((w.setCell ⟨b, o, none⟩ v0).setCell ⟨b, o + 1, none⟩ v1).setCell ⟨b, o + 2, none⟩ v2).cell? ⟨b, o, none⟩ = some v0 ∧
    (((w.setCell ⟨b, o, none⟩ v0).setCell ⟨b, o + 1, none⟩ v1).setCell ⟨b, o + 2, none⟩ v2).cell? ⟨b, o + 1, none⟩ = some v1 ∧
    (((w.setCell ⟨b, o, none⟩ v0).setCell ⟨b, o + 1, none⟩ v1).setCell ⟨b, o + 2, none⟩ v2).cell? ⟨b, o + 2, none⟩ = some v2 ∧
    ∀ i, i ≠ o → i ≠ o + 1 → i ≠ o + 2 → (((w.setCell ⟨b, o, none⟩ v0).setCell ⟨b, o + 1, none⟩ v1).setCell ⟨b, o + 2, none⟩ v2).cell? ⟨b, i, none⟩ = w.cell? ⟨b, i, none⟩ := by
  refine ⟨?_, ?_, ?_, fun i i0 i1 i2 => ?_⟩
  · rw [cell_near (by omega), cell_near (by omega)]
    apply World.cell?_setCell_same
    exact h0
  · rw [cell_near (by omega)]
    apply World.cell?_setCell_same
    rw [cell_near (by omega)]
    exact h1
  · apply World.cell?_setCell_same
    rw [cell_near (by omega), cell_near (by omega)]
    exact h2
  · rw [cell_near i2, cell_near i1, cell_near i0]

/-- Of an axis, the small box's least and greatest number. -/
def smLo (n : Int) : Int := fcS (arS n 524289 - 262144)
def smHi (n m : Int) : Int := fcS (arS n 524289 - 262144 + arS m 196609)
theorem sm_side (n m : Int) : Side (smLo n) (smHi n m) := by
  have h1 := arS_bd (n := n) (m := 524289) (by omega)
  have h2 := arS_bd (n := m) (m := 196609) (by omega)
  unfold smLo smHi Side
  rw [fcS_in (n := arS n 524289 - 262144) (by omega) (by omega), fcS_in (n := arS n 524289 - 262144 + arS m 196609) (by omega) (by omega)]
  exact ⟨fcS_in (by omega) (by omega), fcS_in (by omega) (by omega), by omega⟩

set_option maxRecDepth 100000 in
set_option maxHeartbeats 8000000 in
theorem small_any (a b c d e f : Int) (fa : Fit a) (fb : Fit b) (fc : Fit c) (fd : Fit d) (fe : Fit e) (ff : Fit f) (w : World) :
    Calls Try.prog 41 #[.agg #[.int .i64 a, .int .i64 b, .int .i64 c, .int .i64 d, .int .i64 e, .int .i64 f], .int .i64 4, .int .i64 3] w fun o w' =>
      o = .returned (.agg #[.int .i64 (smLo a), .int .i64 (smLo b), .int .i64 (smLo c), .int .i64 (smHi a d), .int .i64 (smHi b e), .int .i64 (smHi c f)]) ∧ ∃ f, w' = ext w f := by
  obtain ⟨a1, a2⟩ := arS_bd (n := a) (m := 524289) (by omega)
  obtain ⟨b1, b2⟩ := arS_bd (n := b) (m := 524289) (by omega)
  obtain ⟨c1, c2⟩ := arS_bd (n := c) (m := 524289) (by omega)
  obtain ⟨d1, d2⟩ := arS_bd (n := d) (m := 196609) (by omega)
  obtain ⟨e1, e2⟩ := arS_bd (n := e) (m := 196609) (by omega)
  obtain ⟨f1, f2⟩ := arS_bd (n := f) (m := 196609) (by omega)
  go_enter Try.func41, Try.ntmps41
  go_wp2_with fail
  refine wp_loop_rounds 4 ?_
  rw [rounds_succ]
  go_wp2_with fail
  refine (refaxis0_any _ _ _ _).mono ?_
  rintro e w1 ⟨rfl, _t, hw⟩
  have hc1 := named_cell hw
  have hz1 := named_frozen hw
  have hh1 := named_heap hw
  haveI hi1 := named_in hw
  haveI hb1 := named_below (w := w) hw
  clear hw
  have q1_0 : w1.cell? ⟨w.heap.size + 1 + 1, 0, none⟩ = some (.int .i64 (0)) := by go_simp
  have p1_0 : w1.cell? ⟨w.heap.size, 0, none⟩ = some (.int .i64 a) := by go_simp
  have r1_0 : w1.cell? ⟨w.heap.size + 1, 0, none⟩ = some (.int .i64 0) := by go_simp
  have q1_1 : w1.cell? ⟨w.heap.size + 1 + 1, 1, none⟩ = some (.int .i64 (0)) := by go_simp
  have p1_1 : w1.cell? ⟨w.heap.size, 1, none⟩ = some (.int .i64 b) := by go_simp
  have r1_1 : w1.cell? ⟨w.heap.size + 1, 1, none⟩ = some (.int .i64 0) := by go_simp
  have q1_2 : w1.cell? ⟨w.heap.size + 1 + 1, 2, none⟩ = some (.int .i64 (0)) := by go_simp
  have p1_2 : w1.cell? ⟨w.heap.size, 2, none⟩ = some (.int .i64 c) := by go_simp
  have r1_2 : w1.cell? ⟨w.heap.size + 1, 2, none⟩ = some (.int .i64 0) := by go_simp
  have q1_3 : w1.cell? ⟨w.heap.size + 1 + 1, 3, none⟩ = some (.int .i64 (0)) := by go_simp
  have p1_3 : w1.cell? ⟨w.heap.size, 3, none⟩ = some (.int .i64 d) := by go_simp
  have r1_3 : w1.cell? ⟨w.heap.size + 1, 3, none⟩ = some (.int .i64 0) := by go_simp
  have q1_4 : w1.cell? ⟨w.heap.size + 1 + 1, 4, none⟩ = some (.int .i64 (0)) := by go_simp
  have p1_4 : w1.cell? ⟨w.heap.size, 4, none⟩ = some (.int .i64 e) := by go_simp
  have r1_4 : w1.cell? ⟨w.heap.size + 1, 4, none⟩ = some (.int .i64 0) := by go_simp
  have q1_5 : w1.cell? ⟨w.heap.size + 1 + 1, 5, none⟩ = some (.int .i64 (0)) := by go_simp
  have p1_5 : w1.cell? ⟨w.heap.size, 5, none⟩ = some (.int .i64 f) := by go_simp
  have r1_5 : w1.cell? ⟨w.heap.size + 1, 5, none⟩ = some (.int .i64 0) := by go_simp
  clear hc1
  go_wp2_with (first | (go_at_call 22; refine (around_fit _ _ _ (by assumption) (by omega) (by omega)).mono ?_; rintro e w1 ⟨rfl, rfl⟩))
  refine (refaxis0_any _ _ _ _).mono ?_
  rintro e w2 ⟨rfl, _t, hw⟩
  have hc2 := named_cell hw
  have hz2 := named_frozen hw
  have hh2 := named_heap hw
  haveI hi2 := named_in hw
  haveI hb2 := named_below (w := w) hw
  clear hw
  have q2_0 : w2.cell? ⟨w.heap.size + 1 + 1, 0, none⟩ = some (.int .i64 (0)) := (hc2 _ 0).trans q1_0
  have p2_0 : w2.cell? ⟨w.heap.size, 0, none⟩ = some (.int .i64 a) := (hc2 _ 0).trans p1_0
  have r2_0 : w2.cell? ⟨w.heap.size + 1, 0, none⟩ = some (.int .i64 0) := (hc2 _ 0).trans r1_0
  have q2_1 : w2.cell? ⟨w.heap.size + 1 + 1, 1, none⟩ = some (.int .i64 (0)) := (hc2 _ 1).trans q1_1
  have p2_1 : w2.cell? ⟨w.heap.size, 1, none⟩ = some (.int .i64 b) := (hc2 _ 1).trans p1_1
  have r2_1 : w2.cell? ⟨w.heap.size + 1, 1, none⟩ = some (.int .i64 0) := (hc2 _ 1).trans r1_1
  have q2_2 : w2.cell? ⟨w.heap.size + 1 + 1, 2, none⟩ = some (.int .i64 (0)) := (hc2 _ 2).trans q1_2
  have p2_2 : w2.cell? ⟨w.heap.size, 2, none⟩ = some (.int .i64 c) := (hc2 _ 2).trans p1_2
  have r2_2 : w2.cell? ⟨w.heap.size + 1, 2, none⟩ = some (.int .i64 0) := (hc2 _ 2).trans r1_2
  have q2_3 : w2.cell? ⟨w.heap.size + 1 + 1, 3, none⟩ = some (.int .i64 (0)) := (hc2 _ 3).trans q1_3
  have p2_3 : w2.cell? ⟨w.heap.size, 3, none⟩ = some (.int .i64 d) := (hc2 _ 3).trans p1_3
  have r2_3 : w2.cell? ⟨w.heap.size + 1, 3, none⟩ = some (.int .i64 0) := (hc2 _ 3).trans r1_3
  have q2_4 : w2.cell? ⟨w.heap.size + 1 + 1, 4, none⟩ = some (.int .i64 (0)) := (hc2 _ 4).trans q1_4
  have p2_4 : w2.cell? ⟨w.heap.size, 4, none⟩ = some (.int .i64 e) := (hc2 _ 4).trans p1_4
  have r2_4 : w2.cell? ⟨w.heap.size + 1, 4, none⟩ = some (.int .i64 0) := (hc2 _ 4).trans r1_4
  have q2_5 : w2.cell? ⟨w.heap.size + 1 + 1, 5, none⟩ = some (.int .i64 (0)) := (hc2 _ 5).trans q1_5
  have p2_5 : w2.cell? ⟨w.heap.size, 5, none⟩ = some (.int .i64 f) := (hc2 _ 5).trans p1_5
  have r2_5 : w2.cell? ⟨w.heap.size + 1, 5, none⟩ = some (.int .i64 0) := (hc2 _ 5).trans r1_5
  clear hc2 q1_0 p1_0 r1_0 q1_1 p1_1 r1_1 q1_2 p1_2 r1_2 q1_3 p1_3 r1_3 q1_4 p1_4 r1_4 q1_5 p1_5 r1_5
  go_wp2_with (first | (go_at_call 22; refine (around_fit _ _ _ (by assumption) (by omega) (by omega)).mono ?_; rintro e w1 ⟨rfl, rfl⟩))
  refine (with0_any _ _ _ _ _).mono ?_
  rintro e w3 ⟨rfl, _t, hw⟩
  have hc3 := named_cell hw
  have hz3 := named_frozen hw
  have hh3 := named_heap hw
  haveI hi3 := named_in hw
  haveI hb3 := named_below (w := w) hw
  clear hw
  have q3_0 : w3.cell? ⟨w.heap.size + 1 + 1, 0, none⟩ = some (.int .i64 (0)) := (hc3 _ 0).trans q2_0
  have p3_0 : w3.cell? ⟨w.heap.size, 0, none⟩ = some (.int .i64 a) := (hc3 _ 0).trans p2_0
  have r3_0 : w3.cell? ⟨w.heap.size + 1, 0, none⟩ = some (.int .i64 0) := (hc3 _ 0).trans r2_0
  have q3_1 : w3.cell? ⟨w.heap.size + 1 + 1, 1, none⟩ = some (.int .i64 (0)) := (hc3 _ 1).trans q2_1
  have p3_1 : w3.cell? ⟨w.heap.size, 1, none⟩ = some (.int .i64 b) := (hc3 _ 1).trans p2_1
  have r3_1 : w3.cell? ⟨w.heap.size + 1, 1, none⟩ = some (.int .i64 0) := (hc3 _ 1).trans r2_1
  have q3_2 : w3.cell? ⟨w.heap.size + 1 + 1, 2, none⟩ = some (.int .i64 (0)) := (hc3 _ 2).trans q2_2
  have p3_2 : w3.cell? ⟨w.heap.size, 2, none⟩ = some (.int .i64 c) := (hc3 _ 2).trans p2_2
  have r3_2 : w3.cell? ⟨w.heap.size + 1, 2, none⟩ = some (.int .i64 0) := (hc3 _ 2).trans r2_2
  have q3_3 : w3.cell? ⟨w.heap.size + 1 + 1, 3, none⟩ = some (.int .i64 (0)) := (hc3 _ 3).trans q2_3
  have p3_3 : w3.cell? ⟨w.heap.size, 3, none⟩ = some (.int .i64 d) := (hc3 _ 3).trans p2_3
  have r3_3 : w3.cell? ⟨w.heap.size + 1, 3, none⟩ = some (.int .i64 0) := (hc3 _ 3).trans r2_3
  have q3_4 : w3.cell? ⟨w.heap.size + 1 + 1, 4, none⟩ = some (.int .i64 (0)) := (hc3 _ 4).trans q2_4
  have p3_4 : w3.cell? ⟨w.heap.size, 4, none⟩ = some (.int .i64 e) := (hc3 _ 4).trans p2_4
  have r3_4 : w3.cell? ⟨w.heap.size + 1, 4, none⟩ = some (.int .i64 0) := (hc3 _ 4).trans r2_4
  have q3_5 : w3.cell? ⟨w.heap.size + 1 + 1, 5, none⟩ = some (.int .i64 (0)) := (hc3 _ 5).trans q2_5
  have p3_5 : w3.cell? ⟨w.heap.size, 5, none⟩ = some (.int .i64 f) := (hc3 _ 5).trans p2_5
  have r3_5 : w3.cell? ⟨w.heap.size + 1, 5, none⟩ = some (.int .i64 0) := (hc3 _ 5).trans r2_5
  clear hc3 q2_0 p2_0 r2_0 q2_1 p2_1 r2_1 q2_2 p2_2 r2_2 q2_3 p2_3 r2_3 q2_4 p2_4 r2_4 q2_5 p2_5 r2_5
  go_wp2_with fail
  refine (with0_any _ _ _ _ _).mono ?_
  rintro e w4 ⟨rfl, _t, hw⟩
  have hc4 := named_cell hw
  have hz4 := named_frozen hw
  have hh4 := named_heap hw
  haveI hi4 := named_in hw
  haveI hb4 := named_below (w := w) hw
  clear hw
  obtain ⟨z0, z1, z2, z3⟩ := set3 (w := w3) 0 (.int .i64 (fcS (arS a 524289 - 262144))) (.int .i64 (0)) (.int .i64 (0)) q3_0 q3_1 q3_2
  have q4_0 : w4.cell? ⟨w.heap.size + 1 + 1, 0, none⟩ = some (.int .i64 (fcS (arS a 524289 - 262144))) := (hc4 _ 0).trans z0
  have p4_0 : w4.cell? ⟨w.heap.size, 0, none⟩ = some (.int .i64 a) := (hc4 _ 0).trans ((far3 (by omega) _ _ _ _ _ _ ()).trans p3_0)
  have r4_0 : w4.cell? ⟨w.heap.size + 1, 0, none⟩ = some (.int .i64 0) := (hc4 _ 0).trans ((far3 (by omega) _ _ _ _ _ _ ()).trans r3_0)
  have q4_1 : w4.cell? ⟨w.heap.size + 1 + 1, 1, none⟩ = some (.int .i64 (0)) := (hc4 _ 1).trans z1
  have p4_1 : w4.cell? ⟨w.heap.size, 1, none⟩ = some (.int .i64 b) := (hc4 _ 1).trans ((far3 (by omega) _ _ _ _ _ _ ()).trans p3_1)
  have r4_1 : w4.cell? ⟨w.heap.size + 1, 1, none⟩ = some (.int .i64 0) := (hc4 _ 1).trans ((far3 (by omega) _ _ _ _ _ _ ()).trans r3_1)
  have q4_2 : w4.cell? ⟨w.heap.size + 1 + 1, 2, none⟩ = some (.int .i64 (0)) := (hc4 _ 2).trans z2
  have p4_2 : w4.cell? ⟨w.heap.size, 2, none⟩ = some (.int .i64 c) := (hc4 _ 2).trans ((far3 (by omega) _ _ _ _ _ _ ()).trans p3_2)
  have r4_2 : w4.cell? ⟨w.heap.size + 1, 2, none⟩ = some (.int .i64 0) := (hc4 _ 2).trans ((far3 (by omega) _ _ _ _ _ _ ()).trans r3_2)
  have q4_3 : w4.cell? ⟨w.heap.size + 1 + 1, 3, none⟩ = some (.int .i64 (0)) := (hc4 _ 3).trans ((z3 3 (by omega) (by omega) (by omega)).trans q3_3)
  have p4_3 : w4.cell? ⟨w.heap.size, 3, none⟩ = some (.int .i64 d) := (hc4 _ 3).trans ((far3 (by omega) _ _ _ _ _ _ ()).trans p3_3)
  have r4_3 : w4.cell? ⟨w.heap.size + 1, 3, none⟩ = some (.int .i64 0) := (hc4 _ 3).trans ((far3 (by omega) _ _ _ _ _ _ ()).trans r3_3)
  have q4_4 : w4.cell? ⟨w.heap.size + 1 + 1, 4, none⟩ = some (.int .i64 (0)) := (hc4 _ 4).trans ((z3 4 (by omega) (by omega) (by omega)).trans q3_4)
  have p4_4 : w4.cell? ⟨w.heap.size, 4, none⟩ = some (.int .i64 e) := (hc4 _ 4).trans ((far3 (by omega) _ _ _ _ _ _ ()).trans p3_4)
  have r4_4 : w4.cell? ⟨w.heap.size + 1, 4, none⟩ = some (.int .i64 0) := (hc4 _ 4).trans ((far3 (by omega) _ _ _ _ _ _ ()).trans r3_4)
  have q4_5 : w4.cell? ⟨w.heap.size + 1 + 1, 5, none⟩ = some (.int .i64 (0)) := (hc4 _ 5).trans ((z3 5 (by omega) (by omega) (by omega)).trans q3_5)
  have p4_5 : w4.cell? ⟨w.heap.size, 5, none⟩ = some (.int .i64 f) := (hc4 _ 5).trans ((far3 (by omega) _ _ _ _ _ _ ()).trans p3_5)
  have r4_5 : w4.cell? ⟨w.heap.size + 1, 5, none⟩ = some (.int .i64 0) := (hc4 _ 5).trans ((far3 (by omega) _ _ _ _ _ _ ()).trans r3_5)
  clear z0 z1 z2 z3
  clear hc4 q3_0 p3_0 r3_0 q3_1 p3_1 r3_1 q3_2 p3_2 r3_2 q3_3 p3_3 r3_3 q3_4 p3_4 r3_4 q3_5 p3_5 r3_5
  go_wp2_with fail
  rw [rounds_succ]
  go_wp2_with fail
  refine (refaxis1_any _ _ _ _).mono ?_
  rintro e w5 ⟨rfl, _t, hw⟩
  have hc5 := named_cell hw
  have hz5 := named_frozen hw
  have hh5 := named_heap hw
  haveI hi5 := named_in hw
  haveI hb5 := named_below (w := w) hw
  clear hw
  obtain ⟨z0, z1, z2, z3⟩ := set3 (w := w4) 3 (.int .i64 (fcS (arS a 524289 - 262144 + arS d 196609))) (.int .i64 (0)) (.int .i64 (0)) q4_3 q4_4 q4_5
  have q5_0 : w5.cell? ⟨w.heap.size + 1 + 1, 0, none⟩ = some (.int .i64 (fcS (arS a 524289 - 262144))) := (hc5 _ 0).trans ((z3 0 (by omega) (by omega) (by omega)).trans q4_0)
  have p5_0 : w5.cell? ⟨w.heap.size, 0, none⟩ = some (.int .i64 a) := (hc5 _ 0).trans ((far3 (by omega) _ _ _ _ _ _ ()).trans p4_0)
  have r5_0 : w5.cell? ⟨w.heap.size + 1, 0, none⟩ = some (.int .i64 0) := (hc5 _ 0).trans ((far3 (by omega) _ _ _ _ _ _ ()).trans r4_0)
  have q5_1 : w5.cell? ⟨w.heap.size + 1 + 1, 1, none⟩ = some (.int .i64 (0)) := (hc5 _ 1).trans ((z3 1 (by omega) (by omega) (by omega)).trans q4_1)
  have p5_1 : w5.cell? ⟨w.heap.size, 1, none⟩ = some (.int .i64 b) := (hc5 _ 1).trans ((far3 (by omega) _ _ _ _ _ _ ()).trans p4_1)
  have r5_1 : w5.cell? ⟨w.heap.size + 1, 1, none⟩ = some (.int .i64 0) := (hc5 _ 1).trans ((far3 (by omega) _ _ _ _ _ _ ()).trans r4_1)
  have q5_2 : w5.cell? ⟨w.heap.size + 1 + 1, 2, none⟩ = some (.int .i64 (0)) := (hc5 _ 2).trans ((z3 2 (by omega) (by omega) (by omega)).trans q4_2)
  have p5_2 : w5.cell? ⟨w.heap.size, 2, none⟩ = some (.int .i64 c) := (hc5 _ 2).trans ((far3 (by omega) _ _ _ _ _ _ ()).trans p4_2)
  have r5_2 : w5.cell? ⟨w.heap.size + 1, 2, none⟩ = some (.int .i64 0) := (hc5 _ 2).trans ((far3 (by omega) _ _ _ _ _ _ ()).trans r4_2)
  have q5_3 : w5.cell? ⟨w.heap.size + 1 + 1, 3, none⟩ = some (.int .i64 (fcS (arS a 524289 - 262144 + arS d 196609))) := (hc5 _ 3).trans z0
  have p5_3 : w5.cell? ⟨w.heap.size, 3, none⟩ = some (.int .i64 d) := (hc5 _ 3).trans ((far3 (by omega) _ _ _ _ _ _ ()).trans p4_3)
  have r5_3 : w5.cell? ⟨w.heap.size + 1, 3, none⟩ = some (.int .i64 0) := (hc5 _ 3).trans ((far3 (by omega) _ _ _ _ _ _ ()).trans r4_3)
  have q5_4 : w5.cell? ⟨w.heap.size + 1 + 1, 4, none⟩ = some (.int .i64 (0)) := (hc5 _ 4).trans z1
  have p5_4 : w5.cell? ⟨w.heap.size, 4, none⟩ = some (.int .i64 e) := (hc5 _ 4).trans ((far3 (by omega) _ _ _ _ _ _ ()).trans p4_4)
  have r5_4 : w5.cell? ⟨w.heap.size + 1, 4, none⟩ = some (.int .i64 0) := (hc5 _ 4).trans ((far3 (by omega) _ _ _ _ _ _ ()).trans r4_4)
  have q5_5 : w5.cell? ⟨w.heap.size + 1 + 1, 5, none⟩ = some (.int .i64 (0)) := (hc5 _ 5).trans z2
  have p5_5 : w5.cell? ⟨w.heap.size, 5, none⟩ = some (.int .i64 f) := (hc5 _ 5).trans ((far3 (by omega) _ _ _ _ _ _ ()).trans p4_5)
  have r5_5 : w5.cell? ⟨w.heap.size + 1, 5, none⟩ = some (.int .i64 0) := (hc5 _ 5).trans ((far3 (by omega) _ _ _ _ _ _ ()).trans r4_5)
  clear z0 z1 z2 z3
  clear hc5 q4_0 p4_0 r4_0 q4_1 p4_1 r4_1 q4_2 p4_2 r4_2 q4_3 p4_3 r4_3 q4_4 p4_4 r4_4 q4_5 p4_5 r4_5
  go_wp2_with (first | (go_at_call 22; refine (around_fit _ _ _ (by assumption) (by omega) (by omega)).mono ?_; rintro e w1 ⟨rfl, rfl⟩))
  refine (refaxis1_any _ _ _ _).mono ?_
  rintro e w6 ⟨rfl, _t, hw⟩
  have hc6 := named_cell hw
  have hz6 := named_frozen hw
  have hh6 := named_heap hw
  haveI hi6 := named_in hw
  haveI hb6 := named_below (w := w) hw
  clear hw
  have q6_0 : w6.cell? ⟨w.heap.size + 1 + 1, 0, none⟩ = some (.int .i64 (fcS (arS a 524289 - 262144))) := (hc6 _ 0).trans q5_0
  have p6_0 : w6.cell? ⟨w.heap.size, 0, none⟩ = some (.int .i64 a) := (hc6 _ 0).trans p5_0
  have r6_0 : w6.cell? ⟨w.heap.size + 1, 0, none⟩ = some (.int .i64 0) := (hc6 _ 0).trans r5_0
  have q6_1 : w6.cell? ⟨w.heap.size + 1 + 1, 1, none⟩ = some (.int .i64 (0)) := (hc6 _ 1).trans q5_1
  have p6_1 : w6.cell? ⟨w.heap.size, 1, none⟩ = some (.int .i64 b) := (hc6 _ 1).trans p5_1
  have r6_1 : w6.cell? ⟨w.heap.size + 1, 1, none⟩ = some (.int .i64 0) := (hc6 _ 1).trans r5_1
  have q6_2 : w6.cell? ⟨w.heap.size + 1 + 1, 2, none⟩ = some (.int .i64 (0)) := (hc6 _ 2).trans q5_2
  have p6_2 : w6.cell? ⟨w.heap.size, 2, none⟩ = some (.int .i64 c) := (hc6 _ 2).trans p5_2
  have r6_2 : w6.cell? ⟨w.heap.size + 1, 2, none⟩ = some (.int .i64 0) := (hc6 _ 2).trans r5_2
  have q6_3 : w6.cell? ⟨w.heap.size + 1 + 1, 3, none⟩ = some (.int .i64 (fcS (arS a 524289 - 262144 + arS d 196609))) := (hc6 _ 3).trans q5_3
  have p6_3 : w6.cell? ⟨w.heap.size, 3, none⟩ = some (.int .i64 d) := (hc6 _ 3).trans p5_3
  have r6_3 : w6.cell? ⟨w.heap.size + 1, 3, none⟩ = some (.int .i64 0) := (hc6 _ 3).trans r5_3
  have q6_4 : w6.cell? ⟨w.heap.size + 1 + 1, 4, none⟩ = some (.int .i64 (0)) := (hc6 _ 4).trans q5_4
  have p6_4 : w6.cell? ⟨w.heap.size, 4, none⟩ = some (.int .i64 e) := (hc6 _ 4).trans p5_4
  have r6_4 : w6.cell? ⟨w.heap.size + 1, 4, none⟩ = some (.int .i64 0) := (hc6 _ 4).trans r5_4
  have q6_5 : w6.cell? ⟨w.heap.size + 1 + 1, 5, none⟩ = some (.int .i64 (0)) := (hc6 _ 5).trans q5_5
  have p6_5 : w6.cell? ⟨w.heap.size, 5, none⟩ = some (.int .i64 f) := (hc6 _ 5).trans p5_5
  have r6_5 : w6.cell? ⟨w.heap.size + 1, 5, none⟩ = some (.int .i64 0) := (hc6 _ 5).trans r5_5
  clear hc6 q5_0 p5_0 r5_0 q5_1 p5_1 r5_1 q5_2 p5_2 r5_2 q5_3 p5_3 r5_3 q5_4 p5_4 r5_4 q5_5 p5_5 r5_5
  go_wp2_with (first | (go_at_call 22; refine (around_fit _ _ _ (by assumption) (by omega) (by omega)).mono ?_; rintro e w1 ⟨rfl, rfl⟩))
  refine (with1_any _ _ _ _ _).mono ?_
  rintro e w7 ⟨rfl, _t, hw⟩
  have hc7 := named_cell hw
  have hz7 := named_frozen hw
  have hh7 := named_heap hw
  haveI hi7 := named_in hw
  haveI hb7 := named_below (w := w) hw
  clear hw
  have q7_0 : w7.cell? ⟨w.heap.size + 1 + 1, 0, none⟩ = some (.int .i64 (fcS (arS a 524289 - 262144))) := (hc7 _ 0).trans q6_0
  have p7_0 : w7.cell? ⟨w.heap.size, 0, none⟩ = some (.int .i64 a) := (hc7 _ 0).trans p6_0
  have r7_0 : w7.cell? ⟨w.heap.size + 1, 0, none⟩ = some (.int .i64 0) := (hc7 _ 0).trans r6_0
  have q7_1 : w7.cell? ⟨w.heap.size + 1 + 1, 1, none⟩ = some (.int .i64 (0)) := (hc7 _ 1).trans q6_1
  have p7_1 : w7.cell? ⟨w.heap.size, 1, none⟩ = some (.int .i64 b) := (hc7 _ 1).trans p6_1
  have r7_1 : w7.cell? ⟨w.heap.size + 1, 1, none⟩ = some (.int .i64 0) := (hc7 _ 1).trans r6_1
  have q7_2 : w7.cell? ⟨w.heap.size + 1 + 1, 2, none⟩ = some (.int .i64 (0)) := (hc7 _ 2).trans q6_2
  have p7_2 : w7.cell? ⟨w.heap.size, 2, none⟩ = some (.int .i64 c) := (hc7 _ 2).trans p6_2
  have r7_2 : w7.cell? ⟨w.heap.size + 1, 2, none⟩ = some (.int .i64 0) := (hc7 _ 2).trans r6_2
  have q7_3 : w7.cell? ⟨w.heap.size + 1 + 1, 3, none⟩ = some (.int .i64 (fcS (arS a 524289 - 262144 + arS d 196609))) := (hc7 _ 3).trans q6_3
  have p7_3 : w7.cell? ⟨w.heap.size, 3, none⟩ = some (.int .i64 d) := (hc7 _ 3).trans p6_3
  have r7_3 : w7.cell? ⟨w.heap.size + 1, 3, none⟩ = some (.int .i64 0) := (hc7 _ 3).trans r6_3
  have q7_4 : w7.cell? ⟨w.heap.size + 1 + 1, 4, none⟩ = some (.int .i64 (0)) := (hc7 _ 4).trans q6_4
  have p7_4 : w7.cell? ⟨w.heap.size, 4, none⟩ = some (.int .i64 e) := (hc7 _ 4).trans p6_4
  have r7_4 : w7.cell? ⟨w.heap.size + 1, 4, none⟩ = some (.int .i64 0) := (hc7 _ 4).trans r6_4
  have q7_5 : w7.cell? ⟨w.heap.size + 1 + 1, 5, none⟩ = some (.int .i64 (0)) := (hc7 _ 5).trans q6_5
  have p7_5 : w7.cell? ⟨w.heap.size, 5, none⟩ = some (.int .i64 f) := (hc7 _ 5).trans p6_5
  have r7_5 : w7.cell? ⟨w.heap.size + 1, 5, none⟩ = some (.int .i64 0) := (hc7 _ 5).trans r6_5
  clear hc7 q6_0 p6_0 r6_0 q6_1 p6_1 r6_1 q6_2 p6_2 r6_2 q6_3 p6_3 r6_3 q6_4 p6_4 r6_4 q6_5 p6_5 r6_5
  go_wp2_with fail
  refine (with1_any _ _ _ _ _).mono ?_
  rintro e w8 ⟨rfl, _t, hw⟩
  have hc8 := named_cell hw
  have hz8 := named_frozen hw
  have hh8 := named_heap hw
  haveI hi8 := named_in hw
  haveI hb8 := named_below (w := w) hw
  clear hw
  obtain ⟨z0, z1, z2, z3⟩ := set3 (w := w7) 0 (.int .i64 (fcS (arS a 524289 - 262144))) (.int .i64 (fcS (arS b 524289 - 262144))) (.int .i64 (0)) q7_0 q7_1 q7_2
  have q8_0 : w8.cell? ⟨w.heap.size + 1 + 1, 0, none⟩ = some (.int .i64 (fcS (arS a 524289 - 262144))) := (hc8 _ 0).trans z0
  have p8_0 : w8.cell? ⟨w.heap.size, 0, none⟩ = some (.int .i64 a) := (hc8 _ 0).trans ((far3 (by omega) _ _ _ _ _ _ ()).trans p7_0)
  have r8_0 : w8.cell? ⟨w.heap.size + 1, 0, none⟩ = some (.int .i64 0) := (hc8 _ 0).trans ((far3 (by omega) _ _ _ _ _ _ ()).trans r7_0)
  have q8_1 : w8.cell? ⟨w.heap.size + 1 + 1, 1, none⟩ = some (.int .i64 (fcS (arS b 524289 - 262144))) := (hc8 _ 1).trans z1
  have p8_1 : w8.cell? ⟨w.heap.size, 1, none⟩ = some (.int .i64 b) := (hc8 _ 1).trans ((far3 (by omega) _ _ _ _ _ _ ()).trans p7_1)
  have r8_1 : w8.cell? ⟨w.heap.size + 1, 1, none⟩ = some (.int .i64 0) := (hc8 _ 1).trans ((far3 (by omega) _ _ _ _ _ _ ()).trans r7_1)
  have q8_2 : w8.cell? ⟨w.heap.size + 1 + 1, 2, none⟩ = some (.int .i64 (0)) := (hc8 _ 2).trans z2
  have p8_2 : w8.cell? ⟨w.heap.size, 2, none⟩ = some (.int .i64 c) := (hc8 _ 2).trans ((far3 (by omega) _ _ _ _ _ _ ()).trans p7_2)
  have r8_2 : w8.cell? ⟨w.heap.size + 1, 2, none⟩ = some (.int .i64 0) := (hc8 _ 2).trans ((far3 (by omega) _ _ _ _ _ _ ()).trans r7_2)
  have q8_3 : w8.cell? ⟨w.heap.size + 1 + 1, 3, none⟩ = some (.int .i64 (fcS (arS a 524289 - 262144 + arS d 196609))) := (hc8 _ 3).trans ((z3 3 (by omega) (by omega) (by omega)).trans q7_3)
  have p8_3 : w8.cell? ⟨w.heap.size, 3, none⟩ = some (.int .i64 d) := (hc8 _ 3).trans ((far3 (by omega) _ _ _ _ _ _ ()).trans p7_3)
  have r8_3 : w8.cell? ⟨w.heap.size + 1, 3, none⟩ = some (.int .i64 0) := (hc8 _ 3).trans ((far3 (by omega) _ _ _ _ _ _ ()).trans r7_3)
  have q8_4 : w8.cell? ⟨w.heap.size + 1 + 1, 4, none⟩ = some (.int .i64 (0)) := (hc8 _ 4).trans ((z3 4 (by omega) (by omega) (by omega)).trans q7_4)
  have p8_4 : w8.cell? ⟨w.heap.size, 4, none⟩ = some (.int .i64 e) := (hc8 _ 4).trans ((far3 (by omega) _ _ _ _ _ _ ()).trans p7_4)
  have r8_4 : w8.cell? ⟨w.heap.size + 1, 4, none⟩ = some (.int .i64 0) := (hc8 _ 4).trans ((far3 (by omega) _ _ _ _ _ _ ()).trans r7_4)
  have q8_5 : w8.cell? ⟨w.heap.size + 1 + 1, 5, none⟩ = some (.int .i64 (0)) := (hc8 _ 5).trans ((z3 5 (by omega) (by omega) (by omega)).trans q7_5)
  have p8_5 : w8.cell? ⟨w.heap.size, 5, none⟩ = some (.int .i64 f) := (hc8 _ 5).trans ((far3 (by omega) _ _ _ _ _ _ ()).trans p7_5)
  have r8_5 : w8.cell? ⟨w.heap.size + 1, 5, none⟩ = some (.int .i64 0) := (hc8 _ 5).trans ((far3 (by omega) _ _ _ _ _ _ ()).trans r7_5)
  clear z0 z1 z2 z3
  clear hc8 q7_0 p7_0 r7_0 q7_1 p7_1 r7_1 q7_2 p7_2 r7_2 q7_3 p7_3 r7_3 q7_4 p7_4 r7_4 q7_5 p7_5 r7_5
  go_wp2_with fail
  rw [rounds_succ]
  go_wp2_with fail
  refine (refaxis2_any _ _ _ _).mono ?_
  rintro e w9 ⟨rfl, _t, hw⟩
  have hc9 := named_cell hw
  have hz9 := named_frozen hw
  have hh9 := named_heap hw
  haveI hi9 := named_in hw
  haveI hb9 := named_below (w := w) hw
  clear hw
  obtain ⟨z0, z1, z2, z3⟩ := set3 (w := w8) 3 (.int .i64 (fcS (arS a 524289 - 262144 + arS d 196609))) (.int .i64 (fcS (arS b 524289 - 262144 + arS e 196609))) (.int .i64 (0)) q8_3 q8_4 q8_5
  have q9_0 : w9.cell? ⟨w.heap.size + 1 + 1, 0, none⟩ = some (.int .i64 (fcS (arS a 524289 - 262144))) := (hc9 _ 0).trans ((z3 0 (by omega) (by omega) (by omega)).trans q8_0)
  have p9_0 : w9.cell? ⟨w.heap.size, 0, none⟩ = some (.int .i64 a) := (hc9 _ 0).trans ((far3 (by omega) _ _ _ _ _ _ ()).trans p8_0)
  have r9_0 : w9.cell? ⟨w.heap.size + 1, 0, none⟩ = some (.int .i64 0) := (hc9 _ 0).trans ((far3 (by omega) _ _ _ _ _ _ ()).trans r8_0)
  have q9_1 : w9.cell? ⟨w.heap.size + 1 + 1, 1, none⟩ = some (.int .i64 (fcS (arS b 524289 - 262144))) := (hc9 _ 1).trans ((z3 1 (by omega) (by omega) (by omega)).trans q8_1)
  have p9_1 : w9.cell? ⟨w.heap.size, 1, none⟩ = some (.int .i64 b) := (hc9 _ 1).trans ((far3 (by omega) _ _ _ _ _ _ ()).trans p8_1)
  have r9_1 : w9.cell? ⟨w.heap.size + 1, 1, none⟩ = some (.int .i64 0) := (hc9 _ 1).trans ((far3 (by omega) _ _ _ _ _ _ ()).trans r8_1)
  have q9_2 : w9.cell? ⟨w.heap.size + 1 + 1, 2, none⟩ = some (.int .i64 (0)) := (hc9 _ 2).trans ((z3 2 (by omega) (by omega) (by omega)).trans q8_2)
  have p9_2 : w9.cell? ⟨w.heap.size, 2, none⟩ = some (.int .i64 c) := (hc9 _ 2).trans ((far3 (by omega) _ _ _ _ _ _ ()).trans p8_2)
  have r9_2 : w9.cell? ⟨w.heap.size + 1, 2, none⟩ = some (.int .i64 0) := (hc9 _ 2).trans ((far3 (by omega) _ _ _ _ _ _ ()).trans r8_2)
  have q9_3 : w9.cell? ⟨w.heap.size + 1 + 1, 3, none⟩ = some (.int .i64 (fcS (arS a 524289 - 262144 + arS d 196609))) := (hc9 _ 3).trans z0
  have p9_3 : w9.cell? ⟨w.heap.size, 3, none⟩ = some (.int .i64 d) := (hc9 _ 3).trans ((far3 (by omega) _ _ _ _ _ _ ()).trans p8_3)
  have r9_3 : w9.cell? ⟨w.heap.size + 1, 3, none⟩ = some (.int .i64 0) := (hc9 _ 3).trans ((far3 (by omega) _ _ _ _ _ _ ()).trans r8_3)
  have q9_4 : w9.cell? ⟨w.heap.size + 1 + 1, 4, none⟩ = some (.int .i64 (fcS (arS b 524289 - 262144 + arS e 196609))) := (hc9 _ 4).trans z1
  have p9_4 : w9.cell? ⟨w.heap.size, 4, none⟩ = some (.int .i64 e) := (hc9 _ 4).trans ((far3 (by omega) _ _ _ _ _ _ ()).trans p8_4)
  have r9_4 : w9.cell? ⟨w.heap.size + 1, 4, none⟩ = some (.int .i64 0) := (hc9 _ 4).trans ((far3 (by omega) _ _ _ _ _ _ ()).trans r8_4)
  have q9_5 : w9.cell? ⟨w.heap.size + 1 + 1, 5, none⟩ = some (.int .i64 (0)) := (hc9 _ 5).trans z2
  have p9_5 : w9.cell? ⟨w.heap.size, 5, none⟩ = some (.int .i64 f) := (hc9 _ 5).trans ((far3 (by omega) _ _ _ _ _ _ ()).trans p8_5)
  have r9_5 : w9.cell? ⟨w.heap.size + 1, 5, none⟩ = some (.int .i64 0) := (hc9 _ 5).trans ((far3 (by omega) _ _ _ _ _ _ ()).trans r8_5)
  clear z0 z1 z2 z3
  clear hc9 q8_0 p8_0 r8_0 q8_1 p8_1 r8_1 q8_2 p8_2 r8_2 q8_3 p8_3 r8_3 q8_4 p8_4 r8_4 q8_5 p8_5 r8_5
  go_wp2_with (first | (go_at_call 22; refine (around_fit _ _ _ (by assumption) (by omega) (by omega)).mono ?_; rintro e w1 ⟨rfl, rfl⟩))
  refine (refaxis2_any _ _ _ _).mono ?_
  rintro e w10 ⟨rfl, _t, hw⟩
  have hc10 := named_cell hw
  have hz10 := named_frozen hw
  have hh10 := named_heap hw
  haveI hi10 := named_in hw
  haveI hb10 := named_below (w := w) hw
  clear hw
  have q10_0 : w10.cell? ⟨w.heap.size + 1 + 1, 0, none⟩ = some (.int .i64 (fcS (arS a 524289 - 262144))) := (hc10 _ 0).trans q9_0
  have p10_0 : w10.cell? ⟨w.heap.size, 0, none⟩ = some (.int .i64 a) := (hc10 _ 0).trans p9_0
  have r10_0 : w10.cell? ⟨w.heap.size + 1, 0, none⟩ = some (.int .i64 0) := (hc10 _ 0).trans r9_0
  have q10_1 : w10.cell? ⟨w.heap.size + 1 + 1, 1, none⟩ = some (.int .i64 (fcS (arS b 524289 - 262144))) := (hc10 _ 1).trans q9_1
  have p10_1 : w10.cell? ⟨w.heap.size, 1, none⟩ = some (.int .i64 b) := (hc10 _ 1).trans p9_1
  have r10_1 : w10.cell? ⟨w.heap.size + 1, 1, none⟩ = some (.int .i64 0) := (hc10 _ 1).trans r9_1
  have q10_2 : w10.cell? ⟨w.heap.size + 1 + 1, 2, none⟩ = some (.int .i64 (0)) := (hc10 _ 2).trans q9_2
  have p10_2 : w10.cell? ⟨w.heap.size, 2, none⟩ = some (.int .i64 c) := (hc10 _ 2).trans p9_2
  have r10_2 : w10.cell? ⟨w.heap.size + 1, 2, none⟩ = some (.int .i64 0) := (hc10 _ 2).trans r9_2
  have q10_3 : w10.cell? ⟨w.heap.size + 1 + 1, 3, none⟩ = some (.int .i64 (fcS (arS a 524289 - 262144 + arS d 196609))) := (hc10 _ 3).trans q9_3
  have p10_3 : w10.cell? ⟨w.heap.size, 3, none⟩ = some (.int .i64 d) := (hc10 _ 3).trans p9_3
  have r10_3 : w10.cell? ⟨w.heap.size + 1, 3, none⟩ = some (.int .i64 0) := (hc10 _ 3).trans r9_3
  have q10_4 : w10.cell? ⟨w.heap.size + 1 + 1, 4, none⟩ = some (.int .i64 (fcS (arS b 524289 - 262144 + arS e 196609))) := (hc10 _ 4).trans q9_4
  have p10_4 : w10.cell? ⟨w.heap.size, 4, none⟩ = some (.int .i64 e) := (hc10 _ 4).trans p9_4
  have r10_4 : w10.cell? ⟨w.heap.size + 1, 4, none⟩ = some (.int .i64 0) := (hc10 _ 4).trans r9_4
  have q10_5 : w10.cell? ⟨w.heap.size + 1 + 1, 5, none⟩ = some (.int .i64 (0)) := (hc10 _ 5).trans q9_5
  have p10_5 : w10.cell? ⟨w.heap.size, 5, none⟩ = some (.int .i64 f) := (hc10 _ 5).trans p9_5
  have r10_5 : w10.cell? ⟨w.heap.size + 1, 5, none⟩ = some (.int .i64 0) := (hc10 _ 5).trans r9_5
  clear hc10 q9_0 p9_0 r9_0 q9_1 p9_1 r9_1 q9_2 p9_2 r9_2 q9_3 p9_3 r9_3 q9_4 p9_4 r9_4 q9_5 p9_5 r9_5
  go_wp2_with (first | (go_at_call 22; refine (around_fit _ _ _ (by assumption) (by omega) (by omega)).mono ?_; rintro e w1 ⟨rfl, rfl⟩))
  refine (with2_any _ _ _ _ _).mono ?_
  rintro e w11 ⟨rfl, _t, hw⟩
  have hc11 := named_cell hw
  have hz11 := named_frozen hw
  have hh11 := named_heap hw
  haveI hi11 := named_in hw
  haveI hb11 := named_below (w := w) hw
  clear hw
  have q11_0 : w11.cell? ⟨w.heap.size + 1 + 1, 0, none⟩ = some (.int .i64 (fcS (arS a 524289 - 262144))) := (hc11 _ 0).trans q10_0
  have p11_0 : w11.cell? ⟨w.heap.size, 0, none⟩ = some (.int .i64 a) := (hc11 _ 0).trans p10_0
  have r11_0 : w11.cell? ⟨w.heap.size + 1, 0, none⟩ = some (.int .i64 0) := (hc11 _ 0).trans r10_0
  have q11_1 : w11.cell? ⟨w.heap.size + 1 + 1, 1, none⟩ = some (.int .i64 (fcS (arS b 524289 - 262144))) := (hc11 _ 1).trans q10_1
  have p11_1 : w11.cell? ⟨w.heap.size, 1, none⟩ = some (.int .i64 b) := (hc11 _ 1).trans p10_1
  have r11_1 : w11.cell? ⟨w.heap.size + 1, 1, none⟩ = some (.int .i64 0) := (hc11 _ 1).trans r10_1
  have q11_2 : w11.cell? ⟨w.heap.size + 1 + 1, 2, none⟩ = some (.int .i64 (0)) := (hc11 _ 2).trans q10_2
  have p11_2 : w11.cell? ⟨w.heap.size, 2, none⟩ = some (.int .i64 c) := (hc11 _ 2).trans p10_2
  have r11_2 : w11.cell? ⟨w.heap.size + 1, 2, none⟩ = some (.int .i64 0) := (hc11 _ 2).trans r10_2
  have q11_3 : w11.cell? ⟨w.heap.size + 1 + 1, 3, none⟩ = some (.int .i64 (fcS (arS a 524289 - 262144 + arS d 196609))) := (hc11 _ 3).trans q10_3
  have p11_3 : w11.cell? ⟨w.heap.size, 3, none⟩ = some (.int .i64 d) := (hc11 _ 3).trans p10_3
  have r11_3 : w11.cell? ⟨w.heap.size + 1, 3, none⟩ = some (.int .i64 0) := (hc11 _ 3).trans r10_3
  have q11_4 : w11.cell? ⟨w.heap.size + 1 + 1, 4, none⟩ = some (.int .i64 (fcS (arS b 524289 - 262144 + arS e 196609))) := (hc11 _ 4).trans q10_4
  have p11_4 : w11.cell? ⟨w.heap.size, 4, none⟩ = some (.int .i64 e) := (hc11 _ 4).trans p10_4
  have r11_4 : w11.cell? ⟨w.heap.size + 1, 4, none⟩ = some (.int .i64 0) := (hc11 _ 4).trans r10_4
  have q11_5 : w11.cell? ⟨w.heap.size + 1 + 1, 5, none⟩ = some (.int .i64 (0)) := (hc11 _ 5).trans q10_5
  have p11_5 : w11.cell? ⟨w.heap.size, 5, none⟩ = some (.int .i64 f) := (hc11 _ 5).trans p10_5
  have r11_5 : w11.cell? ⟨w.heap.size + 1, 5, none⟩ = some (.int .i64 0) := (hc11 _ 5).trans r10_5
  clear hc11 q10_0 p10_0 r10_0 q10_1 p10_1 r10_1 q10_2 p10_2 r10_2 q10_3 p10_3 r10_3 q10_4 p10_4 r10_4 q10_5 p10_5 r10_5
  go_wp2_with fail
  refine (with2_any _ _ _ _ _).mono ?_
  rintro e w12 ⟨rfl, _t, hw⟩
  have hc12 := named_cell hw
  have hz12 := named_frozen hw
  have hh12 := named_heap hw
  haveI hi12 := named_in hw
  haveI hb12 := named_below (w := w) hw
  clear hw
  obtain ⟨z0, z1, z2, z3⟩ := set3 (w := w11) 0 (.int .i64 (fcS (arS a 524289 - 262144))) (.int .i64 (fcS (arS b 524289 - 262144))) (.int .i64 (fcS (arS c 524289 - 262144))) q11_0 q11_1 q11_2
  have q12_0 : w12.cell? ⟨w.heap.size + 1 + 1, 0, none⟩ = some (.int .i64 (fcS (arS a 524289 - 262144))) := (hc12 _ 0).trans z0
  have p12_0 : w12.cell? ⟨w.heap.size, 0, none⟩ = some (.int .i64 a) := (hc12 _ 0).trans ((far3 (by omega) _ _ _ _ _ _ ()).trans p11_0)
  have r12_0 : w12.cell? ⟨w.heap.size + 1, 0, none⟩ = some (.int .i64 0) := (hc12 _ 0).trans ((far3 (by omega) _ _ _ _ _ _ ()).trans r11_0)
  have q12_1 : w12.cell? ⟨w.heap.size + 1 + 1, 1, none⟩ = some (.int .i64 (fcS (arS b 524289 - 262144))) := (hc12 _ 1).trans z1
  have p12_1 : w12.cell? ⟨w.heap.size, 1, none⟩ = some (.int .i64 b) := (hc12 _ 1).trans ((far3 (by omega) _ _ _ _ _ _ ()).trans p11_1)
  have r12_1 : w12.cell? ⟨w.heap.size + 1, 1, none⟩ = some (.int .i64 0) := (hc12 _ 1).trans ((far3 (by omega) _ _ _ _ _ _ ()).trans r11_1)
  have q12_2 : w12.cell? ⟨w.heap.size + 1 + 1, 2, none⟩ = some (.int .i64 (fcS (arS c 524289 - 262144))) := (hc12 _ 2).trans z2
  have p12_2 : w12.cell? ⟨w.heap.size, 2, none⟩ = some (.int .i64 c) := (hc12 _ 2).trans ((far3 (by omega) _ _ _ _ _ _ ()).trans p11_2)
  have r12_2 : w12.cell? ⟨w.heap.size + 1, 2, none⟩ = some (.int .i64 0) := (hc12 _ 2).trans ((far3 (by omega) _ _ _ _ _ _ ()).trans r11_2)
  have q12_3 : w12.cell? ⟨w.heap.size + 1 + 1, 3, none⟩ = some (.int .i64 (fcS (arS a 524289 - 262144 + arS d 196609))) := (hc12 _ 3).trans ((z3 3 (by omega) (by omega) (by omega)).trans q11_3)
  have p12_3 : w12.cell? ⟨w.heap.size, 3, none⟩ = some (.int .i64 d) := (hc12 _ 3).trans ((far3 (by omega) _ _ _ _ _ _ ()).trans p11_3)
  have r12_3 : w12.cell? ⟨w.heap.size + 1, 3, none⟩ = some (.int .i64 0) := (hc12 _ 3).trans ((far3 (by omega) _ _ _ _ _ _ ()).trans r11_3)
  have q12_4 : w12.cell? ⟨w.heap.size + 1 + 1, 4, none⟩ = some (.int .i64 (fcS (arS b 524289 - 262144 + arS e 196609))) := (hc12 _ 4).trans ((z3 4 (by omega) (by omega) (by omega)).trans q11_4)
  have p12_4 : w12.cell? ⟨w.heap.size, 4, none⟩ = some (.int .i64 e) := (hc12 _ 4).trans ((far3 (by omega) _ _ _ _ _ _ ()).trans p11_4)
  have r12_4 : w12.cell? ⟨w.heap.size + 1, 4, none⟩ = some (.int .i64 0) := (hc12 _ 4).trans ((far3 (by omega) _ _ _ _ _ _ ()).trans r11_4)
  have q12_5 : w12.cell? ⟨w.heap.size + 1 + 1, 5, none⟩ = some (.int .i64 (0)) := (hc12 _ 5).trans ((z3 5 (by omega) (by omega) (by omega)).trans q11_5)
  have p12_5 : w12.cell? ⟨w.heap.size, 5, none⟩ = some (.int .i64 f) := (hc12 _ 5).trans ((far3 (by omega) _ _ _ _ _ _ ()).trans p11_5)
  have r12_5 : w12.cell? ⟨w.heap.size + 1, 5, none⟩ = some (.int .i64 0) := (hc12 _ 5).trans ((far3 (by omega) _ _ _ _ _ _ ()).trans r11_5)
  clear z0 z1 z2 z3
  clear hc12 q11_0 p11_0 r11_0 q11_1 p11_1 r11_1 q11_2 p11_2 r11_2 q11_3 p11_3 r11_3 q11_4 p11_4 r11_4 q11_5 p11_5 r11_5
  go_wp2_with fail
  rw [rounds_succ]
  obtain ⟨z0, z1, z2, z3⟩ := set3 (w := w12) 3 (.int .i64 (fcS (arS a 524289 - 262144 + arS d 196609))) (.int .i64 (fcS (arS b 524289 - 262144 + arS e 196609))) (.int .i64 (fcS (arS c 524289 - 262144 + arS f 196609))) q12_3 q12_4 q12_5
  have y0 := (z3 0 (by omega) (by omega) (by omega)).trans q12_0
  have y1 := (z3 1 (by omega) (by omega) (by omega)).trans q12_1
  have y2 := (z3 2 (by omega) (by omega) (by omega)).trans q12_2
  clear z3 q12_0 q12_1 q12_2 q12_3 q12_4 q12_5
  go_wp2_with fail
  refine bodyPost_ret (by simp [results, Try.results41, go_sem, r12_0, r12_1, r12_2, r12_3, r12_4, r12_5]; try rfl) rfl ?_
  exact ⟨rfl, grown_of⟩
end Go.Proofs.Ytdlapfpjbcjaeaa
