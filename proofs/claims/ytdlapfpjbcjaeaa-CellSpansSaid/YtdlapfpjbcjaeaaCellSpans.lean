/- The cells that a box overlaps are the document's, and just those from the least to the greatest one: whatever box and cell come in, CellSpans hands back true; no conditions. -/
import Derived.Test.YtdlapfpjbcjaeaaHas
import Derived.Test.YtdlapfpjbcjaeaaOver
import Derived.Test.YtdlapfpjbcjaeaaSpanNo
import Derived.Test.YtdlapfpjbcjaeaaSmall
import Derived.Test.YtdlapfpjbcjaeaaGood
import Derived.Deep.CutRange
namespace Go.Proofs.Ytdlapfpjbcjaeaa
open Go.RowKit
attribute [local go_sem] ext_ext drew_ext ext_drew ext_cell ext_frozen in_lt in_le in_ne in_en in_ne1 in_en1 in_le1 in_ltn in_len in_nen in_enn size_le ite_max ite_min
set_option linter.unusedVariables false
set_option linter.unusedSimpArgs false
attribute [local go_sem ↓] eqc_any
attribute [local go_sem] eqc_self calm calmUpon

namespace cellSpans
open Go.ChangeShapes Go.WideShapes Go.ChangeAt

/-- A box as it comes in: six ints. -/
theorem open_box {H : Type} {enc : TypeId × Value → H} {P : Program} {r : Reach} {b0 : Nat} {t tv ti : TypeId} {f0 f1 g0 g1 g2 : Field} {v : Value} {d : DataW H} {p : List MemPlace} {w : World} {base : Nat} {sp : Nat → Bool} {held : Bool} (hi : P.underlying ti = some (.int .i64))
    (hvec : P.underlying tv = some (.struct #[g0, g1, g2])) (hs : P.underlying t = some (.struct #[f0, f1])) (hone : Deep.oneCellFields P #[g0, g1, g2] = true) (hC3 : P.cellsOf tv = 3) (hC : P.cellsOf t = 6)
    (o0 : f0.offset = 0) (o1 : f1.offset = 3) (t0 : f0.type = tv) (t1 : f1.type = tv) (h0 : g0.type = ti) (h1 : g1.type = ti) (h2 : g2.type = ti)
    (hv : Value.okWide P w r b0 t v) (h : DataW.Trod enc P w base sp held t v d p) :
    ∃ a b c x y z, v = .agg #[.int .i64 a, .int .i64 b, .int .i64 c, .int .i64 x, .int .i64 y, .int .i64 z] ∧ Fit a ∧ Fit b ∧ Fit c ∧ Fit x ∧ Fit y ∧ Fit z := by
  obtain ⟨cs, rfl, hsz⟩ := okWide_struct hs hv
  have six : ∃ c0 c1 c2 c3 c4 c5, cs = #[c0, c1, c2, c3, c4, c5] := by
    have h6 := hsz.trans hC
    obtain ⟨l⟩ := cs
    match l, h6 with
    | [c0, c1, c2, c3, c4, c5], _ => exact ⟨c0, c1, c2, c3, c4, c5, rfl⟩
  obtain ⟨c0, c1, c2, c3, c4, c5, rfl⟩ := six
  obtain ⟨fuel, hf⟩ := h
  obtain ⟨y0, y1, n, _, _, k0, k1⟩ := trod_struct2 hs hf
  rw [t0, o0, hC3] at k0
  rw [t1, o1, hC3] at k1
  obtain ⟨_, _, _, _, _, _, a0, a1, a2⟩ := Deep.trod_struct3 hvec k0
  obtain ⟨_, _, _, _, _, _, b0', b1, b2⟩ := Deep.trod_struct3 hvec k1
  obtain ⟨p0, q0⟩ := Deep.hone_of hone 0 g0 rfl
  obtain ⟨p1, q1⟩ := Deep.hone_of hone 1 g1 rfl
  obtain ⟨p2, q2⟩ := Deep.hone_of hone 2 g2 rfl
  rw [p0, q0] at a0 b0'
  rw [p1, q1] at a1 b1
  rw [p2, q2] at a2 b2
  obtain ⟨a, rfl, fa⟩ := int_of (v := c0) (h0 ▸ hi) (by simpa [Value.cells] using a0)
  obtain ⟨b, rfl, fb⟩ := int_of (v := c1) (h1 ▸ hi) (by simpa [Value.cells] using a1)
  obtain ⟨c, rfl, fc⟩ := int_of (v := c2) (h2 ▸ hi) (by simpa [Value.cells] using a2)
  obtain ⟨x, rfl, fx⟩ := int_of (v := c3) (h0 ▸ hi) (by simpa [Value.cells] using b0')
  obtain ⟨y, rfl, fy⟩ := int_of (v := c4) (h1 ▸ hi) (by simpa [Value.cells] using b1)
  obtain ⟨z, rfl, fz⟩ := int_of (v := c5) (h2 ▸ hi) (by simpa [Value.cells] using b2)
  exact ⟨a, b, c, x, y, z, rfl, fa, fb, fc, fx, fy, fz⟩

/-- Cells from the least to the greatest one of a box, along an axis; whether there are any. -/
def has (a b c d e f : Int) : Bool := !voidS a d && !voidS b e && !voidS c f
def cellV (t : Bool) (x y z : Int) : Value := if t then .agg #[.int .i64 x, .int .i64 y, .int .i64 z] else .agg #[.int .i64 0, .int .i64 0, .int .i64 0]
def spanV (a b c d e f : Int) : Value :=
  .tuple #[cellV (has a b c d e f) (flS a) (flS b) (flS c), cellV (has a b c d e f) (topS a d) (topS b e) (topS c f), .bool (has a b c d e f)]
theorem span_any (a b c d e f : Int) (w : World) :
    Calls Try.prog 39 #[.agg #[.int .i64 a, .int .i64 b, .int .i64 c, .int .i64 d, .int .i64 e, .int .i64 f]] w fun o w' => o = .returned (spanV a b c d e f) ∧ ∃ f, w' = ext w f := by
  cases h1 : voidS a d
  · cases h2 : voidS b e
    · cases h3 : voidS c f
      · have h : spanV a b c d e f = .tuple #[.agg #[.int .i64 (flS a), .int .i64 (flS b), .int .i64 (flS c)], .agg #[.int .i64 (topS a d), .int .i64 (topS b e), .int .i64 (topS c f)], .bool true] := by simp [spanV, has, cellV, h1, h2, h3]
        rw [h]
        exact span_some a b c d e f h1 h2 h3 w
      · have h : spanV a b c d e f = .tuple #[.agg #[.int .i64 0, .int .i64 0, .int .i64 0], .agg #[.int .i64 0, .int .i64 0, .int .i64 0], .bool false] := by simp [spanV, has, cellV, h1, h2, h3]
        rw [h]
        exact span_none2 a b c d e f h1 h2 h3 w
    · have h : spanV a b c d e f = .tuple #[.agg #[.int .i64 0, .int .i64 0, .int .i64 0], .agg #[.int .i64 0, .int .i64 0, .int .i64 0], .bool false] := by simp [spanV, has, cellV, h1, h2]
      rw [h]
      exact span_none1 a b c d e f h1 h2 w
  · have h : spanV a b c d e f = .tuple #[.agg #[.int .i64 0, .int .i64 0, .int .i64 0], .agg #[.int .i64 0, .int .i64 0, .int .i64 0], .bool false] := by simp [spanV, has, cellV, h1]
    rw [h]
    exact span_none0 a b c d e f h1 w
theorem refspan_any (a b c d e f : Int) (w : World) (s1 : Side a d) (s2 : Side b e) (s3 : Side c f) :
    Calls Try.prog 40 #[.agg #[.int .i64 a, .int .i64 b, .int .i64 c, .int .i64 d, .int .i64 e, .int .i64 f]] w fun o w' => o = .returned (spanV a b c d e f) ∧ ∃ f, w' = ext w f := by
  cases h1 : voidS a d
  · cases h2 : voidS b e
    · cases h3 : voidS c f
      · have h : spanV a b c d e f = .tuple #[.agg #[.int .i64 (flS a), .int .i64 (flS b), .int .i64 (flS c)], .agg #[.int .i64 (topS a d), .int .i64 (topS b e), .int .i64 (topS c f)], .bool true] := by simp [spanV, has, cellV, h1, h2, h3]
        rw [h]
        exact refspan_some a b c d e f s1 s2 s3 h1 h2 h3 w
      · have h : spanV a b c d e f = .tuple #[.agg #[.int .i64 0, .int .i64 0, .int .i64 0], .agg #[.int .i64 0, .int .i64 0, .int .i64 0], .bool false] := by simp [spanV, has, cellV, h1, h2, h3]
        rw [h]
        exact refspan_none2 a b c d e f s1 h1 s2 h2 s3 h3 w
    · have h : spanV a b c d e f = .tuple #[.agg #[.int .i64 0, .int .i64 0, .int .i64 0], .agg #[.int .i64 0, .int .i64 0, .int .i64 0], .bool false] := by simp [spanV, has, cellV, h1, h2]
      rw [h]
      exact refspan_none1 a b c d e f s1 h1 s2 h2 w
  · have h : spanV a b c d e f = .tuple #[.agg #[.int .i64 0, .int .i64 0, .int .i64 0], .agg #[.int .i64 0, .int .i64 0, .int .i64 0], .bool false] := by simp [spanV, has, cellV, h1]
    rw [h]
    exact refspan_none0 a b c d e f s1 h1 w
/-- The same, its cells written out. -/
def xS (t : Bool) (x : Int) : Int := if t then x else 0
theorem spanV_out (a b c d e f : Int) : spanV a b c d e f = .tuple #[.agg #[.int .i64 (xS (has a b c d e f) (flS a)), .int .i64 (xS (has a b c d e f) (flS b)), .int .i64 (xS (has a b c d e f) (flS c))],
    .agg #[.int .i64 (xS (has a b c d e f) (topS a d)), .int .i64 (xS (has a b c d e f) (topS b e)), .int .i64 (xS (has a b c d e f) (topS c f))], .bool (has a b c d e f)] := by
  unfold spanV
  cases has a b c d e f <;> simp [cellV, xS]

/-- Along an axis: the cell is from the least to the greatest one just if its side overlaps. -/
theorem side_in {n m x : Int} (h : Side n m) (hv : voidS n m = false) : (decide (flS n ≤ x) && decide (x ≤ topS n m)) = ovS n m (x * 65536) (x * 65536 + 65536) := by
  obtain ⟨e1, e2, e3, e4, e5⟩ := side_fl h
  rw [side_void h, decide_eq_false_iff_not] at hv
  rw [side_top h, e1]
  unfold ovS
  rw [Bool.eq_iff_iff]
  simp only [Bool.and_eq_true, decide_eq_true_eq]
  split <;> constructor <;> intro <;> omega
theorem side_off {n m x : Int} (h : Side n m) (hv : voidS n m = true) : ovS n m (x * 65536) (x * 65536 + 65536) = false := by
  obtain ⟨e1, e2, e3, e4, e5⟩ := side_fl h
  rw [side_void h, decide_eq_true_eq] at hv
  unfold ovS
  rw [decide_eq_false_iff_not]
  omega
theorem good_side (a d : Int) : Side (min (fcS a) (fcS d)) (max (fcS a) (fcS d)) := by
  have h1 := fcS_bd a
  have h2 := fcS_bd d
  exact ⟨fcS_in (by omega) (by omega), fcS_in (by omega) (by omega), by omega⟩

/-- The document's box of a cell near 0. -/
theorem bx (x y z : Int) (w : World) (hx : -9 ≤ x ∧ x ≤ 8) (hy : -9 ≤ y ∧ y ≤ 8) (hz : -9 ≤ z ∧ z ≤ 8) :
    Calls Try.prog 33 #[.agg #[.int .i64 x, .int .i64 y, .int .i64 z]] w fun e w' => e = .returned (.agg #[.int .i64 (x * 65536), .int .i64 (y * 65536), .int .i64 (z * 65536), .int .i64 (x * 65536 + 65536), .int .i64 (y * 65536 + 65536), .int .i64 (z * 65536 + 65536)]) ∧ ∃ f, w' = ext w f := by
  have key : ∀ x : Int, -9 ≤ x ∧ x ≤ 8 → cutS x = x ∧ faS (x * 65536) 65536 = x * 65536 + 65536 := fun x h => by
    refine ⟨cutS_in (by omega) (by omega), ?_⟩
    unfold faS
    rw [fcS_in (n := x * 65536) (by omega) (by omega), show fcS 65536 = 65536 by decide]
    exact fcS_in (by omega) (by omega)
  have h := refbox_any x y z w
  unfold boxS at h
  rw [(key x hx).1, (key y hy).1, (key z hz).1, (key x hx).2, (key y hy).2, (key z hz).2] at h
  exact h
/-- Whether a cell is within. -/
theorem within (a b c d e f x y z : Int) (s1 : Side a d) (s2 : Side b e) (s3 : Side c f) :
    (has a b c d e f && (decide (xS (has a b c d e f) (flS a) ≤ x)) && (decide (x ≤ xS (has a b c d e f) (topS a d))) && (decide (xS (has a b c d e f) (flS b) ≤ y)) && (decide (y ≤ xS (has a b c d e f) (topS b e))) && (decide (xS (has a b c d e f) (flS c) ≤ z)) && (decide (z ≤ xS (has a b c d e f) (topS c f)))) =
      (ovS a d (x * 65536) (x * 65536 + 65536) && ovS b e (y * 65536) (y * 65536 + 65536) && ovS c f (z * 65536) (z * 65536 + 65536)) := by
  cases h1 : voidS a d
  · cases h2 : voidS b e
    · cases h3 : voidS c f
      · have h : has a b c d e f = true := by simp [has, h1, h2, h3]
        rw [h, ← side_in s1 h1, ← side_in s2 h2, ← side_in s3 h3]
        simp only [xS, if_true, Bool.true_and, Bool.and_assoc]
      · have h : has a b c d e f = false := by simp [has, h1, h2, h3]
        rw [h, side_off s3 h3]
        simp
    · have h : has a b c d e f = false := by simp [has, h1, h2]
      rw [h, side_off s2 h2]
      simp
  · have h : has a b c d e f = false := by simp [has, h1]
    rw [h, side_off s1 h1]
    simp

set_option maxRecDepth 100000 in
set_option maxHeartbeats 16000000 in
theorem walk (a b c d e f x y z : Int) (fa : Fit a) (fb : Fit b) (fc : Fit c) (fd : Fit d) (fe : Fit e) (ff : Fit f) (fx : Fit x) (fy : Fit y) (fz : Fit z) (w : World) :
    Calls Try.prog 9 #[.agg #[.int .i64 a, .int .i64 b, .int .i64 c, .int .i64 d, .int .i64 e, .int .i64 f], .agg #[.int .i64 x, .int .i64 y, .int .i64 z]] w fun e w' => e = .returned (.bool true) ∧ ∃ f, w' = ext w f := by
  have GB := fun w => goodbox_any a b c d e f w
  have SP := fun w => span_any (min (fcS a) (fcS d)) (min (fcS b) (fcS e)) (min (fcS c) (fcS f)) (max (fcS a) (fcS d)) (max (fcS b) (fcS e)) (max (fcS c) (fcS f)) w
  have RP := fun w => refspan_any _ _ _ _ _ _ w (good_side a d) (good_side b e) (good_side c f)
  rw [spanV_out] at SP RP
  have SM := fun w => small_any a b c d e f fa fb fc fd fe ff w
  have S2 := fun w => span_any (smLo a) (smLo b) (smLo c) (smHi a d) (smHi b e) (smHi c f) w
  rw [spanV_out] at S2
  obtain ⟨x1, x2⟩ := arS_bd (n := x) (m := 18) (by omega)
  obtain ⟨y1, y2⟩ := arS_bd (n := y) (m := 18) (by omega)
  obtain ⟨z1, z2⟩ := arS_bd (n := z) (m := 18) (by omega)
  have BX := fun w => bx (arS x 18 - 9) (arS y 18 - 9) (arS z 18 - 9) w (by omega) (by omega) (by omega)
  have OV := fun w => over_any (smLo a) (smLo b) (smLo c) (smHi a d) (smHi b e) (smHi c f) ((arS x 18 - 9) * 65536) ((arS y 18 - 9) * 65536) ((arS z 18 - 9) * 65536) ((arS x 18 - 9) * 65536 + 65536) ((arS y 18 - 9) * 65536 + 65536) ((arS z 18 - 9) * 65536 + 65536) w
  have WI := within (smLo a) (smLo b) (smLo c) (smHi a d) (smHi b e) (smHi c f) (arS x 18 - 9) (arS y 18 - 9) (arS z 18 - 9) (sm_side a d) (sm_side b e) (sm_side c f)
  generalize min (fcS a) (fcS d) = p1 at *
  generalize min (fcS b) (fcS e) = p2 at *
  generalize min (fcS c) (fcS f) = p3 at *
  generalize max (fcS a) (fcS d) = p4 at *
  generalize max (fcS b) (fcS e) = p5 at *
  generalize max (fcS c) (fcS f) = p6 at *
  generalize xS (has p1 p2 p3 p4 p5 p6) (flS p1) = q1 at *
  generalize xS (has p1 p2 p3 p4 p5 p6) (flS p2) = q2 at *
  generalize xS (has p1 p2 p3 p4 p5 p6) (flS p3) = q3 at *
  generalize xS (has p1 p2 p3 p4 p5 p6) (topS p1 p4) = q4 at *
  generalize xS (has p1 p2 p3 p4 p5 p6) (topS p2 p5) = q5 at *
  generalize xS (has p1 p2 p3 p4 p5 p6) (topS p3 p6) = q6 at *
  generalize has p1 p2 p3 p4 p5 p6 = q at *
  generalize smLo a = m1 at *
  generalize smLo b = m2 at *
  generalize smLo c = m3 at *
  generalize smHi a d = m4 at *
  generalize smHi b e = m5 at *
  generalize smHi c f = m6 at *
  generalize xS (has m1 m2 m3 m4 m5 m6) (flS m1) = l1 at *
  generalize xS (has m1 m2 m3 m4 m5 m6) (flS m2) = l2 at *
  generalize xS (has m1 m2 m3 m4 m5 m6) (flS m3) = l3 at *
  generalize xS (has m1 m2 m3 m4 m5 m6) (topS m1 m4) = l4 at *
  generalize xS (has m1 m2 m3 m4 m5 m6) (topS m2 m5) = l5 at *
  generalize xS (has m1 m2 m3 m4 m5 m6) (topS m3 m6) = l6 at *
  generalize has m1 m2 m3 m4 m5 m6 = l at *
  generalize (ovS m1 m4 ((arS x 18 - 9) * 65536) ((arS x 18 - 9) * 65536 + 65536) && ovS m2 m5 ((arS y 18 - 9) * 65536) ((arS y 18 - 9) * 65536 + 65536) && ovS m3 m6 ((arS z 18 - 9) * 65536) ((arS z 18 - 9) * 65536 + 65536)) = r at *
  have WH := Lib.hid WI
  clear WI fa fb fc fd fe ff
  go_enter Try.func9, Try.ntmps9
  go_wp2_with fail
  refine (GB _).mono ?_
  rintro e w1 ⟨rfl, _t, hw⟩
  have hc1 := named_cell hw
  have hz1 := named_frozen hw
  have hh1 := named_heap hw
  haveI hi1 := named_in hw
  haveI hb1 := named_below (w := w) hw
  clear hw
  go_wp2_with fail
  refine (SP _).mono ?_
  rintro e w2 ⟨rfl, _t, hw⟩
  have hc2 := named_cell hw
  have hz2 := named_frozen hw
  have hh2 := named_heap hw
  haveI hi2 := named_in hw
  haveI hb2 := named_below (w := w) hw
  clear hw
  go_wp2_with fail
  refine (RP _).mono ?_
  rintro e w3 ⟨rfl, _t, hw⟩
  have hc3 := named_cell hw
  have hz3 := named_frozen hw
  have hh3 := named_heap hw
  haveI hi3 := named_in hw
  haveI hb3 := named_below (w := w) hw
  clear hw
  go_wp2_with fail
  refine (SM _).mono ?_
  rintro e w4 ⟨rfl, _t, hw⟩
  have hc4 := named_cell hw
  have hz4 := named_frozen hw
  have hh4 := named_heap hw
  haveI hi4 := named_in hw
  haveI hb4 := named_below (w := w) hw
  clear hw
  go_wp2_with fail
  refine (S2 _).mono ?_
  rintro e w5 ⟨rfl, _t, hw⟩
  have hc5 := named_cell hw
  have hz5 := named_frozen hw
  have hh5 := named_heap hw
  haveI hi5 := named_in hw
  haveI hb5 := named_below (w := w) hw
  clear hw
  go_wp2_with fail
  refine wp_region_free_named 13 16 27 #[.int .i64 0, .int .i64 0, .int .i64 0] (by kernel_rfl) (by kernel_rfl) rfl rfl rfl rfl (by intro a W; go_simp) ?_
  simp only [List.take_succ_cons, List.take_zero, List.drop_succ_cons, List.drop_zero]
  repeat (refine wpCalm_step (fun K hK => ?_); go_simp; first | (refine hK _ ?_; clear hK K) | (apply Exists.intro; refine ⟨fun _ => ?_, hK _ ?_⟩; (first | rfl | (go_at_call 22; exact calm_same (around_fit _ _ _ (by assumption) (by omega) (by omega)))); clear hK K))
  refine wpCalm_nil ?_
  rintro w6 ⟨_t, hw⟩ w7 ⟨_t2, hw2⟩
  have hc6 := named_cell hw
  have hz6 := named_frozen hw
  have hh6 := named_heap hw
  haveI hi6 := named_in hw
  haveI hb6 := named_below (w := w) hw
  clear hw
  have hc7 := named_cell hw2
  have hz7 := named_frozen hw2
  have hh7 := named_heap hw2
  haveI hi7 := named_in hw2
  haveI hb7 := named_below (w := w) hw2
  clear hw2
  go_upto_region 9 with fail
  obtain ⟨z0, z1', z2', z3⟩ := set3 (w := w7) (b := w6.heap.size) 0 (.int .i64 (arS x 18 - 9)) (.int .i64 (arS y 18 - 9)) (.int .i64 (arS z 18 - 9)) (x0 := .int .i64 0) (x1 := .int .i64 0) (x2 := .int .i64 0) (by go_simp) (by go_simp) (by go_simp)
  clear z3
  simp only [Nat.zero_add] at z0 z1' z2'
  go_cut [17] from 66 to 108 (fun v wx => v = .bool r ∧ wx = ((w7.setCell ⟨w6.heap.size, 0, none⟩ (.int .i64 (arS x 18 - 9))).setCell ⟨w6.heap.size, 1, none⟩ (.int .i64 (arS y 18 - 9))).setCell ⟨w6.heap.size, 2, none⟩ (.int .i64 (arS z 18 - 9)))
  case first =>
    rcases l with _ | _
    · have H := Lib.hid (show r = false by rw [← WH.out]; simp)
      go_wp2_with fail
      go_meet
      exact ⟨congrArg Value.bool H.out.symm, rfl⟩
    · skip
      by_cases k0 : l1 ≤ arS x 18 - 9
      · skip
        by_cases k1 : arS x 18 - 9 ≤ l4
        · skip
          by_cases k2 : l2 ≤ arS y 18 - 9
          · skip
            by_cases k3 : arS y 18 - 9 ≤ l5
            · skip
              by_cases k4 : l3 ≤ arS z 18 - 9
              · skip
                by_cases k5 : arS z 18 - 9 ≤ l6
                · skip
                  have H := Lib.hid (show r = true by rw [← WH.out]; simp [k0, k1, k2, k3, k4, k5])
                  go_wp2_with fail
                  go_meet
                  exact ⟨congrArg Value.bool H.out.symm, rfl⟩
                · skip
                  have H := Lib.hid (show r = false by rw [← WH.out]; simp [k0, k1, k2, k3, k4, k5])
                  go_wp2_with fail
                  go_meet
                  exact ⟨congrArg Value.bool H.out.symm, rfl⟩
              · skip
                have H := Lib.hid (show r = false by rw [← WH.out]; simp [k0, k1, k2, k3, k4])
                go_wp2_with fail
                go_meet
                exact ⟨congrArg Value.bool H.out.symm, rfl⟩
            · skip
              have H := Lib.hid (show r = false by rw [← WH.out]; simp [k0, k1, k2, k3])
              go_wp2_with fail
              go_meet
              exact ⟨congrArg Value.bool H.out.symm, rfl⟩
          · skip
            have H := Lib.hid (show r = false by rw [← WH.out]; simp [k0, k1, k2])
            go_wp2_with fail
            go_meet
            exact ⟨congrArg Value.bool H.out.symm, rfl⟩
        · skip
          have H := Lib.hid (show r = false by rw [← WH.out]; simp [k0, k1])
          go_wp2_with fail
          go_meet
          exact ⟨congrArg Value.bool H.out.symm, rfl⟩
      · skip
        have H := Lib.hid (show r = false by rw [← WH.out]; simp [k0])
        go_wp2_with fail
        go_meet
        exact ⟨congrArg Value.bool H.out.symm, rfl⟩
  obtain ⟨rfl, rfl⟩ := hcut
  go_wp2_with fail
  refine wp_region_ext ?_ ?_ ?_
  · kernel_rfl
  · kernel_rfl
  repeat (go_big_quiet_step (first | (go_at_call 33; exact ext_call (BX _)) | (go_at_call 42; exact ext_call (OV _)) | (go_at_call 13; exact ext_call (lives_any _))))
  refine wpQuiet_nil ?_
  rintro w8 ⟨_t, hw⟩
  have hc8 := named_cell hw
  have hz8 := named_frozen hw
  have hh8 := named_heap hw
  haveI hi8 := named_in hw
  haveI hb8 := named_below (w := w) hw
  clear hw
  go_wp2_with fail
  go_ret
  exact ⟨rfl, grown_of⟩
set_option maxRecDepth 100000 in
theorem lifted (os : Os) (started : os.Started) (H : Type) (enc : TypeId × Value → H) :
    ReturnsInHanded {} Try.checked os 9 .any (Rows.cellSpansSpec.pre6 enc Try.prog Try.f9 Rows.cellSpansRow.domain false) (Rows.cellSpansSpec.post enc Try.prog Try.f9 false true false false) := by
  refine returnsInHanded_of_change (C := Try.checked) own started (by kernel_rfl) Try.func9
    (ChangeSpec.witness6 (enc := enc) (C := Try.checked) false ⟨#[], #[.agg #[.int .i64 0, .int .i64 0, .int .i64 0, .int .i64 0, .int .i64 0, .int .i64 0], .agg #[.int .i64 0, .int .i64 0, .int .i64 0]], []⟩ 8 (by kernel_rfl) (by kernel_rfl) (by kernel_rfl) (by kernel_rfl)) ?_
  intro W base args ds gs before hval0 hW hcnd hsz
  have hval : ∀ (j : Nat) t v, Try.f9.params[j]? = some t → args[j]? = some v → Value.okWide Try.prog W .any base t v := hval0
  have hW' := hW
  obtain ⟨p, q, hA0, hV, rfl, hfz, hnd⟩ := hW
  have hA : DataW.TrodAll enc Try.prog W 0 (fun _ => true) true Try.f9.params.toList args.toList ds p := hA0
  rw [Try.params9] at hA hval
  obtain ⟨v0, vs0, d0, ds0, p0, q0, hargs, rfl, rfl, h0, r0⟩ := trodAll_cons hA
  obtain ⟨v1, vs1, d1, ds1, p1, q1, rfl, rfl, rfl, h1, r1⟩ := trodAll_cons r0
  obtain ⟨rfl, rfl, rfl⟩ := trodAll_nil r1
  obtain rfl : args = #[v0, v1] := by cases args; simp_all
  obtain ⟨rfl, rfl⟩ := trodVars_none hV
  obtain ⟨a0, b0, c0, x0, y0, z0, rfl, fa0, fb0, fc0, fx0, fy0, fz0⟩ := open_box Try.underlying3 Try.underlying44 Try.underlying47 (by kernel_rfl) (by kernel_rfl) (by kernel_rfl) rfl rfl rfl rfl rfl rfl rfl (hval 0 47 v0 rfl rfl) h0
  obtain ⟨a1, b1, c1, rfl, fa1, fb1, fc1⟩ := open_three Try.underlying3 Try.underlying27 (by kernel_rfl) (by kernel_rfl) rfl rfl rfl (hval 1 27 v1 rfl rfl) h1
  simp only [List.append_nil] at hW'
  refine (walk a0 b0 c0 x0 y0 z0 a1 b1 c1 fa0 fb0 fc0 fx0 fy0 fz0 fa1 fb1 fc1 W).mono fun e W' ⟨he, g, hg⟩ => ?_
  subst he
  subst hg
  exact ⟨_, rfl, law_post laidOut rfl rfl (by kernel_rfl) Try.underlying4 (by rw [Try.params9]; decide +kernel) hW' (ext_below _ _)⟩

theorem over : Rows.cellSpansRow.holds Try.pinned (OpenSpec.ofChange Rows.cellSpansSpec) :=
  OpenClaim.holds_of_wide 9 Try.f9 rfl rfl rfl rfl rfl rfl rfl ⟨rfl, rfl, rfl, rfl, rfl⟩ rfl rfl rfl rfl rfl (by kernel_rfl) Try.func9 (by kernel_rfl)
    (of_decide_eq_true (by kernel_rfl)) (by unfold Func.isWrapper; first | (rw [if_pos (by decide +kernel)]; kernel_rfl) | (rw [if_neg (by decide +kernel)]; exact ⟨rfl, rfl⟩))
    (fun os started H enc _ => lifted os started H enc)

theorem proved : Rows.CellSpansSaid := over
#print axioms proved
end cellSpans
end Go.Proofs.Ytdlapfpjbcjaeaa
