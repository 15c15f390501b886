/-
  An engine with bodies: a body of it; what it looks at the world by; a free place for a body.
  Whether a cell is held: boxes that overlap; bodies in a cell.
  Whether a cell is held by one of two bodies.
-/
import Derived.Test.YtnogfelfgclajaaGreatDoorMb23
section
namespace Go.Proofs.YtnogfelfgclajaaGreatDoor
open Go.RowKit
attribute [local go_sem] ext_ext drew_ext ext_drew ext_cell ext_frozen in_lt in_le in_ne in_en in_ne1 in_en1 in_le1 in_ltn in_len in_nen in_enn size_le ite_max ite_min
set_option linter.unusedVariables false
set_option linter.unusedSimpArgs false
set_option maxRecDepth 1000000

/-- An engine's cells, with two bodies at most. -/
def engB (sm : Nat) (l0 l1 : Value) : Array Value := #[.pointer (some ⟨sm, 0, none⟩), l0, l1, .pointer none, .pointer none, .pointer none, .pointer none, .pointer none, .pointer none, .pointer none, .pointer none, .pointer none, .pointer none, .pointer none, .pointer none, .pointer none, .pointer none]
def EngB (B : Nat) (w : World) (en sm : Nat) (l0 l1 : Value) : Prop := w.heap[en]? = some (.cells (engB sm l0 l1) 69 (0, 0)) ∧ B ≤ en
theorem engB_none (sm : Nat) : engB sm (.pointer none) (.pointer none) = engCells sm := rfl
/-- A body's cells, and what it was told. -/
def lifeC (x y z : Int) (s : Bool) : Array Value := #[.int .i64 x, .int .i64 y, .int .i64 z, .int .i64 0, .int .i64 0, .int .i64 0, .int .i64 40000, .int .i64 100000, .bool s, .int .i64 0, .int .i64 0, .bool false]
def LifeAt (B : Nat) (w : World) (l : Value) (x : Int) : Prop := ∃ lp s, l = .pointer (some ⟨lp, 0, none⟩) ∧ w.heap[lp]? = some (.cells (lifeC x 1376256 557056 s) 96 (0, 0)) ∧ B ≤ lp
theorem view_any {w : World} {en sm wo t : Nat} (e0 : w.cell? ⟨en, 0, none⟩ = some (.pointer (some ⟨sm, 0, none⟩))) (s1 : w.cell? ⟨sm, 1, none⟩ = some (.pointer (some ⟨wo, 0, none⟩))) (w0 : w.cell? ⟨wo, 0, none⟩ = some (.pointer (some ⟨t, 0, none⟩))) :
    Calls Tryz.prog 153 #[.pointer (some ⟨en, 0, none⟩)] w fun e w' => e = .returned (viewOf t) ∧ w = w' := by
  haveI := in_of_cell e0
  haveI := in_of_cell s1
  haveI := in_of_cell w0
  go_enter Tryz.func153, Tryz.ntmps153
  go_wp2_with (first | (go_at_call 24; refine (simworld_any sm wo _ (by go_simp)).mono ?_; rintro e w1 ⟨rfl, rfl⟩) | (go_at_call 25; refine (worldview_any wo t _ (by go_simp)).mono ?_; rintro e w1 ⟨rfl, rfl⟩))
  go_ret
  exact ⟨rfl, rfl⟩
theorem engsim_any {w : World} {en sm : Nat} (e0 : w.cell? ⟨en, 0, none⟩ = some (.pointer (some ⟨sm, 0, none⟩))) : Calls Tryz.prog 36 #[.pointer (some ⟨en, 0, none⟩)] w fun e w' => e = .returned (.pointer (some ⟨sm, 0, none⟩)) ∧ w = w' := by
  haveI := in_of_cell e0
  go_enter Tryz.func36, Tryz.ntmps36
  go_wp2
  go_ret
  exact ⟨rfl, rfl⟩
theorem lifeindex0 {w : World} {en : Nat} (h0 : w.cell? ⟨en, 1, none⟩ = some (.pointer none)) :
    Calls Tryz.prog 149 #[.slice (some ⟨en, 1, none⟩) 16 16, .pointer none] w fun e w' => e = .returned (.int .i64 0) ∧ ∃ f, w' = ext w f := by
  haveI := in_of_cell h0
  go_enter Tryz.func149, Tryz.ntmps149
  go_wp2_with fail
  refine wp_loop_rounds 2 ?_
  rw [rounds_succ]
  go_wp2_with fail
  go_ret
  exact ⟨rfl, ⟨id, by unfold ext; split <;> rfl⟩⟩
theorem lifeindex1 {w : World} {en lp : Nat} (h0 : w.cell? ⟨en, 1, none⟩ = some (.pointer (some ⟨lp, 0, none⟩))) (h1 : w.cell? ⟨en, 2, none⟩ = some (.pointer none)) :
    Calls Tryz.prog 149 #[.slice (some ⟨en, 1, none⟩) 16 16, .pointer none] w fun e w' => e = .returned (.int .i64 1) ∧ ∃ f, w' = ext w f := by
  haveI := in_of_cell h0
  have peq : ∀ W, (binOp .eql 66 (.pointer none) (.pointer (some ⟨lp, 0, none⟩))).run Tryz.prog W = .ok (.bool false) W := fun W => by kernel_rfl
  go_enter Tryz.func149, Tryz.ntmps149
  go_wp2_with fail
  refine wp_loop_rounds 3 ?_
  rw [rounds_succ]
  go_wp2_with fail
  rw [rounds_succ]
  go_wp2_with fail
  go_ret
  exact ⟨rfl, ⟨id, by unfold ext; split <;> rfl⟩⟩
theorem at0_any {w : World} {en : Nat} {v : Option Addr} (h : w.cell? ⟨en, 1, none⟩ = some (.pointer v)) : Calls Tryz.prog 38 #[.pointer (some ⟨en, 0, none⟩), .int .i64 0] w fun e w' => e = .returned (.pointer v) ∧ w = w' := by
  haveI := in_of_cell h
  go_enter Tryz.func38, Tryz.ntmps38
  go_wp2
  go_ret
  exact ⟨rfl, rfl⟩
theorem at1_any {w : World} {en : Nat} {v : Option Addr} (h : w.cell? ⟨en, 2, none⟩ = some (.pointer v)) : Calls Tryz.prog 38 #[.pointer (some ⟨en, 0, none⟩), .int .i64 1] w fun e w' => e = .returned (.pointer v) ∧ w = w' := by
  haveI := in_of_cell h
  go_enter Tryz.func38, Tryz.ntmps38
  go_wp2
  go_ret
  exact ⟨rfl, rfl⟩
set_option maxHeartbeats 1000000 in
theorem body_any {w : World} {en lp : Nat} (k : Int) (x y z : Int) (s : Bool) (hat : ∀ W, Below w.heap.size w W → Calls Tryz.prog 38 #[.pointer (some ⟨en, 0, none⟩), .int .i64 k] W fun e w' => e = .returned (.pointer (some ⟨lp, 0, none⟩)) ∧ W = w') (hl : w.heap[lp]? = some (.cells (lifeC x y z s) 96 (0, 0))) :
    Calls Tryz.prog 20 #[.pointer (some ⟨en, 0, none⟩), .int .i64 k] w fun e w' => e = .returned (.tuple #[.agg (bodyV x y z s), .bool true]) ∧ ∃ f, w' = ext w f := by
  have AT := Lib.hid hat
  have c0 := cell_of_block (i := 0) hl rfl
  have c1 := cell_of_block (i := 1) hl rfl
  have c2 := cell_of_block (i := 2) hl rfl
  have c3 := cell_of_block (i := 3) hl rfl
  have c4 := cell_of_block (i := 4) hl rfl
  have c5 := cell_of_block (i := 5) hl rfl
  have c6 := cell_of_block (i := 6) hl rfl
  have c7 := cell_of_block (i := 7) hl rfl
  have c8 := cell_of_block (i := 8) hl rfl
  haveI := in_of_cell c0
  unfold lifeC at c0 c1 c2 c3 c4 c5 c6 c7 c8
  unfold bodyV
  clear hat hl
  go_enter Tryz.func20, Tryz.ntmps20
  go_wp2_with (go_at_call 38; refine (AT.out _ (by exact grown_now)).mono ?_; rintro e w1 ⟨rfl, rfl⟩)
  refine bodyPost_ret (by simp [results, Tryz.results20, go_sem]; try rfl) rfl ?_
  exact ⟨rfl, grown_of⟩
#print axioms body_any
end Go.Proofs.YtnogfelfgclajaaGreatDoor
end

section
namespace Go.Proofs.YtnogfelfgclajaaGreatDoor
open Go.RowKit
attribute [local go_sem] ext_ext drew_ext ext_drew ext_cell ext_frozen in_lt in_le in_ne in_en in_ne1 in_en1 in_le1 in_ltn in_len in_nen in_enn size_le ite_max ite_min
set_option linter.unusedVariables false
set_option linter.unusedSimpArgs false
set_option maxRecDepth 1000000

/-- Two sides overlap: from a to b, from c to d. -/
def ovS (a b c d : Int) : Bool := decide (a < d) && decide (c < b)
set_option maxHeartbeats 2000000 in
theorem ovl0 (a b c d e f p q r s t u : Int) (g h : Nat) (w : World) (hg : w.heap[g]? = some (.cells #[.int .i64 a, .int .i64 b, .int .i64 c, .int .i64 d, .int .i64 e, .int .i64 f] 57 (0, 0))) (hh : w.heap[h]? = some (.cells #[.int .i64 p, .int .i64 q, .int .i64 r, .int .i64 s, .int .i64 t, .int .i64 u] 57 (0, 0))) :
    Calls Tryz.prog 262 #[.int .i64 0, .pointer (some ⟨g, 0, none⟩), .pointer (some ⟨h, 0, none⟩)] w fun o w' => o = .returned (.bool (ovS a d p s)) ∧ ∃ f, w' = ext w f := by
  have g0 := cell_of_block (i := 0) hg rfl
  have g1 := cell_of_block (i := 1) hg rfl
  have g2 := cell_of_block (i := 2) hg rfl
  have g3 := cell_of_block (i := 3) hg rfl
  have g4 := cell_of_block (i := 4) hg rfl
  have g5 := cell_of_block (i := 5) hg rfl
  have h0 := cell_of_block (i := 0) hh rfl
  have h1 := cell_of_block (i := 1) hh rfl
  have h2 := cell_of_block (i := 2) hh rfl
  have h3 := cell_of_block (i := 3) hh rfl
  have h4 := cell_of_block (i := 4) hh rfl
  have h5 := cell_of_block (i := 5) hh rfl
  haveI := in_of_cell g0
  haveI := in_of_cell h0
  clear hg hh
  by_cases h1 : a < s
  · by_cases h2 : p < d
    · have HO := Lib.hid (show ovS a d p s = true by simp [ovS, h1, h2])
      go_enter Tryz.func262, Tryz.ntmps262
      go_wp2_with fail
      refine wp_region_ext ?_ ?_ ?_
      · kernel_rfl
      · kernel_rfl
      repeat (go_big_quiet_step (first | (go_at_call 263; exact ext_call (axis0_any _ _ _ _))))
      refine wpQuiet_nil ?_
      rintro w1 ⟨_t, hw⟩
      have hc1 := named_cell hw
      have hz1 := named_frozen hw
      have hh1 := named_heap hw
      haveI hi1 := named_in hw
      haveI hb1 := named_below (w := w) hw
      clear hw
      go_wp2_with fail
      go_ret
      exact ⟨ret_boolv HO.out.symm, grown_of⟩
    · have HO := Lib.hid (show ovS a d p s = false by simp [ovS, h2])
      have g2 : decide (p < d) = false := decide_eq_false h2
      go_enter Tryz.func262, Tryz.ntmps262
      go_wp2_with fail
      refine wp_region_ext ?_ ?_ ?_
      · kernel_rfl
      · kernel_rfl
      repeat (go_big_quiet_step (first | (go_at_call 263; exact ext_call (axis0_any _ _ _ _))))
      refine wpQuiet_nil ?_
      rintro w1 ⟨_t, hw⟩
      have hc1 := named_cell hw
      have hz1 := named_frozen hw
      have hh1 := named_heap hw
      haveI hi1 := named_in hw
      haveI hb1 := named_below (w := w) hw
      clear hw
      go_wp2_with fail
      go_ret
      exact ⟨ret_boolv HO.out.symm, grown_of⟩
  · have HO := Lib.hid (show ovS a d p s = false by simp [ovS, h1])
    have g1 : decide (a < s) = false := decide_eq_false h1
    go_enter Tryz.func262, Tryz.ntmps262
    go_wp2_with fail
    refine wp_region_ext ?_ ?_ ?_
    · kernel_rfl
    · kernel_rfl
    repeat (go_big_quiet_step (first | (go_at_call 263; exact ext_call (axis0_any _ _ _ _))))
    refine wpQuiet_nil ?_
    rintro w1 ⟨_t, hw⟩
    have hc1 := named_cell hw
    have hz1 := named_frozen hw
    have hh1 := named_heap hw
    haveI hi1 := named_in hw
    haveI hb1 := named_below (w := w) hw
    clear hw
    go_wp2_with fail
    go_ret
    exact ⟨ret_boolv HO.out.symm, grown_of⟩
set_option maxHeartbeats 2000000 in
theorem ovl1 (a b c d e f p q r s t u : Int) (g h : Nat) (w : World) (hg : w.heap[g]? = some (.cells #[.int .i64 a, .int .i64 b, .int .i64 c, .int .i64 d, .int .i64 e, .int .i64 f] 57 (0, 0))) (hh : w.heap[h]? = some (.cells #[.int .i64 p, .int .i64 q, .int .i64 r, .int .i64 s, .int .i64 t, .int .i64 u] 57 (0, 0))) :
    Calls Tryz.prog 262 #[.int .i64 1, .pointer (some ⟨g, 0, none⟩), .pointer (some ⟨h, 0, none⟩)] w fun o w' => o = .returned (.bool (ovS b e q t)) ∧ ∃ f, w' = ext w f := by
  have g0 := cell_of_block (i := 0) hg rfl
  have g1 := cell_of_block (i := 1) hg rfl
  have g2 := cell_of_block (i := 2) hg rfl
  have g3 := cell_of_block (i := 3) hg rfl
  have g4 := cell_of_block (i := 4) hg rfl
  have g5 := cell_of_block (i := 5) hg rfl
  have h0 := cell_of_block (i := 0) hh rfl
  have h1 := cell_of_block (i := 1) hh rfl
  have h2 := cell_of_block (i := 2) hh rfl
  have h3 := cell_of_block (i := 3) hh rfl
  have h4 := cell_of_block (i := 4) hh rfl
  have h5 := cell_of_block (i := 5) hh rfl
  haveI := in_of_cell g0
  haveI := in_of_cell h0
  clear hg hh
  by_cases h1 : b < t
  · by_cases h2 : q < e
    · have HO := Lib.hid (show ovS b e q t = true by simp [ovS, h1, h2])
      go_enter Tryz.func262, Tryz.ntmps262
      go_wp2_with fail
      refine wp_region_ext ?_ ?_ ?_
      · kernel_rfl
      · kernel_rfl
      repeat (go_big_quiet_step (first | (go_at_call 263; exact ext_call (axis1_any _ _ _ _))))
      refine wpQuiet_nil ?_
      rintro w1 ⟨_t, hw⟩
      have hc1 := named_cell hw
      have hz1 := named_frozen hw
      have hh1 := named_heap hw
      haveI hi1 := named_in hw
      haveI hb1 := named_below (w := w) hw
      clear hw
      go_wp2_with fail
      go_ret
      exact ⟨ret_boolv HO.out.symm, grown_of⟩
    · have HO := Lib.hid (show ovS b e q t = false by simp [ovS, h2])
      have g2 : decide (q < e) = false := decide_eq_false h2
      go_enter Tryz.func262, Tryz.ntmps262
      go_wp2_with fail
      refine wp_region_ext ?_ ?_ ?_
      · kernel_rfl
      · kernel_rfl
      repeat (go_big_quiet_step (first | (go_at_call 263; exact ext_call (axis1_any _ _ _ _))))
      refine wpQuiet_nil ?_
      rintro w1 ⟨_t, hw⟩
      have hc1 := named_cell hw
      have hz1 := named_frozen hw
      have hh1 := named_heap hw
      haveI hi1 := named_in hw
      haveI hb1 := named_below (w := w) hw
      clear hw
      go_wp2_with fail
      go_ret
      exact ⟨ret_boolv HO.out.symm, grown_of⟩
  · have HO := Lib.hid (show ovS b e q t = false by simp [ovS, h1])
    have g1 : decide (b < t) = false := decide_eq_false h1
    go_enter Tryz.func262, Tryz.ntmps262
    go_wp2_with fail
    refine wp_region_ext ?_ ?_ ?_
    · kernel_rfl
    · kernel_rfl
    repeat (go_big_quiet_step (first | (go_at_call 263; exact ext_call (axis1_any _ _ _ _))))
    refine wpQuiet_nil ?_
    rintro w1 ⟨_t, hw⟩
    have hc1 := named_cell hw
    have hz1 := named_frozen hw
    have hh1 := named_heap hw
    haveI hi1 := named_in hw
    haveI hb1 := named_below (w := w) hw
    clear hw
    go_wp2_with fail
    go_ret
    exact ⟨ret_boolv HO.out.symm, grown_of⟩
set_option maxHeartbeats 2000000 in
theorem ovl2 (a b c d e f p q r s t u : Int) (g h : Nat) (w : World) (hg : w.heap[g]? = some (.cells #[.int .i64 a, .int .i64 b, .int .i64 c, .int .i64 d, .int .i64 e, .int .i64 f] 57 (0, 0))) (hh : w.heap[h]? = some (.cells #[.int .i64 p, .int .i64 q, .int .i64 r, .int .i64 s, .int .i64 t, .int .i64 u] 57 (0, 0))) :
    Calls Tryz.prog 262 #[.int .i64 2, .pointer (some ⟨g, 0, none⟩), .pointer (some ⟨h, 0, none⟩)] w fun o w' => o = .returned (.bool (ovS c f r u)) ∧ ∃ f, w' = ext w f := by
  have g0 := cell_of_block (i := 0) hg rfl
  have g1 := cell_of_block (i := 1) hg rfl
  have g2 := cell_of_block (i := 2) hg rfl
  have g3 := cell_of_block (i := 3) hg rfl
  have g4 := cell_of_block (i := 4) hg rfl
  have g5 := cell_of_block (i := 5) hg rfl
  have h0 := cell_of_block (i := 0) hh rfl
  have h1 := cell_of_block (i := 1) hh rfl
  have h2 := cell_of_block (i := 2) hh rfl
  have h3 := cell_of_block (i := 3) hh rfl
  have h4 := cell_of_block (i := 4) hh rfl
  have h5 := cell_of_block (i := 5) hh rfl
  haveI := in_of_cell g0
  haveI := in_of_cell h0
  clear hg hh
  by_cases h1 : c < u
  · by_cases h2 : r < f
    · have HO := Lib.hid (show ovS c f r u = true by simp [ovS, h1, h2])
      go_enter Tryz.func262, Tryz.ntmps262
      go_wp2_with fail
      refine wp_region_ext ?_ ?_ ?_
      · kernel_rfl
      · kernel_rfl
      repeat (go_big_quiet_step (first | (go_at_call 263; exact ext_call (axis2_any _ _ _ _))))
      refine wpQuiet_nil ?_
      rintro w1 ⟨_t, hw⟩
      have hc1 := named_cell hw
      have hz1 := named_frozen hw
      have hh1 := named_heap hw
      haveI hi1 := named_in hw
      haveI hb1 := named_below (w := w) hw
      clear hw
      go_wp2_with fail
      go_ret
      exact ⟨ret_boolv HO.out.symm, grown_of⟩
    · have HO := Lib.hid (show ovS c f r u = false by simp [ovS, h2])
      have g2 : decide (r < f) = false := decide_eq_false h2
      go_enter Tryz.func262, Tryz.ntmps262
      go_wp2_with fail
      refine wp_region_ext ?_ ?_ ?_
      · kernel_rfl
      · kernel_rfl
      repeat (go_big_quiet_step (first | (go_at_call 263; exact ext_call (axis2_any _ _ _ _))))
      refine wpQuiet_nil ?_
      rintro w1 ⟨_t, hw⟩
      have hc1 := named_cell hw
      have hz1 := named_frozen hw
      have hh1 := named_heap hw
      haveI hi1 := named_in hw
      haveI hb1 := named_below (w := w) hw
      clear hw
      go_wp2_with fail
      go_ret
      exact ⟨ret_boolv HO.out.symm, grown_of⟩
  · have HO := Lib.hid (show ovS c f r u = false by simp [ovS, h1])
    have g1 : decide (c < u) = false := decide_eq_false h1
    go_enter Tryz.func262, Tryz.ntmps262
    go_wp2_with fail
    refine wp_region_ext ?_ ?_ ?_
    · kernel_rfl
    · kernel_rfl
    repeat (go_big_quiet_step (first | (go_at_call 263; exact ext_call (axis2_any _ _ _ _))))
    refine wpQuiet_nil ?_
    rintro w1 ⟨_t, hw⟩
    have hc1 := named_cell hw
    have hz1 := named_frozen hw
    have hh1 := named_heap hw
    haveI hi1 := named_in hw
    haveI hb1 := named_below (w := w) hw
    clear hw
    go_wp2_with fail
    go_ret
    exact ⟨ret_boolv HO.out.symm, grown_of⟩
set_option maxHeartbeats 2000000 in
theorem all_any (w : World) (g h : Nat) (x y z : Bool) (H0 : ∀ W, Below w.heap.size w W → Calls Tryz.prog 262 #[.int .i64 0, .pointer (some ⟨g, 0, none⟩), .pointer (some ⟨h, 0, none⟩)] W fun o w' => o = .returned (.bool x) ∧ ∃ f, w' = ext W f)
    (H1 : ∀ W, Below w.heap.size w W → Calls Tryz.prog 262 #[.int .i64 1, .pointer (some ⟨g, 0, none⟩), .pointer (some ⟨h, 0, none⟩)] W fun o w' => o = .returned (.bool y) ∧ ∃ f, w' = ext W f)
    (H2 : ∀ W, Below w.heap.size w W → Calls Tryz.prog 262 #[.int .i64 2, .pointer (some ⟨g, 0, none⟩), .pointer (some ⟨h, 0, none⟩)] W fun o w' => o = .returned (.bool z) ∧ ∃ f, w' = ext W f) :
    Calls Tryz.prog 261 #[.func (.func 262) #[] #[.pointer (some ⟨g, 0, none⟩), .pointer (some ⟨h, 0, none⟩)]] w fun o w' => o = .returned (.bool (x && y && z)) ∧ ∃ f, w' = ext w f := by
  have eg : ∀ args W, (callFunc 262 args).run Tryz.prog W = .ok (.enter 262 args) W := fun args W => by kernel_rfl
  have O0 := Lib.hid H0
  have O1 := Lib.hid H1
  have O2 := Lib.hid H2
  clear H0 H1 H2
  cases x
  · go_enter Tryz.func261, Tryz.ntmps261
    go_wp2_with fail
    refine wp_loop_rounds 4 ?_
    rw [rounds_succ]
    go_wp2_with fail
    refine (O0.out _ (by first | exact Below.refl _ _ | exact grown_now)).mono ?_
    rintro e w1 ⟨rfl, _t, hw⟩
    have hc1 := named_cell hw
    have hz1 := named_frozen hw
    have hh1 := named_heap hw
    haveI hi1 := named_in hw
    haveI hb1 := named_below (w := w) hw
    clear hw
    go_wp2_with fail
    go_ret
    exact ⟨rfl, grown_of⟩
  cases y
  · go_enter Tryz.func261, Tryz.ntmps261
    go_wp2_with fail
    refine wp_loop_rounds 4 ?_
    rw [rounds_succ]
    go_wp2_with fail
    refine (O0.out _ (by first | exact Below.refl _ _ | exact grown_now)).mono ?_
    rintro e w1 ⟨rfl, _t, hw⟩
    have hc1 := named_cell hw
    have hz1 := named_frozen hw
    have hh1 := named_heap hw
    haveI hi1 := named_in hw
    haveI hb1 := named_below (w := w) hw
    clear hw
    go_wp2_with fail
    rw [rounds_succ]
    go_wp2_with fail
    refine (O1.out _ (by exact grown_now)).mono ?_
    rintro e w2 ⟨rfl, _t, hw⟩
    haveI hb2_1 := named_below (w := w1) hw
    have hc2 := named_cell hw
    have hz2 := named_frozen hw
    have hh2 := named_heap hw
    haveI hi2 := named_in hw
    haveI hb2 := named_below (w := w) hw
    clear hw
    go_wp2_with fail
    go_ret
    exact ⟨rfl, grown_of⟩
  cases z
  all_goals
    go_enter Tryz.func261, Tryz.ntmps261
    go_wp2_with fail
    refine wp_loop_rounds 4 ?_
    rw [rounds_succ]
    go_wp2_with fail
    refine (O0.out _ (by first | exact Below.refl _ _ | exact grown_now)).mono ?_
    rintro e w1 ⟨rfl, _t, hw⟩
    have hc1 := named_cell hw
    have hz1 := named_frozen hw
    have hh1 := named_heap hw
    haveI hi1 := named_in hw
    haveI hb1 := named_below (w := w) hw
    clear hw
    go_wp2_with fail
    rw [rounds_succ]
    go_wp2_with fail
    refine (O1.out _ (by exact grown_now)).mono ?_
    rintro e w2 ⟨rfl, _t, hw⟩
    haveI hb2_1 := named_below (w := w1) hw
    have hc2 := named_cell hw
    have hz2 := named_frozen hw
    have hh2 := named_heap hw
    haveI hi2 := named_in hw
    haveI hb2 := named_below (w := w) hw
    clear hw
    go_wp2_with fail
    rw [rounds_succ]
    go_wp2_with fail
    refine (O2.out _ (by exact grown_now)).mono ?_
    rintro e w3 ⟨rfl, _t, hw⟩
    haveI hb3_1 := named_below (w := w1) hw
    haveI hb3_2 := named_below (w := w2) hw
    have hc3 := named_cell hw
    have hz3 := named_frozen hw
    have hh3 := named_heap hw
    haveI hi3 := named_in hw
    haveI hb3 := named_below (w := w) hw
    clear hw
    go_wp2_with fail
    try rw [rounds_succ]
    try go_wp2_with fail
    go_ret
    exact ⟨rfl, grown_of⟩
set_option maxHeartbeats 2000000 in
theorem overlap_any (a b c d e f p q r s t u : Int) (w : World) :
    Calls Tryz.prog 205 #[.agg #[.int .i64 a, .int .i64 b, .int .i64 c, .int .i64 d, .int .i64 e, .int .i64 f], .agg #[.int .i64 p, .int .i64 q, .int .i64 r, .int .i64 s, .int .i64 t, .int .i64 u]] w fun o w' => o = .returned (.bool (ovS a d p s && ovS b e q t && ovS c f r u)) ∧ ∃ f, w' = ext w f := by
  have hmf : ∀ (fn : Fn) (first cap : Array Value) (w : World), (Instr.makeFunc fn first cap).run Tryz.prog w = .ok (.func fn first cap) w := fun _ _ _ _ => rfl
  have eg : ∀ args W, (callFunc 262 args).run Tryz.prog W = .ok (.enter 262 args) W := fun args W => by kernel_rfl
  go_enter Tryz.func205, Tryz.ntmps205
  go_wp2_with fail
  have G := Lib.hid (heap_alloc_new w (.cells #[.int .i64 a, .int .i64 b, .int .i64 c, .int .i64 d, .int .i64 e, .int .i64 f] 57))
  have B0 := Lib.hid ((Below.refl w.heap.size w).alloc (Nat.le_refl _) (.cells #[.int .i64 a, .int .i64 b, .int .i64 c, .int .i64 d, .int .i64 e, .int .i64 f] 57))
  have z0 : (w.alloc (.cells #[.int .i64 a, .int .i64 b, .int .i64 c, .int .i64 d, .int .i64 e, .int .i64 f] 57)).heap.size = w.heap.size + 1 := World.size_alloc ..
  generalize w.alloc (.cells #[.int .i64 a, .int .i64 b, .int .i64 c, .int .i64 d, .int .i64 e, .int .i64 f] 57) = w0 at *
  have H := Lib.hid (heap_alloc_new w0 (.cells #[.int .i64 p, .int .i64 q, .int .i64 r, .int .i64 s, .int .i64 t, .int .i64 u] 57))
  have G1 := Lib.hid ((heap_alloc_old w0 (.cells #[.int .i64 p, .int .i64 q, .int .i64 r, .int .i64 s, .int .i64 t, .int .i64 u] 57) (lt_of_block G.out)).trans G.out)
  have B1 := Lib.hid (B0.out.alloc B0.out.size (.cells #[.int .i64 p, .int .i64 q, .int .i64 r, .int .i64 s, .int .i64 t, .int .i64 u] 57))
  generalize w0.alloc (.cells #[.int .i64 p, .int .i64 q, .int .i64 r, .int .i64 s, .int .i64 t, .int .i64 u] 57) = w1 at *
  clear G B0
  rw [z0] at H
  clear z0
  obtain ⟨gb, hgb⟩ : ∃ b, w.heap.size = b := ⟨_, rfl⟩
  rw [hgb] at G1 H
  rw [hgb]
  clear hgb
  have O0 := Lib.hid (fun W (hW : Below w1.heap.size w1 W) => ovl0 a b c d e f p q r s t u gb (gb + 1) W ((hW.block _ (lt_of_block G1.out)).trans G1.out) ((hW.block _ (lt_of_block H.out)).trans H.out))
  have O1 := Lib.hid (fun W (hW : Below w1.heap.size w1 W) => ovl1 a b c d e f p q r s t u gb (gb + 1) W ((hW.block _ (lt_of_block G1.out)).trans G1.out) ((hW.block _ (lt_of_block H.out)).trans H.out))
  have O2 := Lib.hid (fun W (hW : Below w1.heap.size w1 W) => ovl2 a b c d e f p q r s t u gb (gb + 1) W ((hW.block _ (lt_of_block G1.out)).trans G1.out) ((hW.block _ (lt_of_block H.out)).trans H.out))
  have B1' := B1.out
  clear G1 H B1
  have AL := Lib.hid (all_any w1 gb (gb + 1) (ovS a d p s) (ovS b e q t) (ovS c f r u) O0.out O1.out O2.out)
  clear O0 O1 O2
  obtain ⟨ov, hov⟩ : ∃ ov, (ovS a d p s && ovS b e q t && ovS c f r u) = ov := ⟨_, rfl⟩
  rw [hov] at AL
  have HOV := Lib.hid hov
  clear hov
  refine AL.out.mono ?_
  rintro o w2 ⟨rfl, _t, hw⟩
  have B2 := Lib.hid (show Below w1.heap.size w1 w2 by rw [hw]; exact ext_below w1 _t)
  clear hw AL
  go_wp2_with fail
  go_ret
  exact ⟨ret_boolv HOV.out.symm, ext_of (B1'.trans (B2.out.mono B1'.size))⟩
#print axioms overlap_any
end Go.Proofs.YtnogfelfgclajaaGreatDoor
end

section
namespace Go.Proofs.YtnogfelfgclajaaGreatDoor
open Go.RowKit
attribute [local go_sem] ext_ext drew_ext ext_drew ext_cell ext_frozen in_lt in_le in_ne in_en in_ne1 in_en1 in_le1 in_ltn in_len in_nen in_enn size_le ite_max ite_min
set_option linter.unusedVariables false
set_option linter.unusedSimpArgs false
set_option maxRecDepth 1000000

/-- Does a body at X hold a cell? -/
def heldS (X x y z : Int) : Bool :=
  ovS (fsS X 20000) (faS X 20000) (cutS x * 65536) (faS (cutS x * 65536) 65536) && ovS (fsS 1376256 0) (faS 1376256 100000) (cutS y * 65536) (faS (cutS y * 65536) 65536) && ovS (fsS 557056 20000) (faS 557056 20000) (cutS z * 65536) (faS (cutS z * 65536) 65536)
theorem heldS_in {X cx : Int} (h : Two X cx) : heldS X cx 21 8 = true ∧ heldS X cx 22 8 = true := by
  rcases h with ⟨rfl, rfl⟩ | ⟨rfl, rfl⟩ <;> exact ⟨by decide +kernel, by decide +kernel⟩
set_option maxHeartbeats 2000000 in
theorem held1_body {w : World} {lp bb : Nat} (X : Int) (s : Bool) (x y z : Int) (hl : w.heap[lp]? = some (.cells (lifeC X 1376256 557056 s) 96 (0, 0))) (hb : w.heap[bb]? = some (.cells (boxS x y z) 57 (0, 0))) :
    Calls Tryz.prog 204 #[.pointer (some ⟨lp, 0, none⟩), .pointer (some ⟨bb, 0, none⟩)] w fun e w' => e = .returned (.bool (heldS X x y z)) ∧ ∃ f, w' = ext w f := by
  unfold lifeC at hl
  unfold boxS at hb
  have c0 := cell_of_block (i := 0) hl rfl
  have c1 := cell_of_block (i := 1) hl rfl
  have c2 := cell_of_block (i := 2) hl rfl
  have c3 := cell_of_block (i := 3) hl rfl
  have c4 := cell_of_block (i := 4) hl rfl
  have c5 := cell_of_block (i := 5) hl rfl
  have c6 := cell_of_block (i := 6) hl rfl
  have c7 := cell_of_block (i := 7) hl rfl
  have c8 := cell_of_block (i := 8) hl rfl
  have b0 := cell_of_block (i := 0) hb rfl
  have b1 := cell_of_block (i := 1) hb rfl
  have b2 := cell_of_block (i := 2) hb rfl
  have b3 := cell_of_block (i := 3) hb rfl
  have b4 := cell_of_block (i := 4) hb rfl
  have b5 := cell_of_block (i := 5) hb rfl
  haveI := in_of_cell c0
  haveI := in_of_cell b0
  have peq : ∀ W, (binOp .neq 66 (.pointer (some ⟨lp, 0, none⟩)) (.pointer none)).run Tryz.prog W = .ok (.bool true) W := fun W => by kernel_rfl
  have BX := Lib.hid (fun W => bodybox_any X 1376256 557056 s W)
  have OV := Lib.hid (fun W => overlap_any (fsS X 20000) (fsS 1376256 0) (fsS 557056 20000) (faS X 20000) (faS 1376256 100000) (faS 557056 20000) (cutS x * 65536) (cutS y * 65536) (cutS z * 65536) (faS (cutS x * 65536) 65536) (faS (cutS y * 65536) 65536) (faS (cutS z * 65536) 65536) W)
  unfold bodyV standS at BX
  obtain ⟨hh, hhh⟩ : ∃ h, heldS X x y z = h := ⟨_, rfl⟩
  have HH := Lib.hid hhh
  have OV2 := Lib.hid (fun W => (show Calls Tryz.prog 205 #[.agg #[.int .i64 (fsS X 20000), .int .i64 (fsS 1376256 0), .int .i64 (fsS 557056 20000), .int .i64 (faS X 20000), .int .i64 (faS 1376256 100000), .int .i64 (faS 557056 20000)], .agg #[.int .i64 (cutS x * 65536), .int .i64 (cutS y * 65536), .int .i64 (cutS z * 65536), .int .i64 (faS (cutS x * 65536) 65536), .int .i64 (faS (cutS y * 65536) 65536), .int .i64 (faS (cutS z * 65536) 65536)]] W fun o w' => o = .returned (.bool hh) ∧ ∃ f, w' = ext W f from hhh ▸ OV.out W))
  clear OV hl hb hhh
  go_enter Tryz.func204, Tryz.ntmps204
  go_wp2_with fail
  refine wp_region_ext ?_ ?_ ?_
  · kernel_rfl
  · kernel_rfl
  repeat (go_big_quiet_step (first | (go_at_call 154; exact ext_call (BX.out _)) | (go_at_call 205; exact ext_call (OV2.out _))))
  refine wpQuiet_nil ?_
  rintro w1 ⟨_t, hw⟩
  have hc1 := named_cell hw
  have hz1 := named_frozen hw
  have hh1 := named_heap hw
  haveI hi1 := named_in hw
  haveI hb1 := named_below (w := w) hw
  clear hw
  go_wp2_with fail
  go_ret
  exact ⟨ret_boolv HH.out.symm, grown_of⟩
/-- Two bodies are there. -/
structure Lives (B : Nat) (w : World) (en sm : Nat) (l0 l1 : Nat) (X0 X1 : Int) : Prop where
  eng : EngB B w en sm (.pointer (some ⟨l0, 0, none⟩)) (.pointer (some ⟨l1, 0, none⟩))
  a : ∃ s, w.heap[l0]? = some (.cells (lifeC X0 1376256 557056 s) 96 (0, 0))
  alo : B ≤ l0
  b : ∃ s, w.heap[l1]? = some (.cells (lifeC X1 1376256 557056 s) 96 (0, 0))
  blo : B ≤ l1
theorem Lives.turn {F : Nat → Prop} {B : Nat} {w W : World} {en sm l0 l1 : Nat} {X0 X1 : Int} (h : Lives B w en sm l0 l1 X0 X1) (hT : Turn F w W) (hF : ∀ g c T fz, w.heap[g]? = some (.cells c T fz) → T ∈ [69, 96] → ¬ F g) : Lives B W en sm l0 l1 X0 X1 := by
  obtain ⟨s0, h0⟩ := h.a
  obtain ⟨s1, h1⟩ := h.b
  exact ⟨⟨(hT.block _ (lt_of_block h.eng.1) (hF _ _ _ _ h.eng.1 (by simp))).trans h.eng.1, h.eng.2⟩, ⟨s0, (hT.block _ (lt_of_block h0) (hF _ _ _ _ h0 (by simp))).trans h0⟩, h.alo, ⟨s1, (hT.block _ (lt_of_block h1) (hF _ _ _ _ h1 (by simp))).trans h1⟩, h.blo⟩
theorem Lives.grown {B : Nat} {w W : World} {en sm l0 l1 : Nat} {X0 X1 : Int} (h : Lives B w en sm l0 l1 X0 X1) (hW : Below w.heap.size w W) : Lives B W en sm l0 l1 X0 X1 := h.turn (turn_below (F := fun _ => False) hW) (fun _ _ _ _ _ _ => id)
theorem Lives.cells {B : Nat} {w : World} {en sm l0 l1 : Nat} {X0 X1 : Int} (h : Lives B w en sm l0 l1 X0 X1) : w.cell? ⟨en, 0, none⟩ = some (.pointer (some ⟨sm, 0, none⟩)) ∧ w.cell? ⟨en, 1, none⟩ = some (.pointer (some ⟨l0, 0, none⟩)) ∧ w.cell? ⟨en, 2, none⟩ = some (.pointer (some ⟨l1, 0, none⟩)) ∧ ∀ k, 2 ≤ k → k < 16 → w.cell? ⟨en, 1 + k, none⟩ = some (.pointer none) := by
  refine ⟨cell_of_block (i := 0) h.eng.1 rfl, cell_of_block (i := 1) h.eng.1 rfl, cell_of_block (i := 2) h.eng.1 rfl, fun k h2 hk => cell_of_block (i := 1 + k) h.eng.1 ?_⟩
  rcases k with _ | _ | _ | _ | _ | _ | _ | _ | _ | _ | _ | _ | _ | _ | _ | _ | k
  all_goals first | rfl | omega
set_option maxHeartbeats 4000000 in
theorem lifeix_two {B : Nat} {w : World} {en sm l0 l1 bb : Nat} {X0 X1 : Int} (h : Lives B w en sm l0 l1 X0 X1) (x y z : Int) (hb : w.heap[bb]? = some (.cells (boxS x y z) 57 (0, 0))) :
    Calls Tryz.prog 260 #[.slice (some ⟨en, 1, none⟩) 16 16, .func (.func 204) #[] #[.pointer (some ⟨bb, 0, none⟩)]] w fun e w' => (∃ r : Int, e = .returned (.int .i64 r) ∧ decide (0 ≤ r) = (heldS X0 x y z || heldS X1 x y z)) ∧ ∃ f, w' = ext w f := by
  have eg : ∀ args W, (callFunc 204 args).run Tryz.prog W = .ok (.enter 204 args) W := fun args W => by kernel_rfl
  obtain ⟨q0, q1, q2, q3⟩ := h.cells
  obtain ⟨s0, h0⟩ := h.a
  obtain ⟨s1, h1⟩ := h.b
  have HQ := Lib.hid q3
  have H0 := Lib.hid (fun W (hW : Below w.heap.size w W) => held1_body X0 s0 x y z ((hW.block _ (lt_of_block h0)).trans h0) ((hW.block _ (lt_of_block hb)).trans hb))
  have H1 := Lib.hid (fun W (hW : Below w.heap.size w W) => held1_body X1 s1 x y z ((hW.block _ (lt_of_block h1)).trans h1) ((hW.block _ (lt_of_block hb)).trans hb))
  haveI := in_of_cell q1
  clear q3 h h0 h1 hb q0
  obtain ⟨b0, hb0⟩ : ∃ b, heldS X0 x y z = b := ⟨_, rfl⟩
  obtain ⟨b1, hb1⟩ : ∃ b, heldS X1 x y z = b := ⟨_, rfl⟩
  rw [hb0] at H0
  rw [hb1] at H1
  rw [hb0, hb1]
  clear hb0 hb1
  go_enter Tryz.func260, Tryz.ntmps260
  go_wp2_with fail
  go_loopw [5, 8] (fun _ s8 wr => ∃ k : Nat, k ≤ 16 ∧ s8 = .int .i64 (k : Int) ∧ (1 ≤ k → b0 = false) ∧ (2 ≤ k → b1 = false) ∧ ∃ f, wr = ext w f) (fun _ s8 _ => 16 - (intOf s8).toNat)
  case atStart => exact ⟨0, by omega, rfl, fun h => by omega, fun h => by omega, ⟨id, by unfold ext; split <;> rfl⟩⟩
  case round =>
    obtain ⟨k, hk, rfl, g0, g1, _, hw⟩ := hrel
    rename World => w1
    haveI hg1 := named_grown hw
    haveI hb1 := named_below (w := w) hw
    have hc1 := named_cell hw
    haveI hi1 := named_in hw
    clear hw
    have HG := Lib.hid (And.intro g0 g1)
    clear g0 g1
    by_cases hlt : k < 16
    · rcases k with _ | _ | k
      · clear hlt hk
        cases b0
        · go_wp2_with fail
          refine (H0.out _ (by exact grown_now)).mono ?_
          rintro e w2 ⟨rfl, _t, hw⟩
          haveI hb2_1 := named_below (w := w1) hw
          have hc2 := named_cell hw
          have hz2 := named_frozen hw
          have hh2 := named_heap hw
          haveI hi2 := named_in hw
          haveI hb2 := named_below (w := w) hw
          clear hw
          go_wp2_with fail
          go_roundw
          case rel => exact ⟨1, by omega, by go_num, (fun _ => by first | trivial | rfl), fun h => by omega, grown_of⟩
          case measure => simp [intOf]
        · go_wp2_with fail
          refine (H0.out _ (by exact grown_now)).mono ?_
          rintro e w2 ⟨rfl, _t, hw⟩
          haveI hb2_1 := named_below (w := w1) hw
          have hc2 := named_cell hw
          have hz2 := named_frozen hw
          have hh2 := named_heap hw
          haveI hi2 := named_in hw
          haveI hb2 := named_below (w := w) hw
          clear hw
          go_wp2_with fail
          go_ret
          exact ⟨⟨0, rfl, by simp⟩, grown_of⟩
      · have HB0 := Lib.hid (HG.out.1 (by omega))
        clear hlt hk
        cases b1
        · go_wp2_with fail
          refine (H1.out _ (by exact grown_now)).mono ?_
          rintro e w2 ⟨rfl, _t, hw⟩
          haveI hb2_1 := named_below (w := w1) hw
          have hc2 := named_cell hw
          have hz2 := named_frozen hw
          have hh2 := named_heap hw
          haveI hi2 := named_in hw
          haveI hb2 := named_below (w := w) hw
          clear hw
          go_wp2_with fail
          go_roundw
          case rel => exact ⟨2, by omega, by go_num, fun _ => HB0.out, (fun _ => by first | trivial | rfl), grown_of⟩
          case measure => simp [intOf]
        · go_wp2_with fail
          refine (H1.out _ (by exact grown_now)).mono ?_
          rintro e w2 ⟨rfl, _t, hw⟩
          haveI hb2_1 := named_below (w := w1) hw
          have hc2 := named_cell hw
          have hz2 := named_frozen hw
          have hh2 := named_heap hw
          haveI hi2 := named_in hw
          haveI hb2 := named_below (w := w) hw
          clear hw
          go_wp2_with fail
          go_ret
          exact ⟨⟨1, rfl, by simp⟩, grown_of⟩
      · have d0 := HQ.out (k + 2) (by omega) hlt
        have HK := Lib.hid hlt
        have k0 : (0 : Int) ≤ ((k + 2 : Nat) : Int) := Int.natCast_nonneg _
        have k1 : ((k + 2 : Nat) : Int) < 16 := by omega
        have e1 : k + 1 + 1 = k + 2 := rfl
        rw [e1]
        generalize hkk : k + 2 = kk at *
        clear hlt hk e1
        go_wp2_with fail
        refine (held1_none _ _).mono ?_
        rintro e w2 ⟨rfl, _t, hw⟩
        haveI hb2_1 := named_below (w := w1) hw
        have hc2 := named_cell hw
        have hz2 := named_frozen hw
        have hh2 := named_heap hw
        haveI hi2 := named_in hw
        haveI hb2 := named_below (w := w) hw
        clear hw
        go_wp2_with fail
        go_roundw
        case rel => exact ⟨kk + 1, by have := HK.out; omega, by go_num, fun _ => HG.out.1 (by omega), fun _ => HG.out.2 (by omega), grown_of⟩
        case measure => have := HK.out; simp [intOf]; omega
    · have k1 : ¬ (k : Int) < 16 := by omega
      have HB := Lib.hid (And.intro (HG.out.1 (by omega)) (HG.out.2 (by omega)))
      clear hlt hk
      go_wp2_with fail
      go_ret
      exact ⟨⟨-1, rfl, by rw [HB.out.1, HB.out.2]; rfl⟩, grown_of⟩
set_option maxHeartbeats 1000000 in
theorem contains_two {B : Nat} {w : World} {en sm l0 l1 bb : Nat} {X0 X1 : Int} (h : Lives B w en sm l0 l1 X0 X1) (x y z : Int) (hb : w.heap[bb]? = some (.cells (boxS x y z) 57 (0, 0))) :
    Calls Tryz.prog 203 #[.slice (some ⟨en, 1, none⟩) 16 16, .func (.func 204) #[] #[.pointer (some ⟨bb, 0, none⟩)]] w fun e w' => e = .returned (.bool (heldS X0 x y z || heldS X1 x y z)) ∧ ∃ f, w' = ext w f := by
  have IX := Lib.hid (lifeix_two h x y z hb)
  clear h hb
  go_enter Tryz.func203, Tryz.ntmps203
  go_wp2_with fail
  refine IX.out.mono ?_
  rintro e w1 ⟨⟨r, rfl, hr⟩, _t, hw⟩
  haveI hb1 := named_below (w := w) hw
  have HR := Lib.hid hr
  clear hw hr IX
  go_wp2_with fail
  go_ret
  exact ⟨ret_boolv HR.out, grown_of⟩
set_option maxHeartbeats 2000000 in
theorem held_two {B : Nat} {w : World} {en sm l0 l1 : Nat} {X0 X1 : Int} (h : Lives B w en sm l0 l1 X0 X1) (x y z : Int) :
    Calls Tryz.prog 160 #[.pointer (some ⟨en, 0, none⟩), .agg #[.int .i64 x, .int .i64 y, .int .i64 z]] w fun e w' => e = .returned (.bool (heldS X0 x y z || heldS X1 x y z)) ∧ ∃ f, w' = ext w f := by
  have hmf : ∀ (fn : Fn) (first cap : Array Value) (w : World), (Instr.makeFunc fn first cap).run Tryz.prog w = .ok (.func fn first cap) w := fun _ _ _ _ => rfl
  haveI := in_of_block h.eng.1
  have CO := Lib.hid (fun W bb (hW : Below w.heap.size w W) hb => contains_two (h.grown hW) (bb := bb) x y z hb)
  clear h
  go_enter Tryz.func160, Tryz.ntmps160
  go_wp2_with fail
  refine (box_any x y z _).mono ?_
  rintro e w1 ⟨rfl, _t, hw⟩
  haveI hb1 := named_below (w := w) hw
  have hc1 := named_cell hw
  haveI hi1 := named_in hw
  clear hw
  unfold boxS
  go_wp2_with fail
  refine (CO.out _ _ (by exact grown_now) (by exact heap_alloc_new w1 _)).mono ?_
  rintro e w2 ⟨rfl, _t, hw⟩
  haveI hb2_1 := named_below (w := w1) hw
  have hc2 := named_cell hw
  have hz2 := named_frozen hw
  have hh2 := named_heap hw
  haveI hi2 := named_in hw
  haveI hb2 := named_below (w := w) hw
  clear hw
  go_wp2_with fail
  go_ret
  exact ⟨rfl, grown_of⟩
#print axioms held_two
end Go.Proofs.YtnogfelfgclajaaGreatDoor
end
