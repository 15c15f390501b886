/-
  What a body looks at; the cell by whose side a ray came.
-/
import Derived.Test.YtnogfelfgclajaaGreatDoorMb34
import Derived.Test.YtnogfelfgclajaaGreatDoorMb25
import Derived.Deep.RegionHeld3
section
namespace Go.Proofs.YtnogfelfgclajaaGreatDoor
open Go.RowKit
attribute [local go_sem] ext_ext drew_ext ext_drew ext_cell ext_frozen in_lt in_le in_ne in_en in_ne1 in_en1 in_le1 in_ltn in_len in_nen in_enn size_le ite_max ite_min
set_option linter.unusedVariables false
set_option linter.unusedSimpArgs false
set_option maxRecDepth 1000000
attribute [local go_sem] calm calmUpon

/-- What is looked at. -/
def Looked (x y z : Int) (w : World) (o : Ending) (w' : World) : Prop :=
  (∃ (cx cy cz bl f t : Int) (e : Nat), o = .returned (.tuple #[.agg #[.int .i64 cx, .int .i64 cy, .int .i64 cz, .int .i64 bl, .int .i64 f, .int .i64 t], .int .i64 (e : Int)]) ∧ (e = 0 ∨ e = 11 ∨ e = 13) ∧ (e = 0 → NearH x y z cx cy cz f)) ∧ ∃ g, w' = ext w g
set_option maxHeartbeats 16000000 in
theorem look_any {B : Nat} {w : World} {en sm wo t lp q e : Nat} {s lim : Int} {G : Ps → List Int} {T : List (Ps × Bool)} {st : Bool} (e0 : w.cell? ⟨en, 0, none⟩ = some (.pointer (some ⟨sm, 0, none⟩))) (e1 : w.cell? ⟨en, 1, none⟩ = some (.pointer (some ⟨lp, 0, none⟩))) (s1 : w.cell? ⟨sm, 1, none⟩ = some (.pointer (some ⟨wo, 0, none⟩))) (w0 : w.cell? ⟨wo, 0, none⟩ = some (.pointer (some ⟨t, 0, none⟩)))
    (hl : w.heap[lp]? = some (.cells (lifeC 557056 1376256 557056 st) 96 (0, 0))) (h : TabOf B w t s lim q e G T) (x y z : Int) (hx : -1000000 ≤ x ∧ x ≤ 1000000) (hy : -1000000 ≤ y ∧ y ≤ 1000000) (hz : -1000000 ≤ z ∧ z ≤ 1000000) :
    Calls Tryz.prog 114 #[.pointer (some ⟨en, 0, none⟩), .int .i64 0, .agg #[.int .i64 x, .int .i64 y, .int .i64 z]] w (Looked 8 22 8 w) := by
  haveI := in_of_cell e0
  haveI := in_of_cell e1
  have c0 := cell_of_block (i := 0) hl rfl
  have c1 := cell_of_block (i := 1) hl rfl
  have c2 := cell_of_block (i := 2) hl rfl
  have c3 := cell_of_block (i := 3) hl rfl
  have c4 := cell_of_block (i := 4) hl rfl
  have c5 := cell_of_block (i := 5) hl rfl
  have c6 := cell_of_block (i := 6) hl rfl
  have c7 := cell_of_block (i := 7) hl rfl
  have c8 := cell_of_block (i := 8) hl rfl
  haveI := in_of_cell c0
  have VW := Lib.hid (fun W (hW : Below w.heap.size w W) => view_any (w := W) (en := en) ((hW.cell (p := ⟨en, 0, none⟩) (World.block_lt_of_cell? w _ e0)).trans e0) ((hW.cell (p := ⟨sm, 1, none⟩) (World.block_lt_of_cell? w _ s1)).trans s1) ((hW.cell (p := ⟨wo, 0, none⟩) (World.block_lt_of_cell? w _ w0)).trans w0))
  have AT := Lib.hid (fun W (hW : Below w.heap.size w W) => at0_any (w := W) (en := en) ((hW.cell (p := ⟨en, 1, none⟩) (World.block_lt_of_cell? w _ e1)).trans e1))
  have EY := Lib.hid (fun W => (show Calls Tryz.prog 164 #[.agg (bodyV 557056 1376256 557056 st)] W fun e w' => e = .returned (.agg #[.int .i64 557056, .int .i64 1456256, .int .i64 557056]) ∧ ∃ f, w' = ext W f from by
    have := bodyeye_any 557056 1376256 557056 st W
    rwa [show faS 557056 0 = 557056 by decide +kernel, show faS 1376256 80000 = 1456256 by decide +kernel] at this))
  have CA := Lib.hid (fun W (hW : Below w.heap.size w W) => (show Calls Tryz.prog 163 #[viewOf t, .agg #[.int .i64 557056, .int .i64 1456256, .int .i64 557056], .agg #[.int .i64 x, .int .i64 y, .int .i64 z], .int .i64 5] W fun o w' =>
      (∃ (cx cy cz bl f t : Int) (h : Bool), o = .returned (.tuple #[.agg #[.int .i64 cx, .int .i64 cy, .int .i64 cz, .int .i64 bl, .int .i64 f, .int .i64 t], .bool h]) ∧ (h = true → NearH 8 22 8 cx cy cz f)) ∧ ∃ f, w' = ext W f from by
    have f8 : flS 557056 = 8 := by decide +kernel
    have f22 : flS 1456256 = 22 := by decide +kernel
    have := cast_any (viewOf t) (viewT G T) 557056 1456256 557056 x y z W (view_is (h.grown hW)) (by decide +kernel) (by decide +kernel) (by decide +kernel) (by omega) (by omega) (by omega) hx hy hz (by rw [f8, f22]; omega)
    rwa [f8, f22] at this))
  unfold bodyV at EY
  unfold lifeC at c0 c1 c2 c3 c4 c5 c6 c7 c8
  unfold viewOf at VW CA
  clear e0 e1 s1 w0 h hx hy hz
  go_enter Tryz.func114, Tryz.ntmps114
  go_wp2_with (go_at_call 38; refine (AT.out _ (by exact grown_now)).mono ?_; rintro e w1 ⟨rfl, rfl⟩)
  have B1 : Below w.heap.size w ((w.alloc (.cells #[.int .i64 x, .int .i64 y, .int .i64 z] 46)).alloc (.cells #[.int .i64 0, .int .i64 0, .int .i64 0, .int .i64 0, .int .i64 0, .int .i64 0] 171)) := grown_now
  have X1 : ((w.alloc (.cells #[.int .i64 x, .int .i64 y, .int .i64 z] 46)).alloc (.cells #[.int .i64 0, .int .i64 0, .int .i64 0, .int .i64 0, .int .i64 0, .int .i64 0] 171)).heap[w.heap.size]? = some (.cells #[.int .i64 x, .int .i64 y, .int .i64 z] 46 (0, 0)) := (heap_alloc_old _ _ (by simp)).trans (heap_alloc_new _ _)
  have Y1 : ((w.alloc (.cells #[.int .i64 x, .int .i64 y, .int .i64 z] 46)).alloc (.cells #[.int .i64 0, .int .i64 0, .int .i64 0, .int .i64 0, .int .i64 0, .int .i64 0] 171)).heap[w.heap.size + 1]? = some (.cells #[.int .i64 0, .int .i64 0, .int .i64 0, .int .i64 0, .int .i64 0, .int .i64 0] 171 (0, 0)) := by
    have := heap_alloc_new (w.alloc (.cells #[.int .i64 x, .int .i64 y, .int .i64 z] 46)) (.cells #[.int .i64 0, .int .i64 0, .int .i64 0, .int .i64 0, .int .i64 0, .int .i64 0] 171)
    rw [World.size_alloc] at this
    exact this
  have L1 := Lib.hid (show w.heap.size ≤ w.heap.size + 1 by omega)
  generalize (w.alloc (.cells #[.int .i64 x, .int .i64 y, .int .i64 z] 46)).alloc (.cells #[.int .i64 0, .int .i64 0, .int .i64 0, .int .i64 0, .int .i64 0, .int .i64 0] 171) = w1 at *
  generalize w.heap.size + 1 = b6 at *
  obtain ⟨bx, hbx⟩ : ∃ b, w.heap.size = b := ⟨_, rfl⟩
  rw [hbx] at X1 ⊢
  have HL := (B1.block lp (lt_of_block hl)).trans hl
  unfold lifeC at HL
  have k0 := cell_of_block (i := 0) HL rfl
  have k1 := cell_of_block (i := 1) HL rfl
  have k2 := cell_of_block (i := 2) HL rfl
  have k3 := cell_of_block (i := 3) HL rfl
  have k4 := cell_of_block (i := 4) HL rfl
  have k5 := cell_of_block (i := 5) HL rfl
  have k6 := cell_of_block (i := 6) HL rfl
  have k7 := cell_of_block (i := 7) HL rfl
  have k8 := cell_of_block (i := 8) HL rfl
  have x0 := cell_of_block (i := 0) X1 rfl
  have x1 := cell_of_block (i := 1) X1 rfl
  have x2 := cell_of_block (i := 2) X1 rfl
  have i1 := lt_of_block HL
  have i2 := lt_of_block X1
  haveI := in_of_cell k0
  haveI := in_of_cell x0
  haveI : Nonempty (Below w.heap.size w w1) := ⟨B1⟩
  have YB := Lib.hid (And.intro Y1 B1)
  clear c0 c1 c2 c3 c4 c5 c6 c7 c8 HL X1 Y1 B1 hl
  go_region_held3 (fun w' => ∀ p : Addr, p.block < w1.heap.size → w'.cell? p = w1.cell? p)
    (exact fun p hp => (grown_now (w := w1)).cell hp)
    (first | (go_at_call 153; refine (VW.out _ (by exact grown_now)).mono ?_; rintro e w3 ⟨rfl, rfl⟩) | (go_at_call 164; refine (EY.out _).mono ?_; rintro e w2 ⟨rfl, _t, hw⟩; (try haveI hb2_1 := named_below (w := w1) hw); have hc2 := named_cell hw; have hz2 := named_frozen hw; have hh2 := named_heap hw; haveI hi2 := named_in hw; haveI hb2 := named_below (w := w) hw; clear hw) | (go_at_call 163; refine (CA.out _ (by exact grown_now)).mono ?_; rintro e w4 ⟨⟨cx, cy, cz, bl, f, tm, hh, rfl, hn⟩, _t, hw⟩; have HN := Lib.hid hn; have hc4 := named_cell hw; have hz4 := named_frozen hw; have hh4 := named_heap hw; haveI hi4 := named_in hw; haveI hb4 := named_below (w := w) hw; haveI hb4_1 := named_below (w := w1) hw; clear hw hn))
  · have B4 := grown_now (w := w1) (W := w4)
    have y6 := (heap_alloc_old w4 (.cells #[.int .i64 cx, .int .i64 cy, .int .i64 cz, .int .i64 bl, .int .i64 f, .int .i64 tm] 171) (lt_of_block ((B4.block b6 (lt_of_block YB.out.1)).trans YB.out.1))).trans ((B4.block b6 (lt_of_block YB.out.1)).trans YB.out.1)
    have y9 := heap_alloc_new w4 (.cells #[.int .i64 cx, .int .i64 cy, .int .i64 cz, .int .i64 bl, .int .i64 f, .int .i64 tm] 171)
    have B5 := (YB.out.2.trans (B4.mono YB.out.2.size)).alloc (YB.out.2.trans (B4.mono YB.out.2.size)).size (.cells #[.int .i64 cx, .int .i64 cy, .int .i64 cz, .int .i64 bl, .int .i64 f, .int .i64 tm] 171)
    have X5 := Lib.hid (And.intro y6 (And.intro y9 B5))
    clear y6 y9 B5 B4
    generalize w4.alloc (.cells #[.int .i64 cx, .int .i64 cy, .int .i64 cz, .int .i64 bl, .int .i64 f, .int .i64 tm] 171) = w5 at *
    generalize w4.heap.size = b9 at *
    clear hc2 hz2 hh2 hc4 hz4 hh4 VW AT EY CA k0 k1 k2 k3 k4 k5 k6 k7 k8 x0 x1 x2 YB hb2 hb2_1 hb4 hb4_1
    have d0 := cell_of_block (i := 0) X5.out.1 rfl
    have y0 := free_of_block 0 X5.out.1
    have g0 := cell_of_block (i := 0) X5.out.2.1 rfl
    have d1 := cell_of_block (i := 1) X5.out.1 rfl
    have y1 := free_of_block 1 X5.out.1
    have g1 := cell_of_block (i := 1) X5.out.2.1 rfl
    have d2 := cell_of_block (i := 2) X5.out.1 rfl
    have y2 := free_of_block 2 X5.out.1
    have g2 := cell_of_block (i := 2) X5.out.2.1 rfl
    have d3 := cell_of_block (i := 3) X5.out.1 rfl
    have y3 := free_of_block 3 X5.out.1
    have g3 := cell_of_block (i := 3) X5.out.2.1 rfl
    have d4 := cell_of_block (i := 4) X5.out.1 rfl
    have y4 := free_of_block 4 X5.out.1
    have g4 := cell_of_block (i := 4) X5.out.2.1 rfl
    have d5 := cell_of_block (i := 5) X5.out.1 rfl
    have y5 := free_of_block 5 X5.out.1
    have g5 := cell_of_block (i := 5) X5.out.2.1 rfl
    haveI := in_of_cell d0
    haveI := in_of_cell g0
    cases hh
    · go_wp2_with fail
      have kh := (block_set (i := 5) (block_set (i := 4) (block_set (i := 3) (block_set (i := 2) (block_set (i := 1) (block_set (i := 0) X5.out.1 (.int .i64 0) (by simp)) (.int .i64 0) (by simp)) (.int .i64 0) (by simp)) (.int .i64 0) (by simp)) (.int .i64 0) (by simp)) (.int .i64 0) (by simp))
      have GG := (Below.setCell (Below.setCell (Below.setCell (Below.setCell (Below.setCell (Below.setCell X5.out.2.2 (p := ⟨b6, 0, none⟩) L1.out (.int .i64 0)) (p := ⟨b6, 1, none⟩) L1.out (.int .i64 0)) (p := ⟨b6, 2, none⟩) L1.out (.int .i64 0)) (p := ⟨b6, 3, none⟩) L1.out (.int .i64 0)) (p := ⟨b6, 4, none⟩) L1.out (.int .i64 0)) (p := ⟨b6, 5, none⟩) L1.out (.int .i64 0))
      generalize ((((((w5.setCell ⟨b6, 0, none⟩ (.int .i64 0)).setCell ⟨b6, 1, none⟩ (.int .i64 0)).setCell ⟨b6, 2, none⟩ (.int .i64 0)).setCell ⟨b6, 3, none⟩ (.int .i64 0)).setCell ⟨b6, 4, none⟩ (.int .i64 0)).setCell ⟨b6, 5, none⟩ (.int .i64 0)) = w6 at *
      have j0 := cell_of_block (i := 0) kh rfl
      have j1 := cell_of_block (i := 1) kh rfl
      have j2 := cell_of_block (i := 2) kh rfl
      have j3 := cell_of_block (i := 3) kh rfl
      have j4 := cell_of_block (i := 4) kh rfl
      have j5 := cell_of_block (i := 5) kh rfl
      refine bodyPost_ret (by simp [results, Tryz.results114, go_sem, j0, j1, j2, j3, j4, j5]; try rfl) rfl ?_
      exact ⟨⟨0, 0, 0, 0, 0, 0, 13, rfl, .inr (.inr rfl), fun h => by cases h⟩, ext_of (hbx ▸ GG)⟩
    · by_cases hbl : bl = -1
      · subst hbl
        go_wp2_with fail
        have kh := (block_set (i := 5) (block_set (i := 4) (block_set (i := 3) (block_set (i := 2) (block_set (i := 1) (block_set (i := 0) X5.out.1 (.int .i64 0) (by simp)) (.int .i64 0) (by simp)) (.int .i64 0) (by simp)) (.int .i64 0) (by simp)) (.int .i64 0) (by simp)) (.int .i64 0) (by simp))
        have GG := (Below.setCell (Below.setCell (Below.setCell (Below.setCell (Below.setCell (Below.setCell X5.out.2.2 (p := ⟨b6, 0, none⟩) L1.out (.int .i64 0)) (p := ⟨b6, 1, none⟩) L1.out (.int .i64 0)) (p := ⟨b6, 2, none⟩) L1.out (.int .i64 0)) (p := ⟨b6, 3, none⟩) L1.out (.int .i64 0)) (p := ⟨b6, 4, none⟩) L1.out (.int .i64 0)) (p := ⟨b6, 5, none⟩) L1.out (.int .i64 0))
        generalize ((((((w5.setCell ⟨b6, 0, none⟩ (.int .i64 0)).setCell ⟨b6, 1, none⟩ (.int .i64 0)).setCell ⟨b6, 2, none⟩ (.int .i64 0)).setCell ⟨b6, 3, none⟩ (.int .i64 0)).setCell ⟨b6, 4, none⟩ (.int .i64 0)).setCell ⟨b6, 5, none⟩ (.int .i64 0)) = w6 at *
        have j0 := cell_of_block (i := 0) kh rfl
        have j1 := cell_of_block (i := 1) kh rfl
        have j2 := cell_of_block (i := 2) kh rfl
        have j3 := cell_of_block (i := 3) kh rfl
        have j4 := cell_of_block (i := 4) kh rfl
        have j5 := cell_of_block (i := 5) kh rfl
        refine bodyPost_ret (by simp [results, Tryz.results114, go_sem, j0, j1, j2, j3, j4, j5]; try rfl) rfl ?_
        exact ⟨⟨0, 0, 0, 0, 0, 0, 11, rfl, .inr (.inl rfl), fun h => by cases h⟩, ext_of (hbx ▸ GG)⟩
      · skip
        go_wp2_with fail
        have kh := (block_set (i := 5) (block_set (i := 4) (block_set (i := 3) (block_set (i := 2) (block_set (i := 1) (block_set (i := 0) X5.out.1 (.int .i64 cx) (by simp)) (.int .i64 cy) (by simp)) (.int .i64 cz) (by simp)) (.int .i64 bl) (by simp)) (.int .i64 f) (by simp)) (.int .i64 tm) (by simp))
        have GG := (Below.setCell (Below.setCell (Below.setCell (Below.setCell (Below.setCell (Below.setCell X5.out.2.2 (p := ⟨b6, 0, none⟩) L1.out (.int .i64 cx)) (p := ⟨b6, 1, none⟩) L1.out (.int .i64 cy)) (p := ⟨b6, 2, none⟩) L1.out (.int .i64 cz)) (p := ⟨b6, 3, none⟩) L1.out (.int .i64 bl)) (p := ⟨b6, 4, none⟩) L1.out (.int .i64 f)) (p := ⟨b6, 5, none⟩) L1.out (.int .i64 tm))
        generalize ((((((w5.setCell ⟨b6, 0, none⟩ (.int .i64 cx)).setCell ⟨b6, 1, none⟩ (.int .i64 cy)).setCell ⟨b6, 2, none⟩ (.int .i64 cz)).setCell ⟨b6, 3, none⟩ (.int .i64 bl)).setCell ⟨b6, 4, none⟩ (.int .i64 f)).setCell ⟨b6, 5, none⟩ (.int .i64 tm)) = w6 at *
        have j0 := cell_of_block (i := 0) kh rfl
        have j1 := cell_of_block (i := 1) kh rfl
        have j2 := cell_of_block (i := 2) kh rfl
        have j3 := cell_of_block (i := 3) kh rfl
        have j4 := cell_of_block (i := 4) kh rfl
        have j5 := cell_of_block (i := 5) kh rfl
        refine bodyPost_ret (by simp [results, Tryz.results114, go_sem, j0, j1, j2, j3, j4, j5]; try rfl) rfl ?_
        exact ⟨⟨cx, cy, cz, bl, f, tm, 0, by rfl, .inl rfl, fun _ => HN.out trivial⟩, ext_of (hbx ▸ GG)⟩
  · have B4 := grown_now (w := w1) (W := w4)
    have b4 := (B4.block b6 (lt_of_block YB.out.1)).trans YB.out.1
    haveI := in_of_block (heap_alloc_new w2 (.cells #[.int .i64 0, .int .i64 0, .int .i64 0, .int .i64 0, .int .i64 0, .int .i64 0] 171))
    have y9 := (hh4 w2.heap.size).trans (heap_alloc_new w2 (.cells #[.int .i64 0, .int .i64 0, .int .i64 0, .int .i64 0, .int .i64 0, .int .i64 0] 171))
    have hlo : w1.heap.size ≤ w2.heap.size := (grown_now (w := w1) (W := w2)).size
    have n69 : b6 ≠ w2.heap.size := by have := lt_of_block YB.out.1; omega
    have y6 := ((block_set_far (a := ⟨w2.heap.size, 5, none⟩) (.int .i64 tm) n69).trans ((block_set_far (a := ⟨w2.heap.size, 4, none⟩) (.int .i64 f) n69).trans ((block_set_far (a := ⟨w2.heap.size, 3, none⟩) (.int .i64 bl) n69).trans ((block_set_far (a := ⟨w2.heap.size, 2, none⟩) (.int .i64 cz) n69).trans ((block_set_far (a := ⟨w2.heap.size, 1, none⟩) (.int .i64 cy) n69).trans ((block_set_far (a := ⟨w2.heap.size, 0, none⟩) (.int .i64 cx) n69).trans b4))))))
    have y8 := (block_set (i := 5) (block_set (i := 4) (block_set (i := 3) (block_set (i := 2) (block_set (i := 1) (block_set (i := 0) y9 (.int .i64 cx) (by simp)) (.int .i64 cy) (by simp)) (.int .i64 cz) (by simp)) (.int .i64 bl) (by simp)) (.int .i64 f) (by simp)) (.int .i64 tm) (by simp))
    have B5 := (Below.setCell (Below.setCell (Below.setCell (Below.setCell (Below.setCell (Below.setCell (YB.out.2.trans (B4.mono YB.out.2.size)) (p := ⟨w2.heap.size, 0, none⟩) (Nat.le_trans YB.out.2.size hlo) (.int .i64 cx)) (p := ⟨w2.heap.size, 1, none⟩) (Nat.le_trans YB.out.2.size hlo) (.int .i64 cy)) (p := ⟨w2.heap.size, 2, none⟩) (Nat.le_trans YB.out.2.size hlo) (.int .i64 cz)) (p := ⟨w2.heap.size, 3, none⟩) (Nat.le_trans YB.out.2.size hlo) (.int .i64 bl)) (p := ⟨w2.heap.size, 4, none⟩) (Nat.le_trans YB.out.2.size hlo) (.int .i64 f)) (p := ⟨w2.heap.size, 5, none⟩) (Nat.le_trans YB.out.2.size hlo) (.int .i64 tm))
    have X5 := Lib.hid (And.intro y6 (And.intro y8 B5))
    clear y6 y8 y9 B5 B4 b4
    generalize ((((((w4.setCell ⟨w2.heap.size, 0, none⟩ (.int .i64 cx)).setCell ⟨w2.heap.size, 1, none⟩ (.int .i64 cy)).setCell ⟨w2.heap.size, 2, none⟩ (.int .i64 cz)).setCell ⟨w2.heap.size, 3, none⟩ (.int .i64 bl)).setCell ⟨w2.heap.size, 4, none⟩ (.int .i64 f)).setCell ⟨w2.heap.size, 5, none⟩ (.int .i64 tm)) = w5 at *
    generalize w2.heap.size = b9 at *
    clear hc2 hz2 hh2 hc4 hz4 hh4 VW AT EY CA k0 k1 k2 k3 k4 k5 k6 k7 k8 x0 x1 x2 YB hb2 hb2_1 hb4 hb4_1
    have d0 := cell_of_block (i := 0) X5.out.1 rfl
    have y0 := free_of_block 0 X5.out.1
    have g0 := cell_of_block (i := 0) X5.out.2.1 rfl
    have d1 := cell_of_block (i := 1) X5.out.1 rfl
    have y1 := free_of_block 1 X5.out.1
    have g1 := cell_of_block (i := 1) X5.out.2.1 rfl
    have d2 := cell_of_block (i := 2) X5.out.1 rfl
    have y2 := free_of_block 2 X5.out.1
    have g2 := cell_of_block (i := 2) X5.out.2.1 rfl
    have d3 := cell_of_block (i := 3) X5.out.1 rfl
    have y3 := free_of_block 3 X5.out.1
    have g3 := cell_of_block (i := 3) X5.out.2.1 rfl
    have d4 := cell_of_block (i := 4) X5.out.1 rfl
    have y4 := free_of_block 4 X5.out.1
    have g4 := cell_of_block (i := 4) X5.out.2.1 rfl
    have d5 := cell_of_block (i := 5) X5.out.1 rfl
    have y5 := free_of_block 5 X5.out.1
    have g5 := cell_of_block (i := 5) X5.out.2.1 rfl
    haveI := in_of_cell d0
    haveI := in_of_cell g0
    cases hh
    · go_wp2_with fail
      have kh := (block_set (i := 5) (block_set (i := 4) (block_set (i := 3) (block_set (i := 2) (block_set (i := 1) (block_set (i := 0) X5.out.1 (.int .i64 0) (by simp)) (.int .i64 0) (by simp)) (.int .i64 0) (by simp)) (.int .i64 0) (by simp)) (.int .i64 0) (by simp)) (.int .i64 0) (by simp))
      have GG := (Below.setCell (Below.setCell (Below.setCell (Below.setCell (Below.setCell (Below.setCell X5.out.2.2 (p := ⟨b6, 0, none⟩) L1.out (.int .i64 0)) (p := ⟨b6, 1, none⟩) L1.out (.int .i64 0)) (p := ⟨b6, 2, none⟩) L1.out (.int .i64 0)) (p := ⟨b6, 3, none⟩) L1.out (.int .i64 0)) (p := ⟨b6, 4, none⟩) L1.out (.int .i64 0)) (p := ⟨b6, 5, none⟩) L1.out (.int .i64 0))
      generalize ((((((w5.setCell ⟨b6, 0, none⟩ (.int .i64 0)).setCell ⟨b6, 1, none⟩ (.int .i64 0)).setCell ⟨b6, 2, none⟩ (.int .i64 0)).setCell ⟨b6, 3, none⟩ (.int .i64 0)).setCell ⟨b6, 4, none⟩ (.int .i64 0)).setCell ⟨b6, 5, none⟩ (.int .i64 0)) = w6 at *
      have j0 := cell_of_block (i := 0) kh rfl
      have j1 := cell_of_block (i := 1) kh rfl
      have j2 := cell_of_block (i := 2) kh rfl
      have j3 := cell_of_block (i := 3) kh rfl
      have j4 := cell_of_block (i := 4) kh rfl
      have j5 := cell_of_block (i := 5) kh rfl
      refine bodyPost_ret (by simp [results, Tryz.results114, go_sem, j0, j1, j2, j3, j4, j5]; try rfl) rfl ?_
      exact ⟨⟨0, 0, 0, 0, 0, 0, 13, rfl, .inr (.inr rfl), fun h => by cases h⟩, ext_of (hbx ▸ GG)⟩
    · by_cases hbl : bl = -1
      · subst hbl
        go_wp2_with fail
        have kh := (block_set (i := 5) (block_set (i := 4) (block_set (i := 3) (block_set (i := 2) (block_set (i := 1) (block_set (i := 0) X5.out.1 (.int .i64 0) (by simp)) (.int .i64 0) (by simp)) (.int .i64 0) (by simp)) (.int .i64 0) (by simp)) (.int .i64 0) (by simp)) (.int .i64 0) (by simp))
        have GG := (Below.setCell (Below.setCell (Below.setCell (Below.setCell (Below.setCell (Below.setCell X5.out.2.2 (p := ⟨b6, 0, none⟩) L1.out (.int .i64 0)) (p := ⟨b6, 1, none⟩) L1.out (.int .i64 0)) (p := ⟨b6, 2, none⟩) L1.out (.int .i64 0)) (p := ⟨b6, 3, none⟩) L1.out (.int .i64 0)) (p := ⟨b6, 4, none⟩) L1.out (.int .i64 0)) (p := ⟨b6, 5, none⟩) L1.out (.int .i64 0))
        generalize ((((((w5.setCell ⟨b6, 0, none⟩ (.int .i64 0)).setCell ⟨b6, 1, none⟩ (.int .i64 0)).setCell ⟨b6, 2, none⟩ (.int .i64 0)).setCell ⟨b6, 3, none⟩ (.int .i64 0)).setCell ⟨b6, 4, none⟩ (.int .i64 0)).setCell ⟨b6, 5, none⟩ (.int .i64 0)) = w6 at *
        have j0 := cell_of_block (i := 0) kh rfl
        have j1 := cell_of_block (i := 1) kh rfl
        have j2 := cell_of_block (i := 2) kh rfl
        have j3 := cell_of_block (i := 3) kh rfl
        have j4 := cell_of_block (i := 4) kh rfl
        have j5 := cell_of_block (i := 5) kh rfl
        refine bodyPost_ret (by simp [results, Tryz.results114, go_sem, j0, j1, j2, j3, j4, j5]; try rfl) rfl ?_
        exact ⟨⟨0, 0, 0, 0, 0, 0, 11, rfl, .inr (.inl rfl), fun h => by cases h⟩, ext_of (hbx ▸ GG)⟩
      · skip
        go_wp2_with fail
        have kh := (block_set (i := 5) (block_set (i := 4) (block_set (i := 3) (block_set (i := 2) (block_set (i := 1) (block_set (i := 0) X5.out.1 (.int .i64 cx) (by simp)) (.int .i64 cy) (by simp)) (.int .i64 cz) (by simp)) (.int .i64 bl) (by simp)) (.int .i64 f) (by simp)) (.int .i64 tm) (by simp))
        have GG := (Below.setCell (Below.setCell (Below.setCell (Below.setCell (Below.setCell (Below.setCell X5.out.2.2 (p := ⟨b6, 0, none⟩) L1.out (.int .i64 cx)) (p := ⟨b6, 1, none⟩) L1.out (.int .i64 cy)) (p := ⟨b6, 2, none⟩) L1.out (.int .i64 cz)) (p := ⟨b6, 3, none⟩) L1.out (.int .i64 bl)) (p := ⟨b6, 4, none⟩) L1.out (.int .i64 f)) (p := ⟨b6, 5, none⟩) L1.out (.int .i64 tm))
        generalize ((((((w5.setCell ⟨b6, 0, none⟩ (.int .i64 cx)).setCell ⟨b6, 1, none⟩ (.int .i64 cy)).setCell ⟨b6, 2, none⟩ (.int .i64 cz)).setCell ⟨b6, 3, none⟩ (.int .i64 bl)).setCell ⟨b6, 4, none⟩ (.int .i64 f)).setCell ⟨b6, 5, none⟩ (.int .i64 tm)) = w6 at *
        have j0 := cell_of_block (i := 0) kh rfl
        have j1 := cell_of_block (i := 1) kh rfl
        have j2 := cell_of_block (i := 2) kh rfl
        have j3 := cell_of_block (i := 3) kh rfl
        have j4 := cell_of_block (i := 4) kh rfl
        have j5 := cell_of_block (i := 5) kh rfl
        refine bodyPost_ret (by simp [results, Tryz.results114, go_sem, j0, j1, j2, j3, j4, j5]; try rfl) rfl ?_
        exact ⟨⟨cx, cy, cz, bl, f, tm, 0, by rfl, .inl rfl, fun _ => HN.out trivial⟩, ext_of (hbx ▸ GG)⟩
  · have B4 := grown_now (w := w1) (W := w4)
    have b4 := (B4.block b6 (lt_of_block YB.out.1)).trans YB.out.1
    haveI := in_of_block (heap_alloc_new w1.drew (.cells #[.int .i64 0, .int .i64 0, .int .i64 0, .int .i64 0, .int .i64 0, .int .i64 0] 171))
    have y9 := (hh4 w1.heap.size).trans ((hh2 w1.heap.size).trans (heap_alloc_new w1.drew (.cells #[.int .i64 0, .int .i64 0, .int .i64 0, .int .i64 0, .int .i64 0, .int .i64 0] 171)))
    have hlo : w1.heap.size ≤ w1.heap.size := Nat.le_refl _
    have n69 : b6 ≠ w1.heap.size := by have := lt_of_block YB.out.1; omega
    have y6 := ((block_set_far (a := ⟨w1.heap.size, 5, none⟩) (.int .i64 tm) n69).trans ((block_set_far (a := ⟨w1.heap.size, 4, none⟩) (.int .i64 f) n69).trans ((block_set_far (a := ⟨w1.heap.size, 3, none⟩) (.int .i64 bl) n69).trans ((block_set_far (a := ⟨w1.heap.size, 2, none⟩) (.int .i64 cz) n69).trans ((block_set_far (a := ⟨w1.heap.size, 1, none⟩) (.int .i64 cy) n69).trans ((block_set_far (a := ⟨w1.heap.size, 0, none⟩) (.int .i64 cx) n69).trans b4))))))
    have y8 := (block_set (i := 5) (block_set (i := 4) (block_set (i := 3) (block_set (i := 2) (block_set (i := 1) (block_set (i := 0) y9 (.int .i64 cx) (by simp)) (.int .i64 cy) (by simp)) (.int .i64 cz) (by simp)) (.int .i64 bl) (by simp)) (.int .i64 f) (by simp)) (.int .i64 tm) (by simp))
    have B5 := (Below.setCell (Below.setCell (Below.setCell (Below.setCell (Below.setCell (Below.setCell (YB.out.2.trans (B4.mono YB.out.2.size)) (p := ⟨w1.heap.size, 0, none⟩) (Nat.le_trans YB.out.2.size hlo) (.int .i64 cx)) (p := ⟨w1.heap.size, 1, none⟩) (Nat.le_trans YB.out.2.size hlo) (.int .i64 cy)) (p := ⟨w1.heap.size, 2, none⟩) (Nat.le_trans YB.out.2.size hlo) (.int .i64 cz)) (p := ⟨w1.heap.size, 3, none⟩) (Nat.le_trans YB.out.2.size hlo) (.int .i64 bl)) (p := ⟨w1.heap.size, 4, none⟩) (Nat.le_trans YB.out.2.size hlo) (.int .i64 f)) (p := ⟨w1.heap.size, 5, none⟩) (Nat.le_trans YB.out.2.size hlo) (.int .i64 tm))
    have X5 := Lib.hid (And.intro y6 (And.intro y8 B5))
    clear y6 y8 y9 B5 B4 b4
    generalize ((((((w4.setCell ⟨w1.heap.size, 0, none⟩ (.int .i64 cx)).setCell ⟨w1.heap.size, 1, none⟩ (.int .i64 cy)).setCell ⟨w1.heap.size, 2, none⟩ (.int .i64 cz)).setCell ⟨w1.heap.size, 3, none⟩ (.int .i64 bl)).setCell ⟨w1.heap.size, 4, none⟩ (.int .i64 f)).setCell ⟨w1.heap.size, 5, none⟩ (.int .i64 tm)) = w5 at *
    generalize w1.heap.size = b9 at *
    clear hc2 hz2 hh2 hc4 hz4 hh4 VW AT EY CA k0 k1 k2 k3 k4 k5 k6 k7 k8 x0 x1 x2 YB hb2 hb2_1 hb4 hb4_1
    have d0 := cell_of_block (i := 0) X5.out.1 rfl
    have y0 := free_of_block 0 X5.out.1
    have g0 := cell_of_block (i := 0) X5.out.2.1 rfl
    have d1 := cell_of_block (i := 1) X5.out.1 rfl
    have y1 := free_of_block 1 X5.out.1
    have g1 := cell_of_block (i := 1) X5.out.2.1 rfl
    have d2 := cell_of_block (i := 2) X5.out.1 rfl
    have y2 := free_of_block 2 X5.out.1
    have g2 := cell_of_block (i := 2) X5.out.2.1 rfl
    have d3 := cell_of_block (i := 3) X5.out.1 rfl
    have y3 := free_of_block 3 X5.out.1
    have g3 := cell_of_block (i := 3) X5.out.2.1 rfl
    have d4 := cell_of_block (i := 4) X5.out.1 rfl
    have y4 := free_of_block 4 X5.out.1
    have g4 := cell_of_block (i := 4) X5.out.2.1 rfl
    have d5 := cell_of_block (i := 5) X5.out.1 rfl
    have y5 := free_of_block 5 X5.out.1
    have g5 := cell_of_block (i := 5) X5.out.2.1 rfl
    haveI := in_of_cell d0
    haveI := in_of_cell g0
    cases hh
    · go_wp2_with fail
      have kh := (block_set (i := 5) (block_set (i := 4) (block_set (i := 3) (block_set (i := 2) (block_set (i := 1) (block_set (i := 0) X5.out.1 (.int .i64 0) (by simp)) (.int .i64 0) (by simp)) (.int .i64 0) (by simp)) (.int .i64 0) (by simp)) (.int .i64 0) (by simp)) (.int .i64 0) (by simp))
      have GG := (Below.setCell (Below.setCell (Below.setCell (Below.setCell (Below.setCell (Below.setCell X5.out.2.2 (p := ⟨b6, 0, none⟩) L1.out (.int .i64 0)) (p := ⟨b6, 1, none⟩) L1.out (.int .i64 0)) (p := ⟨b6, 2, none⟩) L1.out (.int .i64 0)) (p := ⟨b6, 3, none⟩) L1.out (.int .i64 0)) (p := ⟨b6, 4, none⟩) L1.out (.int .i64 0)) (p := ⟨b6, 5, none⟩) L1.out (.int .i64 0))
      generalize ((((((w5.setCell ⟨b6, 0, none⟩ (.int .i64 0)).setCell ⟨b6, 1, none⟩ (.int .i64 0)).setCell ⟨b6, 2, none⟩ (.int .i64 0)).setCell ⟨b6, 3, none⟩ (.int .i64 0)).setCell ⟨b6, 4, none⟩ (.int .i64 0)).setCell ⟨b6, 5, none⟩ (.int .i64 0)) = w6 at *
      have j0 := cell_of_block (i := 0) kh rfl
      have j1 := cell_of_block (i := 1) kh rfl
      have j2 := cell_of_block (i := 2) kh rfl
      have j3 := cell_of_block (i := 3) kh rfl
      have j4 := cell_of_block (i := 4) kh rfl
      have j5 := cell_of_block (i := 5) kh rfl
      refine bodyPost_ret (by simp [results, Tryz.results114, go_sem, j0, j1, j2, j3, j4, j5]; try rfl) rfl ?_
      exact ⟨⟨0, 0, 0, 0, 0, 0, 13, rfl, .inr (.inr rfl), fun h => by cases h⟩, ext_of (hbx ▸ GG)⟩
    · by_cases hbl : bl = -1
      · subst hbl
        go_wp2_with fail
        have kh := (block_set (i := 5) (block_set (i := 4) (block_set (i := 3) (block_set (i := 2) (block_set (i := 1) (block_set (i := 0) X5.out.1 (.int .i64 0) (by simp)) (.int .i64 0) (by simp)) (.int .i64 0) (by simp)) (.int .i64 0) (by simp)) (.int .i64 0) (by simp)) (.int .i64 0) (by simp))
        have GG := (Below.setCell (Below.setCell (Below.setCell (Below.setCell (Below.setCell (Below.setCell X5.out.2.2 (p := ⟨b6, 0, none⟩) L1.out (.int .i64 0)) (p := ⟨b6, 1, none⟩) L1.out (.int .i64 0)) (p := ⟨b6, 2, none⟩) L1.out (.int .i64 0)) (p := ⟨b6, 3, none⟩) L1.out (.int .i64 0)) (p := ⟨b6, 4, none⟩) L1.out (.int .i64 0)) (p := ⟨b6, 5, none⟩) L1.out (.int .i64 0))
        generalize ((((((w5.setCell ⟨b6, 0, none⟩ (.int .i64 0)).setCell ⟨b6, 1, none⟩ (.int .i64 0)).setCell ⟨b6, 2, none⟩ (.int .i64 0)).setCell ⟨b6, 3, none⟩ (.int .i64 0)).setCell ⟨b6, 4, none⟩ (.int .i64 0)).setCell ⟨b6, 5, none⟩ (.int .i64 0)) = w6 at *
        have j0 := cell_of_block (i := 0) kh rfl
        have j1 := cell_of_block (i := 1) kh rfl
        have j2 := cell_of_block (i := 2) kh rfl
        have j3 := cell_of_block (i := 3) kh rfl
        have j4 := cell_of_block (i := 4) kh rfl
        have j5 := cell_of_block (i := 5) kh rfl
        refine bodyPost_ret (by simp [results, Tryz.results114, go_sem, j0, j1, j2, j3, j4, j5]; try rfl) rfl ?_
        exact ⟨⟨0, 0, 0, 0, 0, 0, 11, rfl, .inr (.inl rfl), fun h => by cases h⟩, ext_of (hbx ▸ GG)⟩
      · skip
        go_wp2_with fail
        have kh := (block_set (i := 5) (block_set (i := 4) (block_set (i := 3) (block_set (i := 2) (block_set (i := 1) (block_set (i := 0) X5.out.1 (.int .i64 cx) (by simp)) (.int .i64 cy) (by simp)) (.int .i64 cz) (by simp)) (.int .i64 bl) (by simp)) (.int .i64 f) (by simp)) (.int .i64 tm) (by simp))
        have GG := (Below.setCell (Below.setCell (Below.setCell (Below.setCell (Below.setCell (Below.setCell X5.out.2.2 (p := ⟨b6, 0, none⟩) L1.out (.int .i64 cx)) (p := ⟨b6, 1, none⟩) L1.out (.int .i64 cy)) (p := ⟨b6, 2, none⟩) L1.out (.int .i64 cz)) (p := ⟨b6, 3, none⟩) L1.out (.int .i64 bl)) (p := ⟨b6, 4, none⟩) L1.out (.int .i64 f)) (p := ⟨b6, 5, none⟩) L1.out (.int .i64 tm))
        generalize ((((((w5.setCell ⟨b6, 0, none⟩ (.int .i64 cx)).setCell ⟨b6, 1, none⟩ (.int .i64 cy)).setCell ⟨b6, 2, none⟩ (.int .i64 cz)).setCell ⟨b6, 3, none⟩ (.int .i64 bl)).setCell ⟨b6, 4, none⟩ (.int .i64 f)).setCell ⟨b6, 5, none⟩ (.int .i64 tm)) = w6 at *
        have j0 := cell_of_block (i := 0) kh rfl
        have j1 := cell_of_block (i := 1) kh rfl
        have j2 := cell_of_block (i := 2) kh rfl
        have j3 := cell_of_block (i := 3) kh rfl
        have j4 := cell_of_block (i := 4) kh rfl
        have j5 := cell_of_block (i := 5) kh rfl
        refine bodyPost_ret (by simp [results, Tryz.results114, go_sem, j0, j1, j2, j3, j4, j5]; try rfl) rfl ?_
        exact ⟨⟨cx, cy, cz, bl, f, tm, 0, by rfl, .inl rfl, fun _ => HN.out trivial⟩, ext_of (hbx ▸ GG)⟩
  · have B4 := grown_now (w := w1) (W := w4)
    have b4 := (B4.block b6 (lt_of_block YB.out.1)).trans YB.out.1
    haveI := in_of_block (heap_alloc_new w1.drew (.cells #[.int .i64 0, .int .i64 0, .int .i64 0, .int .i64 0, .int .i64 0, .int .i64 0] 171))
    have y9 := (hh4 w1.heap.size).trans ((hh2 w1.heap.size).trans (heap_alloc_new w1.drew (.cells #[.int .i64 0, .int .i64 0, .int .i64 0, .int .i64 0, .int .i64 0, .int .i64 0] 171)))
    have hlo : w1.heap.size ≤ w1.heap.size := Nat.le_refl _
    have n69 : b6 ≠ w1.heap.size := by have := lt_of_block YB.out.1; omega
    have y6 := ((block_set_far (a := ⟨w1.heap.size, 5, none⟩) (.int .i64 tm) n69).trans ((block_set_far (a := ⟨w1.heap.size, 4, none⟩) (.int .i64 f) n69).trans ((block_set_far (a := ⟨w1.heap.size, 3, none⟩) (.int .i64 bl) n69).trans ((block_set_far (a := ⟨w1.heap.size, 2, none⟩) (.int .i64 cz) n69).trans ((block_set_far (a := ⟨w1.heap.size, 1, none⟩) (.int .i64 cy) n69).trans ((block_set_far (a := ⟨w1.heap.size, 0, none⟩) (.int .i64 cx) n69).trans b4))))))
    have y8 := (block_set (i := 5) (block_set (i := 4) (block_set (i := 3) (block_set (i := 2) (block_set (i := 1) (block_set (i := 0) y9 (.int .i64 cx) (by simp)) (.int .i64 cy) (by simp)) (.int .i64 cz) (by simp)) (.int .i64 bl) (by simp)) (.int .i64 f) (by simp)) (.int .i64 tm) (by simp))
    have B5 := (Below.setCell (Below.setCell (Below.setCell (Below.setCell (Below.setCell (Below.setCell (YB.out.2.trans (B4.mono YB.out.2.size)) (p := ⟨w1.heap.size, 0, none⟩) (Nat.le_trans YB.out.2.size hlo) (.int .i64 cx)) (p := ⟨w1.heap.size, 1, none⟩) (Nat.le_trans YB.out.2.size hlo) (.int .i64 cy)) (p := ⟨w1.heap.size, 2, none⟩) (Nat.le_trans YB.out.2.size hlo) (.int .i64 cz)) (p := ⟨w1.heap.size, 3, none⟩) (Nat.le_trans YB.out.2.size hlo) (.int .i64 bl)) (p := ⟨w1.heap.size, 4, none⟩) (Nat.le_trans YB.out.2.size hlo) (.int .i64 f)) (p := ⟨w1.heap.size, 5, none⟩) (Nat.le_trans YB.out.2.size hlo) (.int .i64 tm))
    have X5 := Lib.hid (And.intro y6 (And.intro y8 B5))
    clear y6 y8 y9 B5 B4 b4
    generalize ((((((w4.setCell ⟨w1.heap.size, 0, none⟩ (.int .i64 cx)).setCell ⟨w1.heap.size, 1, none⟩ (.int .i64 cy)).setCell ⟨w1.heap.size, 2, none⟩ (.int .i64 cz)).setCell ⟨w1.heap.size, 3, none⟩ (.int .i64 bl)).setCell ⟨w1.heap.size, 4, none⟩ (.int .i64 f)).setCell ⟨w1.heap.size, 5, none⟩ (.int .i64 tm)) = w5 at *
    generalize w1.heap.size = b9 at *
    clear hc2 hz2 hh2 hc4 hz4 hh4 VW AT EY CA k0 k1 k2 k3 k4 k5 k6 k7 k8 x0 x1 x2 YB hb2 hb2_1 hb4 hb4_1
    have d0 := cell_of_block (i := 0) X5.out.1 rfl
    have y0 := free_of_block 0 X5.out.1
    have g0 := cell_of_block (i := 0) X5.out.2.1 rfl
    have d1 := cell_of_block (i := 1) X5.out.1 rfl
    have y1 := free_of_block 1 X5.out.1
    have g1 := cell_of_block (i := 1) X5.out.2.1 rfl
    have d2 := cell_of_block (i := 2) X5.out.1 rfl
    have y2 := free_of_block 2 X5.out.1
    have g2 := cell_of_block (i := 2) X5.out.2.1 rfl
    have d3 := cell_of_block (i := 3) X5.out.1 rfl
    have y3 := free_of_block 3 X5.out.1
    have g3 := cell_of_block (i := 3) X5.out.2.1 rfl
    have d4 := cell_of_block (i := 4) X5.out.1 rfl
    have y4 := free_of_block 4 X5.out.1
    have g4 := cell_of_block (i := 4) X5.out.2.1 rfl
    have d5 := cell_of_block (i := 5) X5.out.1 rfl
    have y5 := free_of_block 5 X5.out.1
    have g5 := cell_of_block (i := 5) X5.out.2.1 rfl
    haveI := in_of_cell d0
    haveI := in_of_cell g0
    cases hh
    · go_wp2_with fail
      have kh := (block_set (i := 5) (block_set (i := 4) (block_set (i := 3) (block_set (i := 2) (block_set (i := 1) (block_set (i := 0) X5.out.1 (.int .i64 0) (by simp)) (.int .i64 0) (by simp)) (.int .i64 0) (by simp)) (.int .i64 0) (by simp)) (.int .i64 0) (by simp)) (.int .i64 0) (by simp))
      have GG := (Below.setCell (Below.setCell (Below.setCell (Below.setCell (Below.setCell (Below.setCell X5.out.2.2 (p := ⟨b6, 0, none⟩) L1.out (.int .i64 0)) (p := ⟨b6, 1, none⟩) L1.out (.int .i64 0)) (p := ⟨b6, 2, none⟩) L1.out (.int .i64 0)) (p := ⟨b6, 3, none⟩) L1.out (.int .i64 0)) (p := ⟨b6, 4, none⟩) L1.out (.int .i64 0)) (p := ⟨b6, 5, none⟩) L1.out (.int .i64 0))
      generalize ((((((w5.setCell ⟨b6, 0, none⟩ (.int .i64 0)).setCell ⟨b6, 1, none⟩ (.int .i64 0)).setCell ⟨b6, 2, none⟩ (.int .i64 0)).setCell ⟨b6, 3, none⟩ (.int .i64 0)).setCell ⟨b6, 4, none⟩ (.int .i64 0)).setCell ⟨b6, 5, none⟩ (.int .i64 0)) = w6 at *
      have j0 := cell_of_block (i := 0) kh rfl
      have j1 := cell_of_block (i := 1) kh rfl
      have j2 := cell_of_block (i := 2) kh rfl
      have j3 := cell_of_block (i := 3) kh rfl
      have j4 := cell_of_block (i := 4) kh rfl
      have j5 := cell_of_block (i := 5) kh rfl
      refine bodyPost_ret (by simp [results, Tryz.results114, go_sem, j0, j1, j2, j3, j4, j5]; try rfl) rfl ?_
      exact ⟨⟨0, 0, 0, 0, 0, 0, 13, rfl, .inr (.inr rfl), fun h => by cases h⟩, ext_of (hbx ▸ GG)⟩
    · by_cases hbl : bl = -1
      · subst hbl
        go_wp2_with fail
        have kh := (block_set (i := 5) (block_set (i := 4) (block_set (i := 3) (block_set (i := 2) (block_set (i := 1) (block_set (i := 0) X5.out.1 (.int .i64 0) (by simp)) (.int .i64 0) (by simp)) (.int .i64 0) (by simp)) (.int .i64 0) (by simp)) (.int .i64 0) (by simp)) (.int .i64 0) (by simp))
        have GG := (Below.setCell (Below.setCell (Below.setCell (Below.setCell (Below.setCell (Below.setCell X5.out.2.2 (p := ⟨b6, 0, none⟩) L1.out (.int .i64 0)) (p := ⟨b6, 1, none⟩) L1.out (.int .i64 0)) (p := ⟨b6, 2, none⟩) L1.out (.int .i64 0)) (p := ⟨b6, 3, none⟩) L1.out (.int .i64 0)) (p := ⟨b6, 4, none⟩) L1.out (.int .i64 0)) (p := ⟨b6, 5, none⟩) L1.out (.int .i64 0))
        generalize ((((((w5.setCell ⟨b6, 0, none⟩ (.int .i64 0)).setCell ⟨b6, 1, none⟩ (.int .i64 0)).setCell ⟨b6, 2, none⟩ (.int .i64 0)).setCell ⟨b6, 3, none⟩ (.int .i64 0)).setCell ⟨b6, 4, none⟩ (.int .i64 0)).setCell ⟨b6, 5, none⟩ (.int .i64 0)) = w6 at *
        have j0 := cell_of_block (i := 0) kh rfl
        have j1 := cell_of_block (i := 1) kh rfl
        have j2 := cell_of_block (i := 2) kh rfl
        have j3 := cell_of_block (i := 3) kh rfl
        have j4 := cell_of_block (i := 4) kh rfl
        have j5 := cell_of_block (i := 5) kh rfl
        refine bodyPost_ret (by simp [results, Tryz.results114, go_sem, j0, j1, j2, j3, j4, j5]; try rfl) rfl ?_
        exact ⟨⟨0, 0, 0, 0, 0, 0, 11, rfl, .inr (.inl rfl), fun h => by cases h⟩, ext_of (hbx ▸ GG)⟩
      · skip
        go_wp2_with fail
        have kh := (block_set (i := 5) (block_set (i := 4) (block_set (i := 3) (block_set (i := 2) (block_set (i := 1) (block_set (i := 0) X5.out.1 (.int .i64 cx) (by simp)) (.int .i64 cy) (by simp)) (.int .i64 cz) (by simp)) (.int .i64 bl) (by simp)) (.int .i64 f) (by simp)) (.int .i64 tm) (by simp))
        have GG := (Below.setCell (Below.setCell (Below.setCell (Below.setCell (Below.setCell (Below.setCell X5.out.2.2 (p := ⟨b6, 0, none⟩) L1.out (.int .i64 cx)) (p := ⟨b6, 1, none⟩) L1.out (.int .i64 cy)) (p := ⟨b6, 2, none⟩) L1.out (.int .i64 cz)) (p := ⟨b6, 3, none⟩) L1.out (.int .i64 bl)) (p := ⟨b6, 4, none⟩) L1.out (.int .i64 f)) (p := ⟨b6, 5, none⟩) L1.out (.int .i64 tm))
        generalize ((((((w5.setCell ⟨b6, 0, none⟩ (.int .i64 cx)).setCell ⟨b6, 1, none⟩ (.int .i64 cy)).setCell ⟨b6, 2, none⟩ (.int .i64 cz)).setCell ⟨b6, 3, none⟩ (.int .i64 bl)).setCell ⟨b6, 4, none⟩ (.int .i64 f)).setCell ⟨b6, 5, none⟩ (.int .i64 tm)) = w6 at *
        have j0 := cell_of_block (i := 0) kh rfl
        have j1 := cell_of_block (i := 1) kh rfl
        have j2 := cell_of_block (i := 2) kh rfl
        have j3 := cell_of_block (i := 3) kh rfl
        have j4 := cell_of_block (i := 4) kh rfl
        have j5 := cell_of_block (i := 5) kh rfl
        refine bodyPost_ret (by simp [results, Tryz.results114, go_sem, j0, j1, j2, j3, j4, j5]; try rfl) rfl ?_
        exact ⟨⟨cx, cy, cz, bl, f, tm, 0, by rfl, .inl rfl, fun _ => HN.out trivial⟩, ext_of (hbx ▸ GG)⟩
#print axioms look_any
end Go.Proofs.YtnogfelfgclajaaGreatDoor
end
