/- Neighbours, of cells and of chunks, are the document's, each one step away, and neighbours of neighbours lead back: whatever cell and chunk come in, CellNear hands back true; no conditions. -/
import Derived.Test.YtdlapfpjbcjaeaaRefNear
import Derived.Test.YtdlapfpjbcjaeaaSame
import Derived.Test.YtdlapfpjbcjaeaaBeside
import Derived.Test.YtdlapfpjbcjaeaaFree
import Derived.Test.YtdlapfpjbcjaeaaLaw
namespace Go.Proofs.Ytdlapfpjbcjaeaa
open Go.RowKit
attribute [local go_sem] ext_ext drew_ext ext_drew ext_cell ext_frozen in_lt in_le in_ne in_en in_ne1 in_en1 in_le1 size_le ite_max ite_min
set_option linter.unusedVariables false
set_option linter.unusedSimpArgs false
attribute [local go_sem] calm calmUpon cutS_cutS same_near same_bes near_get0 near_get1 near_get2 near_get3 near_get4 near_get5 near_get6 near_get7 near_get8 near_get9 near_get10 near_get11 near_get12 near_get13 near_get14 near_get15 near_get16 near_get17

namespace cellNear
open Go.ChangeShapes Go.WideShapes Go.ChangeAt

set_option maxRecDepth 100000 in
set_option maxHeartbeats 8000000 in
theorem walk (x y z p q : Int) (_fx : Fit x) (_fy : Fit y) (_fz : Fit z) (fp : Fit p) (fq : Fit q) (w : World) :
    Calls Try.prog 5 #[.agg #[.int .i64 x, .int .i64 y, .int .i64 z], .agg #[.int .i64 p, .int .i64 q]] w fun e w' => e = .returned (.bool true) ∧ ∃ f, w' = ext w f := by
  obtain ⟨p1, p2⟩ := arS_bd (n := p) (m := 268435457) (by omega)
  obtain ⟨q1, q2⟩ := arS_bd (n := q) (m := 268435457) (by omega)
  go_enter Try.func5, Try.ntmps5
  go_wp2_with fail
  refine (near_any x y z _).mono ?_
  rintro e w1 ⟨rfl, _t, hw⟩
  have hc1 := named_cell hw
  have hz1 := named_frozen hw
  have hh1 := named_heap hw
  haveI hi1 := named_in hw
  haveI hb1 := named_below (w := w) hw
  clear hw
  go_wp2_with (first | (refine wpList_store_new rfl 37 (.tmp 5) (.tmp 12) rfl _ rfl _ (nearS x y z) rfl rfl near_size (by simp [nearS]) (near_one x y z) rfl ?_))
  refine wp_region_free_named 9 6 29 #[.int .i64 0, .int .i64 0] (by kernel_rfl) (by kernel_rfl) rfl rfl rfl rfl (by intro a W; go_simp) ?_
  simp only [List.take_succ_cons, List.take_zero, List.drop_succ_cons, List.drop_zero]
  repeat (refine wpCalm_step (fun K hK => ?_); go_simp; first | (refine hK _ ?_; clear hK K) | (apply Exists.intro; refine ⟨fun _ => ?_, hK _ ?_⟩; (first | rfl | (go_at_call 22; exact calm_same (around_any _ _ _ (by assumption) (by omega) (by omega)))); clear hK K))
  refine wpCalm_nil ?_
  rintro w2 ⟨_t, hw⟩ w3 ⟨_t2, hw2⟩
  have hc2 := named_cell hw
  have hz2 := named_frozen hw
  have hh2 := named_heap hw
  haveI hi2 := named_in hw
  haveI hb2 := named_below (w := w) hw
  clear hw
  have hc3 := named_cell hw2
  have hz3 := named_frozen hw2
  have hh3 := named_heap hw2
  haveI hi3 := named_in hw2
  haveI hb3 := named_below (w := w) hw2
  clear hw2
  go_wp2_with fail

  have hl3 : w3.heap[w1.heap.size]? = some (.cells (nearS x y z) 37 (0, 0)) := by rw [hh3, heap_alloc_in, hh2]; exact heap_alloc_at _ _ rfl
  have hl3' : ∀ w', (∃ f, w' = ext ((w3.setCell ⟨w2.heap.size, 0, none⟩ (.int .i64 (arS p 268435457 - 134217728))).setCell ⟨w2.heap.size, 1, none⟩ (.int .i64 (arS q 268435457 - 134217728))) f) → w'.rangeAt w1.heap.size 0 (nearS x y z).toList := by
    rintro _ ⟨f, rfl⟩
    refine range_block (T := 37) (fr := (0, 0)) ?_
    rw [heap_ext, heap_setCell_other _ _ _ _ (by simp [go_sem]), heap_setCell_other _ _ _ _ (by simp [go_sem])]
    exact hl3
  refine wp_region_ext ?_ ?_ ?_
  · kernel_rfl
  · kernel_rfl
  repeat (first | (refine wpQuiet_load_row rfl 37 (.tmp 5) rfl (nearS x y z) _ rfl hl3' Try.underlying37 rfl near_size ?_; simp only [Act.put, List.setIfInBounds_toArray, List.set_cons_zero, List.set_cons_succ]) | (go_big_quiet_step (first | (go_at_call 25; exact ext_call (refnear_any _ _ _ _)) | (go_at_call 26; exact ext_call (beside_any _ _ _ (by omega) (by omega) (by omega) (by omega))) | (go_at_call 27; exact ext_call (refbeside_any _ _ _ (by omega) (by omega) (by omega) (by omega))))))  -- FIRST
  refine wpQuiet_nil ?_
  rintro w4 ⟨_t, hw⟩
  have hc4 := named_cell hw
  have hz4 := named_frozen hw
  have hh4 := named_heap hw
  haveI hi4 := named_in hw
  haveI hb4 := named_below (w := w) hw
  clear hw
  go_wp2_with fail
  refine (refcut_any x y z _).mono ?_
  rintro e w5 ⟨rfl, _t, hw⟩
  have hc5 := named_cell hw
  have hz5 := named_frozen hw
  have hh5 := named_heap hw
  haveI hi5 := named_in hw
  haveI hb5 := named_below (w := w) hw
  clear hw
  go_wp2_with fail
  have hd5 : (w5.alloc (.cells #[.int .i64 (cutS x), .int .i64 (cutS y), .int .i64 (cutS z)] 27)).heap[w5.heap.size]? = some (.cells #[.int .i64 (cutS x), .int .i64 (cutS y), .int .i64 (cutS z)] 27 (0, 0)) := heap_alloc_at _ _ rfl
  have hl5 : (w5.alloc (.cells #[.int .i64 (cutS x), .int .i64 (cutS y), .int .i64 (cutS z)] 27)).heap[w1.heap.size]? = some (.cells (nearS x y z) 37 (0, 0)) := by
    rw [heap_alloc_in, hh5, hh4, heap_setCell_other _ _ _ _ (by simp [go_sem]), heap_setCell_other _ _ _ _ (by simp [go_sem])]
    exact hl3
  have hb9 : Nonempty (Below w.heap.size w (w5.alloc (.cells #[.int .i64 (cutS x), .int .i64 (cutS y), .int .i64 (cutS z)] 27))) := inferInstance
  have step : ∀ n : Int, -2147483648 ≤ n → n ≤ 2147483648 → (cutS (n + -1) = n + -1 ∨ cutS (n + -1) = n) ∧ (cutS (n + 1) = n + 1 ∨ cutS (n + 1) = n) := by
    intro n h1 h2
    unfold cutS
    omega
  obtain ⟨sx1, sx2⟩ := step (cutS x) (cutS_bd x).1 (cutS_bd x).2
  obtain ⟨sy1, sy2⟩ := step (cutS y) (cutS_bd y).1 (cutS_bd y).2
  obtain ⟨sz1, sz2⟩ := step (cutS z) (cutS_bd z).1 (cutS_bd z).2
  have bx := cutS_bd x
  have bY := cutS_bd y
  have bz := cutS_bd z
  obtain ⟨bx1, bx2⟩ := bx
  obtain ⟨by1, by2⟩ := bY
  obtain ⟨bz1, bz2⟩ := bz
  clear step hl3 hl3' hc1 hc2 hc3 hc4 hc5 hz1 hz2 hz3 hz4 hz5 hh1 hh2 hh3 hh4 hh5
  go_loopw [8, 9, 10] (fun i _ _ wr => ∃ k : Nat, k ≤ 6 ∧ i = Value.int .i64 k ∧ Nonempty (Below w.heap.size w wr) ∧ wr.heap[w1.heap.size]? = some (.cells (nearS x y z) 37 (0, 0)) ∧
      wr.heap[w5.heap.size]? = some (.cells #[.int .i64 (cutS x), .int .i64 (cutS y), .int .i64 (cutS z)] 27 (0, 0))) (fun i _ _ _ => 6 - (intOf i).toNat)
  case atStart => exact ⟨0, by omega, rfl, hb9, hl5, hd5⟩
  case round =>
    obtain ⟨k, hk, rfl, hb, hgl, hgd⟩ := hrel
    clear hd5 hl5 hb9
    haveI i0 : Nonempty (In w1.heap.size wr) := ⟨(Array.getElem?_eq_some_iff.1 hgl).1⟩
    haveI i1 : Nonempty (In w5.heap.size wr) := ⟨(Array.getElem?_eq_some_iff.1 hgd).1⟩
    have c0 := fun i => cell_of_row wr _ i _ _ _ hgl
    have c1 := fun i => cell_of_row wr _ i _ _ _ hgd
    rcases (by omega : k = 0 ∨ k = 1 ∨ k = 2 ∨ k = 3 ∨ k = 4 ∨ k = 5 ∨ k = 6) with rfl | rfl | rfl | rfl | rfl | rfl | rfl
    · rcases sx1 with e | e
      · have e2 : cutS x + -1 + 1 = cutS x := by omega
        have e3 : cutS x - (cutS x + -1) = 1 := by omega
        clear sx2 sy1 sy2 sz1 sz2
        go_wp2_with fail
        refine (near_any _ _ _ _).mono ?_
        rintro e w6 ⟨rfl, _t, hw⟩
        have hc6 := named_cell hw
        have hz6 := named_frozen hw
        have hh6 := named_heap hw
        haveI hi6 := named_in hw
        haveI hb6 := named_below (w := w) hw
        clear hw
        go_wp2_with (first | (refine wpList_store_new rfl 37 (.tmp 9) (.tmp 42) rfl _ rfl _ (nearS _ _ _) rfl rfl near_size (by simp [nearS]) (near_one _ _ _) rfl ?_))
        refine wp_region_ext ?_ ?_ ?_
        · kernel_rfl
        · kernel_rfl
        repeat (go_big_quiet_step (first | fail))
        refine wpQuiet_nil ?_
        rintro w7 ⟨_t, hw⟩
        have hc7 := named_cell hw
        have hz7 := named_frozen hw
        have hh7 := named_heap hw
        haveI hi7 := named_in hw
        haveI hb7 := named_below (w := w) hw
        clear hw
        go_wp2_with fail
        refine wp_region_ext ?_ ?_ ?_
        · kernel_rfl
        · kernel_rfl
        repeat (go_big_quiet_step (first | fail))
        refine wpQuiet_nil ?_
        rintro w8 ⟨_t, hw⟩
        have hc8 := named_cell hw
        have hz8 := named_frozen hw
        have hh8 := named_heap hw
        haveI hi8 := named_in hw
        haveI hb8 := named_below (w := w) hw
        clear hw
        go_wp2
        refine ⟨⟨1, by omega, rfl, inferInstance, ?_, ?_⟩, by simp [intOf]⟩
        · rw [hh8, hh7, heap_alloc_in, hh6]; exact hgl
        · rw [hh8, hh7, heap_alloc_in, hh6]; exact hgd
      · have _ : True := trivial
        clear sx2 sy1 sy2 sz1 sz2
        go_wp2_with fail
        refine (near_any _ _ _ _).mono ?_
        rintro e w6 ⟨rfl, _t, hw⟩
        have hc6 := named_cell hw
        have hz6 := named_frozen hw
        have hh6 := named_heap hw
        haveI hi6 := named_in hw
        haveI hb6 := named_below (w := w) hw
        clear hw
        go_wp2_with (first | (refine wpList_store_new rfl 37 (.tmp 9) (.tmp 42) rfl _ rfl _ (nearS _ _ _) rfl rfl near_size (by simp [nearS]) (near_one _ _ _) rfl ?_))
        refine wp_region_ext ?_ ?_ ?_
        · kernel_rfl
        · kernel_rfl
        repeat (go_big_quiet_step (first | fail))
        refine wpQuiet_nil ?_
        rintro w7 ⟨_t, hw⟩
        have hc7 := named_cell hw
        have hz7 := named_frozen hw
        have hh7 := named_heap hw
        haveI hi7 := named_in hw
        haveI hb7 := named_below (w := w) hw
        clear hw
        go_wp2_with fail
        refine wp_region_ext ?_ ?_ ?_
        · kernel_rfl
        · kernel_rfl
        repeat (go_big_quiet_step (first | fail))
        refine wpQuiet_nil ?_
        rintro w8 ⟨_t, hw⟩
        have hc8 := named_cell hw
        have hz8 := named_frozen hw
        have hh8 := named_heap hw
        haveI hi8 := named_in hw
        haveI hb8 := named_below (w := w) hw
        clear hw
        go_wp2
        refine ⟨⟨1, by omega, rfl, inferInstance, ?_, ?_⟩, by simp [intOf]⟩
        · rw [hh8, hh7, heap_alloc_in, hh6]; exact hgl
        · rw [hh8, hh7, heap_alloc_in, hh6]; exact hgd
    · rcases sx2 with e | e
      · have e2 : cutS x + 1 + -1 = cutS x := by omega
        have e3 : cutS x + 1 - cutS x = 1 := by omega
        clear sx1 sy1 sy2 sz1 sz2
        go_wp2_with fail
        refine (near_any _ _ _ _).mono ?_
        rintro e w6 ⟨rfl, _t, hw⟩
        have hc6 := named_cell hw
        have hz6 := named_frozen hw
        have hh6 := named_heap hw
        haveI hi6 := named_in hw
        haveI hb6 := named_below (w := w) hw
        clear hw
        go_wp2_with (first | (refine wpList_store_new rfl 37 (.tmp 9) (.tmp 42) rfl _ rfl _ (nearS _ _ _) rfl rfl near_size (by simp [nearS]) (near_one _ _ _) rfl ?_))
        refine wp_region_ext ?_ ?_ ?_
        · kernel_rfl
        · kernel_rfl
        repeat (go_big_quiet_step (first | fail))
        refine wpQuiet_nil ?_
        rintro w7 ⟨_t, hw⟩
        have hc7 := named_cell hw
        have hz7 := named_frozen hw
        have hh7 := named_heap hw
        haveI hi7 := named_in hw
        haveI hb7 := named_below (w := w) hw
        clear hw
        go_wp2_with fail
        refine wp_region_ext ?_ ?_ ?_
        · kernel_rfl
        · kernel_rfl
        repeat (go_big_quiet_step (first | fail))
        refine wpQuiet_nil ?_
        rintro w8 ⟨_t, hw⟩
        have hc8 := named_cell hw
        have hz8 := named_frozen hw
        have hh8 := named_heap hw
        haveI hi8 := named_in hw
        haveI hb8 := named_below (w := w) hw
        clear hw
        go_wp2
        refine ⟨⟨2, by omega, rfl, inferInstance, ?_, ?_⟩, by simp [intOf]⟩
        · rw [hh8, hh7, heap_alloc_in, hh6]; exact hgl
        · rw [hh8, hh7, heap_alloc_in, hh6]; exact hgd
      · have _ : True := trivial
        clear sx1 sy1 sy2 sz1 sz2
        go_wp2_with fail
        refine (near_any _ _ _ _).mono ?_
        rintro e w6 ⟨rfl, _t, hw⟩
        have hc6 := named_cell hw
        have hz6 := named_frozen hw
        have hh6 := named_heap hw
        haveI hi6 := named_in hw
        haveI hb6 := named_below (w := w) hw
        clear hw
        go_wp2_with (first | (refine wpList_store_new rfl 37 (.tmp 9) (.tmp 42) rfl _ rfl _ (nearS _ _ _) rfl rfl near_size (by simp [nearS]) (near_one _ _ _) rfl ?_))
        refine wp_region_ext ?_ ?_ ?_
        · kernel_rfl
        · kernel_rfl
        repeat (go_big_quiet_step (first | fail))
        refine wpQuiet_nil ?_
        rintro w7 ⟨_t, hw⟩
        have hc7 := named_cell hw
        have hz7 := named_frozen hw
        have hh7 := named_heap hw
        haveI hi7 := named_in hw
        haveI hb7 := named_below (w := w) hw
        clear hw
        go_wp2_with fail
        refine wp_region_ext ?_ ?_ ?_
        · kernel_rfl
        · kernel_rfl
        repeat (go_big_quiet_step (first | fail))
        refine wpQuiet_nil ?_
        rintro w8 ⟨_t, hw⟩
        have hc8 := named_cell hw
        have hz8 := named_frozen hw
        have hh8 := named_heap hw
        haveI hi8 := named_in hw
        haveI hb8 := named_below (w := w) hw
        clear hw
        go_wp2
        refine ⟨⟨2, by omega, rfl, inferInstance, ?_, ?_⟩, by simp [intOf]⟩
        · rw [hh8, hh7, heap_alloc_in, hh6]; exact hgl
        · rw [hh8, hh7, heap_alloc_in, hh6]; exact hgd
    · rcases sy1 with e | e
      · have e2 : cutS y + -1 + 1 = cutS y := by omega
        have e3 : cutS y - (cutS y + -1) = 1 := by omega
        clear sx1 sx2 sy2 sz1 sz2
        go_wp2_with fail
        refine (near_any _ _ _ _).mono ?_
        rintro e w6 ⟨rfl, _t, hw⟩
        have hc6 := named_cell hw
        have hz6 := named_frozen hw
        have hh6 := named_heap hw
        haveI hi6 := named_in hw
        haveI hb6 := named_below (w := w) hw
        clear hw
        go_wp2_with (first | (refine wpList_store_new rfl 37 (.tmp 9) (.tmp 42) rfl _ rfl _ (nearS _ _ _) rfl rfl near_size (by simp [nearS]) (near_one _ _ _) rfl ?_))
        refine wp_region_ext ?_ ?_ ?_
        · kernel_rfl
        · kernel_rfl
        repeat (go_big_quiet_step (first | fail))
        refine wpQuiet_nil ?_
        rintro w7 ⟨_t, hw⟩
        have hc7 := named_cell hw
        have hz7 := named_frozen hw
        have hh7 := named_heap hw
        haveI hi7 := named_in hw
        haveI hb7 := named_below (w := w) hw
        clear hw
        go_wp2_with fail
        refine wp_region_ext ?_ ?_ ?_
        · kernel_rfl
        · kernel_rfl
        repeat (go_big_quiet_step (first | fail))
        refine wpQuiet_nil ?_
        rintro w8 ⟨_t, hw⟩
        have hc8 := named_cell hw
        have hz8 := named_frozen hw
        have hh8 := named_heap hw
        haveI hi8 := named_in hw
        haveI hb8 := named_below (w := w) hw
        clear hw
        go_wp2
        refine ⟨⟨3, by omega, rfl, inferInstance, ?_, ?_⟩, by simp [intOf]⟩
        · rw [hh8, hh7, heap_alloc_in, hh6]; exact hgl
        · rw [hh8, hh7, heap_alloc_in, hh6]; exact hgd
      · have _ : True := trivial
        clear sx1 sx2 sy2 sz1 sz2
        go_wp2_with fail
        refine (near_any _ _ _ _).mono ?_
        rintro e w6 ⟨rfl, _t, hw⟩
        have hc6 := named_cell hw
        have hz6 := named_frozen hw
        have hh6 := named_heap hw
        haveI hi6 := named_in hw
        haveI hb6 := named_below (w := w) hw
        clear hw
        go_wp2_with (first | (refine wpList_store_new rfl 37 (.tmp 9) (.tmp 42) rfl _ rfl _ (nearS _ _ _) rfl rfl near_size (by simp [nearS]) (near_one _ _ _) rfl ?_))
        refine wp_region_ext ?_ ?_ ?_
        · kernel_rfl
        · kernel_rfl
        repeat (go_big_quiet_step (first | fail))
        refine wpQuiet_nil ?_
        rintro w7 ⟨_t, hw⟩
        have hc7 := named_cell hw
        have hz7 := named_frozen hw
        have hh7 := named_heap hw
        haveI hi7 := named_in hw
        haveI hb7 := named_below (w := w) hw
        clear hw
        go_wp2_with fail
        refine wp_region_ext ?_ ?_ ?_
        · kernel_rfl
        · kernel_rfl
        repeat (go_big_quiet_step (first | fail))
        refine wpQuiet_nil ?_
        rintro w8 ⟨_t, hw⟩
        have hc8 := named_cell hw
        have hz8 := named_frozen hw
        have hh8 := named_heap hw
        haveI hi8 := named_in hw
        haveI hb8 := named_below (w := w) hw
        clear hw
        go_wp2
        refine ⟨⟨3, by omega, rfl, inferInstance, ?_, ?_⟩, by simp [intOf]⟩
        · rw [hh8, hh7, heap_alloc_in, hh6]; exact hgl
        · rw [hh8, hh7, heap_alloc_in, hh6]; exact hgd
    · rcases sy2 with e | e
      · have e2 : cutS y + 1 + -1 = cutS y := by omega
        have e3 : cutS y + 1 - cutS y = 1 := by omega
        clear sx1 sx2 sy1 sz1 sz2
        go_wp2_with fail
        refine (near_any _ _ _ _).mono ?_
        rintro e w6 ⟨rfl, _t, hw⟩
        have hc6 := named_cell hw
        have hz6 := named_frozen hw
        have hh6 := named_heap hw
        haveI hi6 := named_in hw
        haveI hb6 := named_below (w := w) hw
        clear hw
        go_wp2_with (first | (refine wpList_store_new rfl 37 (.tmp 9) (.tmp 42) rfl _ rfl _ (nearS _ _ _) rfl rfl near_size (by simp [nearS]) (near_one _ _ _) rfl ?_))
        refine wp_region_ext ?_ ?_ ?_
        · kernel_rfl
        · kernel_rfl
        repeat (go_big_quiet_step (first | fail))
        refine wpQuiet_nil ?_
        rintro w7 ⟨_t, hw⟩
        have hc7 := named_cell hw
        have hz7 := named_frozen hw
        have hh7 := named_heap hw
        haveI hi7 := named_in hw
        haveI hb7 := named_below (w := w) hw
        clear hw
        go_wp2_with fail
        refine wp_region_ext ?_ ?_ ?_
        · kernel_rfl
        · kernel_rfl
        repeat (go_big_quiet_step (first | fail))
        refine wpQuiet_nil ?_
        rintro w8 ⟨_t, hw⟩
        have hc8 := named_cell hw
        have hz8 := named_frozen hw
        have hh8 := named_heap hw
        haveI hi8 := named_in hw
        haveI hb8 := named_below (w := w) hw
        clear hw
        go_wp2
        refine ⟨⟨4, by omega, rfl, inferInstance, ?_, ?_⟩, by simp [intOf]⟩
        · rw [hh8, hh7, heap_alloc_in, hh6]; exact hgl
        · rw [hh8, hh7, heap_alloc_in, hh6]; exact hgd
      · have _ : True := trivial
        clear sx1 sx2 sy1 sz1 sz2
        go_wp2_with fail
        refine (near_any _ _ _ _).mono ?_
        rintro e w6 ⟨rfl, _t, hw⟩
        have hc6 := named_cell hw
        have hz6 := named_frozen hw
        have hh6 := named_heap hw
        haveI hi6 := named_in hw
        haveI hb6 := named_below (w := w) hw
        clear hw
        go_wp2_with (first | (refine wpList_store_new rfl 37 (.tmp 9) (.tmp 42) rfl _ rfl _ (nearS _ _ _) rfl rfl near_size (by simp [nearS]) (near_one _ _ _) rfl ?_))
        refine wp_region_ext ?_ ?_ ?_
        · kernel_rfl
        · kernel_rfl
        repeat (go_big_quiet_step (first | fail))
        refine wpQuiet_nil ?_
        rintro w7 ⟨_t, hw⟩
        have hc7 := named_cell hw
        have hz7 := named_frozen hw
        have hh7 := named_heap hw
        haveI hi7 := named_in hw
        haveI hb7 := named_below (w := w) hw
        clear hw
        go_wp2_with fail
        refine wp_region_ext ?_ ?_ ?_
        · kernel_rfl
        · kernel_rfl
        repeat (go_big_quiet_step (first | fail))
        refine wpQuiet_nil ?_
        rintro w8 ⟨_t, hw⟩
        have hc8 := named_cell hw
        have hz8 := named_frozen hw
        have hh8 := named_heap hw
        haveI hi8 := named_in hw
        haveI hb8 := named_below (w := w) hw
        clear hw
        go_wp2
        refine ⟨⟨4, by omega, rfl, inferInstance, ?_, ?_⟩, by simp [intOf]⟩
        · rw [hh8, hh7, heap_alloc_in, hh6]; exact hgl
        · rw [hh8, hh7, heap_alloc_in, hh6]; exact hgd
    · rcases sz1 with e | e
      · have e2 : cutS z + -1 + 1 = cutS z := by omega
        have e3 : cutS z - (cutS z + -1) = 1 := by omega
        clear sx1 sx2 sy1 sy2 sz2
        go_wp2_with fail
        refine (near_any _ _ _ _).mono ?_
        rintro e w6 ⟨rfl, _t, hw⟩
        have hc6 := named_cell hw
        have hz6 := named_frozen hw
        have hh6 := named_heap hw
        haveI hi6 := named_in hw
        haveI hb6 := named_below (w := w) hw
        clear hw
        go_wp2_with (first | (refine wpList_store_new rfl 37 (.tmp 9) (.tmp 42) rfl _ rfl _ (nearS _ _ _) rfl rfl near_size (by simp [nearS]) (near_one _ _ _) rfl ?_))
        refine wp_region_ext ?_ ?_ ?_
        · kernel_rfl
        · kernel_rfl
        repeat (go_big_quiet_step (first | fail))
        refine wpQuiet_nil ?_
        rintro w7 ⟨_t, hw⟩
        have hc7 := named_cell hw
        have hz7 := named_frozen hw
        have hh7 := named_heap hw
        haveI hi7 := named_in hw
        haveI hb7 := named_below (w := w) hw
        clear hw
        go_wp2_with fail
        refine wp_region_ext ?_ ?_ ?_
        · kernel_rfl
        · kernel_rfl
        repeat (go_big_quiet_step (first | fail))
        refine wpQuiet_nil ?_
        rintro w8 ⟨_t, hw⟩
        have hc8 := named_cell hw
        have hz8 := named_frozen hw
        have hh8 := named_heap hw
        haveI hi8 := named_in hw
        haveI hb8 := named_below (w := w) hw
        clear hw
        go_wp2
        refine ⟨⟨5, by omega, rfl, inferInstance, ?_, ?_⟩, by simp [intOf]⟩
        · rw [hh8, hh7, heap_alloc_in, hh6]; exact hgl
        · rw [hh8, hh7, heap_alloc_in, hh6]; exact hgd
      · have _ : True := trivial
        clear sx1 sx2 sy1 sy2 sz2
        go_wp2_with fail
        refine (near_any _ _ _ _).mono ?_
        rintro e w6 ⟨rfl, _t, hw⟩
        have hc6 := named_cell hw
        have hz6 := named_frozen hw
        have hh6 := named_heap hw
        haveI hi6 := named_in hw
        haveI hb6 := named_below (w := w) hw
        clear hw
        go_wp2_with (first | (refine wpList_store_new rfl 37 (.tmp 9) (.tmp 42) rfl _ rfl _ (nearS _ _ _) rfl rfl near_size (by simp [nearS]) (near_one _ _ _) rfl ?_))
        refine wp_region_ext ?_ ?_ ?_
        · kernel_rfl
        · kernel_rfl
        repeat (go_big_quiet_step (first | fail))
        refine wpQuiet_nil ?_
        rintro w7 ⟨_t, hw⟩
        have hc7 := named_cell hw
        have hz7 := named_frozen hw
        have hh7 := named_heap hw
        haveI hi7 := named_in hw
        haveI hb7 := named_below (w := w) hw
        clear hw
        go_wp2_with fail
        refine wp_region_ext ?_ ?_ ?_
        · kernel_rfl
        · kernel_rfl
        repeat (go_big_quiet_step (first | fail))
        refine wpQuiet_nil ?_
        rintro w8 ⟨_t, hw⟩
        have hc8 := named_cell hw
        have hz8 := named_frozen hw
        have hh8 := named_heap hw
        haveI hi8 := named_in hw
        haveI hb8 := named_below (w := w) hw
        clear hw
        go_wp2
        refine ⟨⟨5, by omega, rfl, inferInstance, ?_, ?_⟩, by simp [intOf]⟩
        · rw [hh8, hh7, heap_alloc_in, hh6]; exact hgl
        · rw [hh8, hh7, heap_alloc_in, hh6]; exact hgd
    · rcases sz2 with e | e
      · have e2 : cutS z + 1 + -1 = cutS z := by omega
        have e3 : cutS z + 1 - cutS z = 1 := by omega
        clear sx1 sx2 sy1 sy2 sz1
        go_wp2_with fail
        refine (near_any _ _ _ _).mono ?_
        rintro e w6 ⟨rfl, _t, hw⟩
        have hc6 := named_cell hw
        have hz6 := named_frozen hw
        have hh6 := named_heap hw
        haveI hi6 := named_in hw
        haveI hb6 := named_below (w := w) hw
        clear hw
        go_wp2_with (first | (refine wpList_store_new rfl 37 (.tmp 9) (.tmp 42) rfl _ rfl _ (nearS _ _ _) rfl rfl near_size (by simp [nearS]) (near_one _ _ _) rfl ?_))
        refine wp_region_ext ?_ ?_ ?_
        · kernel_rfl
        · kernel_rfl
        repeat (go_big_quiet_step (first | fail))
        refine wpQuiet_nil ?_
        rintro w7 ⟨_t, hw⟩
        have hc7 := named_cell hw
        have hz7 := named_frozen hw
        have hh7 := named_heap hw
        haveI hi7 := named_in hw
        haveI hb7 := named_below (w := w) hw
        clear hw
        go_wp2_with fail
        refine wp_region_ext ?_ ?_ ?_
        · kernel_rfl
        · kernel_rfl
        repeat (go_big_quiet_step (first | fail))
        refine wpQuiet_nil ?_
        rintro w8 ⟨_t, hw⟩
        have hc8 := named_cell hw
        have hz8 := named_frozen hw
        have hh8 := named_heap hw
        haveI hi8 := named_in hw
        haveI hb8 := named_below (w := w) hw
        clear hw
        go_wp2
        refine ⟨⟨6, by omega, rfl, inferInstance, ?_, ?_⟩, by simp [intOf]⟩
        · rw [hh8, hh7, heap_alloc_in, hh6]; exact hgl
        · rw [hh8, hh7, heap_alloc_in, hh6]; exact hgd
      · have _ : True := trivial
        clear sx1 sx2 sy1 sy2 sz1
        go_wp2_with fail
        refine (near_any _ _ _ _).mono ?_
        rintro e w6 ⟨rfl, _t, hw⟩
        have hc6 := named_cell hw
        have hz6 := named_frozen hw
        have hh6 := named_heap hw
        haveI hi6 := named_in hw
        haveI hb6 := named_below (w := w) hw
        clear hw
        go_wp2_with (first | (refine wpList_store_new rfl 37 (.tmp 9) (.tmp 42) rfl _ rfl _ (nearS _ _ _) rfl rfl near_size (by simp [nearS]) (near_one _ _ _) rfl ?_))
        refine wp_region_ext ?_ ?_ ?_
        · kernel_rfl
        · kernel_rfl
        repeat (go_big_quiet_step (first | fail))
        refine wpQuiet_nil ?_
        rintro w7 ⟨_t, hw⟩
        have hc7 := named_cell hw
        have hz7 := named_frozen hw
        have hh7 := named_heap hw
        haveI hi7 := named_in hw
        haveI hb7 := named_below (w := w) hw
        clear hw
        go_wp2_with fail
        refine wp_region_ext ?_ ?_ ?_
        · kernel_rfl
        · kernel_rfl
        repeat (go_big_quiet_step (first | fail))
        refine wpQuiet_nil ?_
        rintro w8 ⟨_t, hw⟩
        have hc8 := named_cell hw
        have hz8 := named_frozen hw
        have hh8 := named_heap hw
        haveI hi8 := named_in hw
        haveI hb8 := named_below (w := w) hw
        clear hw
        go_wp2
        refine ⟨⟨6, by omega, rfl, inferInstance, ?_, ?_⟩, by simp [intOf]⟩
        · rw [hh8, hh7, heap_alloc_in, hh6]; exact hgl
        · rw [hh8, hh7, heap_alloc_in, hh6]; exact hgd
    · go_wp2_with (first | (go_at_call 13; refine (lives_any _).mono ?_; rintro e w1 ⟨rfl, t1, rfl⟩))
      go_ret
      exact ⟨rfl, grown_of⟩
set_option maxRecDepth 100000 in
theorem lifted (os : Os) (started : os.Started) (H : Type) (enc : TypeId × Value → H) :
    ReturnsInHanded {} Try.checked os 5 .any (Rows.cellNearSpec.pre6 enc Try.prog Try.f5 Rows.cellNearRow.domain false) (Rows.cellNearSpec.post enc Try.prog Try.f5 false true false false) := by
  refine returnsInHanded_of_change (C := Try.checked) own started (by kernel_rfl) Try.func5
    (ChangeSpec.witness6 (enc := enc) (C := Try.checked) false ⟨#[], #[.agg #[.int .i64 0, .int .i64 0, .int .i64 0], .agg #[.int .i64 0, .int .i64 0]], []⟩ 8 (by kernel_rfl) (by kernel_rfl) (by kernel_rfl) (by kernel_rfl)) ?_
  intro W base args ds gs before hval0 hW hcnd hsz
  have hval : ∀ (j : Nat) t v, Try.f5.params[j]? = some t → args[j]? = some v → Value.okWide Try.prog W .any base t v := hval0
  have hW' := hW
  obtain ⟨p, q, hA0, hV, rfl, hfz, hnd⟩ := hW
  have hA : DataW.TrodAll enc Try.prog W 0 (fun _ => true) true Try.f5.params.toList args.toList ds p := hA0
  rw [Try.params5] at hA hval
  obtain ⟨v0, vs0, d0, ds0, p0, q0, hargs, rfl, rfl, h0, r0⟩ := trodAll_cons hA
  obtain ⟨v1, vs1, d1, ds1, p1, q1, rfl, rfl, rfl, h1, r1⟩ := trodAll_cons r0
  obtain ⟨rfl, rfl, rfl⟩ := trodAll_nil r1
  obtain rfl : args = #[v0, v1] := by cases args; simp_all
  obtain ⟨rfl, rfl⟩ := trodVars_none hV
  obtain ⟨a0, b0, c0, rfl, fa0, fb0, fc0⟩ := open_three Try.underlying3 Try.underlying27 (by kernel_rfl) (by kernel_rfl) rfl rfl rfl (hval 0 27 v0 rfl rfl) h0
  obtain ⟨a1, b1, rfl, fa1, fb1⟩ := open_two Try.underlying3 Try.underlying29 (by kernel_rfl) (by kernel_rfl) rfl rfl (hval 1 29 v1 rfl rfl) h1
  simp only [List.append_nil] at hW'
  refine (walk a0 b0 c0 a1 b1 fa0 fb0 fc0 fa1 fb1 W).mono fun e W' ⟨he, g, hg⟩ => ?_
  subst he
  subst hg
  exact ⟨_, rfl, law_post laidOut rfl rfl (by kernel_rfl) Try.underlying4 (by rw [Try.params5]; decide +kernel) hW' (ext_below _ _)⟩

theorem over : Rows.cellNearRow.holds Try.pinned (OpenSpec.ofChange Rows.cellNearSpec) :=
  OpenClaim.holds_of_wide 5 Try.f5 rfl rfl rfl rfl rfl rfl rfl ⟨rfl, rfl, rfl, rfl, rfl⟩ rfl rfl rfl rfl rfl (by kernel_rfl) Try.func5 (by kernel_rfl)
    (of_decide_eq_true (by kernel_rfl)) (by unfold Func.isWrapper; first | (rw [if_pos (by decide +kernel)]; kernel_rfl) | (rw [if_neg (by decide +kernel)]; exact ⟨rfl, rfl⟩))
    (fun os started H enc _ => lifted os started H enc)

theorem proved : Rows.CellNearSaid := over
#print axioms proved
end cellNear
end Go.Proofs.Ytdlapfpjbcjaeaa
