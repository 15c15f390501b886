/-
  The reference's neighbours of a cell: the same eighteen numbers.
-/
import Derived.Test.YtdlapfpjbcjaeaaNear
namespace Go.Proofs.Ytdlapfpjbcjaeaa
open Go.RowKit
attribute [local go_sem] ext_ext drew_ext ext_drew ext_cell ext_frozen in_lt in_le in_ne in_en in_ne1 in_en1 in_le1 size_le ite_max ite_min
set_option linter.unusedVariables false
set_option linter.unusedSimpArgs false
attribute [local go_sem] cutS_fold cutS_cutS

/-- What stands in the reference's array after k rounds. -/
def outS (x y z : Int) (k : Nat) : Array Value := ((nearS x y z).toList.take (3 * k) ++ List.replicate (18 - 3 * k) (Value.int .i64 0)).toArray

theorem outS_size (x y z : Int) (k : Nat) (hk : k ≤ 6) : (outS x y z k).size = 18 := by
  unfold outS nearS
  simp
  omega

set_option maxHeartbeats 2000000 in
theorem refnear_any (x y z : Int) (w : World) :
    Calls Try.prog 25 #[.agg #[.int .i64 x, .int .i64 y, .int .i64 z]] w fun e w' => e = .returned (.agg (nearS x y z)) ∧ ∃ f, w' = ext w f := by
  obtain ⟨a1, a2⟩ := cutS_bd x
  obtain ⟨b1, b2⟩ := cutS_bd y
  obtain ⟨c1, c2⟩ := cutS_bd z
  go_enter Try.func25, Try.ntmps25
  go_wp2
  go_loopw [4, 5, 6] (fun i _ _ wr => ∃ k : Nat, k ≤ 6 ∧ i = .int .i64 k ∧ Below w.heap.size w wr ∧ wr.heap[w.heap.size]? = some (.cells #[.int .i64 x, .int .i64 y, .int .i64 z] 27 (0, 0)) ∧
      wr.heap[w.heap.size + 1]? = some (.cells (Array.replicate 18 (.int .i64 0)) 37 (0, 0)) ∧ wr.heap[w.heap.size + 1 + 1]? = some (.cells (outS x y z k) 37 (0, 0))) (fun i _ _ _ => 6 - (intOf i).toNat)
  case atStart =>
    refine ⟨0, by omega, rfl, (((Below.refl _ _).alloc (by simp) _).alloc (by simp) _).alloc (by simp; omega) _, ?_, ?_, ?_⟩
    · rw [heap_alloc_in, heap_alloc_in]; exact heap_alloc_at _ _ rfl
    · rw [heap_alloc_in]; exact heap_alloc_at _ _ (by simp)
    · exact heap_alloc_at _ _ (by simp)
  case round =>
    obtain ⟨k, hk, rfl, hb, hg0, hg1, hg2⟩ := hrel
    haveI i0 : Nonempty (In w.heap.size wr) := ⟨(Array.getElem?_eq_some_iff.1 hg0).1⟩
    haveI i1 : Nonempty (In (w.heap.size + 1) wr) := ⟨(Array.getElem?_eq_some_iff.1 hg1).1⟩
    haveI i2 : Nonempty (In (w.heap.size + 1 + 1) wr) := ⟨(Array.getElem?_eq_some_iff.1 hg2).1⟩
    haveI ib : Nonempty (Below w.heap.size w wr) := ⟨hb⟩
    have c0 := fun i => cell_of_row wr _ i _ _ _ hg0
    have e2 := fun i => frozen_of_row wr _ i _ _ hg2
    rcases (by omega : k = 0 ∨ k = 1 ∨ k = 2 ∨ k = 3 ∨ k = 4 ∨ k = 5 ∨ k = 6) with rfl | rfl | rfl | rfl | rfl | rfl | rfl
    · have d0 : wr.cell? ⟨w.heap.size + 1 + 1, 0, none⟩ = some (.int .i64 0) := (cell_of_row wr _ 0 _ _ _ hg2).trans rfl
      have d1 : wr.cell? ⟨w.heap.size + 1 + 1, 1, none⟩ = some (.int .i64 0) := (cell_of_row wr _ 1 _ _ _ hg2).trans rfl
      have d2 : wr.cell? ⟨w.heap.size + 1 + 1, 2, none⟩ = some (.int .i64 0) := (cell_of_row wr _ 2 _ _ _ hg2).trans rfl
      go_wp2_with (first | (go_at_call 16; refine (refcut_any _ _ _ _).mono ?_; rintro e w1 ⟨rfl, t1, rfl⟩))
      refine ⟨⟨1, by omega, rfl, grown_now, ?_, ?_, ?_⟩, by simp [intOf]⟩
      · rw [heap_setCell_other _ _ _ _ (by simp; omega), heap_setCell_other _ _ _ _ (by simp; omega), heap_setCell_other _ _ _ _ (by simp; omega), heap_ext, heap_alloc_in, heap_ext]; exact hg0
      · rw [heap_setCell_other _ _ _ _ (by simp), heap_setCell_other _ _ _ _ (by simp), heap_setCell_other _ _ _ _ (by simp), heap_ext, heap_alloc_in, heap_ext]; exact hg1
      · rw [heap_setCell_same _ _ 2 _ 37 _ (heap_setCell_same _ _ 1 _ 37 _ (heap_setCell_same _ _ 0 (outS x y z 0) 37 _ ?_))]
        · rfl
        · rw [heap_ext, heap_alloc_in, heap_ext]; exact hg2
    · have d0 : wr.cell? ⟨w.heap.size + 1 + 1, 3, none⟩ = some (.int .i64 0) := (cell_of_row wr _ 3 _ _ _ hg2).trans rfl
      have d1 : wr.cell? ⟨w.heap.size + 1 + 1, 4, none⟩ = some (.int .i64 0) := (cell_of_row wr _ 4 _ _ _ hg2).trans rfl
      have d2 : wr.cell? ⟨w.heap.size + 1 + 1, 5, none⟩ = some (.int .i64 0) := (cell_of_row wr _ 5 _ _ _ hg2).trans rfl
      go_wp2_with (first | (go_at_call 16; refine (refcut_any _ _ _ _).mono ?_; rintro e w1 ⟨rfl, t1, rfl⟩))
      refine ⟨⟨2, by omega, rfl, grown_now, ?_, ?_, ?_⟩, by simp [intOf]⟩
      · rw [heap_setCell_other _ _ _ _ (by simp; omega), heap_setCell_other _ _ _ _ (by simp; omega), heap_setCell_other _ _ _ _ (by simp; omega), heap_ext, heap_alloc_in, heap_ext]; exact hg0
      · rw [heap_setCell_other _ _ _ _ (by simp), heap_setCell_other _ _ _ _ (by simp), heap_setCell_other _ _ _ _ (by simp), heap_ext, heap_alloc_in, heap_ext]; exact hg1
      · rw [heap_setCell_same _ _ 5 _ 37 _ (heap_setCell_same _ _ 4 _ 37 _ (heap_setCell_same _ _ 3 (outS x y z 1) 37 _ ?_))]
        · rfl
        · rw [heap_ext, heap_alloc_in, heap_ext]; exact hg2
    · have d0 : wr.cell? ⟨w.heap.size + 1 + 1, 6, none⟩ = some (.int .i64 0) := (cell_of_row wr _ 6 _ _ _ hg2).trans rfl
      have d1 : wr.cell? ⟨w.heap.size + 1 + 1, 7, none⟩ = some (.int .i64 0) := (cell_of_row wr _ 7 _ _ _ hg2).trans rfl
      have d2 : wr.cell? ⟨w.heap.size + 1 + 1, 8, none⟩ = some (.int .i64 0) := (cell_of_row wr _ 8 _ _ _ hg2).trans rfl
      go_wp2_with (first | (go_at_call 16; refine (refcut_any _ _ _ _).mono ?_; rintro e w1 ⟨rfl, t1, rfl⟩))
      refine ⟨⟨3, by omega, rfl, grown_now, ?_, ?_, ?_⟩, by simp [intOf]⟩
      · rw [heap_setCell_other _ _ _ _ (by simp; omega), heap_setCell_other _ _ _ _ (by simp; omega), heap_setCell_other _ _ _ _ (by simp; omega), heap_ext, heap_alloc_in, heap_ext]; exact hg0
      · rw [heap_setCell_other _ _ _ _ (by simp), heap_setCell_other _ _ _ _ (by simp), heap_setCell_other _ _ _ _ (by simp), heap_ext, heap_alloc_in, heap_ext]; exact hg1
      · rw [heap_setCell_same _ _ 8 _ 37 _ (heap_setCell_same _ _ 7 _ 37 _ (heap_setCell_same _ _ 6 (outS x y z 2) 37 _ ?_))]
        · rfl
        · rw [heap_ext, heap_alloc_in, heap_ext]; exact hg2
    · have d0 : wr.cell? ⟨w.heap.size + 1 + 1, 9, none⟩ = some (.int .i64 0) := (cell_of_row wr _ 9 _ _ _ hg2).trans rfl
      have d1 : wr.cell? ⟨w.heap.size + 1 + 1, 10, none⟩ = some (.int .i64 0) := (cell_of_row wr _ 10 _ _ _ hg2).trans rfl
      have d2 : wr.cell? ⟨w.heap.size + 1 + 1, 11, none⟩ = some (.int .i64 0) := (cell_of_row wr _ 11 _ _ _ hg2).trans rfl
      go_wp2_with (first | (go_at_call 16; refine (refcut_any _ _ _ _).mono ?_; rintro e w1 ⟨rfl, t1, rfl⟩))
      refine ⟨⟨4, by omega, rfl, grown_now, ?_, ?_, ?_⟩, by simp [intOf]⟩
      · rw [heap_setCell_other _ _ _ _ (by simp; omega), heap_setCell_other _ _ _ _ (by simp; omega), heap_setCell_other _ _ _ _ (by simp; omega), heap_ext, heap_alloc_in, heap_ext]; exact hg0
      · rw [heap_setCell_other _ _ _ _ (by simp), heap_setCell_other _ _ _ _ (by simp), heap_setCell_other _ _ _ _ (by simp), heap_ext, heap_alloc_in, heap_ext]; exact hg1
      · rw [heap_setCell_same _ _ 11 _ 37 _ (heap_setCell_same _ _ 10 _ 37 _ (heap_setCell_same _ _ 9 (outS x y z 3) 37 _ ?_))]
        · rfl
        · rw [heap_ext, heap_alloc_in, heap_ext]; exact hg2
    · have d0 : wr.cell? ⟨w.heap.size + 1 + 1, 12, none⟩ = some (.int .i64 0) := (cell_of_row wr _ 12 _ _ _ hg2).trans rfl
      have d1 : wr.cell? ⟨w.heap.size + 1 + 1, 13, none⟩ = some (.int .i64 0) := (cell_of_row wr _ 13 _ _ _ hg2).trans rfl
      have d2 : wr.cell? ⟨w.heap.size + 1 + 1, 14, none⟩ = some (.int .i64 0) := (cell_of_row wr _ 14 _ _ _ hg2).trans rfl
      go_wp2_with (first | (go_at_call 16; refine (refcut_any _ _ _ _).mono ?_; rintro e w1 ⟨rfl, t1, rfl⟩))
      refine ⟨⟨5, by omega, rfl, grown_now, ?_, ?_, ?_⟩, by simp [intOf]⟩
      · rw [heap_setCell_other _ _ _ _ (by simp; omega), heap_setCell_other _ _ _ _ (by simp; omega), heap_setCell_other _ _ _ _ (by simp; omega), heap_ext, heap_alloc_in, heap_ext]; exact hg0
      · rw [heap_setCell_other _ _ _ _ (by simp), heap_setCell_other _ _ _ _ (by simp), heap_setCell_other _ _ _ _ (by simp), heap_ext, heap_alloc_in, heap_ext]; exact hg1
      · rw [heap_setCell_same _ _ 14 _ 37 _ (heap_setCell_same _ _ 13 _ 37 _ (heap_setCell_same _ _ 12 (outS x y z 4) 37 _ ?_))]
        · rfl
        · rw [heap_ext, heap_alloc_in, heap_ext]; exact hg2
    · have d0 : wr.cell? ⟨w.heap.size + 1 + 1, 15, none⟩ = some (.int .i64 0) := (cell_of_row wr _ 15 _ _ _ hg2).trans rfl
      have d1 : wr.cell? ⟨w.heap.size + 1 + 1, 16, none⟩ = some (.int .i64 0) := (cell_of_row wr _ 16 _ _ _ hg2).trans rfl
      have d2 : wr.cell? ⟨w.heap.size + 1 + 1, 17, none⟩ = some (.int .i64 0) := (cell_of_row wr _ 17 _ _ _ hg2).trans rfl
      go_wp2_with (first | (go_at_call 16; refine (refcut_any _ _ _ _).mono ?_; rintro e w1 ⟨rfl, t1, rfl⟩))
      refine ⟨⟨6, by omega, rfl, grown_now, ?_, ?_, ?_⟩, by simp [intOf]⟩
      · rw [heap_setCell_other _ _ _ _ (by simp; omega), heap_setCell_other _ _ _ _ (by simp; omega), heap_setCell_other _ _ _ _ (by simp; omega), heap_ext, heap_alloc_in, heap_ext]; exact hg0
      · rw [heap_setCell_other _ _ _ _ (by simp), heap_setCell_other _ _ _ _ (by simp), heap_setCell_other _ _ _ _ (by simp), heap_ext, heap_alloc_in, heap_ext]; exact hg1
      · rw [heap_setCell_same _ _ 17 _ 37 _ (heap_setCell_same _ _ 16 _ 37 _ (heap_setCell_same _ _ 15 (outS x y z 5) 37 _ ?_))]
        · rfl
        · rw [heap_ext, heap_alloc_in, heap_ext]; exact hg2
    · have hg3 : wr.heap[w.heap.size + 1 + 1]? = some (.cells (nearS x y z) 37 (0, 0)) := hg2
      have ht : wr.there (w.heap.size + 1) 0 (nearS x y z).size := there_at hg1 (by simp [nearS])
      have hl : wr.there (w.heap.size + 1) 0 (nearS x y z).toList.length := there_at hg1 (by simp [nearS])
      clear hg2
      go_wp2_with (first
        | (refine wpList_load_row rfl 37 (.tmp 3) rfl (w.heap.size + 1 + 1) rfl 37 (nearS x y z) (0, 0) _ hg3 Try.underlying37 rfl near_size ?_)
        | (refine wpList_store_mid rfl 37 (.tmp 2) (.tmp 45) rfl (w.heap.size + 1) 0 (nearS x y z) rfl rfl ht near_size (near_one x y z) ?_
           repeat go_step
           refine post_stored (nearS x y z).toList rfl Try.underlying37 rfl near_size rfl rfl hl ?_
           exact ⟨rfl, grown_of⟩))
end Go.Proofs.Ytdlapfpjbcjaeaa
