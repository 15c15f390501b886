/-
  A cell's neighbours, where the cell is near 0; those beside it.
-/
import Derived.Test.YtjejobfhddlmeaaView
namespace Go.Proofs.Ytjejobfhddlmeaa
open Go.RowKit
attribute [local go_sem] ext_ext drew_ext ext_drew ext_cell ext_frozen in_lt in_le in_ne in_en in_ne1 in_en1 in_le1 in_ltn in_len in_nen in_enn size_le ite_max ite_min
set_option linter.unusedVariables false
set_option linter.unusedSimpArgs false

/-- Near enough to 0. -/
def Mid (x : Int) : Prop := -1000 ≤ x ∧ x ≤ 1000
theorem Mid.wid {x : Int} (h : Mid x) : Wid x := by have h1 := h.1; have h2 := h.2; exact ⟨by omega, by omega⟩
theorem Mid.up {x : Int} (h : Mid x) : Wid (x + 1) := by have h1 := h.1; have h2 := h.2; exact ⟨by omega, by omega⟩
theorem Mid.down {x : Int} (h : Mid x) : Wid (x + -1) := by have h1 := h.1; have h2 := h.2; exact ⟨by omega, by omega⟩
theorem mid_cut {x d : Int} (h : Mid x) (h1 : -1 ≤ d) (h2 : d ≤ 1) : cutS (cutS x + d) = x + d := by
  have h3 := h.1
  have h4 := h.2
  rw [cutS_in (n := x) (by omega) (by omega)]
  exact cutS_in (by omega) (by omega)
theorem mid_cut0 {x : Int} (h : Mid x) : cutS x = x := by
  have h3 := h.1
  have h4 := h.2
  exact cutS_in (by omega) (by omega)

/-- A cell's six neighbours. -/
def nbS (x y z : Int) : Array Value := #[.int .i64 (x + -1), .int .i64 y, .int .i64 z, .int .i64 (x + 1), .int .i64 y, .int .i64 z, .int .i64 x, .int .i64 (y + -1), .int .i64 z, .int .i64 x, .int .i64 (y + 1), .int .i64 z, .int .i64 x, .int .i64 y, .int .i64 (z + -1), .int .i64 x, .int .i64 y, .int .i64 (z + 1)]
theorem nb_near {x y z : Int} (hx : Mid x) (hy : Mid y) (hz : Mid z) : nearS x y z = nbS x y z := by
  unfold nearS nbS
  rw [mid_cut hx (by omega) (by omega), mid_cut hx (by omega) (by omega), mid_cut hy (by omega) (by omega), mid_cut hy (by omega) (by omega), mid_cut hz (by omega) (by omega), mid_cut hz (by omega) (by omega), mid_cut0 hx, mid_cut0 hy, mid_cut0 hz]
theorem nb_any (x y z : Int) (w : World) (hx : Mid x) (hy : Mid y) (hz : Mid z) :
    Calls Try.prog 41 #[.agg #[.int .i64 x, .int .i64 y, .int .i64 z]] w fun e w' => e = .returned (.agg (nbS x y z)) ∧ ∃ f, w' = ext w f := by
  have h := near_any x y z w
  rw [nb_near hx hy hz] at h
  exact h
theorem nb_size : (Try.prog.info? 59).map (·.size) = some 18 := by kernel_rfl
theorem nb_one (x y z : Int) : (nbS x y z).all (·.oneCell') = true := by simp [nbS, Value.oneCell']
theorem nb_under (x y z : Int) (w : World) : (Instr.index 59 (.agg (nbS x y z)) (.int .i64 2)).run Try.prog w = .ok (.agg #[.int .i64 x, .int .i64 (y + -1), .int .i64 z]) w := by kernel_rfl
theorem nb_over (x y z : Int) (w : World) : (Instr.index 59 (.agg (nbS x y z)) (.int .i64 3)).run Try.prog w = .ok (.agg #[.int .i64 x, .int .i64 (y + 1), .int .i64 z]) w := by kernel_rfl

/-- The cells beside one, number by number. -/
def sideL (x y z : Int) : List Value := [.int .i64 (x + -1), .int .i64 y, .int .i64 z, .int .i64 (x + 1), .int .i64 y, .int .i64 z, .int .i64 x, .int .i64 y, .int .i64 (z + -1), .int .i64 x, .int .i64 y, .int .i64 (z + 1)]
theorem cellInfo : (Try.prog.info? 26).map (fun i => (i.zero, i.size, i.bytes)) = some (some (.agg #[.int .i64 0, .int .i64 0, .int .i64 0]), 3, 24) := by kernel_rfl

set_option maxHeartbeats 1000000 in
theorem beside_any (x y z : Int) (w : World) (hx : Mid x) (hy : Mid y) (hz : Mid z) :
    Calls Try.prog 42 #[.agg #[.int .i64 x, .int .i64 y, .int .i64 z]] w (MadeRow 26 3 4 (sideL x y z) w) := by
  obtain ⟨i0, iz0, iz1, iz2, iz3⟩ := info_parts cellInfo
  go_enter Try.func42, Try.ntmps42
  go_wp2_with fail
  refine (nb_any _ _ _ _ hx hy hz).mono ?_
  rintro e w1 ⟨rfl, _t, hw⟩
  have hc1 := named_cell hw
  have hz1 := named_frozen hw
  have hh1 := named_heap hw
  haveI hi1 := named_in hw
  haveI hb1 := named_below (w := w) hw
  clear hw
  go_wp2_with (refine wpList_store_new rfl 59 (.tmp 3) (.tmp 5) rfl _ rfl _ (nbS x y z) rfl rfl nb_size (by simp [nbS]) (nb_one x y z) rfl ?_)
  refine wp_region_ext_tail 2 ?_ ?_ ?_
  · kernel_rfl
  · kernel_rfl
  simp only [List.take_succ_cons, List.take_zero, List.drop_succ_cons, List.drop_zero]
  repeat (go_big_quiet_step (first | fail))
  refine wpQuiet_nil ?_
  rintro w2 ⟨_t, hw⟩
  have hc2 := named_cell hw
  have hz2 := named_frozen hw
  have hh2 := named_heap hw
  haveI hi2 := named_in hw
  haveI hb2 := named_below (w := w) hw
  clear hw
  have hcell : ∀ j u, (nbS x y z)[j]? = some u → w2.cell? ⟨w1.heap.size, j, none⟩ = some u := by
    intro j u hu
    rw [hc2]
    exact (cell_of_row _ _ j _ _ _ (heap_alloc_new w1 _)).trans hu
  refine wpList_append_fresh rfl (.tmp 6) (.tmp 7) 50 rfl w.heap.size 26 i0 _ 3 24 Try.underlying50 iz0 iz1 iz2 iz3 rfl ⟨w1.heap.size, 0, none⟩ 2 2 [.int .i64 (x + -1), .int .i64 y, .int .i64 z, .int .i64 (x + 1), .int .i64 y, .int .i64 z] rfl rfl ?_ ⟨w1.heap.size, 12, none⟩ 2 2 [.int .i64 x, .int .i64 y, .int .i64 (z + -1), .int .i64 x, .int .i64 y, .int .i64 (z + 1)] rfl rfl ?_ (by omega) (by unfold maxLen; omega) (by omega) ?_ ?_
  · exact row_holds (r := (nbS x y z).toList.drop 6) hcell rfl
  · exact row_holds (r := []) hcell rfl
  · have := (grown_now (w := w) (W := w2)).size; omega
  · intro v' w3 hown hext
    go_wp2
    go_ret
    exact ⟨_, rfl, hown, by obtain ⟨f, rfl⟩ := hext; exact grown_of⟩
end Go.Proofs.Ytjejobfhddlmeaa
