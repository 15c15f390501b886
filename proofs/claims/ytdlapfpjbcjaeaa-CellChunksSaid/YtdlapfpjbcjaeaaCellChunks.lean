/- Cells of one chunk of other places have other indices, and the neighbours of a cell are of its chunk, or of one beside it: whatever two cells come in, CellChunks hands back true; no conditions. -/
import Derived.Test.YtdlapfpjbcjaeaaSame
import Derived.Test.YtdlapfpjbcjaeaaEqs
import Derived.Test.YtdlapfpjbcjaeaaCell
import Derived.Test.YtdlapfpjbcjaeaaGood
import Derived.Test.YtdlapfpjbcjaeaaFree
import Derived.Test.YtdlapfpjbcjaeaaLaw
import Derived.Handy
import Derived.Deep.CutRange
namespace Go.Proofs.Ytdlapfpjbcjaeaa
open Go.RowKit
attribute [local go_sem] ext_ext drew_ext ext_drew ext_cell ext_frozen in_lt in_le in_ne in_en in_ne1 in_en1 in_le1 size_le ite_max ite_min
set_option linter.unusedVariables false
set_option linter.unusedSimpArgs false
attribute [local go_sem ↓] eqc_any eqp_any
attribute [local go_sem] near_get0 near_get1 near_get2 near_get3 near_get4 near_get5 near_get6 near_get7 near_get8 near_get9 near_get10 near_get11 near_get12 near_get13 near_get14 near_get15 near_get16 near_get17 bes_get0 bes_get1 bes_get2 bes_get3 bes_get4 bes_get5 bes_get6 bes_get7 bes_get8 bes_get9

namespace cellChunks
open Go.ChangeShapes Go.WideShapes Go.ChangeAt

/-- In one chunk: an index is a cell's own. -/
theorem idx_own (x y z a b c : Int) (h : eqpS (divS x 16) (divS z 16) (divS a 16) (divS c 16) = true) (hy : 0 ≤ y) (hy2 : y ≤ 31) (hb : 0 ≤ b) (hb2 : b ≤ 31) :
    eqcS x y z a b c = decide (idxS x y z = idxS a b c) := by
  unfold eqpS at h
  obtain ⟨h0, h1⟩ := of_decide_eq_true h
  rw [divS16, divS16] at h0 h1
  unfold eqcS idxS
  rw [modS16, modS16, modS16, modS16]
  exact decide_eq_decide.2 (by omega)
theorem eqp_self (x z : Int) : eqpS x z x z = true := by unfold eqpS; simp
theorem eqp_x (x z a c : Int) (h : ¬ x = a) : eqpS x z a c = false := by unfold eqpS; simp [h]
theorem eqp_z (x z a c : Int) (h : ¬ z = c) : eqpS x z a c = false := by unfold eqpS; simp [h]
attribute [local go_sem] eqp_self

theorem bes_one (x z : Int) : (besS x z).all (·.oneCell') = true := by simp [besS, Value.oneCell']

set_option maxRecDepth 100000 in
set_option maxHeartbeats 16000000 in
theorem walk (x y z a b c : Int) (fx : Fit x) (fy : Fit y) (fz : Fit z) (fa : Fit a) (fb : Fit b) (fc : Fit c) (w : World) :
    Calls Try.prog 6 #[.agg #[.int .i64 x, .int .i64 y, .int .i64 z], .agg #[.int .i64 a, .int .i64 b, .int .i64 c]] w fun e w' => e = .returned (.bool true) ∧ ∃ f, w' = ext w f := by
  obtain ⟨gx, gy, gz, G1, gx1, gx2, gy1, gy2, gz1, gz2⟩ : ∃ gx gy gz, (∀ w, Calls Try.prog 28 #[.agg #[.int .i64 x, .int .i64 y, .int .i64 z], .int .i64 40] w fun e w' => e = .returned (.agg #[.int .i64 gx, .int .i64 gy, .int .i64 gz]) ∧ ∃ f, w' = ext w f) ∧
      -40 ≤ gx ∧ gx ≤ 40 ∧ 0 ≤ gy ∧ gy ≤ 31 ∧ -40 ≤ gz ∧ gz ≤ 40 := by
    obtain ⟨a1, a2⟩ := arS_bd (n := x) (m := 2 * 40 + 1) (by omega)
    obtain ⟨a3, a4⟩ := arS_bd (n := y) (m := 32) (by omega)
    obtain ⟨a5, a6⟩ := arS_bd (n := z) (m := 2 * 40 + 1) (by omega)
    exact ⟨_, _, _, fun w => good_any x y z 40 w fx fy fz (by omega) (by omega), by omega, by omega, by omega, by omega, by omega, by omega⟩
  obtain ⟨kx, ky, kz, G2, kx1, kx2, ky1, ky2, kz1, kz2⟩ : ∃ gx gy gz, (∀ w, Calls Try.prog 28 #[.agg #[.int .i64 a, .int .i64 b, .int .i64 c], .int .i64 40] w fun e w' => e = .returned (.agg #[.int .i64 gx, .int .i64 gy, .int .i64 gz]) ∧ ∃ f, w' = ext w f) ∧
      -40 ≤ gx ∧ gx ≤ 40 ∧ 0 ≤ gy ∧ gy ≤ 31 ∧ -40 ≤ gz ∧ gz ≤ 40 := by
    obtain ⟨a1, a2⟩ := arS_bd (n := a) (m := 2 * 40 + 1) (by omega)
    obtain ⟨a3, a4⟩ := arS_bd (n := b) (m := 32) (by omega)
    obtain ⟨a5, a6⟩ := arS_bd (n := c) (m := 2 * 40 + 1) (by omega)
    exact ⟨_, _, _, fun w => good_any a b c 40 w fa fb fc (by omega) (by omega), by omega, by omega, by omega, by omega, by omega, by omega⟩
  clear fx fy fz fa fb fc
  have hown := idx_own gx gy gz kx ky kz
  have I1 : ∀ w, Calls Try.prog 18 #[.agg #[.int .i64 gx, .int .i64 gy, .int .i64 gz]] w fun e w' => e = .returned (.tuple #[.int .i64 (idxS gx gy gz), .bool true]) ∧ ∃ f, w' = ext w f :=
    fun w => index_in gx gy gz w ⟨by omega, by omega⟩ ⟨by omega, by omega⟩ gy1 gy2
  have I2 : ∀ w, Calls Try.prog 18 #[.agg #[.int .i64 kx, .int .i64 ky, .int .i64 kz]] w fun e w' => e = .returned (.tuple #[.int .i64 (idxS kx ky kz), .bool true]) ∧ ∃ f, w' = ext w f :=
    fun w => index_in kx ky kz w ⟨by omega, by omega⟩ ⟨by omega, by omega⟩ ky1 ky2
  have C1 : ∀ w, Calls Try.prog 17 #[.agg #[.int .i64 gx, .int .i64 gy, .int .i64 gz]] w fun e w' => e = .returned (.agg #[.int .i64 (divS gx 16), .int .i64 (divS gz 16)]) ∧ ∃ f, w' = ext w f :=
    fun w => chunk_any gx gy gz w ⟨by omega, by omega⟩ ⟨by omega, by omega⟩
  have C2 : ∀ w, Calls Try.prog 17 #[.agg #[.int .i64 kx, .int .i64 ky, .int .i64 kz]] w fun e w' => e = .returned (.agg #[.int .i64 (divS kx 16), .int .i64 (divS kz 16)]) ∧ ∃ f, w' = ext w f :=
    fun w => chunk_any kx ky kz w ⟨by omega, by omega⟩ ⟨by omega, by omega⟩
  obtain ⟨i, hi⟩ : ∃ i, idxS gx gy gz = i := ⟨_, rfl⟩
  obtain ⟨j, hj⟩ : ∃ i, idxS kx ky kz = i := ⟨_, rfl⟩
  obtain ⟨px, hpx⟩ : ∃ i, divS gx 16 = i := ⟨_, rfl⟩
  obtain ⟨pz, hpz⟩ : ∃ i, divS gz 16 = i := ⟨_, rfl⟩
  obtain ⟨qx, hqx⟩ : ∃ i, divS kx 16 = i := ⟨_, rfl⟩
  obtain ⟨qz, hqz⟩ : ∃ i, divS kz 16 = i := ⟨_, rfl⟩
  obtain ⟨s, hs⟩ : ∃ s, eqpS px pz qx qz = s := ⟨_, rfl⟩
  obtain ⟨t, ht⟩ : ∃ s, eqcS gx gy gz kx ky kz = s := ⟨_, rfl⟩
  rw [hi, hj, hpx, hpz, hqx, hqz, hs, ht] at hown
  rw [hi] at I1
  rw [hj] at I2
  rw [hpx, hpz] at C1
  rw [hqx, hqz] at C2
  have hown' : s = true → (i == j) = t := fun h => by rw [hown h gy1 gy2 ky1 ky2]; rfl
  have sx : (divS (gx + -1) 16 = px ∨ divS (gx + -1) 16 = px - 1) ∧ (divS (gx + 1) 16 = px ∨ divS (gx + 1) 16 = px + 1) := by rw [← hpx, divS16, divS16, divS16]; omega
  have sz : (divS (gz + -1) 16 = pz ∨ divS (gz + -1) 16 = pz - 1) ∧ (divS (gz + 1) 16 = pz ∨ divS (gz + 1) 16 = pz + 1) := by rw [← hpz, divS16, divS16, divS16]; omega
  have bpx : -134217728 ≤ px ∧ px ≤ 134217728 := by rw [← hpx, divS16]; omega
  have bpz : -134217728 ≤ pz ∧ pz ≤ 134217728 := by rw [← hpz, divS16]; omega
  obtain ⟨bpx1, bpx2⟩ := bpx
  obtain ⟨bpz1, bpz2⟩ := bpz
  obtain ⟨sx1, sx2⟩ := sx
  obtain ⟨sz1, sz2⟩ := sz
  have cx : cutS gx = gx := cutS_in (by omega) (by omega)
  have cy : cutS gy = gy := cutS_in (by omega) (by omega)
  have cz : cutS gz = gz := cutS_in (by omega) (by omega)
  have cx1 : cutS (gx + -1) = gx + -1 := cutS_in (by omega) (by omega)
  have cy1 : cutS (gy + -1) = gy + -1 := cutS_in (by omega) (by omega)
  have cz1 : cutS (gz + -1) = gz + -1 := cutS_in (by omega) (by omega)
  have cx2 : cutS (gx + 1) = gx + 1 := cutS_in (by omega) (by omega)
  have cy2 : cutS (gy + 1) = gy + 1 := cutS_in (by omega) (by omega)
  have cz2 : cutS (gz + 1) = gz + 1 := cutS_in (by omega) (by omega)
  clear hown hi hj hqx hqz
  go_enter Try.func6, Try.ntmps6
  go_wp2_with fail
  refine (G1 _).mono ?_
  rintro e w1 ⟨rfl, _t, hw⟩
  have hc1 := named_cell hw
  have hz1 := named_frozen hw
  have hh1 := named_heap hw
  haveI hi1 := named_in hw
  haveI hb1 := named_below (w := w) hw
  clear hw
  go_wp2_with fail
  refine (G2 _).mono ?_
  rintro e w2 ⟨rfl, _t, hw⟩
  have hc2 := named_cell hw
  have hz2 := named_frozen hw
  have hh2 := named_heap hw
  haveI hi2 := named_in hw
  haveI hb2 := named_below (w := w) hw
  clear hw
  go_wp2_with fail
  refine (I1 _).mono ?_
  rintro e w3 ⟨rfl, _t, hw⟩
  have hc3 := named_cell hw
  have hz3 := named_frozen hw
  have hh3 := named_heap hw
  haveI hi3 := named_in hw
  haveI hb3 := named_below (w := w) hw
  clear hw
  go_wp2_with fail
  refine (I2 _).mono ?_
  rintro e w4 ⟨rfl, _t, hw⟩
  have hc4 := named_cell hw
  have hz4 := named_frozen hw
  have hh4 := named_heap hw
  haveI hi4 := named_in hw
  haveI hb4 := named_below (w := w) hw
  clear hw
  go_wp2_with fail
  refine (C1 _).mono ?_
  rintro e w5 ⟨rfl, _t, hw⟩
  have hc5 := named_cell hw
  have hz5 := named_frozen hw
  have hh5 := named_heap hw
  haveI hi5 := named_in hw
  haveI hb5 := named_below (w := w) hw
  clear hw
  go_wp2_with fail
  go_cut [54] from 34 to 55 (fun d wx => d = .bool false ∧ ∃ f, wx = ext (w5.alloc (.cells #[.int .i64 px, .int .i64 pz] 29)) f)
  case first =>
    clear sx1 sx2 sz1 sz2 cx cy cz cx1 cx2 cy1 cy2 cz1 cz2
    rcases s with _ | _
    · clear hown'
      first | (with_reducible refine wp_region_ext_on ?_ ?_ ?_) | refine wp_region_ext ?_ ?_ ?_
      · kernel_rfl
      · kernel_rfl
      repeat (go_big_quiet_step (first | (go_at_call 17; exact ext_call (C2 _))))
      refine wpQuiet_nil ?_
      rintro _ ⟨t, rfl⟩
      go_wp2
      go_meet
      exact ⟨rfl, _, rfl⟩
    · have e := hown' rfl
      clear hown'
      rcases t with _ | _
      · first | (with_reducible refine wp_region_ext_on ?_ ?_ ?_) | refine wp_region_ext ?_ ?_ ?_
        · kernel_rfl
        · kernel_rfl
        repeat (go_big_quiet_step (first | (go_at_call 17; exact ext_call (C2 _))))
        refine wpQuiet_nil ?_
        rintro _ ⟨t, rfl⟩
        go_wp2
        go_meet
        exact ⟨rfl, _, rfl⟩
      · first | (with_reducible refine wp_region_ext_on ?_ ?_ ?_) | refine wp_region_ext ?_ ?_ ?_
        · kernel_rfl
        · kernel_rfl
        repeat (go_big_quiet_step (first | (go_at_call 17; exact ext_call (C2 _))))
        refine wpQuiet_nil ?_
        rintro _ ⟨t, rfl⟩
        go_wp2
        go_meet
        exact ⟨rfl, _, rfl⟩
  case rest =>
    obtain ⟨rfl, _t, hw⟩ := hcut
    have hc6 := named_cell hw
    have hz6 := named_frozen hw
    have hh6 := named_heap hw
    haveI hi6 := named_in hw
    haveI hb6 := named_below (w := w) hw
    clear hw hown' hs ht
    go_wp2_with fail
    refine (near_any gx gy gz _).mono ?_
    rintro e w7 ⟨rfl, _t, hw⟩
    have hc7 := named_cell hw
    have hz7 := named_frozen hw
    have hh7 := named_heap hw
    haveI hi7 := named_in hw
    haveI hb7 := named_below (w := w) hw
    clear hw
    go_wp2_with (first | (refine wpList_store_new rfl 37 (.tmp 12) (.tmp 56) rfl _ rfl _ (nearS gx gy gz) rfl rfl near_size (by simp [nearS]) (near_one gx gy gz) rfl ?_))
    refine (beside_any px pz _ bpx1 bpx2 bpz1 bpz2).mono ?_
    rintro e w8 ⟨rfl, _t, hw⟩
    have hc8 := named_cell hw
    have hz8 := named_frozen hw
    have hh8 := named_heap hw
    haveI hi8 := named_in hw
    haveI hb8 := named_below (w := w) hw
    clear hw
    go_wp2_with (first | (refine wpList_store_new rfl 39 (.tmp 13) (.tmp 58) rfl _ rfl _ (besS px pz) rfl rfl bes_size (by simp [besS]) (bes_one px pz) rfl ?_))
    have hln : (w8.alloc (.cells (besS px pz) 39)).heap[w7.heap.size]? = some (.cells (nearS gx gy gz) 37 (0, 0)) := by
      rw [heap_alloc_in, hh8]; exact heap_alloc_at _ _ rfl
    have hlb : (w8.alloc (.cells (besS px pz) 39)).heap[w8.heap.size]? = some (.cells (besS px pz) 39 (0, 0)) := heap_alloc_at _ _ rfl
    have hb9 : Nonempty (Below w.heap.size w (w8.alloc (.cells (besS px pz) 39))) := inferInstance
    clear hc1 hc2 hc3 hc4 hc5 hc6 hc7 hc8 hz1 hz2 hz3 hz4 hz5 hz6 hz7 hz8 hh1 hh2 hh3 hh4 hh5 hh6 hh7 hh8 G1 G2 I1 I2 C1 C2
    go_loopw [14, 15, 16, 17] (fun i _ _ _ wr => ∃ k : Nat, k ≤ 6 ∧ i = Value.int .i64 k ∧ Nonempty (Below w.heap.size w wr) ∧ wr.heap[w7.heap.size]? = some (.cells (nearS gx gy gz) 37 (0, 0)) ∧
        wr.heap[w8.heap.size]? = some (.cells (besS px pz) 39 (0, 0))) (fun i _ _ _ _ => 6 - (intOf i).toNat)
    case atStart => exact ⟨0, by omega, rfl, hb9, hln, hlb⟩
    case round =>
      obtain ⟨k, hk, rfl, hb, hgn, hgb⟩ := hrel
      clear hln hlb hb9
      haveI i0 : Nonempty (In w7.heap.size wr) := ⟨(Array.getElem?_eq_some_iff.1 hgn).1⟩
      haveI i1 : Nonempty (In w8.heap.size wr) := ⟨(Array.getElem?_eq_some_iff.1 hgb).1⟩
      have c0 := fun i => cell_of_row wr _ i _ _ _ hgn
      have c1 := fun i => cell_of_row wr _ i _ _ _ hgb
      rcases (by omega : k = 0 ∨ k = 1 ∨ k = 2 ∨ k = 3 ∨ k = 4 ∨ k = 5 ∨ k = 6) with rfl | rfl | rfl | rfl | rfl | rfl | rfl
      · rcases sx1 with e | e
        · have _ : True := trivial
          go_wp2_with fail
          refine (chunk_any _ _ _ _ ⟨by omega, by omega⟩ ⟨by omega, by omega⟩).mono ?_
          rintro e w9 ⟨rfl, _t, hw⟩
          have hc9 := named_cell hw
          have hz9 := named_frozen hw
          have hh9 := named_heap hw
          haveI hi9 := named_in hw
          haveI hb9 := named_below (w := w) hw
          clear hw
          go_wp2_with fail
          refine wp_loop_rounds 6 ?_
          rw [rounds_succ]
          go_wp2_with fail
          refine wp_region_ext ?_ ?_ ?_
          · kernel_rfl
          · kernel_rfl
          repeat (go_big_quiet_step (first | fail))
          refine wpQuiet_nil ?_
          rintro w10 ⟨_t, hw⟩
          have hc10 := named_cell hw
          have hz10 := named_frozen hw
          have hh10 := named_heap hw
          haveI hi10 := named_in hw
          haveI hb10 := named_below (w := w) hw
          clear hw
          go_wp2_with fail
          rw [rounds_succ]
          go_wp2_with fail
          refine wp_region_ext ?_ ?_ ?_
          · kernel_rfl
          · kernel_rfl
          repeat (go_big_quiet_step (first | fail))
          refine wpQuiet_nil ?_
          rintro w11 ⟨_t, hw⟩
          have hc11 := named_cell hw
          have hz11 := named_frozen hw
          have hh11 := named_heap hw
          haveI hi11 := named_in hw
          haveI hb11 := named_below (w := w) hw
          clear hw
          go_wp2_with fail
          rw [rounds_succ]
          go_wp2_with fail
          refine wp_region_ext ?_ ?_ ?_
          · kernel_rfl
          · kernel_rfl
          repeat (go_big_quiet_step (first | fail))
          refine wpQuiet_nil ?_
          rintro w12 ⟨_t, hw⟩
          have hc12 := named_cell hw
          have hz12 := named_frozen hw
          have hh12 := named_heap hw
          haveI hi12 := named_in hw
          haveI hb12 := named_below (w := w) hw
          clear hw
          go_wp2_with fail
          rw [rounds_succ]
          go_wp2_with fail
          refine wp_region_ext ?_ ?_ ?_
          · kernel_rfl
          · kernel_rfl
          repeat (go_big_quiet_step (first | fail))
          refine wpQuiet_nil ?_
          rintro w13 ⟨_t, hw⟩
          have hc13 := named_cell hw
          have hz13 := named_frozen hw
          have hh13 := named_heap hw
          haveI hi13 := named_in hw
          haveI hb13 := named_below (w := w) hw
          clear hw
          go_wp2_with fail
          rw [rounds_succ]
          go_wp2_with fail
          refine wp_region_ext ?_ ?_ ?_
          · kernel_rfl
          · kernel_rfl
          repeat (go_big_quiet_step (first | fail))
          refine wpQuiet_nil ?_
          rintro w14 ⟨_t, hw⟩
          have hc14 := named_cell hw
          have hz14 := named_frozen hw
          have hh14 := named_heap hw
          haveI hi14 := named_in hw
          haveI hb14 := named_below (w := w) hw
          clear hw
          go_wp2_with fail
          rw [rounds_succ]
          go_wp2
          refine ⟨⟨1, by omega, rfl, inferInstance, ?_, ?_⟩, by simp [intOf]⟩
          · rw [hh14, hh13, hh12, hh11, hh10, heap_alloc_in, hh9]; exact hgn
          · rw [hh14, hh13, hh12, hh11, hh10, heap_alloc_in, hh9]; exact hgb
        · have n0 := eqp_x (px - 1) pz px pz (by omega)
          go_wp2_with fail
          refine (chunk_any _ _ _ _ ⟨by omega, by omega⟩ ⟨by omega, by omega⟩).mono ?_
          rintro e w9 ⟨rfl, _t, hw⟩
          have hc9 := named_cell hw
          have hz9 := named_frozen hw
          have hh9 := named_heap hw
          haveI hi9 := named_in hw
          haveI hb9 := named_below (w := w) hw
          clear hw
          go_wp2_with fail
          refine wp_loop_rounds 6 ?_
          rw [rounds_succ]
          go_wp2_with fail
          refine wp_region_ext ?_ ?_ ?_
          · kernel_rfl
          · kernel_rfl
          repeat (go_big_quiet_step (first | fail))
          refine wpQuiet_nil ?_
          rintro w10 ⟨_t, hw⟩
          have hc10 := named_cell hw
          have hz10 := named_frozen hw
          have hh10 := named_heap hw
          haveI hi10 := named_in hw
          haveI hb10 := named_below (w := w) hw
          clear hw
          go_wp2_with fail
          rw [rounds_succ]
          go_wp2_with fail
          refine wp_region_ext ?_ ?_ ?_
          · kernel_rfl
          · kernel_rfl
          repeat (go_big_quiet_step (first | fail))
          refine wpQuiet_nil ?_
          rintro w11 ⟨_t, hw⟩
          have hc11 := named_cell hw
          have hz11 := named_frozen hw
          have hh11 := named_heap hw
          haveI hi11 := named_in hw
          haveI hb11 := named_below (w := w) hw
          clear hw
          go_wp2_with fail
          rw [rounds_succ]
          go_wp2_with fail
          refine wp_region_ext ?_ ?_ ?_
          · kernel_rfl
          · kernel_rfl
          repeat (go_big_quiet_step (first | fail))
          refine wpQuiet_nil ?_
          rintro w12 ⟨_t, hw⟩
          have hc12 := named_cell hw
          have hz12 := named_frozen hw
          have hh12 := named_heap hw
          haveI hi12 := named_in hw
          haveI hb12 := named_below (w := w) hw
          clear hw
          go_wp2_with fail
          rw [rounds_succ]
          go_wp2_with fail
          refine wp_region_ext ?_ ?_ ?_
          · kernel_rfl
          · kernel_rfl
          repeat (go_big_quiet_step (first | fail))
          refine wpQuiet_nil ?_
          rintro w13 ⟨_t, hw⟩
          have hc13 := named_cell hw
          have hz13 := named_frozen hw
          have hh13 := named_heap hw
          haveI hi13 := named_in hw
          haveI hb13 := named_below (w := w) hw
          clear hw
          go_wp2_with fail
          rw [rounds_succ]
          go_wp2_with fail
          refine wp_region_ext ?_ ?_ ?_
          · kernel_rfl
          · kernel_rfl
          repeat (go_big_quiet_step (first | fail))
          refine wpQuiet_nil ?_
          rintro w14 ⟨_t, hw⟩
          have hc14 := named_cell hw
          have hz14 := named_frozen hw
          have hh14 := named_heap hw
          haveI hi14 := named_in hw
          haveI hb14 := named_below (w := w) hw
          clear hw
          go_wp2_with fail
          rw [rounds_succ]
          go_wp2
          refine ⟨⟨1, by omega, rfl, inferInstance, ?_, ?_⟩, by simp [intOf]⟩
          · rw [hh14, hh13, hh12, hh11, hh10, heap_alloc_in, hh9]; exact hgn
          · rw [hh14, hh13, hh12, hh11, hh10, heap_alloc_in, hh9]; exact hgb
      · rcases sx2 with e | e
        · have _ : True := trivial
          go_wp2_with fail
          refine (chunk_any _ _ _ _ ⟨by omega, by omega⟩ ⟨by omega, by omega⟩).mono ?_
          rintro e w9 ⟨rfl, _t, hw⟩
          have hc9 := named_cell hw
          have hz9 := named_frozen hw
          have hh9 := named_heap hw
          haveI hi9 := named_in hw
          haveI hb9 := named_below (w := w) hw
          clear hw
          go_wp2_with fail
          refine wp_loop_rounds 6 ?_
          rw [rounds_succ]
          go_wp2_with fail
          refine wp_region_ext ?_ ?_ ?_
          · kernel_rfl
          · kernel_rfl
          repeat (go_big_quiet_step (first | fail))
          refine wpQuiet_nil ?_
          rintro w10 ⟨_t, hw⟩
          have hc10 := named_cell hw
          have hz10 := named_frozen hw
          have hh10 := named_heap hw
          haveI hi10 := named_in hw
          haveI hb10 := named_below (w := w) hw
          clear hw
          go_wp2_with fail
          rw [rounds_succ]
          go_wp2_with fail
          refine wp_region_ext ?_ ?_ ?_
          · kernel_rfl
          · kernel_rfl
          repeat (go_big_quiet_step (first | fail))
          refine wpQuiet_nil ?_
          rintro w11 ⟨_t, hw⟩
          have hc11 := named_cell hw
          have hz11 := named_frozen hw
          have hh11 := named_heap hw
          haveI hi11 := named_in hw
          haveI hb11 := named_below (w := w) hw
          clear hw
          go_wp2_with fail
          rw [rounds_succ]
          go_wp2_with fail
          refine wp_region_ext ?_ ?_ ?_
          · kernel_rfl
          · kernel_rfl
          repeat (go_big_quiet_step (first | fail))
          refine wpQuiet_nil ?_
          rintro w12 ⟨_t, hw⟩
          have hc12 := named_cell hw
          have hz12 := named_frozen hw
          have hh12 := named_heap hw
          haveI hi12 := named_in hw
          haveI hb12 := named_below (w := w) hw
          clear hw
          go_wp2_with fail
          rw [rounds_succ]
          go_wp2_with fail
          refine wp_region_ext ?_ ?_ ?_
          · kernel_rfl
          · kernel_rfl
          repeat (go_big_quiet_step (first | fail))
          refine wpQuiet_nil ?_
          rintro w13 ⟨_t, hw⟩
          have hc13 := named_cell hw
          have hz13 := named_frozen hw
          have hh13 := named_heap hw
          haveI hi13 := named_in hw
          haveI hb13 := named_below (w := w) hw
          clear hw
          go_wp2_with fail
          rw [rounds_succ]
          go_wp2_with fail
          refine wp_region_ext ?_ ?_ ?_
          · kernel_rfl
          · kernel_rfl
          repeat (go_big_quiet_step (first | fail))
          refine wpQuiet_nil ?_
          rintro w14 ⟨_t, hw⟩
          have hc14 := named_cell hw
          have hz14 := named_frozen hw
          have hh14 := named_heap hw
          haveI hi14 := named_in hw
          haveI hb14 := named_below (w := w) hw
          clear hw
          go_wp2_with fail
          rw [rounds_succ]
          go_wp2
          refine ⟨⟨2, by omega, rfl, inferInstance, ?_, ?_⟩, by simp [intOf]⟩
          · rw [hh14, hh13, hh12, hh11, hh10, heap_alloc_in, hh9]; exact hgn
          · rw [hh14, hh13, hh12, hh11, hh10, heap_alloc_in, hh9]; exact hgb
        · have n0 := eqp_x (px + 1) pz px pz (by omega)
          have n1 := eqp_x (px + 1) pz (px - 1) pz (by omega)
          go_wp2_with fail
          refine (chunk_any _ _ _ _ ⟨by omega, by omega⟩ ⟨by omega, by omega⟩).mono ?_
          rintro e w9 ⟨rfl, _t, hw⟩
          have hc9 := named_cell hw
          have hz9 := named_frozen hw
          have hh9 := named_heap hw
          haveI hi9 := named_in hw
          haveI hb9 := named_below (w := w) hw
          clear hw
          go_wp2_with fail
          refine wp_loop_rounds 6 ?_
          rw [rounds_succ]
          go_wp2_with fail
          refine wp_region_ext ?_ ?_ ?_
          · kernel_rfl
          · kernel_rfl
          repeat (go_big_quiet_step (first | fail))
          refine wpQuiet_nil ?_
          rintro w10 ⟨_t, hw⟩
          have hc10 := named_cell hw
          have hz10 := named_frozen hw
          have hh10 := named_heap hw
          haveI hi10 := named_in hw
          haveI hb10 := named_below (w := w) hw
          clear hw
          go_wp2_with fail
          rw [rounds_succ]
          go_wp2_with fail
          refine wp_region_ext ?_ ?_ ?_
          · kernel_rfl
          · kernel_rfl
          repeat (go_big_quiet_step (first | fail))
          refine wpQuiet_nil ?_
          rintro w11 ⟨_t, hw⟩
          have hc11 := named_cell hw
          have hz11 := named_frozen hw
          have hh11 := named_heap hw
          haveI hi11 := named_in hw
          haveI hb11 := named_below (w := w) hw
          clear hw
          go_wp2_with fail
          rw [rounds_succ]
          go_wp2_with fail
          refine wp_region_ext ?_ ?_ ?_
          · kernel_rfl
          · kernel_rfl
          repeat (go_big_quiet_step (first | fail))
          refine wpQuiet_nil ?_
          rintro w12 ⟨_t, hw⟩
          have hc12 := named_cell hw
          have hz12 := named_frozen hw
          have hh12 := named_heap hw
          haveI hi12 := named_in hw
          haveI hb12 := named_below (w := w) hw
          clear hw
          go_wp2_with fail
          rw [rounds_succ]
          go_wp2_with fail
          refine wp_region_ext ?_ ?_ ?_
          · kernel_rfl
          · kernel_rfl
          repeat (go_big_quiet_step (first | fail))
          refine wpQuiet_nil ?_
          rintro w13 ⟨_t, hw⟩
          have hc13 := named_cell hw
          have hz13 := named_frozen hw
          have hh13 := named_heap hw
          haveI hi13 := named_in hw
          haveI hb13 := named_below (w := w) hw
          clear hw
          go_wp2_with fail
          rw [rounds_succ]
          go_wp2_with fail
          refine wp_region_ext ?_ ?_ ?_
          · kernel_rfl
          · kernel_rfl
          repeat (go_big_quiet_step (first | fail))
          refine wpQuiet_nil ?_
          rintro w14 ⟨_t, hw⟩
          have hc14 := named_cell hw
          have hz14 := named_frozen hw
          have hh14 := named_heap hw
          haveI hi14 := named_in hw
          haveI hb14 := named_below (w := w) hw
          clear hw
          go_wp2_with fail
          rw [rounds_succ]
          go_wp2
          refine ⟨⟨2, by omega, rfl, inferInstance, ?_, ?_⟩, by simp [intOf]⟩
          · rw [hh14, hh13, hh12, hh11, hh10, heap_alloc_in, hh9]; exact hgn
          · rw [hh14, hh13, hh12, hh11, hh10, heap_alloc_in, hh9]; exact hgb
      · have _ : True := trivial
        go_wp2_with fail
        refine (chunk_any _ _ _ _ ⟨by omega, by omega⟩ ⟨by omega, by omega⟩).mono ?_
        rintro e w9 ⟨rfl, _t, hw⟩
        have hc9 := named_cell hw
        have hz9 := named_frozen hw
        have hh9 := named_heap hw
        haveI hi9 := named_in hw
        haveI hb9 := named_below (w := w) hw
        clear hw
        go_wp2_with fail
        refine wp_loop_rounds 6 ?_
        rw [rounds_succ]
        go_wp2_with fail
        refine wp_region_ext ?_ ?_ ?_
        · kernel_rfl
        · kernel_rfl
        repeat (go_big_quiet_step (first | fail))
        refine wpQuiet_nil ?_
        rintro w10 ⟨_t, hw⟩
        have hc10 := named_cell hw
        have hz10 := named_frozen hw
        have hh10 := named_heap hw
        haveI hi10 := named_in hw
        haveI hb10 := named_below (w := w) hw
        clear hw
        go_wp2_with fail
        rw [rounds_succ]
        go_wp2_with fail
        refine wp_region_ext ?_ ?_ ?_
        · kernel_rfl
        · kernel_rfl
        repeat (go_big_quiet_step (first | fail))
        refine wpQuiet_nil ?_
        rintro w11 ⟨_t, hw⟩
        have hc11 := named_cell hw
        have hz11 := named_frozen hw
        have hh11 := named_heap hw
        haveI hi11 := named_in hw
        haveI hb11 := named_below (w := w) hw
        clear hw
        go_wp2_with fail
        rw [rounds_succ]
        go_wp2_with fail
        refine wp_region_ext ?_ ?_ ?_
        · kernel_rfl
        · kernel_rfl
        repeat (go_big_quiet_step (first | fail))
        refine wpQuiet_nil ?_
        rintro w12 ⟨_t, hw⟩
        have hc12 := named_cell hw
        have hz12 := named_frozen hw
        have hh12 := named_heap hw
        haveI hi12 := named_in hw
        haveI hb12 := named_below (w := w) hw
        clear hw
        go_wp2_with fail
        rw [rounds_succ]
        go_wp2_with fail
        refine wp_region_ext ?_ ?_ ?_
        · kernel_rfl
        · kernel_rfl
        repeat (go_big_quiet_step (first | fail))
        refine wpQuiet_nil ?_
        rintro w13 ⟨_t, hw⟩
        have hc13 := named_cell hw
        have hz13 := named_frozen hw
        have hh13 := named_heap hw
        haveI hi13 := named_in hw
        haveI hb13 := named_below (w := w) hw
        clear hw
        go_wp2_with fail
        rw [rounds_succ]
        go_wp2_with fail
        refine wp_region_ext ?_ ?_ ?_
        · kernel_rfl
        · kernel_rfl
        repeat (go_big_quiet_step (first | fail))
        refine wpQuiet_nil ?_
        rintro w14 ⟨_t, hw⟩
        have hc14 := named_cell hw
        have hz14 := named_frozen hw
        have hh14 := named_heap hw
        haveI hi14 := named_in hw
        haveI hb14 := named_below (w := w) hw
        clear hw
        go_wp2_with fail
        rw [rounds_succ]
        go_wp2
        refine ⟨⟨3, by omega, rfl, inferInstance, ?_, ?_⟩, by simp [intOf]⟩
        · rw [hh14, hh13, hh12, hh11, hh10, heap_alloc_in, hh9]; exact hgn
        · rw [hh14, hh13, hh12, hh11, hh10, heap_alloc_in, hh9]; exact hgb
      · have _ : True := trivial
        go_wp2_with fail
        refine (chunk_any _ _ _ _ ⟨by omega, by omega⟩ ⟨by omega, by omega⟩).mono ?_
        rintro e w9 ⟨rfl, _t, hw⟩
        have hc9 := named_cell hw
        have hz9 := named_frozen hw
        have hh9 := named_heap hw
        haveI hi9 := named_in hw
        haveI hb9 := named_below (w := w) hw
        clear hw
        go_wp2_with fail
        refine wp_loop_rounds 6 ?_
        rw [rounds_succ]
        go_wp2_with fail
        refine wp_region_ext ?_ ?_ ?_
        · kernel_rfl
        · kernel_rfl
        repeat (go_big_quiet_step (first | fail))
        refine wpQuiet_nil ?_
        rintro w10 ⟨_t, hw⟩
        have hc10 := named_cell hw
        have hz10 := named_frozen hw
        have hh10 := named_heap hw
        haveI hi10 := named_in hw
        haveI hb10 := named_below (w := w) hw
        clear hw
        go_wp2_with fail
        rw [rounds_succ]
        go_wp2_with fail
        refine wp_region_ext ?_ ?_ ?_
        · kernel_rfl
        · kernel_rfl
        repeat (go_big_quiet_step (first | fail))
        refine wpQuiet_nil ?_
        rintro w11 ⟨_t, hw⟩
        have hc11 := named_cell hw
        have hz11 := named_frozen hw
        have hh11 := named_heap hw
        haveI hi11 := named_in hw
        haveI hb11 := named_below (w := w) hw
        clear hw
        go_wp2_with fail
        rw [rounds_succ]
        go_wp2_with fail
        refine wp_region_ext ?_ ?_ ?_
        · kernel_rfl
        · kernel_rfl
        repeat (go_big_quiet_step (first | fail))
        refine wpQuiet_nil ?_
        rintro w12 ⟨_t, hw⟩
        have hc12 := named_cell hw
        have hz12 := named_frozen hw
        have hh12 := named_heap hw
        haveI hi12 := named_in hw
        haveI hb12 := named_below (w := w) hw
        clear hw
        go_wp2_with fail
        rw [rounds_succ]
        go_wp2_with fail
        refine wp_region_ext ?_ ?_ ?_
        · kernel_rfl
        · kernel_rfl
        repeat (go_big_quiet_step (first | fail))
        refine wpQuiet_nil ?_
        rintro w13 ⟨_t, hw⟩
        have hc13 := named_cell hw
        have hz13 := named_frozen hw
        have hh13 := named_heap hw
        haveI hi13 := named_in hw
        haveI hb13 := named_below (w := w) hw
        clear hw
        go_wp2_with fail
        rw [rounds_succ]
        go_wp2_with fail
        refine wp_region_ext ?_ ?_ ?_
        · kernel_rfl
        · kernel_rfl
        repeat (go_big_quiet_step (first | fail))
        refine wpQuiet_nil ?_
        rintro w14 ⟨_t, hw⟩
        have hc14 := named_cell hw
        have hz14 := named_frozen hw
        have hh14 := named_heap hw
        haveI hi14 := named_in hw
        haveI hb14 := named_below (w := w) hw
        clear hw
        go_wp2_with fail
        rw [rounds_succ]
        go_wp2
        refine ⟨⟨4, by omega, rfl, inferInstance, ?_, ?_⟩, by simp [intOf]⟩
        · rw [hh14, hh13, hh12, hh11, hh10, heap_alloc_in, hh9]; exact hgn
        · rw [hh14, hh13, hh12, hh11, hh10, heap_alloc_in, hh9]; exact hgb
      · rcases sz1 with e | e
        · have _ : True := trivial
          go_wp2_with fail
          refine (chunk_any _ _ _ _ ⟨by omega, by omega⟩ ⟨by omega, by omega⟩).mono ?_
          rintro e w9 ⟨rfl, _t, hw⟩
          have hc9 := named_cell hw
          have hz9 := named_frozen hw
          have hh9 := named_heap hw
          haveI hi9 := named_in hw
          haveI hb9 := named_below (w := w) hw
          clear hw
          go_wp2_with fail
          refine wp_loop_rounds 6 ?_
          rw [rounds_succ]
          go_wp2_with fail
          refine wp_region_ext ?_ ?_ ?_
          · kernel_rfl
          · kernel_rfl
          repeat (go_big_quiet_step (first | fail))
          refine wpQuiet_nil ?_
          rintro w10 ⟨_t, hw⟩
          have hc10 := named_cell hw
          have hz10 := named_frozen hw
          have hh10 := named_heap hw
          haveI hi10 := named_in hw
          haveI hb10 := named_below (w := w) hw
          clear hw
          go_wp2_with fail
          rw [rounds_succ]
          go_wp2_with fail
          refine wp_region_ext ?_ ?_ ?_
          · kernel_rfl
          · kernel_rfl
          repeat (go_big_quiet_step (first | fail))
          refine wpQuiet_nil ?_
          rintro w11 ⟨_t, hw⟩
          have hc11 := named_cell hw
          have hz11 := named_frozen hw
          have hh11 := named_heap hw
          haveI hi11 := named_in hw
          haveI hb11 := named_below (w := w) hw
          clear hw
          go_wp2_with fail
          rw [rounds_succ]
          go_wp2_with fail
          refine wp_region_ext ?_ ?_ ?_
          · kernel_rfl
          · kernel_rfl
          repeat (go_big_quiet_step (first | fail))
          refine wpQuiet_nil ?_
          rintro w12 ⟨_t, hw⟩
          have hc12 := named_cell hw
          have hz12 := named_frozen hw
          have hh12 := named_heap hw
          haveI hi12 := named_in hw
          haveI hb12 := named_below (w := w) hw
          clear hw
          go_wp2_with fail
          rw [rounds_succ]
          go_wp2_with fail
          refine wp_region_ext ?_ ?_ ?_
          · kernel_rfl
          · kernel_rfl
          repeat (go_big_quiet_step (first | fail))
          refine wpQuiet_nil ?_
          rintro w13 ⟨_t, hw⟩
          have hc13 := named_cell hw
          have hz13 := named_frozen hw
          have hh13 := named_heap hw
          haveI hi13 := named_in hw
          haveI hb13 := named_below (w := w) hw
          clear hw
          go_wp2_with fail
          rw [rounds_succ]
          go_wp2_with fail
          refine wp_region_ext ?_ ?_ ?_
          · kernel_rfl
          · kernel_rfl
          repeat (go_big_quiet_step (first | fail))
          refine wpQuiet_nil ?_
          rintro w14 ⟨_t, hw⟩
          have hc14 := named_cell hw
          have hz14 := named_frozen hw
          have hh14 := named_heap hw
          haveI hi14 := named_in hw
          haveI hb14 := named_below (w := w) hw
          clear hw
          go_wp2_with fail
          rw [rounds_succ]
          go_wp2
          refine ⟨⟨5, by omega, rfl, inferInstance, ?_, ?_⟩, by simp [intOf]⟩
          · rw [hh14, hh13, hh12, hh11, hh10, heap_alloc_in, hh9]; exact hgn
          · rw [hh14, hh13, hh12, hh11, hh10, heap_alloc_in, hh9]; exact hgb
        · have n0 := eqp_z px (pz - 1) px pz (by omega)
          have n1 := eqp_z px (pz - 1) (px - 1) pz (by omega)
          have n2 := eqp_z px (pz - 1) (px + 1) pz (by omega)
          go_wp2_with fail
          refine (chunk_any _ _ _ _ ⟨by omega, by omega⟩ ⟨by omega, by omega⟩).mono ?_
          rintro e w9 ⟨rfl, _t, hw⟩
          have hc9 := named_cell hw
          have hz9 := named_frozen hw
          have hh9 := named_heap hw
          haveI hi9 := named_in hw
          haveI hb9 := named_below (w := w) hw
          clear hw
          go_wp2_with fail
          refine wp_loop_rounds 6 ?_
          rw [rounds_succ]
          go_wp2_with fail
          refine wp_region_ext ?_ ?_ ?_
          · kernel_rfl
          · kernel_rfl
          repeat (go_big_quiet_step (first | fail))
          refine wpQuiet_nil ?_
          rintro w10 ⟨_t, hw⟩
          have hc10 := named_cell hw
          have hz10 := named_frozen hw
          have hh10 := named_heap hw
          haveI hi10 := named_in hw
          haveI hb10 := named_below (w := w) hw
          clear hw
          go_wp2_with fail
          rw [rounds_succ]
          go_wp2_with fail
          refine wp_region_ext ?_ ?_ ?_
          · kernel_rfl
          · kernel_rfl
          repeat (go_big_quiet_step (first | fail))
          refine wpQuiet_nil ?_
          rintro w11 ⟨_t, hw⟩
          have hc11 := named_cell hw
          have hz11 := named_frozen hw
          have hh11 := named_heap hw
          haveI hi11 := named_in hw
          haveI hb11 := named_below (w := w) hw
          clear hw
          go_wp2_with fail
          rw [rounds_succ]
          go_wp2_with fail
          refine wp_region_ext ?_ ?_ ?_
          · kernel_rfl
          · kernel_rfl
          repeat (go_big_quiet_step (first | fail))
          refine wpQuiet_nil ?_
          rintro w12 ⟨_t, hw⟩
          have hc12 := named_cell hw
          have hz12 := named_frozen hw
          have hh12 := named_heap hw
          haveI hi12 := named_in hw
          haveI hb12 := named_below (w := w) hw
          clear hw
          go_wp2_with fail
          rw [rounds_succ]
          go_wp2_with fail
          refine wp_region_ext ?_ ?_ ?_
          · kernel_rfl
          · kernel_rfl
          repeat (go_big_quiet_step (first | fail))
          refine wpQuiet_nil ?_
          rintro w13 ⟨_t, hw⟩
          have hc13 := named_cell hw
          have hz13 := named_frozen hw
          have hh13 := named_heap hw
          haveI hi13 := named_in hw
          haveI hb13 := named_below (w := w) hw
          clear hw
          go_wp2_with fail
          rw [rounds_succ]
          go_wp2_with fail
          refine wp_region_ext ?_ ?_ ?_
          · kernel_rfl
          · kernel_rfl
          repeat (go_big_quiet_step (first | fail))
          refine wpQuiet_nil ?_
          rintro w14 ⟨_t, hw⟩
          have hc14 := named_cell hw
          have hz14 := named_frozen hw
          have hh14 := named_heap hw
          haveI hi14 := named_in hw
          haveI hb14 := named_below (w := w) hw
          clear hw
          go_wp2_with fail
          rw [rounds_succ]
          go_wp2
          refine ⟨⟨5, by omega, rfl, inferInstance, ?_, ?_⟩, by simp [intOf]⟩
          · rw [hh14, hh13, hh12, hh11, hh10, heap_alloc_in, hh9]; exact hgn
          · rw [hh14, hh13, hh12, hh11, hh10, heap_alloc_in, hh9]; exact hgb
      · rcases sz2 with e | e
        · have _ : True := trivial
          go_wp2_with fail
          refine (chunk_any _ _ _ _ ⟨by omega, by omega⟩ ⟨by omega, by omega⟩).mono ?_
          rintro e w9 ⟨rfl, _t, hw⟩
          have hc9 := named_cell hw
          have hz9 := named_frozen hw
          have hh9 := named_heap hw
          haveI hi9 := named_in hw
          haveI hb9 := named_below (w := w) hw
          clear hw
          go_wp2_with fail
          refine wp_loop_rounds 6 ?_
          rw [rounds_succ]
          go_wp2_with fail
          refine wp_region_ext ?_ ?_ ?_
          · kernel_rfl
          · kernel_rfl
          repeat (go_big_quiet_step (first | fail))
          refine wpQuiet_nil ?_
          rintro w10 ⟨_t, hw⟩
          have hc10 := named_cell hw
          have hz10 := named_frozen hw
          have hh10 := named_heap hw
          haveI hi10 := named_in hw
          haveI hb10 := named_below (w := w) hw
          clear hw
          go_wp2_with fail
          rw [rounds_succ]
          go_wp2_with fail
          refine wp_region_ext ?_ ?_ ?_
          · kernel_rfl
          · kernel_rfl
          repeat (go_big_quiet_step (first | fail))
          refine wpQuiet_nil ?_
          rintro w11 ⟨_t, hw⟩
          have hc11 := named_cell hw
          have hz11 := named_frozen hw
          have hh11 := named_heap hw
          haveI hi11 := named_in hw
          haveI hb11 := named_below (w := w) hw
          clear hw
          go_wp2_with fail
          rw [rounds_succ]
          go_wp2_with fail
          refine wp_region_ext ?_ ?_ ?_
          · kernel_rfl
          · kernel_rfl
          repeat (go_big_quiet_step (first | fail))
          refine wpQuiet_nil ?_
          rintro w12 ⟨_t, hw⟩
          have hc12 := named_cell hw
          have hz12 := named_frozen hw
          have hh12 := named_heap hw
          haveI hi12 := named_in hw
          haveI hb12 := named_below (w := w) hw
          clear hw
          go_wp2_with fail
          rw [rounds_succ]
          go_wp2_with fail
          refine wp_region_ext ?_ ?_ ?_
          · kernel_rfl
          · kernel_rfl
          repeat (go_big_quiet_step (first | fail))
          refine wpQuiet_nil ?_
          rintro w13 ⟨_t, hw⟩
          have hc13 := named_cell hw
          have hz13 := named_frozen hw
          have hh13 := named_heap hw
          haveI hi13 := named_in hw
          haveI hb13 := named_below (w := w) hw
          clear hw
          go_wp2_with fail
          rw [rounds_succ]
          go_wp2_with fail
          refine wp_region_ext ?_ ?_ ?_
          · kernel_rfl
          · kernel_rfl
          repeat (go_big_quiet_step (first | fail))
          refine wpQuiet_nil ?_
          rintro w14 ⟨_t, hw⟩
          have hc14 := named_cell hw
          have hz14 := named_frozen hw
          have hh14 := named_heap hw
          haveI hi14 := named_in hw
          haveI hb14 := named_below (w := w) hw
          clear hw
          go_wp2_with fail
          rw [rounds_succ]
          go_wp2
          refine ⟨⟨6, by omega, rfl, inferInstance, ?_, ?_⟩, by simp [intOf]⟩
          · rw [hh14, hh13, hh12, hh11, hh10, heap_alloc_in, hh9]; exact hgn
          · rw [hh14, hh13, hh12, hh11, hh10, heap_alloc_in, hh9]; exact hgb
        · have n0 := eqp_z px (pz + 1) px pz (by omega)
          have n1 := eqp_z px (pz + 1) (px - 1) pz (by omega)
          have n2 := eqp_z px (pz + 1) (px + 1) pz (by omega)
          have n3 := eqp_z px (pz + 1) px (pz - 1) (by omega)
          go_wp2_with fail
          refine (chunk_any _ _ _ _ ⟨by omega, by omega⟩ ⟨by omega, by omega⟩).mono ?_
          rintro e w9 ⟨rfl, _t, hw⟩
          have hc9 := named_cell hw
          have hz9 := named_frozen hw
          have hh9 := named_heap hw
          haveI hi9 := named_in hw
          haveI hb9 := named_below (w := w) hw
          clear hw
          go_wp2_with fail
          refine wp_loop_rounds 6 ?_
          rw [rounds_succ]
          go_wp2_with fail
          refine wp_region_ext ?_ ?_ ?_
          · kernel_rfl
          · kernel_rfl
          repeat (go_big_quiet_step (first | fail))
          refine wpQuiet_nil ?_
          rintro w10 ⟨_t, hw⟩
          have hc10 := named_cell hw
          have hz10 := named_frozen hw
          have hh10 := named_heap hw
          haveI hi10 := named_in hw
          haveI hb10 := named_below (w := w) hw
          clear hw
          go_wp2_with fail
          rw [rounds_succ]
          go_wp2_with fail
          refine wp_region_ext ?_ ?_ ?_
          · kernel_rfl
          · kernel_rfl
          repeat (go_big_quiet_step (first | fail))
          refine wpQuiet_nil ?_
          rintro w11 ⟨_t, hw⟩
          have hc11 := named_cell hw
          have hz11 := named_frozen hw
          have hh11 := named_heap hw
          haveI hi11 := named_in hw
          haveI hb11 := named_below (w := w) hw
          clear hw
          go_wp2_with fail
          rw [rounds_succ]
          go_wp2_with fail
          refine wp_region_ext ?_ ?_ ?_
          · kernel_rfl
          · kernel_rfl
          repeat (go_big_quiet_step (first | fail))
          refine wpQuiet_nil ?_
          rintro w12 ⟨_t, hw⟩
          have hc12 := named_cell hw
          have hz12 := named_frozen hw
          have hh12 := named_heap hw
          haveI hi12 := named_in hw
          haveI hb12 := named_below (w := w) hw
          clear hw
          go_wp2_with fail
          rw [rounds_succ]
          go_wp2_with fail
          refine wp_region_ext ?_ ?_ ?_
          · kernel_rfl
          · kernel_rfl
          repeat (go_big_quiet_step (first | fail))
          refine wpQuiet_nil ?_
          rintro w13 ⟨_t, hw⟩
          have hc13 := named_cell hw
          have hz13 := named_frozen hw
          have hh13 := named_heap hw
          haveI hi13 := named_in hw
          haveI hb13 := named_below (w := w) hw
          clear hw
          go_wp2_with fail
          rw [rounds_succ]
          go_wp2_with fail
          refine wp_region_ext ?_ ?_ ?_
          · kernel_rfl
          · kernel_rfl
          repeat (go_big_quiet_step (first | fail))
          refine wpQuiet_nil ?_
          rintro w14 ⟨_t, hw⟩
          have hc14 := named_cell hw
          have hz14 := named_frozen hw
          have hh14 := named_heap hw
          haveI hi14 := named_in hw
          haveI hb14 := named_below (w := w) hw
          clear hw
          go_wp2_with fail
          rw [rounds_succ]
          go_wp2
          refine ⟨⟨6, by omega, rfl, inferInstance, ?_, ?_⟩, by simp [intOf]⟩
          · rw [hh14, hh13, hh12, hh11, hh10, heap_alloc_in, hh9]; exact hgn
          · rw [hh14, hh13, hh12, hh11, hh10, heap_alloc_in, hh9]; exact hgb
      · go_wp2_with fail
        refine (lives_any _).mono ?_
        rintro e w9 ⟨rfl, _t, hw⟩
        have hc9 := named_cell hw
        have hz9 := named_frozen hw
        have hh9 := named_heap hw
        haveI hi9 := named_in hw
        haveI hb9 := named_below (w := w) hw
        clear hw
        go_wp2_with fail
        go_ret
        exact ⟨rfl, grown_of⟩
set_option maxRecDepth 100000 in
theorem lifted (os : Os) (started : os.Started) (H : Type) (enc : TypeId × Value → H) :
    ReturnsInHanded {} Try.checked os 6 .any (Rows.cellChunksSpec.pre6 enc Try.prog Try.f6 Rows.cellChunksRow.domain false) (Rows.cellChunksSpec.post enc Try.prog Try.f6 false true false false) := by
  refine returnsInHanded_of_change (C := Try.checked) own started (by kernel_rfl) Try.func6
    (ChangeSpec.witness6 (enc := enc) (C := Try.checked) false ⟨#[], #[.agg #[.int .i64 0, .int .i64 0, .int .i64 0], .agg #[.int .i64 0, .int .i64 0, .int .i64 0]], []⟩ 8 (by kernel_rfl) (by kernel_rfl) (by kernel_rfl) (by kernel_rfl)) ?_
  intro W base args ds gs before hval0 hW hcnd hsz
  have hval : ∀ (j : Nat) t v, Try.f6.params[j]? = some t → args[j]? = some v → Value.okWide Try.prog W .any base t v := hval0
  have hW' := hW
  obtain ⟨p, q, hA0, hV, rfl, hfz, hnd⟩ := hW
  have hA : DataW.TrodAll enc Try.prog W 0 (fun _ => true) true Try.f6.params.toList args.toList ds p := hA0
  rw [Try.params6] at hA hval
  obtain ⟨v0, vs0, d0, ds0, p0, q0, hargs, rfl, rfl, h0, r0⟩ := trodAll_cons hA
  obtain ⟨v1, vs1, d1, ds1, p1, q1, rfl, rfl, rfl, h1, r1⟩ := trodAll_cons r0
  obtain ⟨rfl, rfl, rfl⟩ := trodAll_nil r1
  obtain rfl : args = #[v0, v1] := by cases args; simp_all
  obtain ⟨rfl, rfl⟩ := trodVars_none hV
  obtain ⟨a0, b0, c0, rfl, fa0, fb0, fc0⟩ := open_three Try.underlying3 Try.underlying27 (by kernel_rfl) (by kernel_rfl) rfl rfl rfl (hval 0 27 v0 rfl rfl) h0
  obtain ⟨a1, b1, c1, rfl, fa1, fb1, fc1⟩ := open_three Try.underlying3 Try.underlying27 (by kernel_rfl) (by kernel_rfl) rfl rfl rfl (hval 1 27 v1 rfl rfl) h1
  simp only [List.append_nil] at hW'
  refine (walk a0 b0 c0 a1 b1 c1 fa0 fb0 fc0 fa1 fb1 fc1 W).mono fun e W' ⟨he, g, hg⟩ => ?_
  subst he
  subst hg
  exact ⟨_, rfl, law_post laidOut rfl rfl (by kernel_rfl) Try.underlying4 (by rw [Try.params6]; decide +kernel) hW' (ext_below _ _)⟩

theorem over : Rows.cellChunksRow.holds Try.pinned (OpenSpec.ofChange Rows.cellChunksSpec) :=
  OpenClaim.holds_of_wide 6 Try.f6 rfl rfl rfl rfl rfl rfl rfl ⟨rfl, rfl, rfl, rfl, rfl⟩ rfl rfl rfl rfl rfl (by kernel_rfl) Try.func6 (by kernel_rfl)
    (of_decide_eq_true (by kernel_rfl)) (by unfold Func.isWrapper; first | (rw [if_pos (by decide +kernel)]; kernel_rfl) | (rw [if_neg (by decide +kernel)]; exact ⟨rfl, rfl⟩))
    (fun os started H enc _ => lifted os started H enc)

theorem proved : Rows.CellChunksSaid := over
#print axioms proved
end cellChunks
end Go.Proofs.Ytdlapfpjbcjaeaa
