/-
  A body comes.
  Systems with a body, with two: what they are; what turns leaves them.
  Lines: a body comes: the first one, the second one. Printed by gen_pcome.py.
-/
import Derived.Test.YtnogfelfgclajaaGreatDoorMb25
import Derived.Test.YtnogfelfgclajaaGreatDoorMb29
section
namespace Go.Proofs.YtnogfelfgclajaaGreatDoor
open Go.RowKit
attribute [local go_sem] ext_ext drew_ext ext_drew ext_cell ext_frozen in_lt in_le in_ne in_en in_ne1 in_en1 in_le1 in_ltn in_len in_nen in_enn size_le ite_max ite_min
set_option linter.unusedVariables false
set_option linter.unusedSimpArgs false
set_option maxRecDepth 1000000

theorem cellG_good {B : Nat} {w : World} {t q e : Nat} {s lim : Int} {G : Ps → List Int} {T : List (Ps × Bool)} (h : TabOf B w t s lim q e G T) (x y z : Int) (hx : 0 ≤ x ∧ x ≤ 15) (hy : 0 ≤ y ∧ y ≤ 31) (hz : 0 ≤ z ∧ z ≤ 15) : GoodB (cellG G x y z) := by
  obtain ⟨st, d, mb, lv, its, D, N, ht⟩ := h
  obtain ⟨h1, h2, _⟩ := ht.hold.good (0, 0) ⟨by simp, by simp, by simp, by simp⟩
  obtain ⟨i0, i1⟩ := idxS_bd (x := x) (z := z) hy.1 hy.2
  unfold cellG
  rw [if_neg (by omega), if_pos (by omega), div0 hx.1 hx.2, div0 hz.1 hz.2, List.getElem?_eq_getElem (by omega)]
  exact h1 _ (List.getElem_mem _)
theorem view00 {G : Ps → List Int} {T : List (Ps × Bool)} (h : ∃ c ∈ T, c.1 = ((0, 0) : Ps)) (x y z : Int) (hx : 0 ≤ x ∧ x ≤ 15) (hz : 0 ≤ z ∧ z ≤ 15) : viewT G T x y z = cellG G x y z := view_yes (by rw [div0 hx.1 hx.2, div0 hz.1 hz.2]; exact h)
theorem awake_any {w : World} {en sm wo : Nat} (X cx : Int) (h2 : Two X cx) (e0 : w.cell? ⟨en, 0, none⟩ = some (.pointer (some ⟨sm, 0, none⟩))) (s1 : w.cell? ⟨sm, 1, none⟩ = some (.pointer (some ⟨wo, 0, none⟩)))
    (hr : ∀ W, Below w.heap.size w W → Calls Tryz.prog 196 #[.pointer (some ⟨wo, 0, none⟩), .agg #[.int .i64 cx, .int .i64 21, .int .i64 8]] W fun e w' => e = .returned (.bool true) ∧ ∃ f, w' = ext W f) :
    Calls Tryz.prog 151 #[.pointer (some ⟨en, 0, none⟩), .agg (bodyV X 1376256 557056 false)] w fun e w' => e = .returned (.bool true) ∧ ∃ f, w' = ext w f := by
  haveI := in_of_cell e0
  haveI := in_of_cell s1
  have HR := Lib.hid hr
  have CO := Lib.hid (fun W => (show Calls Tryz.prog 197 #[.agg #[.int .i64 X, .int .i64 1376256, .int .i64 557056]] W fun e w' => e = .returned (.agg #[.int .i64 cx, .int .i64 21, .int .i64 8]) ∧ ∃ f, w' = ext W f from by
    have := cellof_any X 1376256 557056 W
    have e1 : flS X = cx := by rcases h2 with ⟨rfl, rfl⟩ | ⟨rfl, rfl⟩ <;> decide +kernel
    have e2 : flS 1376256 = 21 := by decide +kernel
    have e3 : flS 557056 = 8 := by decide +kernel
    rwa [e1, e2, e3] at this))
  unfold bodyV
  clear hr h2
  go_enter Tryz.func151, Tryz.ntmps151
  go_wp2_with fail
  refine wp_region_ext ?_ ?_ ?_
  · kernel_rfl
  · kernel_rfl
  repeat (go_big_quiet_step (first | (go_at_call 24; exact ext_same (simworld_any sm wo _ (by go_simp))) | (go_at_call 197; exact ext_call (CO.out _)) | (go_at_call 196; exact ext_call (HR.out _ (by exact grown_now)))))
  refine wpQuiet_nil ?_
  rintro w1 ⟨_t, hw⟩
  have hc1 := named_cell hw
  have hz1 := named_frozen hw
  have hh1 := named_heap hw
  haveI hi1 := named_in hw
  haveI hb1 := named_below (w := w) hw
  clear hw
  go_wp2_with fail
  go_ret
  exact ⟨rfl, grown_of⟩
/-- A body came. -/
def Spawned (en sm : Nat) (X k : Int) (new : Value → Value × Value) (w : World) (e : Ending) (w' : World) : Prop :=
  ∃ lp s, e = .returned (.tuple #[.int .i64 k, .int .i64 0]) ∧ w.heap.size ≤ lp ∧ w'.heap[en]? = some (.cells (engB sm (new (.pointer (some ⟨lp, 0, none⟩))).1 (new (.pointer (some ⟨lp, 0, none⟩))).2) 69 (0, 0)) ∧ w'.heap[lp]? = some (.cells (lifeC X 1376256 557056 s) 96 (0, 0)) ∧ Turn (fun b => b = en) w w'
set_option maxHeartbeats 4000000 in
theorem spawn0_any  {B : Nat} {w : World} {en sm wo t q e : Nat} {s lim : Int} {G : Ps → List Int} {T : List (Ps × Bool)} (he : w.heap[en]? = some (.cells (engB sm (.pointer none) (.pointer none)) 69 (0, 0))) (s1 : w.cell? ⟨sm, 1, none⟩ = some (.pointer (some ⟨wo, 0, none⟩))) (w0 : w.cell? ⟨wo, 0, none⟩ = some (.pointer (some ⟨t, 0, none⟩)))
    (h : TabOf B w t s lim q e G T) (h5 : Five T) (hh : ∃ c ∈ T, c.1 = ((0, 0) : Ps)) (hf : FreeG G) :
    Calls Tryz.prog 104 #[.pointer (some ⟨en, 0, none⟩), .agg #[.int .i64 557056, .int .i64 1376256, .int .i64 557056], .int .i64 40000, .int .i64 100000] w (Spawned en sm 557056 0 (fun p => (p, .pointer none)) w) := by
  have e0 := cell_of_block (i := 0) he rfl
  have e1 := cell_of_block (i := 1) he rfl
  have e2 := cell_of_block (i := 2) he rfl
  have f1 := free_of_block 1 he
  haveI := in_of_cell e0
  haveI := in_of_cell s1
  haveI := in_of_cell w0
  unfold engB at e0 e1 e2
  have HE := Lib.hid he
  have IX := Lib.hid (fun W (hW : Below w.heap.size w W) => lifeindex0 (en := en) ((hW.cell (p := ⟨en, 1, none⟩) (lt_of_block he)).trans e1))
  have MY := Lib.hid (fun W => bodymay_any 557056 1376256 557056 W (by omega) (by omega) (by omega))
  have RY := Lib.hid (fun W (hW : Below w.heap.size w W) => ready_any ((hW.cell (p := ⟨wo, 0, none⟩) (World.block_lt_of_cell? w _ w0)).trans w0) (h.grown hW) h5 8 21 8 (by omega) (by omega) (by omega) (by omega))
  have AW := Lib.hid (fun W (hW : Below w.heap.size w W) => awake_any (w := W) (en := en) 557056 8 (.inl ⟨rfl, rfl⟩) ((hW.cell (p := ⟨en, 0, none⟩) (lt_of_block he)).trans e0) ((hW.cell (p := ⟨sm, 1, none⟩) (World.block_lt_of_cell? w _ s1)).trans s1) (fun W' hW' => RY.out W' (hW.trans (hW'.mono hW.size))))
  have VW := Lib.hid (fun W (hW : Below w.heap.size w W) => view_any (w := W) (en := en) ((hW.cell (p := ⟨en, 0, none⟩) (lt_of_block he)).trans e0) ((hW.cell (p := ⟨sm, 1, none⟩) (World.block_lt_of_cell? w _ s1)).trans s1) ((hW.cell (p := ⟨wo, 0, none⟩) (World.block_lt_of_cell? w _ w0)).trans w0))
  have vG : ∀ y : Int, 0 ≤ y ∧ y ≤ 31 → AnyB (viewT G T 8 y 8) := fun y hy => by rw [view00 hh 8 y 8 (by omega) (by omega)]; exact (cellG_good h 8 y 8 (by omega) hy (by omega)).any
  have hno : anyS (viewT G T) 8 21 8 2 = false := by
    unfold anyS
    rw [show List.range 2 = [0, 1] from rfl]
    simp only [List.any_cons, List.any_nil, Bool.or_false]
    rw [view00 hh _ _ _ (by omega) (by omega), view00 hh _ _ _ (by omega) (by omega)]
    rw [show (21 : Int) + ((0 : Nat) : Int) = 21 from rfl, show (21 : Int) + ((1 : Nat) : Int) = 22 from rfl, hf.a, hf.b]
    rfl
  obtain ⟨sb, hsb⟩ : ∃ b, anyS (viewT G T) 8 20 8 1 = b := ⟨_, rfl⟩
  have BX := Lib.hid (fun W => bodybox_any 557056 1376256 557056 false W)
  have BL := Lib.hid (fun W (hW : Below w.heap.size w W) => hno ▸ blocked_col (viewOf t) (viewT G T) (fsS 557056 20000) (fsS 1376256 0) (fsS 557056 20000) (faS 557056 20000) (faS 1376256 100000) (faS 557056 20000) 8 21 8 2 (by omega) ⟨by omega, by omega⟩ ⟨by omega, by omega⟩ ⟨by omega, by omega⟩ (col_box (X := 557056) (cx := 8) (.inl ⟨rfl, rfl⟩)) W (view_is (h.grown hW)) (fun i hi => vG _ (by omega)))
  have ST := Lib.hid (fun W (hW : Below w.heap.size w W) => hsb ▸ stands_col (viewOf t) (viewT G T) (fsS 557056 20000) (fsS 1376256 0) (fsS 557056 20000) (faS 557056 20000) (faS 1376256 100000) (faS 557056 20000) 8 20 8 1 (by omega) ⟨by omega, by omega⟩ ⟨by omega, by omega⟩ ⟨by omega, by omega⟩ (col_under (X := 557056) (cx := 8) (.inl ⟨rfl, rfl⟩)) W (view_is (h.grown hW)) (fun i hi => vG _ (by omega)))
  unfold bodyV at BX MY AW
  unfold standS at BX
  clear h h5 hh hf vG hno hsb he RY
  go_enter Tryz.func104, Tryz.ntmps104
  go_wp2_with fail
  refine (IX.out _ (by exact grown_now)).mono ?_
  rintro e w1 ⟨rfl, _t, hw⟩
  have hc1 := named_cell hw
  have hz1 := named_frozen hw
  have hh1 := named_heap hw
  haveI hi1 := named_in hw
  haveI hb1 := named_below (w := w) hw
  clear hw
  go_wp2_with fail
  refine (MY.out _).mono ?_
  rintro e w2 ⟨rfl, _t, hw⟩
  haveI hb2_1 := named_below (w := w1) hw
  have hc2 := named_cell hw
  have hz2 := named_frozen hw
  have hh2 := named_heap hw
  haveI hi2 := named_in hw
  haveI hb2 := named_below (w := w) hw
  clear hw
  go_wp2_with fail
  refine (AW.out _ (by exact grown_now)).mono ?_
  rintro e w3 ⟨rfl, _t, hw⟩
  haveI hb3_1 := named_below (w := w1) hw
  haveI hb3_2 := named_below (w := w2) hw
  have hc3 := named_cell hw
  have hz3 := named_frozen hw
  have hh3 := named_heap hw
  haveI hi3 := named_in hw
  haveI hb3 := named_below (w := w) hw
  clear hw
  go_wp2_with fail
  refine wp_region_ext ?_ ?_ ?_
  · kernel_rfl
  · kernel_rfl
  repeat (go_big_quiet_step (first | (go_at_call 153; exact ext_same (VW.out _ (by exact grown_now))) | (go_at_call 154; exact ext_call (BX.out _)) | (go_at_call 152; exact ext_call (BL.out _ (by exact grown_now)))))
  refine wpQuiet_nil ?_
  rintro w4 ⟨_t, hw⟩
  haveI hb4_1 := named_below (w := w1) hw
  haveI hb4_2 := named_below (w := w2) hw
  haveI hb4_3 := named_below (w := w3) hw
  have hc4 := named_cell hw
  have hz4 := named_frozen hw
  have hh4 := named_heap hw
  haveI hi4 := named_in hw
  haveI hb4 := named_below (w := w) hw
  clear hw
  go_wp2_with fail
  refine wp_region_ext_tail 6 ?_ ?_ ?_
  · kernel_rfl
  · kernel_rfl
  simp only [List.take_succ_cons, List.take_zero, List.drop_succ_cons, List.drop_zero]
  repeat (go_big_quiet_step (first | (go_at_call 153; exact ext_same (VW.out _ (by exact grown_now))) | (go_at_call 154; exact ext_call (BX.out _)) | (go_at_call 155; exact ext_call (ST.out _ (by exact grown_now)))))
  refine wpQuiet_nil ?_
  rintro w5 ⟨_t, hw⟩
  haveI hb5_1 := named_below (w := w1) hw
  haveI hb5_2 := named_below (w := w2) hw
  haveI hb5_3 := named_below (w := w3) hw
  haveI hb5_4 := named_below (w := w4) hw
  have hc5 := named_cell hw
  have hz5 := named_frozen hw
  have hh5 := named_heap hw
  haveI hi5 := named_in hw
  haveI hb5 := named_below (w := w) hw
  clear hw
  go_wp2_with fail
  go_region
  all_goals
    go_wp2_with fail
    go_ret2
    have B5 := grown_now (w := w) (W := w5)
    have hlt := lt_of_block HE.out
    have k5 := (B5.block en hlt).trans HE.out
    have k6 := (block_set_far (a := ⟨w.heap.size + 1, 8, none⟩) (.bool sb) (show en ≠ w.heap.size + 1 by omega)).trans k5
    have k7 := block_set (i := 1) k6 (.pointer (some ⟨w5.heap.size, 0, none⟩)) (by simp [engB])
    have k8 := (heap_alloc_old ((w5.setCell ⟨w.heap.size + 1, 8, none⟩ (.bool sb)).setCell ⟨en, 1, none⟩ (.pointer (some ⟨w5.heap.size, 0, none⟩))) (.cells (lifeC 557056 1376256 557056 sb) 96) (lt_of_block k7)).trans k7
    have k9 := heap_alloc_new ((w5.setCell ⟨w.heap.size + 1, 8, none⟩ (.bool sb)).setCell ⟨en, 1, none⟩ (.pointer (some ⟨w5.heap.size, 0, none⟩))) (.cells (lifeC 557056 1376256 557056 sb) 96)
    rw [show ((w5.setCell ⟨w.heap.size + 1, 8, none⟩ (.bool sb)).setCell ⟨en, 1, none⟩ (.pointer (some ⟨w5.heap.size, 0, none⟩))).heap.size = w5.heap.size by simp] at k9
    have t5 := (turn_below (F := fun b => b = en) B5).setNew (a := ⟨w.heap.size + 1, 8, none⟩) (by simp) (.bool sb)
    have t6 := t5.setIn (a := ⟨en, 1, none⟩) rfl (.pointer (some ⟨w5.heap.size, 0, none⟩))
    have t7 := (t6.trans (turn_alloc (fun b => b = en) _ (.cells (lifeC 557056 1376256 557056 sb) 96)) (fun _ _ h => h)).trans (turn_drew (fun b => b = en) _) (fun _ _ h => h)
    exact ⟨w5.heap.size, sb, rfl, B5.size, k8, k9, t7⟩
set_option maxHeartbeats 4000000 in
theorem spawn1_any (l0 : Nat)  {B : Nat} {w : World} {en sm wo t q e : Nat} {s lim : Int} {G : Ps → List Int} {T : List (Ps × Bool)} (he : w.heap[en]? = some (.cells (engB sm (.pointer (some ⟨l0, 0, none⟩)) (.pointer none)) 69 (0, 0))) (s1 : w.cell? ⟨sm, 1, none⟩ = some (.pointer (some ⟨wo, 0, none⟩))) (w0 : w.cell? ⟨wo, 0, none⟩ = some (.pointer (some ⟨t, 0, none⟩)))
    (h : TabOf B w t s lim q e G T) (h5 : Five T) (hh : ∃ c ∈ T, c.1 = ((0, 0) : Ps)) (hf : FreeG G) :
    Calls Tryz.prog 104 #[.pointer (some ⟨en, 0, none⟩), .agg #[.int .i64 622592, .int .i64 1376256, .int .i64 557056], .int .i64 40000, .int .i64 100000] w (Spawned en sm 622592 1 (fun p => (.pointer (some ⟨l0, 0, none⟩), p)) w) := by
  have e0 := cell_of_block (i := 0) he rfl
  have e1 := cell_of_block (i := 1) he rfl
  have e2 := cell_of_block (i := 2) he rfl
  have f1 := free_of_block 2 he
  haveI := in_of_cell e0
  haveI := in_of_cell s1
  haveI := in_of_cell w0
  unfold engB at e0 e1 e2
  have HE := Lib.hid he
  have IX := Lib.hid (fun W (hW : Below w.heap.size w W) => lifeindex1 (en := en) (lp := l0) ((hW.cell (p := ⟨en, 1, none⟩) (lt_of_block he)).trans e1) ((hW.cell (p := ⟨en, 2, none⟩) (lt_of_block he)).trans e2))
  have MY := Lib.hid (fun W => bodymay_any 622592 1376256 557056 W (by omega) (by omega) (by omega))
  have RY := Lib.hid (fun W (hW : Below w.heap.size w W) => ready_any ((hW.cell (p := ⟨wo, 0, none⟩) (World.block_lt_of_cell? w _ w0)).trans w0) (h.grown hW) h5 9 21 8 (by omega) (by omega) (by omega) (by omega))
  have AW := Lib.hid (fun W (hW : Below w.heap.size w W) => awake_any (w := W) (en := en) 622592 9 (.inr ⟨rfl, rfl⟩) ((hW.cell (p := ⟨en, 0, none⟩) (lt_of_block he)).trans e0) ((hW.cell (p := ⟨sm, 1, none⟩) (World.block_lt_of_cell? w _ s1)).trans s1) (fun W' hW' => RY.out W' (hW.trans (hW'.mono hW.size))))
  have VW := Lib.hid (fun W (hW : Below w.heap.size w W) => view_any (w := W) (en := en) ((hW.cell (p := ⟨en, 0, none⟩) (lt_of_block he)).trans e0) ((hW.cell (p := ⟨sm, 1, none⟩) (World.block_lt_of_cell? w _ s1)).trans s1) ((hW.cell (p := ⟨wo, 0, none⟩) (World.block_lt_of_cell? w _ w0)).trans w0))
  have vG : ∀ y : Int, 0 ≤ y ∧ y ≤ 31 → AnyB (viewT G T 9 y 8) := fun y hy => by rw [view00 hh 9 y 8 (by omega) (by omega)]; exact (cellG_good h 9 y 8 (by omega) hy (by omega)).any
  have hno : anyS (viewT G T) 9 21 8 2 = false := by
    unfold anyS
    rw [show List.range 2 = [0, 1] from rfl]
    simp only [List.any_cons, List.any_nil, Bool.or_false]
    rw [view00 hh _ _ _ (by omega) (by omega), view00 hh _ _ _ (by omega) (by omega)]
    rw [show (21 : Int) + ((0 : Nat) : Int) = 21 from rfl, show (21 : Int) + ((1 : Nat) : Int) = 22 from rfl, hf.c, hf.d]
    rfl
  obtain ⟨sb, hsb⟩ : ∃ b, anyS (viewT G T) 9 20 8 1 = b := ⟨_, rfl⟩
  have BX := Lib.hid (fun W => bodybox_any 622592 1376256 557056 false W)
  have BL := Lib.hid (fun W (hW : Below w.heap.size w W) => hno ▸ blocked_col (viewOf t) (viewT G T) (fsS 622592 20000) (fsS 1376256 0) (fsS 557056 20000) (faS 622592 20000) (faS 1376256 100000) (faS 557056 20000) 9 21 8 2 (by omega) ⟨by omega, by omega⟩ ⟨by omega, by omega⟩ ⟨by omega, by omega⟩ (col_box (X := 622592) (cx := 9) (.inr ⟨rfl, rfl⟩)) W (view_is (h.grown hW)) (fun i hi => vG _ (by omega)))
  have ST := Lib.hid (fun W (hW : Below w.heap.size w W) => hsb ▸ stands_col (viewOf t) (viewT G T) (fsS 622592 20000) (fsS 1376256 0) (fsS 557056 20000) (faS 622592 20000) (faS 1376256 100000) (faS 557056 20000) 9 20 8 1 (by omega) ⟨by omega, by omega⟩ ⟨by omega, by omega⟩ ⟨by omega, by omega⟩ (col_under (X := 622592) (cx := 9) (.inr ⟨rfl, rfl⟩)) W (view_is (h.grown hW)) (fun i hi => vG _ (by omega)))
  unfold bodyV at BX MY AW
  unfold standS at BX
  clear h h5 hh hf vG hno hsb he RY
  go_enter Tryz.func104, Tryz.ntmps104
  go_wp2_with fail
  refine (IX.out _ (by exact grown_now)).mono ?_
  rintro e w1 ⟨rfl, _t, hw⟩
  have hc1 := named_cell hw
  have hz1 := named_frozen hw
  have hh1 := named_heap hw
  haveI hi1 := named_in hw
  haveI hb1 := named_below (w := w) hw
  clear hw
  go_wp2_with fail
  refine (MY.out _).mono ?_
  rintro e w2 ⟨rfl, _t, hw⟩
  haveI hb2_1 := named_below (w := w1) hw
  have hc2 := named_cell hw
  have hz2 := named_frozen hw
  have hh2 := named_heap hw
  haveI hi2 := named_in hw
  haveI hb2 := named_below (w := w) hw
  clear hw
  go_wp2_with fail
  refine (AW.out _ (by exact grown_now)).mono ?_
  rintro e w3 ⟨rfl, _t, hw⟩
  haveI hb3_1 := named_below (w := w1) hw
  haveI hb3_2 := named_below (w := w2) hw
  have hc3 := named_cell hw
  have hz3 := named_frozen hw
  have hh3 := named_heap hw
  haveI hi3 := named_in hw
  haveI hb3 := named_below (w := w) hw
  clear hw
  go_wp2_with fail
  refine wp_region_ext ?_ ?_ ?_
  · kernel_rfl
  · kernel_rfl
  repeat (go_big_quiet_step (first | (go_at_call 153; exact ext_same (VW.out _ (by exact grown_now))) | (go_at_call 154; exact ext_call (BX.out _)) | (go_at_call 152; exact ext_call (BL.out _ (by exact grown_now)))))
  refine wpQuiet_nil ?_
  rintro w4 ⟨_t, hw⟩
  haveI hb4_1 := named_below (w := w1) hw
  haveI hb4_2 := named_below (w := w2) hw
  haveI hb4_3 := named_below (w := w3) hw
  have hc4 := named_cell hw
  have hz4 := named_frozen hw
  have hh4 := named_heap hw
  haveI hi4 := named_in hw
  haveI hb4 := named_below (w := w) hw
  clear hw
  go_wp2_with fail
  refine wp_region_ext_tail 6 ?_ ?_ ?_
  · kernel_rfl
  · kernel_rfl
  simp only [List.take_succ_cons, List.take_zero, List.drop_succ_cons, List.drop_zero]
  repeat (go_big_quiet_step (first | (go_at_call 153; exact ext_same (VW.out _ (by exact grown_now))) | (go_at_call 154; exact ext_call (BX.out _)) | (go_at_call 155; exact ext_call (ST.out _ (by exact grown_now)))))
  refine wpQuiet_nil ?_
  rintro w5 ⟨_t, hw⟩
  haveI hb5_1 := named_below (w := w1) hw
  haveI hb5_2 := named_below (w := w2) hw
  haveI hb5_3 := named_below (w := w3) hw
  haveI hb5_4 := named_below (w := w4) hw
  have hc5 := named_cell hw
  have hz5 := named_frozen hw
  have hh5 := named_heap hw
  haveI hi5 := named_in hw
  haveI hb5 := named_below (w := w) hw
  clear hw
  go_wp2_with fail
  go_region
  all_goals
    go_wp2_with fail
    go_ret2
    have B5 := grown_now (w := w) (W := w5)
    have hlt := lt_of_block HE.out
    have k5 := (B5.block en hlt).trans HE.out
    have k6 := (block_set_far (a := ⟨w.heap.size + 1, 8, none⟩) (.bool sb) (show en ≠ w.heap.size + 1 by omega)).trans k5
    have k7 := block_set (i := 2) k6 (.pointer (some ⟨w5.heap.size, 0, none⟩)) (by simp [engB])
    have k8 := (heap_alloc_old ((w5.setCell ⟨w.heap.size + 1, 8, none⟩ (.bool sb)).setCell ⟨en, 2, none⟩ (.pointer (some ⟨w5.heap.size, 0, none⟩))) (.cells (lifeC 622592 1376256 557056 sb) 96) (lt_of_block k7)).trans k7
    have k9 := heap_alloc_new ((w5.setCell ⟨w.heap.size + 1, 8, none⟩ (.bool sb)).setCell ⟨en, 2, none⟩ (.pointer (some ⟨w5.heap.size, 0, none⟩))) (.cells (lifeC 622592 1376256 557056 sb) 96)
    rw [show ((w5.setCell ⟨w.heap.size + 1, 8, none⟩ (.bool sb)).setCell ⟨en, 2, none⟩ (.pointer (some ⟨w5.heap.size, 0, none⟩))).heap.size = w5.heap.size by simp] at k9
    have t5 := (turn_below (F := fun b => b = en) B5).setNew (a := ⟨w.heap.size + 1, 8, none⟩) (by simp) (.bool sb)
    have t6 := t5.setIn (a := ⟨en, 2, none⟩) rfl (.pointer (some ⟨w5.heap.size, 0, none⟩))
    have t7 := (t6.trans (turn_alloc (fun b => b = en) _ (.cells (lifeC 622592 1376256 557056 sb) 96)) (fun _ _ h => h)).trans (turn_drew (fun b => b = en) _) (fun _ _ h => h)
    exact ⟨w5.heap.size, sb, rfl, B5.size, k8, k9, t7⟩
#print axioms spawn1_any
end Go.Proofs.YtnogfelfgclajaaGreatDoor
end

section
namespace Go.Proofs.YtnogfelfgclajaaGreatDoor
open Go.RowKit
attribute [local go_sem] ext_ext drew_ext ext_drew ext_cell ext_frozen in_lt in_le in_ne in_en in_ne1 in_en1 in_le1 in_ltn in_len in_nen in_enn size_le ite_max ite_min
set_option linter.unusedVariables false
set_option linter.unusedSimpArgs false
set_option maxRecDepth 1000000

/-- An engine's memory, with one body. -/
structure EngOne (B : Nat) (w : World) (en sm qu mq wo t l0 : Nat) (s lim bud : Int) (oc dr : Value) (e c : Nat) (G : Ps → List Int) (T : List (Ps × Bool)) (st : Bool) : Prop where
  eng : EngB B w en sm (.pointer (some ⟨l0, 0, none⟩)) (.pointer none)
  lif : w.heap[l0]? = some (.cells (lifeC 557056 1376256 557056 st) 96 (0, 0)) ∧ B ≤ l0
  sim : SimAt B w sm qu wo bud oc dr
  wld : WorldOf B w wo t c
  tab : TabOf B w t s lim mq e G T
  que : QOf B w qu mq c
section
variable {B : Nat} {w W : World} {en sm qu mq wo t l0 l1 e c sh : Nat} {s lim bud : Int} {oc dr : Value} {G : Ps → List Int} {T : List (Ps × Bool)} {F : Nat → Prop} {st : Bool}
theorem tab_turn (h : TabOf B w t s lim mq e G T) (hT : Turn F w W) (hF : AsideOf tyEng w F) : TabOf B W t s lim mq e G T := by
  obtain ⟨st, d, mb, lv, its, D, N, h⟩ := h
  refine ⟨st, d, mb, lv, its, D, N, h.turn hT (by obtain ⟨mv, ⟨es, cl, h5, _⟩, _⟩ := h.dsk.map; exact hF.1 _ _ _ h5) (fun g c T fz hg hm => hF.2 g c T fz hg ?_)⟩
  simp at hm; rcases hm with rfl | rfl | rfl | rfl | rfl | rfl | rfl | rfl <;> decide
theorem que_turn (h : QOf B w qu mq c) (hT : Turn F w W) (hF : AsideOf tyEng w F) : QOf B W qu mq c := by
  obtain ⟨lv, n, k, h⟩ := h
  exact ⟨lv, n, k, h.turn hT (by obtain ⟨D, es, cl, h5, _⟩ := h.map; exact hF.1 _ _ _ h5) (fun g cs T fz hg hm => hF.2 g cs T fz hg (List.mem_append_left _ (List.mem_append_right _ hm)))⟩
theorem EngOne.turn (h : EngOne B w en sm qu mq wo t l0 s lim bud oc dr e c G T st) (hT : Turn F w W) (hF : AsideL w F) : EngOne B W en sm qu mq wo t l0 s lim bud oc dr e c G T st := by
  have hE := hF.sys.eng
  refine ⟨⟨(hT.block _ (lt_of_block h.eng.1) (hE.2 _ _ _ _ h.eng.1 (by decide))).trans h.eng.1, h.eng.2⟩, ⟨(hT.block _ (lt_of_block h.lif.1) (hF.2 _ _ _ _ h.lif.1 (by decide))).trans h.lif.1, h.lif.2⟩, ⟨(hT.block _ (lt_of_block h.sim.blk) (hE.2 _ _ _ _ h.sim.blk (by decide))).trans h.sim.blk, h.sim.lo⟩,
    h.wld.turn hT (fun g cs T fz hg hm => hE.2 g cs T fz hg ?_), tab_turn h.tab hT hE, que_turn h.que hT hE⟩
  simp at hm; rcases hm with rfl | rfl <;> decide
theorem EngOne.grown (h : EngOne B w en sm qu mq wo t l0 s lim bud oc dr e c G T st) (hW : Below w.heap.size w W) : EngOne B W en sm qu mq wo t l0 s lim bud oc dr e c G T st := h.turn (turn_below (F := fun _ => False) hW) (asideL_none w)
theorem EngTwo.turn (h : EngTwo B w en sm qu mq wo t l0 l1 s lim bud oc dr e c G T) (hT : Turn F w W) (hF : AsideL w F) : EngTwo B W en sm qu mq wo t l0 l1 s lim bud oc dr e c G T := by
  have hE := hF.sys.eng
  refine ⟨h.liv.turn hT (fun g cs T fz hg hm => hF.2 g cs T fz hg ?_), ⟨(hT.block _ (lt_of_block h.sim.blk) (hE.2 _ _ _ _ h.sim.blk (by decide))).trans h.sim.blk, h.sim.lo⟩,
    h.wld.turn hT (fun g cs T fz hg hm => hE.2 g cs T fz hg ?_), tab_turn h.tab hT hE, que_turn h.que hT hE, h.free, h.here⟩
  · simp at hm; rcases hm with rfl | rfl <;> decide
  · simp at hm; rcases hm with rfl | rfl <;> decide
/-- A system with one body; with two. -/
def SysOne (B : Nat) (w : World) (sh t : Nat) (s lim : Int) (e c : Nat) (G : Ps → List Int) (T : List (Ps × Bool)) : Prop :=
  ∃ en sm qu mq wo bud oc dr l0 st, ShAt B w sh en ∧ EngOne B w en sm qu mq wo t l0 s lim bud oc dr e c G T st
def SysTwo (B : Nat) (w : World) (sh t : Nat) (s lim : Int) (e c : Nat) : Prop :=
  ∃ en sm qu mq wo bud oc dr l0 l1 G T, ShAt B w sh en ∧ EngTwo B w en sm qu mq wo t l0 l1 s lim bud oc dr e c G T
theorem ShAt.turn {en : Nat} (h : ShAt B w sh en) (hT : Turn F w W) (hF : AsideL w F) : ShAt B W sh en := ⟨(hT.block _ (lt_of_block h.blk) (hF.2 _ _ _ _ h.blk (by decide))).trans h.blk, h.lo⟩
theorem SysOne.turn (h : SysOne B w sh t s lim e c G T) (hT : Turn F w W) (hF : AsideL w F) : SysOne B W sh t s lim e c G T := by
  obtain ⟨en, sm, qu, mq, wo, bud, oc, dr, l0, st, h1, h2⟩ := h
  exact ⟨en, sm, qu, mq, wo, bud, oc, dr, l0, st, h1.turn hT hF, h2.turn hT hF⟩
theorem SysTwo.turn (h : SysTwo B w sh t s lim e c) (hT : Turn F w W) (hF : AsideL w F) : SysTwo B W sh t s lim e c := by
  obtain ⟨en, sm, qu, mq, wo, bud, oc, dr, l0, l1, G, T, h1, h2⟩ := h
  exact ⟨en, sm, qu, mq, wo, bud, oc, dr, l0, l1, G, T, h1.turn hT hF, h2.turn hT hF⟩
theorem SysOne.grown (h : SysOne B w sh t s lim e c G T) (hW : Below w.heap.size w W) : SysOne B W sh t s lim e c G T := h.turn (turn_below (F := fun _ => False) hW) (asideL_none w)
theorem SysTwo.grown (h : SysTwo B w sh t s lim e c) (hW : Below w.heap.size w W) : SysTwo B W sh t s lim e c := h.turn (turn_below (F := fun _ => False) hW) (asideL_none w)
theorem wld_cell (h : WorldOf B w wo t c) : w.cell? ⟨wo, 0, none⟩ = some (.pointer (some ⟨t, 0, none⟩)) := by obtain ⟨lv, m, xs, h⟩ := h; exact cell_of_block (i := 0) h.blk rfl
theorem SysOf.cells (h : SysOf B w sh t s lim e c G T) : ShCells sh t w := by
  obtain ⟨en, sm, qu, mq, wo, bud, oc, dr, h1, h2⟩ := h
  exact ⟨en, sm, wo, cell_of_block (i := 0) h1.blk rfl, (eng_none h2.eng).1, cell_of_block (i := 1) h2.sim.blk rfl, wld_cell h2.wld⟩
theorem SysOne.cells (h : SysOne B w sh t s lim e c G T) : ShCells sh t w := by
  obtain ⟨en, sm, qu, mq, wo, bud, oc, dr, l0, st, h1, h2⟩ := h
  exact ⟨en, sm, wo, cell_of_block (i := 0) h1.blk rfl, cell_of_block (i := 0) h2.eng.1 rfl, cell_of_block (i := 1) h2.sim.blk rfl, wld_cell h2.wld⟩
theorem SysTwo.cells (h : SysTwo B w sh t s lim e c) : ShCells sh t w := by
  obtain ⟨en, sm, qu, mq, wo, bud, oc, dr, l0, l1, G, T, h1, h2⟩ := h
  exact ⟨en, sm, wo, cell_of_block (i := 0) h1.blk rfl, h2.liv.cells.1, cell_of_block (i := 1) h2.sim.blk rfl, wld_cell h2.wld⟩
end
/-- The text of a small number. -/
theorem or_int (k : Nat) (hk : k < 10) (g c : Nat) (w : World) (hc : w.cell? ⟨g, 0, none⟩ = some (.iface 3 (.int .i64 (k : Int)))) :
    Calls Tryz.prog 105 #[.int .i64 0, .slice (some ⟨g, 0, none⟩) 1 c] w fun en w' => en = .returned (.string (bs [48 + k.toUInt8])) ∧ ∃ f, w' = ext w f := by
  haveI := in_of_cell hc
  have TI := Lib.hid (told_int k hk g c w hc)
  clear hk
  go_enter Tryz.func105, Tryz.ntmps105
  go_wp2_with fail
  refine (TI.out).mono ?_
  rintro e w1 ⟨rfl, _t, hw⟩
  have hc1 := named_cell hw
  have hz1 := named_frozen hw
  have hh1 := named_heap hw
  haveI hi1 := named_in hw
  haveI hb1 := named_below (w := w) hw
  clear hw
  go_wp2_with fail
  go_ret
  exact ⟨rfl, grown_of⟩
/-- What a body's coming turns, as the lines say it. -/
theorem one_of_spawn {B : Nat} {w W : World} {en sm qu mq wo t l0 e c sh : Nat} {s lim bud : Int} {oc dr : Value} {G : Ps → List Int} {T : List (Ps × Bool)} (h1 : ShAt B w sh en) (h2 : EngOf B w en sm qu mq wo t s lim bud oc dr e c G T) (hT : Turn (fun b => b = en) w W) (hl : w.heap.size ≤ l0) {st : Bool}
    (h3 : W.heap[en]? = some (.cells (engB sm (.pointer (some ⟨l0, 0, none⟩)) (.pointer none)) 69 (0, 0))) (h4 : W.heap[l0]? = some (.cells (lifeC 557056 1376256 557056 st) 96 (0, 0))) :
    SysOne B W sh t s lim e c G T ∧ Turn (LG B w) w W := by
  have far : ∀ {g : Nat} {cs : Array Value} {T : TypeId} {fz : Nat × Nat}, w.heap[g]? = some (.cells cs T fz) → T ≠ 69 → g ≠ en := fun hg hne e => by
    subst e
    rw [h2.eng.1] at hg
    injection hg with hg
    injection hg with _ hg
    exact hne hg.symm
  have ha : AsideOf [210, 130, 126, 134, 187, 106, 317, 160, 235, 5, 193, 264] w (fun b => b = en) := aside_one h2.eng.1 (by decide)
  refine ⟨⟨en, sm, qu, mq, wo, bud, oc, dr, l0, st, ⟨(hT.block _ (lt_of_block h1.blk) (far h1.blk (by decide))).trans h1.blk, h1.lo⟩, ⟨h3, h2.eng.2⟩, ⟨h4, ?_⟩, ⟨(hT.block _ (lt_of_block h2.sim.blk) (far h2.sim.blk (by decide))).trans h2.sim.blk, h2.sim.lo⟩, h2.wld.turn hT (fun g cs T fz hg hm => far hg ?_), ?_, ?_⟩, lg_one hT h2.eng.1 h2.eng.2⟩
  · have := h2.eng.2; have := lt_of_block h2.eng.1; omega
  · simp at hm; rcases hm with rfl | rfl <;> decide
  · obtain ⟨st, d, mb, lv, its, D, N, h⟩ := h2.tab
    refine ⟨st, d, mb, lv, its, D, N, h.turn hT (by obtain ⟨mv, ⟨es, cl, h5, _⟩, _⟩ := h.dsk.map; exact ha.1 _ _ _ h5) (fun g c T fz hg hm => ha.2 g c T fz hg ?_)⟩
    simp at hm; rcases hm with rfl | rfl | rfl | rfl | rfl | rfl | rfl | rfl <;> decide
  · obtain ⟨lv, n, k, h⟩ := h2.que
    refine ⟨lv, n, k, h.turn hT (by obtain ⟨D, es, cl, h5, _⟩ := h.map; exact ha.1 _ _ _ h5) (fun g cs T fz hg hm => ha.2 g cs T fz hg ?_)⟩
    simp at hm; rcases hm with rfl | rfl <;> decide
theorem two_of_spawn {B : Nat} {w W : World} {en sm qu mq wo t l0 l1 e c sh : Nat} {s lim bud : Int} {oc dr : Value} {G : Ps → List Int} {T : List (Ps × Bool)} {s0 : Bool} (h1 : ShAt B w sh en) (h2 : EngOne B w en sm qu mq wo t l0 s lim bud oc dr e c G T s0) (hf : FreeG G) (hh : ∃ c ∈ T, c.1 = ((0, 0) : Ps)) (hT : Turn (fun b => b = en) w W) (hl : w.heap.size ≤ l1) {st : Bool}
    (h3 : W.heap[en]? = some (.cells (engB sm (.pointer (some ⟨l0, 0, none⟩)) (.pointer (some ⟨l1, 0, none⟩))) 69 (0, 0))) (h4 : W.heap[l1]? = some (.cells (lifeC 622592 1376256 557056 st) 96 (0, 0))) :
    SysTwo B W sh t s lim e c ∧ Turn (LG B w) w W := by
  have far : ∀ {g : Nat} {cs : Array Value} {T : TypeId} {fz : Nat × Nat}, w.heap[g]? = some (.cells cs T fz) → T ≠ 69 → g ≠ en := fun hg hne e => by
    subst e
    rw [h2.eng.1] at hg
    injection hg with hg
    injection hg with _ hg
    exact hne hg.symm
  have ha : AsideOf [210, 130, 126, 134, 187, 106, 317, 160, 235, 5, 193, 264] w (fun b => b = en) := aside_one h2.eng.1 (by decide)
  refine ⟨⟨en, sm, qu, mq, wo, bud, oc, dr, l0, l1, G, T, ⟨(hT.block _ (lt_of_block h1.blk) (far h1.blk (by decide))).trans h1.blk, h1.lo⟩, ⟨⟨⟨h3, h2.eng.2⟩, ⟨s0, (hT.block _ (lt_of_block h2.lif.1) (far h2.lif.1 (by decide))).trans h2.lif.1⟩, h2.lif.2, ⟨st, h4⟩, by have := h2.eng.2; have := lt_of_block h2.eng.1; omega⟩, ⟨(hT.block _ (lt_of_block h2.sim.blk) (far h2.sim.blk (by decide))).trans h2.sim.blk, h2.sim.lo⟩, h2.wld.turn hT (fun g cs T fz hg hm => far hg ?_), ?_, ?_, hf, hh⟩⟩, lg_one hT h2.eng.1 h2.eng.2⟩
  · simp at hm; rcases hm with rfl | rfl <;> decide
  · obtain ⟨st, d, mb, lv, its, D, N, h⟩ := h2.tab
    refine ⟨st, d, mb, lv, its, D, N, h.turn hT (by obtain ⟨mv, ⟨es, cl, h5, _⟩, _⟩ := h.dsk.map; exact ha.1 _ _ _ h5) (fun g c T fz hg hm => ha.2 g c T fz hg ?_)⟩
    simp at hm; rcases hm with rfl | rfl | rfl | rfl | rfl | rfl | rfl | rfl <;> decide
  · obtain ⟨lv, n, k, h⟩ := h2.que
    refine ⟨lv, n, k, h.turn hT (by obtain ⟨D, es, cl, h5, _⟩ := h.map; exact ha.1 _ _ _ h5) (fun g cs T fz hg hm => ha.2 g cs T fz hg ?_)⟩
    simp at hm; rcases hm with rfl | rfl <;> decide
end Go.Proofs.YtnogfelfgclajaaGreatDoor
end

section
namespace Go.Proofs.YtnogfelfgclajaaGreatDoor
open Go.RowKit
attribute [local go_sem] ext_ext drew_ext ext_drew ext_cell ext_frozen in_lt in_le in_ne in_en in_ne1 in_en1 in_le1 in_ltn in_len in_nen in_enn size_le ite_max ite_min
set_option linter.unusedVariables false
set_option linter.unusedSimpArgs false
set_option maxRecDepth 1000000

set_option maxHeartbeats 2000000 in
/-- The first body comes. -/
theorem linespawn0 {B : Nat} {w : World} {sh t e c ab : Nat} {s lim : Int} {G : Ps → List Int} {T : List (Ps × Bool)} (h : SysOf B w sh t s lim e c G T) (hf : FreeG G) (h5 : Five T) (hh : ∃ c ∈ T, c.1 = ((0, 0) : Ps)) (hA : ArgsAt w ab [decI 16 557056, decI 16 1376256, decI 16 557056, decI 16 40000, decI 16 100000]) :
    Calls Tryz.prog 57 #[.pointer (some ⟨sh, 0, none⟩), .pointer (some ⟨ab, 0, none⟩)] w (SaidH B ab (fun W => SysOne B W sh t s lim e c G T) (fun x => x = bs [48]) w) := by
  haveI := hA.in
  have H := Lib.hid h
  have VC := Lib.hid (vec_any 557056 1376256 557056 ⟨by omega, by omega⟩ ⟨by omega, by omega⟩ ⟨by omega, by omega⟩ [decI 16 40000, decI 16 100000] ab w hA (by simp))
  have N1 := Lib.hid (fun W hA => num_any 40000 (by omega) (by omega) [decI 16 100000] ab W hA (by simp))
  have N2 := Lib.hid (fun W hA => num_any 100000 (by omega) (by omega) [] ab W hA (by simp))
  have SP := Lib.hid (fun (W : World) (en sm qu mq wo : Nat) (bud : Int) (oc dr : Value) (hE : EngOf B W en sm qu mq wo t s lim bud oc dr e c G T) => spawn0_any (en := en) (sm := sm) (wo := wo) (hE.eng.1) (cell_of_block (i := 1) hE.sim.blk rfl) (wld_cell hE.wld) hE.tab h5 hh hf)
  have HF := Lib.hid (And.intro hf hh)
  have AS := Lib.hid (aside_argsL hA)
  clear h hA hf h5 hh
  go_enter Tryz.func57, Tryz.ntmps57
  go_wp2_with fail
  refine VC.out.mono ?_
  rintro en1 w1 ⟨rfl, hA1, hT1⟩
  have A1 := Lib.hid hA1
  have S1 := Lib.hid (H.out.turn hT1 AS.out.sys)
  have T1 := Lib.hid ((Turn.refl (LH B ab w) w).lhOne hT1)
  clear hA1 hT1 VC AS
  go_wp2_with fail
  have B2 := Lib.hid ((Below.refl w1.heap.size w1).alloc (Nat.le_refl _) (.cells #[.int .i64 557056, .int .i64 1376256, .int .i64 557056] 46))
  have X2 := Lib.hid (heap_alloc_new w1 (.cells #[.int .i64 557056, .int .i64 1376256, .int .i64 557056] 46))
  generalize w1.alloc (.cells #[.int .i64 557056, .int .i64 1376256, .int .i64 557056] 46) = w2 at *
  obtain ⟨bx, hbx⟩ : ∃ bx, w1.heap.size = bx := ⟨_, rfl⟩
  rw [hbx] at X2
  rw [hbx]
  clear hbx
  refine (N1.out w2 (A1.out.far B2.out)).mono ?_
  rintro en3 w3 ⟨rfl, hA3, hT3⟩
  have A3 := Lib.hid hA3
  have X3 := Lib.hid ((hT3.block _ (lt_of_block X2.out) (fun e => (A1.out.far B2.out).cells X2.out (by decide) e)).trans X2.out)
  have S3 := Lib.hid ((S1.out.grown B2.out).turn hT3 (aside_argsL (A1.out.far B2.out)).sys)
  have T3 := Lib.hid ((T1.out.lhBelow B2.out).lhOne hT3)
  clear hA3 hT3 N1 A1 S1 T1 X2 B2
  go_wp2_with fail
  refine (N2.out w3 A3.out).mono ?_
  rintro en4 w4 ⟨rfl, hA4, hT4⟩
  have A4 := Lib.hid hA4
  have X4 := Lib.hid ((hT4.block _ (lt_of_block X3.out) (fun e => A3.out.cells X3.out (by decide) e)).trans X3.out)
  have S4 := Lib.hid (S3.out.turn hT4 (aside_argsL A3.out).sys)
  have T4 := Lib.hid (T3.out.lhOne hT4)
  clear hA4 hT4 N2 A3 S3 T3 X3
  go_wp2_with fail
  refine (end_any ab w4 A4.out).mono ?_
  rintro en5 w5 ⟨rfl, rfl⟩
  obtain ⟨en, sm, qu, mq, wo, bud, oc, dr, h1, h2⟩ := S4.out
  have e0 := cell_of_block (i := 0) h1.blk rfl
  have x0 := cell_of_block (i := 0) X4.out rfl
  have x1 := cell_of_block (i := 1) X4.out rfl
  have x2 := cell_of_block (i := 2) X4.out rfl
  haveI := in_of_cell e0
  haveI := in_of_cell x0
  have E4 := Lib.hid h2
  have H4 := Lib.hid h1
  clear h1 h2
  go_wp2_with fail
  have B5 : Below w4.heap.size w4 w4.drew := (Below.refl _ _).drew
  have KC := Lib.hid (show Calls Tryz.prog 104 #[.pointer (some ⟨en, 0, none⟩), .agg #[.int .i64 557056, .int .i64 1376256, .int .i64 557056], .int .i64 40000, .int .i64 100000] w4.drew (fun o w6 => o = .returned (.tuple #[.int .i64 0, .int .i64 0]) ∧ Hid (SysOne B w6 sh t s lim e c G T) ∧ Hid (Turn (LH B ab w) w w6)) from by
    refine (SP.out _ en sm qu mq wo bud oc dr (E4.out.grown B5)).mono ?_
    rintro en6 w6 ⟨lp, st, rfl, hlp, hb6, hl6, hT6⟩
    obtain ⟨q1, q2⟩ := one_of_spawn (H4.out.grown B5) (E4.out.grown B5) hT6 hlp hb6 hl6
    exact ⟨rfl, Lib.hid q1, Lib.hid ((T4.out.lhBelow B5).lh q2)⟩)
  clear SP E4 H4 B5 T4
  go_region_law (go_simp; go_at_call 104; refine KC.out.mono ?_; rintro en6 w6 ⟨rfl, S6, T6⟩)
  all_goals
    go_wp2_with fail
    refine (or_int 0 (by omega) _ _ _ (by go_simp)).mono ?_
    rintro en7 w7 ⟨rfl, _t, hw⟩
    haveI hb7 := named_below (w := w6) hw
    clear hw
    have B7 := Lib.hid (grown_now (w := w6) (W := w7))
    go_wp2_with fail
    go_ret
    exact ⟨⟨_, rfl, rfl⟩, S6.out.grown B7.out, T6.out.lhBelow B7.out⟩
set_option maxHeartbeats 2000000 in
/-- The second body comes. -/
theorem linespawn1 {B : Nat} {w : World} {sh t e c ab : Nat} {s lim : Int} {G : Ps → List Int} {T : List (Ps × Bool)} (h : SysOne B w sh t s lim e c G T) (hf : FreeG G) (h5 : Five T) (hh : ∃ c ∈ T, c.1 = ((0, 0) : Ps)) (hA : ArgsAt w ab [decI 16 622592, decI 16 1376256, decI 16 557056, decI 16 40000, decI 16 100000]) :
    Calls Tryz.prog 57 #[.pointer (some ⟨sh, 0, none⟩), .pointer (some ⟨ab, 0, none⟩)] w (SaidH B ab (fun W => SysTwo B W sh t s lim e c) (fun x => x = bs [49]) w) := by
  haveI := hA.in
  have H := Lib.hid h
  have VC := Lib.hid (vec_any 622592 1376256 557056 ⟨by omega, by omega⟩ ⟨by omega, by omega⟩ ⟨by omega, by omega⟩ [decI 16 40000, decI 16 100000] ab w hA (by simp))
  have N1 := Lib.hid (fun W hA => num_any 40000 (by omega) (by omega) [decI 16 100000] ab W hA (by simp))
  have N2 := Lib.hid (fun W hA => num_any 100000 (by omega) (by omega) [] ab W hA (by simp))
  have SP := Lib.hid (fun (W : World) (en sm qu mq wo : Nat) (bud : Int) (oc dr : Value) (l0 : Nat) (s0 : Bool) (hE : EngOne B W en sm qu mq wo t l0 s lim bud oc dr e c G T s0) => spawn1_any l0 (en := en) (sm := sm) (wo := wo) (hE.eng.1) (cell_of_block (i := 1) hE.sim.blk rfl) (wld_cell hE.wld) hE.tab h5 hh hf)
  have HF := Lib.hid (And.intro hf hh)
  have AS := Lib.hid (aside_argsL hA)
  clear h hA hf h5 hh
  go_enter Tryz.func57, Tryz.ntmps57
  go_wp2_with fail
  refine VC.out.mono ?_
  rintro en1 w1 ⟨rfl, hA1, hT1⟩
  have A1 := Lib.hid hA1
  have S1 := Lib.hid (H.out.turn hT1 AS.out)
  have T1 := Lib.hid ((Turn.refl (LH B ab w) w).lhOne hT1)
  clear hA1 hT1 VC AS
  go_wp2_with fail
  have B2 := Lib.hid ((Below.refl w1.heap.size w1).alloc (Nat.le_refl _) (.cells #[.int .i64 622592, .int .i64 1376256, .int .i64 557056] 46))
  have X2 := Lib.hid (heap_alloc_new w1 (.cells #[.int .i64 622592, .int .i64 1376256, .int .i64 557056] 46))
  generalize w1.alloc (.cells #[.int .i64 622592, .int .i64 1376256, .int .i64 557056] 46) = w2 at *
  obtain ⟨bx, hbx⟩ : ∃ bx, w1.heap.size = bx := ⟨_, rfl⟩
  rw [hbx] at X2
  rw [hbx]
  clear hbx
  refine (N1.out w2 (A1.out.far B2.out)).mono ?_
  rintro en3 w3 ⟨rfl, hA3, hT3⟩
  have A3 := Lib.hid hA3
  have X3 := Lib.hid ((hT3.block _ (lt_of_block X2.out) (fun e => (A1.out.far B2.out).cells X2.out (by decide) e)).trans X2.out)
  have S3 := Lib.hid ((S1.out.grown B2.out).turn hT3 (aside_argsL (A1.out.far B2.out)))
  have T3 := Lib.hid ((T1.out.lhBelow B2.out).lhOne hT3)
  clear hA3 hT3 N1 A1 S1 T1 X2 B2
  go_wp2_with fail
  refine (N2.out w3 A3.out).mono ?_
  rintro en4 w4 ⟨rfl, hA4, hT4⟩
  have A4 := Lib.hid hA4
  have X4 := Lib.hid ((hT4.block _ (lt_of_block X3.out) (fun e => A3.out.cells X3.out (by decide) e)).trans X3.out)
  have S4 := Lib.hid (S3.out.turn hT4 (aside_argsL A3.out))
  have T4 := Lib.hid (T3.out.lhOne hT4)
  clear hA4 hT4 N2 A3 S3 T3 X3
  go_wp2_with fail
  refine (end_any ab w4 A4.out).mono ?_
  rintro en5 w5 ⟨rfl, rfl⟩
  obtain ⟨en, sm, qu, mq, wo, bud, oc, dr, l0, s0, h1, h2⟩ := S4.out
  have e0 := cell_of_block (i := 0) h1.blk rfl
  have x0 := cell_of_block (i := 0) X4.out rfl
  have x1 := cell_of_block (i := 1) X4.out rfl
  have x2 := cell_of_block (i := 2) X4.out rfl
  haveI := in_of_cell e0
  haveI := in_of_cell x0
  have E4 := Lib.hid h2
  have H4 := Lib.hid h1
  clear h1 h2
  go_wp2_with fail
  have B5 : Below w4.heap.size w4 w4.drew := (Below.refl _ _).drew
  have KC := Lib.hid (show Calls Tryz.prog 104 #[.pointer (some ⟨en, 0, none⟩), .agg #[.int .i64 622592, .int .i64 1376256, .int .i64 557056], .int .i64 40000, .int .i64 100000] w4.drew (fun o w6 => o = .returned (.tuple #[.int .i64 1, .int .i64 0]) ∧ Hid (SysTwo B w6 sh t s lim e c) ∧ Hid (Turn (LH B ab w) w w6)) from by
    refine (SP.out _ en sm qu mq wo bud oc dr l0 s0 (E4.out.grown B5)).mono ?_
    rintro en6 w6 ⟨lp, st, rfl, hlp, hb6, hl6, hT6⟩
    obtain ⟨q1, q2⟩ := two_of_spawn (H4.out.grown B5) (E4.out.grown B5) HF.out.1 HF.out.2 hT6 hlp hb6 hl6
    exact ⟨rfl, Lib.hid q1, Lib.hid ((T4.out.lhBelow B5).lh q2)⟩)
  clear SP E4 H4 B5 T4
  go_region_law (go_simp; go_at_call 104; refine KC.out.mono ?_; rintro en6 w6 ⟨rfl, S6, T6⟩)
  all_goals
    go_wp2_with fail
    refine (or_int 1 (by omega) _ _ _ (by go_simp)).mono ?_
    rintro en7 w7 ⟨rfl, _t, hw⟩
    haveI hb7 := named_below (w := w6) hw
    clear hw
    have B7 := Lib.hid (grown_now (w := w6) (W := w7))
    go_wp2_with fail
    go_ret
    exact ⟨⟨_, rfl, rfl⟩, S6.out.grown B7.out, T6.out.lhBelow B7.out⟩
#print axioms linespawn1
end Go.Proofs.YtnogfelfgclajaaGreatDoor
end
