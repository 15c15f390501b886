/-
  What an update of water changes, of any cell; whether it changes nothing.
-/
import Derived.Test.YtjejobfhddlmeaaNext
import Derived.Test.YtjejobfhddlmeaaMix
import Derived.Handy
import Derived.Deep.CutRange
import Derived.Deep.CutBlock
import Derived.Deep.RegionHeld3
namespace Go.Proofs.Ytjejobfhddlmeaa
open Go.RowKit
attribute [local go_sem] ext_ext drew_ext ext_drew ext_cell ext_frozen in_lt in_le in_ne in_en in_ne1 in_en1 in_le1 in_ltn in_len in_nen in_enn size_le ite_max ite_min
set_option linter.unusedVariables false
set_option linter.unusedSimpArgs false
attribute [local go_sem] nb_under nb_over

/-- Water that is fed as it should be: it stays. -/
theorem water_stays {V : Int → Int → Int → Int} {x y z level : Int} (h : ¬ (0 < level ∧ fedB V x y z = false)) (h2 : ¬ (0 < level ∧ fedN V x y z ≠ level)) :
    level ≤ 0 ∨ (0 < level ∧ fedB V x y z = true ∧ fedN V x y z = level) := by
  by_cases hl : 0 < level
  · refine .inr ⟨hl, ?_, ?_⟩
    · cases hb : fedB V x y z
      · exact absurd ⟨hl, hb⟩ h
      · rfl
    · by_cases hn : fedN V x y z = level
      · exact hn
      · exact absurd ⟨hl, hn⟩ h2
  · exact .inl (by omega)

set_option maxRecDepth 100000 in
set_option maxHeartbeats 8000000 in
theorem water_upd (v : Value) (V : Int → Int → Int → Int) (x y z level : Int) (w : World) (hv : ViewVal Try.prog v V w) (hx : Mid x) (hy : Mid y) (hz : Mid z) (l1 : 0 ≤ level) (l2 : level ≤ 7) :
    Calls Try.prog 34 #[v, .agg #[.int .i64 x, .int .i64 y, .int .i64 z], .int .i64 level] w (MadeCh (waterS V x y z level) w) := by
  have hvv := hv
  obtain ⟨f, caps, rfl, hv⟩ := hv
  have hvf := hv.enters
  obtain ⟨i0, iz0, iz1, iz2, iz3⟩ := info_parts chInfo
  by_cases a1 : 0 < level ∧ fedB V x y z = false
  · have H := Lib.hid (show waterS V x y z level = [(x, y, z, 0)] by unfold waterS; rw [if_pos a1])
    obtain ⟨b1, b2⟩ := a1
    go_enter Try.func34, Try.ntmps34
    go_wp2_with fail
    refine (feeds_any _ _ _ _ _ _ (hvv.grow (by exact grown_of)) hx hy hz).mono ?_
    rintro e w1 ⟨rfl, _t, hw⟩
    have hc1 := named_cell hw
    have hz1 := named_frozen hw
    have hh1 := named_heap hw
    haveI hi1 := named_in hw
    haveI hb1 := named_below (w := w) hw
    clear hw
    go_wp2_with fail
    go_ret
    refine H.out ▸ ⟨_, rfl, owns_lit (n := 1) (size := 4) rfl (by unfold maxLen; omega) ?_, grown_of⟩
    exact (grown_now (w := w) (W := w1)).size
  by_cases a2 : 0 < level ∧ fedN V x y z ≠ level
  · have H := Lib.hid (show waterS V x y z level = [(x, y, z, watS (fedN V x y z))] by unfold waterS; rw [if_neg a1, if_pos a2])
    obtain ⟨b1, b3⟩ := a2
    have b2 : fedB V x y z = true := by
      cases hb : fedB V x y z
      · exact absurd ⟨b1, hb⟩ a1
      · rfl
    have b4 : (fedN V x y z != level) = true := by simp [b3]
    clear a1 b3
    go_enter Try.func34, Try.ntmps34
    go_wp2_with fail
    refine (feeds_any _ _ _ _ _ _ (hvv.grow (by exact grown_of)) hx hy hz).mono ?_
    rintro e w1 ⟨rfl, _t, hw⟩
    have hc1 := named_cell hw
    have hz1 := named_frozen hw
    have hh1 := named_heap hw
    haveI hi1 := named_in hw
    haveI hb1 := named_below (w := w) hw
    clear hw
    go_wp2_with fail
    refine wp_region_ext_tail 4 ?_ ?_ ?_
    · kernel_rfl
    · kernel_rfl
    simp only [List.take_succ_cons, List.take_zero, List.drop_succ_cons, List.drop_zero]
    repeat (go_big_quiet_step (first | (go_at_call 44; exact ext_same (water_any _ _))))
    refine wpQuiet_nil ?_
    rintro w2 ⟨_t, hw⟩
    have hc2 := named_cell hw
    have hz2 := named_frozen hw
    have hh2 := named_heap hw
    haveI hi2 := named_in hw
    haveI hb2 := named_below (w := w) hw
    clear hw
    go_wp2_with fail
    go_ret
    refine H.out ▸ ⟨_, rfl, owns_lit (n := 1) (size := 4) rfl (by unfold maxLen; omega) ?_, grown_of⟩
    exact (grown_now (w := w) (W := w2)).size
  have aw := water_stays a1 a2
  have WS : waterS V x y z level = if V x (y + -1) z = 0 then [(x, y + -1, z, watS 1)] else if wetB (V x (y + -1) z) = true ∨ 7 ≤ level then [] else spreadS V (watS (level + 1)) x y z := by
    unfold waterS; rw [if_neg a1, if_neg a2]
  have WH := Lib.hid WS
  clear WS a1 a2
  go_enter Try.func34, Try.ntmps34
  go_wp2_with fail
  refine (feeds_any _ _ _ _ _ _ (hvv.grow (by exact grown_of)) hx hy hz).mono ?_
  rintro e w1 ⟨rfl, _t, hw⟩
  have hc1 := named_cell hw
  have hz1 := named_frozen hw
  have hh1 := named_heap hw
  haveI hi1 := named_in hw
  haveI hb1 := named_below (w := w) hw
  clear hw
  go_upto_block 0 with fail
  go_cut [6] from 20 to 42 (fun v wx => v = .slice none 0 0 ∧ wx = w1)
  case first =>
    rcases aw with h | ⟨h, h1, h2⟩
    · go_wp2_with fail
      go_meet
      exact ⟨rfl, rfl⟩
    · have h3 : (fedN V x y z != level) = false := by simp [h2]
      clear h2
      go_wp2_with fail
      go_meet
      exact ⟨rfl, rfl⟩
  obtain ⟨rfl, rfl⟩ := hcut
  clear aw
  go_wp2_with fail
  refine (nb_any _ _ _ _ hx hy hz).mono ?_
  rintro e w2 ⟨rfl, _t, hw⟩
  have hc2 := named_cell hw
  have hz2 := named_frozen hw
  have hh2 := named_heap hw
  haveI hi2 := named_in hw
  haveI hb2 := named_below (w := w) hw
  clear hw
  go_wp2_with fail
  refine (hv.tells _ (by exact grown_of) _ _ _ (by first | exact hx.wid | exact hx.up | exact hx.down) (by first | exact hy.wid | exact hy.up | exact hy.down) (by first | exact hz.wid | exact hz.up | exact hz.down)).mono ?_
  rintro e w3 ⟨rfl, _t, hw⟩
  have hc3 := named_cell hw
  have hz3 := named_frozen hw
  have hh3 := named_heap hw
  haveI hi3 := named_in hw
  haveI hb3 := named_below (w := w) hw
  clear hw
  by_cases c1 : V x (y + -1) z = 0
  · have H := Lib.hid (WH.out.trans (if_pos c1))
    have c2 : (V x (y + -1) z == 0) = true := by simp [c1]
    clear c1
    go_wp2_with fail
    refine wp_region_ext_tail 3 ?_ ?_ ?_
    · kernel_rfl
    · kernel_rfl
    simp only [List.take_succ_cons, List.take_zero, List.drop_succ_cons, List.drop_zero]
    repeat (go_big_quiet_step (first | (go_at_call 44; exact ext_same (water_any _ _))))
    refine wpQuiet_nil ?_
    rintro w4 ⟨_t, hw⟩
    have hc4 := named_cell hw
    have hz4 := named_frozen hw
    have hh4 := named_heap hw
    haveI hi4 := named_in hw
    haveI hb4 := named_below (w := w) hw
    clear hw
    go_wp2_with fail
    go_ret
    refine H.out ▸ ⟨_, rfl, owns_lit (n := 1) (size := 4) rfl (by unfold maxLen; omega) ?_, grown_of⟩
    exact (grown_now (w := w) (W := w4)).size
  have WH2 := Lib.hid (WH.out.trans (if_neg c1))
  have c2 : (V x (y + -1) z == 0) = false := by simp [c1]
  clear c1
  by_cases d1 : wetB (V x (y + -1) z) = true ∨ 7 ≤ level
  · have H := Lib.hid (WH2.out.trans (if_pos d1))
    rcases d2 : wetB (V x (y + -1) z) with _ | _
    · have d3 : 7 ≤ level := d1.resolve_left (by simp [d2])
      clear d1
      go_wp2_with (first | (go_at_call 33; refine (wet_any _ _).mono ?_; rintro e w1 ⟨rfl, rfl⟩))
      go_ret
      exact H.out ▸ madeCh_nil grown_of
    · clear d1
      go_wp2_with (first | (go_at_call 33; refine (wet_any _ _).mono ?_; rintro e w1 ⟨rfl, rfl⟩))
      go_ret
      exact H.out ▸ madeCh_nil grown_of
  have H := Lib.hid (WH2.out.trans (if_neg d1))
  have d2 : wetB (V x (y + -1) z) = false := by cases hb : wetB (V x (y + -1) z) <;> simp_all
  have d3 : level < 7 := by omega
  clear d1
  go_upto_region 12 with (first | (go_at_call 33; refine (wet_any _ _).mono ?_; rintro e w1 ⟨rfl, rfl⟩))
  go_cut [11] from 43 to 62 (fun v wx => (∀ (W : World) (base : Nat), W.ownsRow base 36 4 v 0 []) ∧ wx = w3)
  case first =>
    go_wp2_with fail
    go_meet
    exact ⟨fun _ _ => World.ownsRow_nil .., rfl⟩
  obtain ⟨ou, rfl⟩ := hcut
  have OU := Lib.hid ou
  clear ou
  go_wp2_with fail
  refine (beside_any _ _ _ _ hx hy hz).mono ?_
  rintro e w4 ⟨v4, rfl, ho4, _t, hw⟩
  have hc4 := named_cell hw
  have hz4 := named_frozen hw
  have hh4 := named_heap hw
  haveI hi4 := named_in hw
  haveI hb4 := named_below (w := w) hw
  clear hw
  obtain ⟨g, cap, rfl, _, _, _, hcells⟩ := owns_some ho4 (by omega)
  have k0 := hcells 0 _ rfl
  have k1 := hcells 1 _ rfl
  have k2 := hcells 2 _ rfl
  have k3 := hcells 3 _ rfl
  have k4 := hcells 4 _ rfl
  have k5 := hcells 5 _ rfl
  have k6 := hcells 6 _ rfl
  have k7 := hcells 7 _ rfl
  have k8 := hcells 8 _ rfl
  have k9 := hcells 9 _ rfl
  have k10 := hcells 10 _ rfl
  have k11 := hcells 11 _ rfl
  haveI := in_of_cell k0
  clear hcells ho4
  have ow0 : w4.ownsRow w4.heap.size 36 4 u11 ([] : List Ch).length (chV []) := OU.out _ _
  clear OU
  have kk4 : ∃ g, w4 = ext w4 g := grown_of
  go_wp2_with fail
  refine wp_loop_rounds 5 ?_
  rw [rounds_succ]
  go_upto_block 3 with fail
  go_cut [11] from 67 to 81 (fun v wx => (wx.ownsRow w4.heap.size 36 4 v (dryS V (watS (level + 1)) [] (x + -1) (y) (z)).length (chV (dryS V (watS (level + 1)) [] (x + -1) (y) (z)))) ∧ ∃ g, wx = ext w4 g)
  case first =>
    by_cases h : V (x + -1) (y) (z) = 0
    · have HN := Lib.hid (dryS_in (t := (watS (level + 1))) (l := []) h)
      have h9 : (V (x + -1) (y) (z) == 0) = true := by simp [h]
      have hlen : ([] : List Ch).length ≤ 0 := by simp
      clear h
      go_wp2_with fail
      refine (hv.tells _ (by exact grown_of) _ _ _ (by first | exact hx.wid | exact hx.up | exact hx.down) (by first | exact hy.wid | exact hy.up | exact hy.down) (by first | exact hz.wid | exact hz.up | exact hz.down)).mono ?_
      rintro e wa ⟨rfl, _t, hw⟩
      haveI hea : Nonempty (Below w4.heap.size w4 wa) := ⟨by rw [hw]; exact grown_now⟩
      have hca := named_cell hw
      have hza := named_frozen hw
      have hha := named_heap hw
      haveI hia := named_in hw
      haveI hba := named_below (w := w) hw
      clear hw
      go_wp2_with fail
      refine wp_region_noPanic ?_
      refine wp_region_mix 8 [0] [1, 2, 3, 4, 5] [6, 7, 8] (by kernel_rfl) (by kernel_rfl) (by kernel_rfl) (fun _ _ _ _ _ h => h.elim) ?_
      simp only [pick, List.getElem?_cons_zero, List.getElem?_cons_succ]
      repeat (refine wpPure_step (fun K hK => ?_); go_simp; refine hK _ ?_; clear hK K)
      refine wpPure_nil ?_
      repeat (go_big_quiet_step (first | (go_at_call 44; exact ext_same (water_any _ _))))
      refine wpQuiet_nil ?_
      rintro wb ⟨_t, hw⟩
      haveI heb : Nonempty (Below w4.heap.size w4 wb) := ⟨by rw [hw]; exact grown_now⟩
      have hcb := named_cell hw
      have hzb := named_frozen hw
      have hhb := named_heap hw
      haveI hib := named_in hw
      haveI hbb := named_below (w := w) hw
      clear hw
      have owb := owns_grown ow0 (grown_of (w := w4) (W := wb))
      have hB : Below w4.heap.size w4 wb := (grown_now (w := w4) (W := w4)).trans ((grown_now (w := w4) (W := wb)).mono (grown_now (w := w4) (W := w4)).size)
      go_wp2_with (at_builtin; refine wpList_append_own _ rfl (.tmp 74) (.tmp 80) 28 rfl w4.heap.size 36 i0 _ 4 32 Try.underlying28 iz0 iz1 iz2 iz3 rfl (by omega) _ _ _ rfl (owb.alloc _) _ 1 1 [.int .i64 (x + -1), .int .i64 y, .int .i64 z, .int .i64 (watS (level + 1))] rfl rfl (World.news_of_block (heap_alloc_new wb _)) (by simp [Value.oneCell']) (by unfold maxLen; omega) (by omega) (by have := hB.size; simp; omega) ?_; intro v' w1' hown1 hgrow _)
      refine NoPanic.normal ?_
      go_wp2_with fail
      go_meet
      exact ⟨by rw [HN.out, List.length_append, chV_snoc]; exact hown1, ext_of ((hB.alloc hB.size _).grown hgrow (by have := hB.size; simp; omega) (fun q hq => (owb.lt q hq).1))⟩
    · have HN := Lib.hid (dryS_out (t := (watS (level + 1))) (l := []) h)
      have h9 : (V (x + -1) (y) (z) == 0) = false := by simp [h]
      clear h
      go_wp2_with fail
      refine (hv.tells _ (by exact grown_of) _ _ _ (by first | exact hx.wid | exact hx.up | exact hx.down) (by first | exact hy.wid | exact hy.up | exact hy.down) (by first | exact hz.wid | exact hz.up | exact hz.down)).mono ?_
      rintro e w1 ⟨rfl, t1, rfl⟩
      go_wp2_with fail
      go_meet
      exact ⟨by rw [HN.out]; exact owns_grown ow0 (by exact grown_of), grown_of⟩
  case rest =>
    obtain ⟨ow1, _, hw⟩ := hcut
    rename World => w5
    rename Value => u1
    haveI he5 : Nonempty (Below w4.heap.size w4 w5) := ⟨by rw [hw]; exact ext_below _ _⟩
    have hc5 := named_cell hw
    have hz5 := named_frozen hw
    have hh5 := named_heap hw
    haveI hi5 := named_in hw
    haveI hb5 := named_below (w := w) hw
    clear hw
    have hl1 : (dryS V (watS (level + 1)) [] (x + -1) (y) (z)).length ≤ 1 := Nat.le_trans dryS_len (by simp)
    go_wp2_with fail
    rw [rounds_succ]
    go_upto_block 3 with fail
    go_cut [11] from 67 to 81 (fun v wx => (wx.ownsRow w4.heap.size 36 4 v (dryS V (watS (level + 1)) (dryS V (watS (level + 1)) [] (x + -1) (y) (z)) (x + 1) (y) (z)).length (chV (dryS V (watS (level + 1)) (dryS V (watS (level + 1)) [] (x + -1) (y) (z)) (x + 1) (y) (z)))) ∧ ∃ g, wx = ext w4 g)
    case first =>
      by_cases h : V (x + 1) (y) (z) = 0
      · have HN := Lib.hid (dryS_in (t := (watS (level + 1))) (l := dryS V (watS (level + 1)) [] (x + -1) (y) (z)) h)
        have h9 : (V (x + 1) (y) (z) == 0) = true := by simp [h]
        have hlen : (dryS V (watS (level + 1)) [] (x + -1) (y) (z) : List Ch).length ≤ 1 := hl1
        clear h
        go_wp2_with fail
        refine (hv.tells _ (by exact grown_of) _ _ _ (by first | exact hx.wid | exact hx.up | exact hx.down) (by first | exact hy.wid | exact hy.up | exact hy.down) (by first | exact hz.wid | exact hz.up | exact hz.down)).mono ?_
        rintro e wa ⟨rfl, _t, hw⟩
        haveI hea : Nonempty (Below w5.heap.size w5 wa) := ⟨by rw [hw]; exact grown_now⟩
        have hca := named_cell hw
        have hza := named_frozen hw
        have hha := named_heap hw
        haveI hia := named_in hw
        haveI hba := named_below (w := w) hw
        clear hw
        go_wp2_with fail
        refine wp_region_noPanic ?_
        refine wp_region_mix 8 [0] [1, 2, 3, 4, 5] [6, 7, 8] (by kernel_rfl) (by kernel_rfl) (by kernel_rfl) (fun _ _ _ _ _ h => h.elim) ?_
        simp only [pick, List.getElem?_cons_zero, List.getElem?_cons_succ]
        repeat (refine wpPure_step (fun K hK => ?_); go_simp; refine hK _ ?_; clear hK K)
        refine wpPure_nil ?_
        repeat (go_big_quiet_step (first | (go_at_call 44; exact ext_same (water_any _ _))))
        refine wpQuiet_nil ?_
        rintro wb ⟨_t, hw⟩
        haveI heb : Nonempty (Below w5.heap.size w5 wb) := ⟨by rw [hw]; exact grown_now⟩
        have hcb := named_cell hw
        have hzb := named_frozen hw
        have hhb := named_heap hw
        haveI hib := named_in hw
        haveI hbb := named_below (w := w) hw
        clear hw
        have owb := owns_grown ow1 (grown_of (w := w5) (W := wb))
        have hB : Below w4.heap.size w4 wb := (grown_now (w := w4) (W := w5)).trans ((grown_now (w := w5) (W := wb)).mono (grown_now (w := w4) (W := w5)).size)
        go_wp2_with (at_builtin; refine wpList_append_own _ rfl (.tmp 74) (.tmp 80) 28 rfl w4.heap.size 36 i0 _ 4 32 Try.underlying28 iz0 iz1 iz2 iz3 rfl (by omega) _ _ _ rfl (owb.alloc _) _ 1 1 [.int .i64 (x + 1), .int .i64 y, .int .i64 z, .int .i64 (watS (level + 1))] rfl rfl (World.news_of_block (heap_alloc_new wb _)) (by simp [Value.oneCell']) (by unfold maxLen; omega) (by omega) (by have := hB.size; simp; omega) ?_; intro v' w1' hown1 hgrow _)
        refine NoPanic.normal ?_
        go_wp2_with fail
        go_meet
        exact ⟨by rw [HN.out, List.length_append, chV_snoc]; exact hown1, ext_of ((hB.alloc hB.size _).grown hgrow (by have := hB.size; simp; omega) (fun q hq => (owb.lt q hq).1))⟩
      · have HN := Lib.hid (dryS_out (t := (watS (level + 1))) (l := dryS V (watS (level + 1)) [] (x + -1) (y) (z)) h)
        have h9 : (V (x + 1) (y) (z) == 0) = false := by simp [h]
        clear h
        go_wp2_with fail
        refine (hv.tells _ (by exact grown_of) _ _ _ (by first | exact hx.wid | exact hx.up | exact hx.down) (by first | exact hy.wid | exact hy.up | exact hy.down) (by first | exact hz.wid | exact hz.up | exact hz.down)).mono ?_
        rintro e w1 ⟨rfl, t1, rfl⟩
        go_wp2_with fail
        go_meet
        exact ⟨by rw [HN.out]; exact owns_grown ow1 (by exact grown_of), grown_of⟩
    case rest =>
      obtain ⟨ow2, _, hw⟩ := hcut
      rename World => w6
      rename Value => u2
      haveI he6 : Nonempty (Below w4.heap.size w4 w6) := ⟨by rw [hw]; exact ext_below _ _⟩
      have hc6 := named_cell hw
      have hz6 := named_frozen hw
      have hh6 := named_heap hw
      haveI hi6 := named_in hw
      haveI hb6 := named_below (w := w) hw
      clear hw
      have hl2 : (dryS V (watS (level + 1)) (dryS V (watS (level + 1)) [] (x + -1) (y) (z)) (x + 1) (y) (z)).length ≤ 2 := Nat.le_trans dryS_len (by omega)
      go_wp2_with fail
      rw [rounds_succ]
      go_upto_block 3 with fail
      go_cut [11] from 67 to 81 (fun v wx => (wx.ownsRow w4.heap.size 36 4 v (dryS V (watS (level + 1)) (dryS V (watS (level + 1)) (dryS V (watS (level + 1)) [] (x + -1) (y) (z)) (x + 1) (y) (z)) (x) (y) (z + -1)).length (chV (dryS V (watS (level + 1)) (dryS V (watS (level + 1)) (dryS V (watS (level + 1)) [] (x + -1) (y) (z)) (x + 1) (y) (z)) (x) (y) (z + -1)))) ∧ ∃ g, wx = ext w4 g)
      case first =>
        by_cases h : V (x) (y) (z + -1) = 0
        · have HN := Lib.hid (dryS_in (t := (watS (level + 1))) (l := dryS V (watS (level + 1)) (dryS V (watS (level + 1)) [] (x + -1) (y) (z)) (x + 1) (y) (z)) h)
          have h9 : (V (x) (y) (z + -1) == 0) = true := by simp [h]
          have hlen : (dryS V (watS (level + 1)) (dryS V (watS (level + 1)) [] (x + -1) (y) (z)) (x + 1) (y) (z) : List Ch).length ≤ 2 := hl2
          clear h
          go_wp2_with fail
          refine (hv.tells _ (by exact grown_of) _ _ _ (by first | exact hx.wid | exact hx.up | exact hx.down) (by first | exact hy.wid | exact hy.up | exact hy.down) (by first | exact hz.wid | exact hz.up | exact hz.down)).mono ?_
          rintro e wa ⟨rfl, _t, hw⟩
          haveI hea : Nonempty (Below w6.heap.size w6 wa) := ⟨by rw [hw]; exact grown_now⟩
          have hca := named_cell hw
          have hza := named_frozen hw
          have hha := named_heap hw
          haveI hia := named_in hw
          haveI hba := named_below (w := w) hw
          clear hw
          go_wp2_with fail
          refine wp_region_noPanic ?_
          refine wp_region_mix 8 [0] [1, 2, 3, 4, 5] [6, 7, 8] (by kernel_rfl) (by kernel_rfl) (by kernel_rfl) (fun _ _ _ _ _ h => h.elim) ?_
          simp only [pick, List.getElem?_cons_zero, List.getElem?_cons_succ]
          repeat (refine wpPure_step (fun K hK => ?_); go_simp; refine hK _ ?_; clear hK K)
          refine wpPure_nil ?_
          repeat (go_big_quiet_step (first | (go_at_call 44; exact ext_same (water_any _ _))))
          refine wpQuiet_nil ?_
          rintro wb ⟨_t, hw⟩
          haveI heb : Nonempty (Below w6.heap.size w6 wb) := ⟨by rw [hw]; exact grown_now⟩
          have hcb := named_cell hw
          have hzb := named_frozen hw
          have hhb := named_heap hw
          haveI hib := named_in hw
          haveI hbb := named_below (w := w) hw
          clear hw
          have owb := owns_grown ow2 (grown_of (w := w6) (W := wb))
          have hB : Below w4.heap.size w4 wb := (grown_now (w := w4) (W := w6)).trans ((grown_now (w := w6) (W := wb)).mono (grown_now (w := w4) (W := w6)).size)
          go_wp2_with (at_builtin; refine wpList_append_own _ rfl (.tmp 74) (.tmp 80) 28 rfl w4.heap.size 36 i0 _ 4 32 Try.underlying28 iz0 iz1 iz2 iz3 rfl (by omega) _ _ _ rfl (owb.alloc _) _ 1 1 [.int .i64 (x), .int .i64 y, .int .i64 (z + -1), .int .i64 (watS (level + 1))] rfl rfl (World.news_of_block (heap_alloc_new wb _)) (by simp [Value.oneCell']) (by unfold maxLen; omega) (by omega) (by have := hB.size; simp; omega) ?_; intro v' w1' hown1 hgrow _)
          refine NoPanic.normal ?_
          go_wp2_with fail
          go_meet
          exact ⟨by rw [HN.out, List.length_append, chV_snoc]; exact hown1, ext_of ((hB.alloc hB.size _).grown hgrow (by have := hB.size; simp; omega) (fun q hq => (owb.lt q hq).1))⟩
        · have HN := Lib.hid (dryS_out (t := (watS (level + 1))) (l := dryS V (watS (level + 1)) (dryS V (watS (level + 1)) [] (x + -1) (y) (z)) (x + 1) (y) (z)) h)
          have h9 : (V (x) (y) (z + -1) == 0) = false := by simp [h]
          clear h
          go_wp2_with fail
          refine (hv.tells _ (by exact grown_of) _ _ _ (by first | exact hx.wid | exact hx.up | exact hx.down) (by first | exact hy.wid | exact hy.up | exact hy.down) (by first | exact hz.wid | exact hz.up | exact hz.down)).mono ?_
          rintro e w1 ⟨rfl, t1, rfl⟩
          go_wp2_with fail
          go_meet
          exact ⟨by rw [HN.out]; exact owns_grown ow2 (by exact grown_of), grown_of⟩
      case rest =>
        obtain ⟨ow3, _, hw⟩ := hcut
        rename World => w7
        rename Value => u3
        haveI he7 : Nonempty (Below w4.heap.size w4 w7) := ⟨by rw [hw]; exact ext_below _ _⟩
        have hc7 := named_cell hw
        have hz7 := named_frozen hw
        have hh7 := named_heap hw
        haveI hi7 := named_in hw
        haveI hb7 := named_below (w := w) hw
        clear hw
        have hl3 : (dryS V (watS (level + 1)) (dryS V (watS (level + 1)) (dryS V (watS (level + 1)) [] (x + -1) (y) (z)) (x + 1) (y) (z)) (x) (y) (z + -1)).length ≤ 3 := Nat.le_trans dryS_len (by omega)
        go_wp2_with fail
        rw [rounds_succ]
        go_upto_block 3 with fail
        go_cut [11] from 67 to 81 (fun v wx => (wx.ownsRow w4.heap.size 36 4 v (dryS V (watS (level + 1)) (dryS V (watS (level + 1)) (dryS V (watS (level + 1)) (dryS V (watS (level + 1)) [] (x + -1) (y) (z)) (x + 1) (y) (z)) (x) (y) (z + -1)) (x) (y) (z + 1)).length (chV (dryS V (watS (level + 1)) (dryS V (watS (level + 1)) (dryS V (watS (level + 1)) (dryS V (watS (level + 1)) [] (x + -1) (y) (z)) (x + 1) (y) (z)) (x) (y) (z + -1)) (x) (y) (z + 1)))) ∧ ∃ g, wx = ext w4 g)
        case first =>
          by_cases h : V (x) (y) (z + 1) = 0
          · have HN := Lib.hid (dryS_in (t := (watS (level + 1))) (l := dryS V (watS (level + 1)) (dryS V (watS (level + 1)) (dryS V (watS (level + 1)) [] (x + -1) (y) (z)) (x + 1) (y) (z)) (x) (y) (z + -1)) h)
            have h9 : (V (x) (y) (z + 1) == 0) = true := by simp [h]
            have hlen : (dryS V (watS (level + 1)) (dryS V (watS (level + 1)) (dryS V (watS (level + 1)) [] (x + -1) (y) (z)) (x + 1) (y) (z)) (x) (y) (z + -1) : List Ch).length ≤ 3 := hl3
            clear h
            go_wp2_with fail
            refine (hv.tells _ (by exact grown_of) _ _ _ (by first | exact hx.wid | exact hx.up | exact hx.down) (by first | exact hy.wid | exact hy.up | exact hy.down) (by first | exact hz.wid | exact hz.up | exact hz.down)).mono ?_
            rintro e wa ⟨rfl, _t, hw⟩
            haveI hea : Nonempty (Below w7.heap.size w7 wa) := ⟨by rw [hw]; exact grown_now⟩
            have hca := named_cell hw
            have hza := named_frozen hw
            have hha := named_heap hw
            haveI hia := named_in hw
            haveI hba := named_below (w := w) hw
            clear hw
            go_wp2_with fail
            refine wp_region_noPanic ?_
            refine wp_region_mix 8 [0] [1, 2, 3, 4, 5] [6, 7, 8] (by kernel_rfl) (by kernel_rfl) (by kernel_rfl) (fun _ _ _ _ _ h => h.elim) ?_
            simp only [pick, List.getElem?_cons_zero, List.getElem?_cons_succ]
            repeat (refine wpPure_step (fun K hK => ?_); go_simp; refine hK _ ?_; clear hK K)
            refine wpPure_nil ?_
            repeat (go_big_quiet_step (first | (go_at_call 44; exact ext_same (water_any _ _))))
            refine wpQuiet_nil ?_
            rintro wb ⟨_t, hw⟩
            haveI heb : Nonempty (Below w7.heap.size w7 wb) := ⟨by rw [hw]; exact grown_now⟩
            have hcb := named_cell hw
            have hzb := named_frozen hw
            have hhb := named_heap hw
            haveI hib := named_in hw
            haveI hbb := named_below (w := w) hw
            clear hw
            have owb := owns_grown ow3 (grown_of (w := w7) (W := wb))
            have hB : Below w4.heap.size w4 wb := (grown_now (w := w4) (W := w7)).trans ((grown_now (w := w7) (W := wb)).mono (grown_now (w := w4) (W := w7)).size)
            go_wp2_with (at_builtin; refine wpList_append_own _ rfl (.tmp 74) (.tmp 80) 28 rfl w4.heap.size 36 i0 _ 4 32 Try.underlying28 iz0 iz1 iz2 iz3 rfl (by omega) _ _ _ rfl (owb.alloc _) _ 1 1 [.int .i64 (x), .int .i64 y, .int .i64 (z + 1), .int .i64 (watS (level + 1))] rfl rfl (World.news_of_block (heap_alloc_new wb _)) (by simp [Value.oneCell']) (by unfold maxLen; omega) (by omega) (by have := hB.size; simp; omega) ?_; intro v' w1' hown1 hgrow _)
            refine NoPanic.normal ?_
            go_wp2_with fail
            go_meet
            exact ⟨by rw [HN.out, List.length_append, chV_snoc]; exact hown1, ext_of ((hB.alloc hB.size _).grown hgrow (by have := hB.size; simp; omega) (fun q hq => (owb.lt q hq).1))⟩
          · have HN := Lib.hid (dryS_out (t := (watS (level + 1))) (l := dryS V (watS (level + 1)) (dryS V (watS (level + 1)) (dryS V (watS (level + 1)) [] (x + -1) (y) (z)) (x + 1) (y) (z)) (x) (y) (z + -1)) h)
            have h9 : (V (x) (y) (z + 1) == 0) = false := by simp [h]
            clear h
            go_wp2_with fail
            refine (hv.tells _ (by exact grown_of) _ _ _ (by first | exact hx.wid | exact hx.up | exact hx.down) (by first | exact hy.wid | exact hy.up | exact hy.down) (by first | exact hz.wid | exact hz.up | exact hz.down)).mono ?_
            rintro e w1 ⟨rfl, t1, rfl⟩
            go_wp2_with fail
            go_meet
            exact ⟨by rw [HN.out]; exact owns_grown ow3 (by exact grown_of), grown_of⟩
        case rest =>
          obtain ⟨ow4, _, hw⟩ := hcut
          rename World => w8
          rename Value => u4
          haveI he8 : Nonempty (Below w4.heap.size w4 w8) := ⟨by rw [hw]; exact ext_below _ _⟩
          have hc8 := named_cell hw
          have hz8 := named_frozen hw
          have hh8 := named_heap hw
          haveI hi8 := named_in hw
          haveI hb8 := named_below (w := w) hw
          clear hw
          have hl4 : (dryS V (watS (level + 1)) (dryS V (watS (level + 1)) (dryS V (watS (level + 1)) (dryS V (watS (level + 1)) [] (x + -1) (y) (z)) (x + 1) (y) (z)) (x) (y) (z + -1)) (x) (y) (z + 1)).length ≤ 4 := Nat.le_trans dryS_len (by omega)
          go_wp2_with fail
          rw [rounds_succ]
          go_wp2_with fail
          go_ret
          refine H.out ▸ ⟨_, rfl, owns_base ow4 (grown_now (w := w) (W := w4)).size, grown_of⟩
end Go.Proofs.Ytjejobfhddlmeaa
