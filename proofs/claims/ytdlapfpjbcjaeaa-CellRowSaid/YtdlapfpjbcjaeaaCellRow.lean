/- The row of cells is the document's, and an order; in one chunk it is that of their indices: whatever three cells come in, CellRow hands back true; no conditions. -/
import Derived.Test.YtdlapfpjbcjaeaaRowA
namespace Go.Proofs.Ytdlapfpjbcjaeaa
open Go.RowKit
attribute [local go_sem] ext_ext drew_ext ext_drew ext_cell ext_frozen in_lt in_le in_ne in_en in_ne1 in_en1 in_le1 size_le ite_max ite_min
set_option linter.unusedVariables false
set_option linter.unusedSimpArgs false
attribute [local go_sem ↓] eqc_any eqp_any

namespace cellRow
open Go.ChangeShapes Go.WideShapes Go.ChangeAt

set_option maxRecDepth 100000 in
set_option maxHeartbeats 8000000 in
theorem walk (x y z a b c d e f : Int) (fx : Fit x) (_fy : Fit y) (fz : Fit z) (fa : Fit a) (_fb : Fit b) (fc : Fit c) (_fd : Fit d) (_fe : Fit e) (_ff : Fit f) (w : World) :
    Calls Try.prog 8 #[.agg #[.int .i64 x, .int .i64 y, .int .i64 z], .agg #[.int .i64 a, .int .i64 b, .int .i64 c], .agg #[.int .i64 d, .int .i64 e, .int .i64 f]] w fun e w' => e = .returned (.bool true) ∧ ∃ f, w' = ext w f := by
  obtain ⟨k, hk⟩ : ∃ k, compS x y z a b c = k := ⟨_, rfl⟩
  obtain ⟨m, hm⟩ : ∃ m, compS a b c d e f = m := ⟨_, rfl⟩
  obtain ⟨n, hn⟩ : ∃ n, compS x y z d e f = n := ⟨_, rfl⟩
  have hb := compS_back x y z a b c
  have ht := compS_trans x y z a b c d e f
  have kb := compS_bd x y z a b c
  have he : eqcS x y z a b c = decide (k = 0) := by
    unfold eqcS
    rcases compS_cases x y z a b c with ⟨h, g⟩ | ⟨h, g⟩ | ⟨h, g⟩ <;> exact decide_eq_decide.2 (by omega)
  have hi := idx_order x y z a b c
  rw [hk] at hb ht kb hi
  rw [hm, hn] at ht
  have C1 : ∀ w, Calls Try.prog 36 #[.agg #[.int .i64 x, .int .i64 y, .int .i64 z], .agg #[.int .i64 a, .int .i64 b, .int .i64 c]] w fun e w' => e = .returned (.int .i64 k) ∧ ∃ f, w' = ext w f := fun w => hk ▸ compare_any x y z a b c w
  have R1 : ∀ w, Calls Try.prog 37 #[.agg #[.int .i64 x, .int .i64 y, .int .i64 z], .agg #[.int .i64 a, .int .i64 b, .int .i64 c]] w fun e w' => e = .returned (.int .i64 k) ∧ ∃ f, w' = ext w f := fun w => hk ▸ refcompare_any x y z a b c w
  have C2 : ∀ w, Calls Try.prog 36 #[.agg #[.int .i64 a, .int .i64 b, .int .i64 c], .agg #[.int .i64 d, .int .i64 e, .int .i64 f]] w fun e w' => e = .returned (.int .i64 m) ∧ ∃ f, w' = ext w f := fun w => hm ▸ compare_any a b c d e f w
  have C3 : ∀ w, Calls Try.prog 36 #[.agg #[.int .i64 x, .int .i64 y, .int .i64 z], .agg #[.int .i64 d, .int .i64 e, .int .i64 f]] w fun e w' => e = .returned (.int .i64 n) ∧ ∃ f, w' = ext w f := fun w => hn ▸ compare_any x y z d e f w
  have C4 : ∀ w, Calls Try.prog 36 #[.agg #[.int .i64 a, .int .i64 b, .int .i64 c], .agg #[.int .i64 x, .int .i64 y, .int .i64 z]] w fun e w' => e = .returned (.int .i64 (-k)) ∧ ∃ f, w' = ext w f := fun w => hb ▸ compare_any a b c x y z w
  clear hb hk hm hn

  have IA : ∃ i o, (∀ w, Calls Try.prog 19 #[.agg #[.int .i64 x, .int .i64 y, .int .i64 z]] w fun e w' => e = .returned (.tuple #[.int .i64 i, .bool o]) ∧ ∃ f, w' = ext w f) ∧ (o = true → i = idxS x y z ∧ 0 ≤ y ∧ y ≤ 31) := by
    rcases (by omega : (y < 0 ∨ 31 < y) ∨ (0 ≤ y ∧ y ≤ 31)) with h | h
    · exact ⟨0, false, fun w => refindex_out x y z w h, fun h => by cases h⟩
    · exact ⟨_, true, fun w => refindex_in x y z w fx fz h.1 h.2, fun _ => ⟨rfl, h⟩⟩
  have IB : ∃ i o, (∀ w, Calls Try.prog 19 #[.agg #[.int .i64 a, .int .i64 b, .int .i64 c]] w fun e w' => e = .returned (.tuple #[.int .i64 i, .bool o]) ∧ ∃ f, w' = ext w f) ∧ (o = true → i = idxS a b c ∧ 0 ≤ b ∧ b ≤ 31) := by
    rcases (by omega : (b < 0 ∨ 31 < b) ∨ (0 ≤ b ∧ b ≤ 31)) with h | h
    · exact ⟨0, false, fun w => refindex_out a b c w h, fun h => by cases h⟩
    · exact ⟨_, true, fun w => refindex_in a b c w fa fc h.1 h.2, fun _ => ⟨rfl, h⟩⟩
  obtain ⟨i, o, IA, gA⟩ := IA
  obtain ⟨j, q, IB, gB⟩ := IB
  obtain ⟨r, hr⟩ : ∃ r, eqpS (divS x 16) (divS z 16) (divS a 16) (divS c 16) = r := ⟨_, rfl⟩
  have hlast : (o = true → q = true → r = true → ((i < j ↔ k < 0) ∧ (i = j ↔ k = 0))) := by
    intro h1 h2 h3
    obtain ⟨rfl, g1, g2⟩ := gA h1
    obtain ⟨rfl, g3, g4⟩ := gB h2
    unfold eqpS at hr
    rw [h3] at hr
    have := of_decide_eq_true hr
    exact hi this.1 this.2 g1 g2 g3 g4
  clear hi gA gB
  go_enter Try.func8, Try.ntmps8
  go_wp2_with fail
  refine (C1 _).mono ?_
  rintro e w1 ⟨rfl, _t, hw⟩
  have hc1 := named_cell hw
  have hz1 := named_frozen hw
  have hh1 := named_heap hw
  haveI hi1 := named_in hw
  haveI hb1 := named_below (w := w) hw
  clear hw
  go_wp2_with fail
  refine (C2 _).mono ?_
  rintro e w2 ⟨rfl, _t, hw⟩
  have hc2 := named_cell hw
  have hz2 := named_frozen hw
  have hh2 := named_heap hw
  haveI hi2 := named_in hw
  haveI hb2 := named_below (w := w) hw
  clear hw
  go_wp2_with fail
  refine (R1 _).mono ?_
  rintro e w3 ⟨rfl, _t, hw⟩
  have hc3 := named_cell hw
  have hz3 := named_frozen hw
  have hh3 := named_heap hw
  haveI hi3 := named_in hw
  haveI hb3 := named_below (w := w) hw
  clear hw
  have back : - -k = k := by omega
  rcases (by omega : k = -1 ∨ k = 0 ∨ k = 1) with rfl | rfl | rfl
  · have e0 : eqcS x y z a b c = false := by rw [he]; rfl
    clear he kb back
    go_wp2_with fail
    refine (C4 _).mono ?_
    rintro e w4 ⟨rfl, _t, hw⟩
    have hc4 := named_cell hw
    have hz4 := named_frozen hw
    have hh4 := named_heap hw
    haveI hi4 := named_in hw
    haveI hb4 := named_below (w := w) hw
    clear hw
    rcases (by omega : (m ≤ 0 ∧ n ≤ 0) ∨ ¬ m ≤ 0) with ⟨hm, hn⟩ | hm
    · have hn2 : ¬ 0 < n := by omega
      clear ht
      go_wp2_with fail
      refine (C3 _).mono ?_
      rintro e w5 ⟨rfl, _t, hw⟩
      have hc5 := named_cell hw
      have hz5 := named_frozen hw
      have hh5 := named_heap hw
      haveI hi5 := named_in hw
      haveI hb5 := named_below (w := w) hw
      clear hw
      go_wp2_with fail
      refine (IA _).mono ?_
      rintro e w6 ⟨rfl, _t, hw⟩
      have hc6 := named_cell hw
      have hz6 := named_frozen hw
      have hh6 := named_heap hw
      haveI hi6 := named_in hw
      haveI hb6 := named_below (w := w) hw
      clear hw
      go_wp2_with fail
      refine (IB _).mono ?_
      rintro e w7 ⟨rfl, _t, hw⟩
      have hc7 := named_cell hw
      have hz7 := named_frozen hw
      have hh7 := named_heap hw
      haveI hi7 := named_in hw
      haveI hb7 := named_below (w := w) hw
      clear hw
      go_wp2_with fail
      rcases o with _ | _
      · have _ : True := trivial
        clear hlast
        refine wp_region_ext ?_ ?_ ?_
        · kernel_rfl
        · kernel_rfl
        repeat (go_big_quiet_step (first | (go_at_call 20; exact ext_call (refchunk_any _ _ _ _ (by assumption) (by assumption)))))
        refine wpQuiet_nil ?_
        rintro w8 ⟨_t, hw⟩
        have hc8 := named_cell hw
        have hz8 := named_frozen hw
        have hh8 := named_heap hw
        haveI hi8 := named_in hw
        haveI hb8 := named_below (w := w) hw
        clear hw
        go_wp2_with fail
        refine (lives_any _).mono ?_
        rintro e w9 ⟨rfl, _t, hw⟩
        have hc9 := named_cell hw
        have hz9 := named_frozen hw
        have hh9 := named_heap hw
        haveI hi9 := named_in hw
        haveI hb9 := named_below (w := w) hw
        clear hw
        go_wp2_with fail
        go_ret
        exact ⟨rfl, grown_of⟩
      · rcases q with _ | _
        · have _ : True := trivial
          clear hlast
          refine wp_region_ext ?_ ?_ ?_
          · kernel_rfl
          · kernel_rfl
          repeat (go_big_quiet_step (first | (go_at_call 20; exact ext_call (refchunk_any _ _ _ _ (by assumption) (by assumption)))))
          refine wpQuiet_nil ?_
          rintro w8 ⟨_t, hw⟩
          have hc8 := named_cell hw
          have hz8 := named_frozen hw
          have hh8 := named_heap hw
          haveI hi8 := named_in hw
          haveI hb8 := named_below (w := w) hw
          clear hw
          go_wp2_with fail
          refine (lives_any _).mono ?_
          rintro e w9 ⟨rfl, _t, hw⟩
          have hc9 := named_cell hw
          have hz9 := named_frozen hw
          have hh9 := named_heap hw
          haveI hi9 := named_in hw
          haveI hb9 := named_below (w := w) hw
          clear hw
          go_wp2_with fail
          go_ret
          exact ⟨rfl, grown_of⟩
        · rcases r with _ | _
          · have _ : True := trivial
            clear hlast
            refine wp_region_ext ?_ ?_ ?_
            · kernel_rfl
            · kernel_rfl
            repeat (go_big_quiet_step (first | (go_at_call 20; exact ext_call (refchunk_any _ _ _ _ (by assumption) (by assumption)))))
            refine wpQuiet_nil ?_
            rintro w8 ⟨_t, hw⟩
            have hc8 := named_cell hw
            have hz8 := named_frozen hw
            have hh8 := named_heap hw
            haveI hi8 := named_in hw
            haveI hb8 := named_below (w := w) hw
            clear hw
            go_wp2_with fail
            refine (lives_any _).mono ?_
            rintro e w9 ⟨rfl, _t, hw⟩
            have hc9 := named_cell hw
            have hz9 := named_frozen hw
            have hh9 := named_heap hw
            haveI hi9 := named_in hw
            haveI hb9 := named_below (w := w) hw
            clear hw
            go_wp2_with fail
            go_ret
            exact ⟨rfl, grown_of⟩
          · obtain ⟨l1, l2⟩ := hlast rfl rfl rfl
            have l3 : i < j := l1.2 (by omega)
            have l4 : (i == j) = false := (beq_eq_false_iff_ne).2 (by omega)
            clear l1 l2 hlast
            refine wp_region_ext ?_ ?_ ?_
            · kernel_rfl
            · kernel_rfl
            repeat (go_big_quiet_step (first | (go_at_call 20; exact ext_call (refchunk_any _ _ _ _ (by assumption) (by assumption)))))
            refine wpQuiet_nil ?_
            rintro w8 ⟨_t, hw⟩
            have hc8 := named_cell hw
            have hz8 := named_frozen hw
            have hh8 := named_heap hw
            haveI hi8 := named_in hw
            haveI hb8 := named_below (w := w) hw
            clear hw
            go_wp2_with fail
            refine (lives_any _).mono ?_
            rintro e w9 ⟨rfl, _t, hw⟩
            have hc9 := named_cell hw
            have hz9 := named_frozen hw
            have hh9 := named_heap hw
            haveI hi9 := named_in hw
            haveI hb9 := named_below (w := w) hw
            clear hw
            go_wp2_with fail
            go_ret
            exact ⟨rfl, grown_of⟩
    · have hm2 : 0 < m := by omega
      clear ht
      go_wp2_with fail
      refine (IA _).mono ?_
      rintro e w6 ⟨rfl, _t, hw⟩
      have hc6 := named_cell hw
      have hz6 := named_frozen hw
      have hh6 := named_heap hw
      haveI hi6 := named_in hw
      haveI hb6 := named_below (w := w) hw
      clear hw
      go_wp2_with fail
      refine (IB _).mono ?_
      rintro e w7 ⟨rfl, _t, hw⟩
      have hc7 := named_cell hw
      have hz7 := named_frozen hw
      have hh7 := named_heap hw
      haveI hi7 := named_in hw
      haveI hb7 := named_below (w := w) hw
      clear hw
      go_wp2_with fail
      rcases o with _ | _
      · have _ : True := trivial
        clear hlast
        refine wp_region_ext ?_ ?_ ?_
        · kernel_rfl
        · kernel_rfl
        repeat (go_big_quiet_step (first | (go_at_call 20; exact ext_call (refchunk_any _ _ _ _ (by assumption) (by assumption)))))
        refine wpQuiet_nil ?_
        rintro w8 ⟨_t, hw⟩
        have hc8 := named_cell hw
        have hz8 := named_frozen hw
        have hh8 := named_heap hw
        haveI hi8 := named_in hw
        haveI hb8 := named_below (w := w) hw
        clear hw
        go_wp2_with fail
        refine (lives_any _).mono ?_
        rintro e w9 ⟨rfl, _t, hw⟩
        have hc9 := named_cell hw
        have hz9 := named_frozen hw
        have hh9 := named_heap hw
        haveI hi9 := named_in hw
        haveI hb9 := named_below (w := w) hw
        clear hw
        go_wp2_with fail
        go_ret
        exact ⟨rfl, grown_of⟩
      · rcases q with _ | _
        · have _ : True := trivial
          clear hlast
          refine wp_region_ext ?_ ?_ ?_
          · kernel_rfl
          · kernel_rfl
          repeat (go_big_quiet_step (first | (go_at_call 20; exact ext_call (refchunk_any _ _ _ _ (by assumption) (by assumption)))))
          refine wpQuiet_nil ?_
          rintro w8 ⟨_t, hw⟩
          have hc8 := named_cell hw
          have hz8 := named_frozen hw
          have hh8 := named_heap hw
          haveI hi8 := named_in hw
          haveI hb8 := named_below (w := w) hw
          clear hw
          go_wp2_with fail
          refine (lives_any _).mono ?_
          rintro e w9 ⟨rfl, _t, hw⟩
          have hc9 := named_cell hw
          have hz9 := named_frozen hw
          have hh9 := named_heap hw
          haveI hi9 := named_in hw
          haveI hb9 := named_below (w := w) hw
          clear hw
          go_wp2_with fail
          go_ret
          exact ⟨rfl, grown_of⟩
        · rcases r with _ | _
          · have _ : True := trivial
            clear hlast
            refine wp_region_ext ?_ ?_ ?_
            · kernel_rfl
            · kernel_rfl
            repeat (go_big_quiet_step (first | (go_at_call 20; exact ext_call (refchunk_any _ _ _ _ (by assumption) (by assumption)))))
            refine wpQuiet_nil ?_
            rintro w8 ⟨_t, hw⟩
            have hc8 := named_cell hw
            have hz8 := named_frozen hw
            have hh8 := named_heap hw
            haveI hi8 := named_in hw
            haveI hb8 := named_below (w := w) hw
            clear hw
            go_wp2_with fail
            refine (lives_any _).mono ?_
            rintro e w9 ⟨rfl, _t, hw⟩
            have hc9 := named_cell hw
            have hz9 := named_frozen hw
            have hh9 := named_heap hw
            haveI hi9 := named_in hw
            haveI hb9 := named_below (w := w) hw
            clear hw
            go_wp2_with fail
            go_ret
            exact ⟨rfl, grown_of⟩
          · obtain ⟨l1, l2⟩ := hlast rfl rfl rfl
            have l3 : i < j := l1.2 (by omega)
            have l4 : (i == j) = false := (beq_eq_false_iff_ne).2 (by omega)
            clear l1 l2 hlast
            refine wp_region_ext ?_ ?_ ?_
            · kernel_rfl
            · kernel_rfl
            repeat (go_big_quiet_step (first | (go_at_call 20; exact ext_call (refchunk_any _ _ _ _ (by assumption) (by assumption)))))
            refine wpQuiet_nil ?_
            rintro w8 ⟨_t, hw⟩
            have hc8 := named_cell hw
            have hz8 := named_frozen hw
            have hh8 := named_heap hw
            haveI hi8 := named_in hw
            haveI hb8 := named_below (w := w) hw
            clear hw
            go_wp2_with fail
            refine (lives_any _).mono ?_
            rintro e w9 ⟨rfl, _t, hw⟩
            have hc9 := named_cell hw
            have hz9 := named_frozen hw
            have hh9 := named_heap hw
            haveI hi9 := named_in hw
            haveI hb9 := named_below (w := w) hw
            clear hw
            go_wp2_with fail
            go_ret
            exact ⟨rfl, grown_of⟩
  · have e0 : eqcS x y z a b c = true := by rw [he]; rfl
    clear he kb back
    go_wp2_with fail
    refine (C4 _).mono ?_
    rintro e w4 ⟨rfl, _t, hw⟩
    have hc4 := named_cell hw
    have hz4 := named_frozen hw
    have hh4 := named_heap hw
    haveI hi4 := named_in hw
    haveI hb4 := named_below (w := w) hw
    clear hw
    rcases (by omega : (m ≤ 0 ∧ n ≤ 0) ∨ ¬ m ≤ 0) with ⟨hm, hn⟩ | hm
    · have hn2 : ¬ 0 < n := by omega
      clear ht
      go_wp2_with fail
      refine (C3 _).mono ?_
      rintro e w5 ⟨rfl, _t, hw⟩
      have hc5 := named_cell hw
      have hz5 := named_frozen hw
      have hh5 := named_heap hw
      haveI hi5 := named_in hw
      haveI hb5 := named_below (w := w) hw
      clear hw
      go_wp2_with fail
      refine (IA _).mono ?_
      rintro e w6 ⟨rfl, _t, hw⟩
      have hc6 := named_cell hw
      have hz6 := named_frozen hw
      have hh6 := named_heap hw
      haveI hi6 := named_in hw
      haveI hb6 := named_below (w := w) hw
      clear hw
      go_wp2_with fail
      refine (IB _).mono ?_
      rintro e w7 ⟨rfl, _t, hw⟩
      have hc7 := named_cell hw
      have hz7 := named_frozen hw
      have hh7 := named_heap hw
      haveI hi7 := named_in hw
      haveI hb7 := named_below (w := w) hw
      clear hw
      go_wp2_with fail
      rcases o with _ | _
      · have _ : True := trivial
        clear hlast
        refine wp_region_ext ?_ ?_ ?_
        · kernel_rfl
        · kernel_rfl
        repeat (go_big_quiet_step (first | (go_at_call 20; exact ext_call (refchunk_any _ _ _ _ (by assumption) (by assumption)))))
        refine wpQuiet_nil ?_
        rintro w8 ⟨_t, hw⟩
        have hc8 := named_cell hw
        have hz8 := named_frozen hw
        have hh8 := named_heap hw
        haveI hi8 := named_in hw
        haveI hb8 := named_below (w := w) hw
        clear hw
        go_wp2_with fail
        refine (lives_any _).mono ?_
        rintro e w9 ⟨rfl, _t, hw⟩
        have hc9 := named_cell hw
        have hz9 := named_frozen hw
        have hh9 := named_heap hw
        haveI hi9 := named_in hw
        haveI hb9 := named_below (w := w) hw
        clear hw
        go_wp2_with fail
        go_ret
        exact ⟨rfl, grown_of⟩
      · rcases q with _ | _
        · have _ : True := trivial
          clear hlast
          refine wp_region_ext ?_ ?_ ?_
          · kernel_rfl
          · kernel_rfl
          repeat (go_big_quiet_step (first | (go_at_call 20; exact ext_call (refchunk_any _ _ _ _ (by assumption) (by assumption)))))
          refine wpQuiet_nil ?_
          rintro w8 ⟨_t, hw⟩
          have hc8 := named_cell hw
          have hz8 := named_frozen hw
          have hh8 := named_heap hw
          haveI hi8 := named_in hw
          haveI hb8 := named_below (w := w) hw
          clear hw
          go_wp2_with fail
          refine (lives_any _).mono ?_
          rintro e w9 ⟨rfl, _t, hw⟩
          have hc9 := named_cell hw
          have hz9 := named_frozen hw
          have hh9 := named_heap hw
          haveI hi9 := named_in hw
          haveI hb9 := named_below (w := w) hw
          clear hw
          go_wp2_with fail
          go_ret
          exact ⟨rfl, grown_of⟩
        · rcases r with _ | _
          · have _ : True := trivial
            clear hlast
            refine wp_region_ext ?_ ?_ ?_
            · kernel_rfl
            · kernel_rfl
            repeat (go_big_quiet_step (first | (go_at_call 20; exact ext_call (refchunk_any _ _ _ _ (by assumption) (by assumption)))))
            refine wpQuiet_nil ?_
            rintro w8 ⟨_t, hw⟩
            have hc8 := named_cell hw
            have hz8 := named_frozen hw
            have hh8 := named_heap hw
            haveI hi8 := named_in hw
            haveI hb8 := named_below (w := w) hw
            clear hw
            go_wp2_with fail
            refine (lives_any _).mono ?_
            rintro e w9 ⟨rfl, _t, hw⟩
            have hc9 := named_cell hw
            have hz9 := named_frozen hw
            have hh9 := named_heap hw
            haveI hi9 := named_in hw
            haveI hb9 := named_below (w := w) hw
            clear hw
            go_wp2_with fail
            go_ret
            exact ⟨rfl, grown_of⟩
          · obtain ⟨l1, l2⟩ := hlast rfl rfl rfl
            obtain rfl : i = j := l2.2 trivial
            have l3 : ¬ i < i := by omega
            clear l1 l2 hlast
            refine wp_region_ext ?_ ?_ ?_
            · kernel_rfl
            · kernel_rfl
            repeat (go_big_quiet_step (first | (go_at_call 20; exact ext_call (refchunk_any _ _ _ _ (by assumption) (by assumption)))))
            refine wpQuiet_nil ?_
            rintro w8 ⟨_t, hw⟩
            have hc8 := named_cell hw
            have hz8 := named_frozen hw
            have hh8 := named_heap hw
            haveI hi8 := named_in hw
            haveI hb8 := named_below (w := w) hw
            clear hw
            go_wp2_with fail
            refine (lives_any _).mono ?_
            rintro e w9 ⟨rfl, _t, hw⟩
            have hc9 := named_cell hw
            have hz9 := named_frozen hw
            have hh9 := named_heap hw
            haveI hi9 := named_in hw
            haveI hb9 := named_below (w := w) hw
            clear hw
            go_wp2_with fail
            go_ret
            exact ⟨rfl, grown_of⟩
    · have hm2 : 0 < m := by omega
      clear ht
      go_wp2_with fail
      refine (IA _).mono ?_
      rintro e w6 ⟨rfl, _t, hw⟩
      have hc6 := named_cell hw
      have hz6 := named_frozen hw
      have hh6 := named_heap hw
      haveI hi6 := named_in hw
      haveI hb6 := named_below (w := w) hw
      clear hw
      go_wp2_with fail
      refine (IB _).mono ?_
      rintro e w7 ⟨rfl, _t, hw⟩
      have hc7 := named_cell hw
      have hz7 := named_frozen hw
      have hh7 := named_heap hw
      haveI hi7 := named_in hw
      haveI hb7 := named_below (w := w) hw
      clear hw
      go_wp2_with fail
      rcases o with _ | _
      · have _ : True := trivial
        clear hlast
        refine wp_region_ext ?_ ?_ ?_
        · kernel_rfl
        · kernel_rfl
        repeat (go_big_quiet_step (first | (go_at_call 20; exact ext_call (refchunk_any _ _ _ _ (by assumption) (by assumption)))))
        refine wpQuiet_nil ?_
        rintro w8 ⟨_t, hw⟩
        have hc8 := named_cell hw
        have hz8 := named_frozen hw
        have hh8 := named_heap hw
        haveI hi8 := named_in hw
        haveI hb8 := named_below (w := w) hw
        clear hw
        go_wp2_with fail
        refine (lives_any _).mono ?_
        rintro e w9 ⟨rfl, _t, hw⟩
        have hc9 := named_cell hw
        have hz9 := named_frozen hw
        have hh9 := named_heap hw
        haveI hi9 := named_in hw
        haveI hb9 := named_below (w := w) hw
        clear hw
        go_wp2_with fail
        go_ret
        exact ⟨rfl, grown_of⟩
      · rcases q with _ | _
        · have _ : True := trivial
          clear hlast
          refine wp_region_ext ?_ ?_ ?_
          · kernel_rfl
          · kernel_rfl
          repeat (go_big_quiet_step (first | (go_at_call 20; exact ext_call (refchunk_any _ _ _ _ (by assumption) (by assumption)))))
          refine wpQuiet_nil ?_
          rintro w8 ⟨_t, hw⟩
          have hc8 := named_cell hw
          have hz8 := named_frozen hw
          have hh8 := named_heap hw
          haveI hi8 := named_in hw
          haveI hb8 := named_below (w := w) hw
          clear hw
          go_wp2_with fail
          refine (lives_any _).mono ?_
          rintro e w9 ⟨rfl, _t, hw⟩
          have hc9 := named_cell hw
          have hz9 := named_frozen hw
          have hh9 := named_heap hw
          haveI hi9 := named_in hw
          haveI hb9 := named_below (w := w) hw
          clear hw
          go_wp2_with fail
          go_ret
          exact ⟨rfl, grown_of⟩
        · rcases r with _ | _
          · have _ : True := trivial
            clear hlast
            refine wp_region_ext ?_ ?_ ?_
            · kernel_rfl
            · kernel_rfl
            repeat (go_big_quiet_step (first | (go_at_call 20; exact ext_call (refchunk_any _ _ _ _ (by assumption) (by assumption)))))
            refine wpQuiet_nil ?_
            rintro w8 ⟨_t, hw⟩
            have hc8 := named_cell hw
            have hz8 := named_frozen hw
            have hh8 := named_heap hw
            haveI hi8 := named_in hw
            haveI hb8 := named_below (w := w) hw
            clear hw
            go_wp2_with fail
            refine (lives_any _).mono ?_
            rintro e w9 ⟨rfl, _t, hw⟩
            have hc9 := named_cell hw
            have hz9 := named_frozen hw
            have hh9 := named_heap hw
            haveI hi9 := named_in hw
            haveI hb9 := named_below (w := w) hw
            clear hw
            go_wp2_with fail
            go_ret
            exact ⟨rfl, grown_of⟩
          · obtain ⟨l1, l2⟩ := hlast rfl rfl rfl
            obtain rfl : i = j := l2.2 trivial
            have l3 : ¬ i < i := by omega
            clear l1 l2 hlast
            refine wp_region_ext ?_ ?_ ?_
            · kernel_rfl
            · kernel_rfl
            repeat (go_big_quiet_step (first | (go_at_call 20; exact ext_call (refchunk_any _ _ _ _ (by assumption) (by assumption)))))
            refine wpQuiet_nil ?_
            rintro w8 ⟨_t, hw⟩
            have hc8 := named_cell hw
            have hz8 := named_frozen hw
            have hh8 := named_heap hw
            haveI hi8 := named_in hw
            haveI hb8 := named_below (w := w) hw
            clear hw
            go_wp2_with fail
            refine (lives_any _).mono ?_
            rintro e w9 ⟨rfl, _t, hw⟩
            have hc9 := named_cell hw
            have hz9 := named_frozen hw
            have hh9 := named_heap hw
            haveI hi9 := named_in hw
            haveI hb9 := named_below (w := w) hw
            clear hw
            go_wp2_with fail
            go_ret
            exact ⟨rfl, grown_of⟩
  · have e0 : eqcS x y z a b c = false := by rw [he]; rfl
    clear he kb back
    go_wp2_with fail
    refine (C4 _).mono ?_
    rintro e w4 ⟨rfl, _t, hw⟩
    have hc4 := named_cell hw
    have hz4 := named_frozen hw
    have hh4 := named_heap hw
    haveI hi4 := named_in hw
    haveI hb4 := named_below (w := w) hw
    clear hw
    clear ht
    go_wp2_with fail
    refine (IA _).mono ?_
    rintro e w6 ⟨rfl, _t, hw⟩
    have hc6 := named_cell hw
    have hz6 := named_frozen hw
    have hh6 := named_heap hw
    haveI hi6 := named_in hw
    haveI hb6 := named_below (w := w) hw
    clear hw
    go_wp2_with fail
    refine (IB _).mono ?_
    rintro e w7 ⟨rfl, _t, hw⟩
    have hc7 := named_cell hw
    have hz7 := named_frozen hw
    have hh7 := named_heap hw
    haveI hi7 := named_in hw
    haveI hb7 := named_below (w := w) hw
    clear hw
    go_wp2_with fail
    rcases o with _ | _
    · have _ : True := trivial
      clear hlast
      refine wp_region_ext ?_ ?_ ?_
      · kernel_rfl
      · kernel_rfl
      repeat (go_big_quiet_step (first | (go_at_call 20; exact ext_call (refchunk_any _ _ _ _ (by assumption) (by assumption)))))
      refine wpQuiet_nil ?_
      rintro w8 ⟨_t, hw⟩
      have hc8 := named_cell hw
      have hz8 := named_frozen hw
      have hh8 := named_heap hw
      haveI hi8 := named_in hw
      haveI hb8 := named_below (w := w) hw
      clear hw
      go_wp2_with fail
      refine (lives_any _).mono ?_
      rintro e w9 ⟨rfl, _t, hw⟩
      have hc9 := named_cell hw
      have hz9 := named_frozen hw
      have hh9 := named_heap hw
      haveI hi9 := named_in hw
      haveI hb9 := named_below (w := w) hw
      clear hw
      go_wp2_with fail
      go_ret
      exact ⟨rfl, grown_of⟩
    · rcases q with _ | _
      · have _ : True := trivial
        clear hlast
        refine wp_region_ext ?_ ?_ ?_
        · kernel_rfl
        · kernel_rfl
        repeat (go_big_quiet_step (first | (go_at_call 20; exact ext_call (refchunk_any _ _ _ _ (by assumption) (by assumption)))))
        refine wpQuiet_nil ?_
        rintro w8 ⟨_t, hw⟩
        have hc8 := named_cell hw
        have hz8 := named_frozen hw
        have hh8 := named_heap hw
        haveI hi8 := named_in hw
        haveI hb8 := named_below (w := w) hw
        clear hw
        go_wp2_with fail
        refine (lives_any _).mono ?_
        rintro e w9 ⟨rfl, _t, hw⟩
        have hc9 := named_cell hw
        have hz9 := named_frozen hw
        have hh9 := named_heap hw
        haveI hi9 := named_in hw
        haveI hb9 := named_below (w := w) hw
        clear hw
        go_wp2_with fail
        go_ret
        exact ⟨rfl, grown_of⟩
      · rcases r with _ | _
        · have _ : True := trivial
          clear hlast
          refine wp_region_ext ?_ ?_ ?_
          · kernel_rfl
          · kernel_rfl
          repeat (go_big_quiet_step (first | (go_at_call 20; exact ext_call (refchunk_any _ _ _ _ (by assumption) (by assumption)))))
          refine wpQuiet_nil ?_
          rintro w8 ⟨_t, hw⟩
          have hc8 := named_cell hw
          have hz8 := named_frozen hw
          have hh8 := named_heap hw
          haveI hi8 := named_in hw
          haveI hb8 := named_below (w := w) hw
          clear hw
          go_wp2_with fail
          refine (lives_any _).mono ?_
          rintro e w9 ⟨rfl, _t, hw⟩
          have hc9 := named_cell hw
          have hz9 := named_frozen hw
          have hh9 := named_heap hw
          haveI hi9 := named_in hw
          haveI hb9 := named_below (w := w) hw
          clear hw
          go_wp2_with fail
          go_ret
          exact ⟨rfl, grown_of⟩
        · obtain ⟨l1, l2⟩ := hlast rfl rfl rfl
          have l3 : ¬ i < j := fun h => by have := l1.1 h; omega
          have l4 : (i == j) = false := (beq_eq_false_iff_ne).2 (fun h => by have := l2.1 h; omega)
          clear l1 l2 hlast
          refine wp_region_ext ?_ ?_ ?_
          · kernel_rfl
          · kernel_rfl
          repeat (go_big_quiet_step (first | (go_at_call 20; exact ext_call (refchunk_any _ _ _ _ (by assumption) (by assumption)))))
          refine wpQuiet_nil ?_
          rintro w8 ⟨_t, hw⟩
          have hc8 := named_cell hw
          have hz8 := named_frozen hw
          have hh8 := named_heap hw
          haveI hi8 := named_in hw
          haveI hb8 := named_below (w := w) hw
          clear hw
          go_wp2_with fail
          refine (lives_any _).mono ?_
          rintro e w9 ⟨rfl, _t, hw⟩
          have hc9 := named_cell hw
          have hz9 := named_frozen hw
          have hh9 := named_heap hw
          haveI hi9 := named_in hw
          haveI hb9 := named_below (w := w) hw
          clear hw
          go_wp2_with fail
          go_ret
          exact ⟨rfl, grown_of⟩
set_option maxRecDepth 100000 in
theorem lifted (os : Os) (started : os.Started) (H : Type) (enc : TypeId × Value → H) :
    ReturnsInHanded {} Try.checked os 8 .any (Rows.cellRowSpec.pre6 enc Try.prog Try.f8 Rows.cellRowRow.domain false) (Rows.cellRowSpec.post enc Try.prog Try.f8 false true false false) := by
  refine returnsInHanded_of_change (C := Try.checked) own started (by kernel_rfl) Try.func8
    (ChangeSpec.witness6 (enc := enc) (C := Try.checked) false ⟨#[], #[.agg #[.int .i64 0, .int .i64 0, .int .i64 0], .agg #[.int .i64 0, .int .i64 0, .int .i64 0], .agg #[.int .i64 0, .int .i64 0, .int .i64 0]], []⟩ 8 (by kernel_rfl) (by kernel_rfl) (by kernel_rfl) (by kernel_rfl)) ?_
  intro W base args ds gs before hval0 hW hcnd hsz
  have hval : ∀ (j : Nat) t v, Try.f8.params[j]? = some t → args[j]? = some v → Value.okWide Try.prog W .any base t v := hval0
  have hW' := hW
  obtain ⟨p, q, hA0, hV, rfl, hfz, hnd⟩ := hW
  have hA : DataW.TrodAll enc Try.prog W 0 (fun _ => true) true Try.f8.params.toList args.toList ds p := hA0
  rw [Try.params8] at hA hval
  obtain ⟨v0, vs0, d0, ds0, p0, q0, hargs, rfl, rfl, h0, r0⟩ := trodAll_cons hA
  obtain ⟨v1, vs1, d1, ds1, p1, q1, rfl, rfl, rfl, h1, r1⟩ := trodAll_cons r0
  obtain ⟨v2, vs2, d2, ds2, p2, q2, rfl, rfl, rfl, h2, r2⟩ := trodAll_cons r1
  obtain ⟨rfl, rfl, rfl⟩ := trodAll_nil r2
  obtain rfl : args = #[v0, v1, v2] := by cases args; simp_all
  obtain ⟨rfl, rfl⟩ := trodVars_none hV
  obtain ⟨a0, b0, c0, rfl, fa0, fb0, fc0⟩ := open_three Try.underlying3 Try.underlying27 (by kernel_rfl) (by kernel_rfl) rfl rfl rfl (hval 0 27 v0 rfl rfl) h0
  obtain ⟨a1, b1, c1, rfl, fa1, fb1, fc1⟩ := open_three Try.underlying3 Try.underlying27 (by kernel_rfl) (by kernel_rfl) rfl rfl rfl (hval 1 27 v1 rfl rfl) h1
  obtain ⟨a2, b2, c2, rfl, fa2, fb2, fc2⟩ := open_three Try.underlying3 Try.underlying27 (by kernel_rfl) (by kernel_rfl) rfl rfl rfl (hval 2 27 v2 rfl rfl) h2
  simp only [List.append_nil] at hW'
  refine (walk a0 b0 c0 a1 b1 c1 a2 b2 c2 fa0 fb0 fc0 fa1 fb1 fc1 fa2 fb2 fc2 W).mono fun e W' ⟨he, g, hg⟩ => ?_
  subst he
  subst hg
  exact ⟨_, rfl, law_post laidOut rfl rfl (by kernel_rfl) Try.underlying4 (by rw [Try.params8]; decide +kernel) hW' (ext_below _ _)⟩

theorem over : Rows.cellRowRow.holds Try.pinned (OpenSpec.ofChange Rows.cellRowSpec) :=
  OpenClaim.holds_of_wide 8 Try.f8 rfl rfl rfl rfl rfl rfl rfl ⟨rfl, rfl, rfl, rfl, rfl⟩ rfl rfl rfl rfl rfl (by kernel_rfl) Try.func8 (by kernel_rfl)
    (of_decide_eq_true (by kernel_rfl)) (by unfold Func.isWrapper; first | (rw [if_pos (by decide +kernel)]; kernel_rfl) | (rw [if_neg (by decide +kernel)]; exact ⟨rfl, rfl⟩))
    (fun os started H enc _ => lifted os started H enc)

theorem proved : Rows.CellRowSaid := over
#print axioms proved
end cellRow
end Go.Proofs.Ytdlapfpjbcjaeaa
