/- A source is never changed by its own update, water that nothing feeds is gone by one, and what feeds is from 1 to 7: whatever small world and cell come in, FlowSources hands back true; no conditions. -/
import Derived.Test.YtjejobfhddlmeaaKeeps
namespace Go.Proofs.Ytjejobfhddlmeaa
open Go.RowKit
attribute [local go_sem] ext_ext drew_ext ext_drew ext_cell ext_frozen in_lt in_le in_ne in_en in_ne1 in_en1 in_le1 in_ltn in_len in_nen in_enn size_le ite_max ite_min
set_option linter.unusedVariables false
set_option linter.unusedSimpArgs false
attribute [local go_sem ↓] eqc_any

namespace flowSources
open Go.ChangeShapes Go.WideShapes Go.ChangeAt

set_option maxHeartbeats 4000000 in
theorem walk (w : World) (sv : Value) (bs : List Int) (el x y z : Int) (hs : IntsIn w sv bs) (fe : Fit el) (fx : Fit x) (fy : Fit y) (fz : Fit z) :
    Calls Try.prog 6 #[.agg #[sv, .int .i64 el], .agg #[.int .i64 x, .int .i64 y, .int .i64 z]] w fun e w' => e = .returned (.bool true) ∧ ∃ f, w' = ext w f := by
  have HS := Lib.hid hs
  have GOOD := fun (w : World) (h : IntsIn w sv bs) => goodw_any sv bs el w h fe
  have gb := good_bd bs
  generalize (bs.take 216).map gdS = BS at GOOD gb
  have eb := arS_bd (n := el) (m := 3) (by omega)
  obtain ⟨V, hV⟩ : ∃ V, V = atS BS (arS el 3 - 1) := ⟨_, rfl⟩
  have VIEW := fun (w : World) (sv : Value) => view_any BS sv (arS el 3 - 1) w
  have AT := fun (w : World) (sv : Value) (h : Blocks w sv BS) => refat_any BS sv (arS el 3 - 1) (arS x 8 - 1) (arS y 8 - 1) (arS z 8 - 1) w h
  have vb := at_bd BS (arS el 3 - 1) (arS x 8 - 1) (arS y 8 - 1) (arS z 8 - 1) gb (by omega) (by omega)
  rw [← hV] at VIEW vb AT
  clear hs hV gb eb
  have FEEDS := fun (v : Value) (w : World) (hv : ViewVal Try.prog v V w) => feeds_any v V (arS x 8 - 1) (arS y 8 - 1) (arS z 8 - 1) w hv near_mid near_mid near_mid
  have NEXT := fun (v : Value) (w : World) (hv : ViewVal Try.prog v V w) => next_any v V (arS x 8 - 1) (arS y 8 - 1) (arS z 8 - 1) w hv near_mid near_mid near_mid
  obtain ⟨f1, f2, f3⟩ := fed_eq V (arS x 8 - 1) (arS y 8 - 1) (arS z 8 - 1)
  obtain ⟨r1, r2⟩ := fedR_bd V (arS x 8 - 1) (arS y 8 - 1) (arS z 8 - 1)
  have nl := next_len V (arS x 8 - 1) (arS y 8 - 1) (arS z 8 - 1)
  have fed : (∃ n : Int, fedN V (arS x 8 - 1) (arS y 8 - 1) (arS z 8 - 1) = n ∧ fedB V (arS x 8 - 1) (arS y 8 - 1) (arS z 8 - 1) = true ∧ 1 ≤ n ∧ n ≤ 7) ∨ (∃ n : Int, fedN V (arS x 8 - 1) (arS y 8 - 1) (arS z 8 - 1) = n ∧ fedB V (arS x 8 - 1) (arS y 8 - 1) (arS z 8 - 1) = false) := by
    cases hfb : fedB V (arS x 8 - 1) (arS y 8 - 1) (arS z 8 - 1)
    · exact .inr ⟨_, rfl, rfl⟩
    · refine .inl ⟨_, rfl, rfl, ?_, ?_⟩
      · rw [f2 hfb]; omega
      · rw [f2 hfb]
        rw [f1, decide_eq_true_eq] at hfb
        exact hfb
  have src := fun h => source_far (V := V) (x := arS x 8 - 1) (y := arS y 8 - 1) (z := arS z 8 - 1) h
  have gone := fun h1 h2 h3 => unfed_gone (V := V) (x := arS x 8 - 1) (y := arS y 8 - 1) (z := arS z 8 - 1) h1 h2 h3
  clear f1 f2 f3 r1 r2
  have near := fun (w : World) => near18_any x y z w fx fy fz
  have mx := near_mid (x := x)
  have my := near_mid (x := y)
  have mz := near_mid (x := z)
  generalize arS x 8 - 1 = X at *
  generalize arS y 8 - 1 = Y at *
  generalize arS z 8 - 1 = Z at *
  obtain ⟨l, hl⟩ : ∃ l, l = nextS V X Y Z := ⟨_, rfl⟩
  rw [← hl] at NEXT nl
  simp only [← hl] at gone
  obtain ⟨B, hB⟩ : ∃ B, B = V X Y Z := ⟨_, rfl⟩
  rw [← hB] at AT gone src vb
  have src2 : B = 8 → ∀ k (hk : k < l.length), eqcS l[k].1 l[k].2.1 l[k].2.2.1 X Y Z = false := by
    intro h k hk
    subst hl
    exact src h k hk
  obtain ⟨vb1, vb2⟩ := vb
  clear hl hB src
  have NL := Lib.hid nl
  clear nl
  by_cases b8 : B = 8
  · have SRC := Lib.hid (src2 b8)
    have q1 : (B == 8) = true := by simp [b8]
    have q2 : ¬ 8 < B := by omega
    clear src2 gone b8
    rcases fed with ⟨n, hn, hb, n1, n2⟩ | ⟨n, hn, hb⟩
    · rw [hn, hb] at FEEDS
      clear hn hb
      go_enter Try.func6, Try.ntmps6
      go_wp2_with fail
      refine (GOOD _ (HS.out.grown (by exact grown_of))).mono ?_
      rintro e w1 ⟨o1, rfl, hB1, _t, hw⟩
      have hc1 := named_cell hw
      have hz1 := named_frozen hw
      have hh1 := named_heap hw
      haveI hi1 := named_in hw
      haveI hb1 := named_below (w := w) hw
      clear hw
      obtain ⟨og1, cp1, rfl⟩ := owns_form hB1.1
      go_wp2_with fail
      refine (VIEW _ _ (hB1.grown (by exact grown_of))).mono ?_
      rintro e w2 ⟨v2, rfl, hv2, _t, hw⟩
      haveI hb2_1 := named_below (w := w1) hw
      have hc2 := named_cell hw
      have hz2 := named_frozen hw
      have hh2 := named_heap hw
      haveI hi2 := named_in hw
      haveI hb2 := named_below (w := w) hw
      clear hw
      go_wp2_with fail
      refine (near _).mono ?_
      rintro e w3 ⟨rfl, _t, hw⟩
      haveI hb3_1 := named_below (w := w1) hw
      haveI hb3_2 := named_below (w := w2) hw
      have hc3 := named_cell hw
      have hz3 := named_frozen hw
      have hh3 := named_heap hw
      haveI hi3 := named_in hw
      haveI hb3 := named_below (w := w) hw
      clear hw
      go_wp2_with fail
      refine (AT _ _ (hB1.grown (by exact grown_of))).mono ?_
      rintro e w4 ⟨rfl, _t, hw⟩
      haveI hb4_1 := named_below (w := w1) hw
      haveI hb4_2 := named_below (w := w2) hw
      have hc4 := named_cell hw
      have hz4 := named_frozen hw
      have hh4 := named_heap hw
      haveI hi4 := named_in hw
      haveI hb4 := named_below (w := w) hw
      clear hw
      go_wp2_with fail
      refine (NEXT v2 _ (hv2.grow (by exact grown_of))).mono ?_
      rintro e w5 ⟨v5, rfl, ho5, _t, hw⟩
      haveI hb5_1 := named_below (w := w1) hw
      haveI hb5_2 := named_below (w := w2) hw
      have hc5 := named_cell hw
      have hz5 := named_frozen hw
      have hh5 := named_heap hw
      haveI hi5 := named_in hw
      haveI hb5 := named_below (w := w) hw
      clear hw
      go_wp2_with fail
      refine (FEEDS v2 _ (hv2.grow (by exact grown_of))).mono ?_
      rintro e w6 ⟨rfl, _t, hw⟩
      haveI hb6_1 := named_below (w := w1) hw
      haveI hb6_2 := named_below (w := w2) hw
      haveI hb6_5 := named_below (w := w5) hw
      have hc6 := named_cell hw
      have hz6 := named_frozen hw
      have hh6 := named_heap hw
      haveI hi6 := named_in hw
      haveI hb6 := named_below (w := w) hw
      clear hw
      obtain ⟨og, cap, rfl⟩ := owns_form ho5
      have HO := Lib.hid (owns_grown ho5 (grown_of (w := w5) (W := w6)))
      clear ho5
      go_wp2_with fail
      go_loopw [12] (fun i wr => ∃ k : Nat, k ≤ l.length ∧ i = .int .i64 k ∧ ∃ f, wr = ext w6 f) (fun i _ => l.length - (intOf i).toNat)
      case atStart => exact ⟨0, by omega, rfl, grown_of⟩
      case round =>
        obtain ⟨k, hk, rfl, _, hw⟩ := hrel
        rename World => w7
        haveI hg7 := named_grown hw
        haveI hb7_5 := named_below (w := w5) hw
        have hc7 := named_cell hw
        have hz7 := named_frozen hw
        have hh7 := named_heap hw
        haveI hi7 := named_in hw
        haveI hb7 := named_below (w := w) hw
        clear hw
        by_cases hlt : k < l.length
        · obtain ⟨g, rfl, hc⟩ := row_cells (owns_grown HO.out (grown_of (w := w6) (W := w7))) (by omega)
          obtain ⟨t0, t1, t2, t3⟩ := chV_at l k hlt
          have d0 := hc _ _ t0
          have d1 := hc _ _ t1
          have d2 := hc _ _ t2
          have heq := SRC.out k hlt
          haveI := in_of_cell d0
          have HK := Lib.hid hlt
          have k1 : (k : Int) < 5 := by have := NL.out; omega
          clear hc t0 t1 t2 t3
          generalize l[k].1 = a at *
          generalize l[k].2.1 = b at *
          generalize l[k].2.2.1 = c at *
          go_wp2_with fail
          refine wp_region_ext ?_ ?_ ?_
          · kernel_rfl
          · kernel_rfl
          repeat (go_big_quiet_step (first | fail))
          refine wpQuiet_nil ?_
          rintro w8 ⟨_t, hw⟩
          haveI hg8 := named_grown hw
          have hc8 := named_cell hw
          have hz8 := named_frozen hw
          have hh8 := named_heap hw
          haveI hi8 := named_in hw
          haveI hb8 := named_below (w := w) hw
          clear hw
          haveI hb8_6 := below_thru w6 w7 w8
          go_wp2_with fail
          go_roundw
          case rel => exact ⟨k + 1, HK.out, by go_num, grown_of⟩
          case measure => have := HK.out; simp [intOf]; omega
        · go_wp2_with fail
          refine (lives_any _).mono ?_
          rintro e w10 ⟨rfl, _t, hw⟩
          have hc10 := named_cell hw
          have hz10 := named_frozen hw
          have hh10 := named_heap hw
          haveI hi10 := named_in hw
          haveI hb10 := named_below (w := w) hw
          clear hw
          go_wp2_with fail
          go_ret
          exact ⟨rfl, grown_of⟩
    · rw [hn, hb] at FEEDS
      clear hn hb
      go_enter Try.func6, Try.ntmps6
      go_wp2_with fail
      refine (GOOD _ (HS.out.grown (by exact grown_of))).mono ?_
      rintro e w1 ⟨o1, rfl, hB1, _t, hw⟩
      have hc1 := named_cell hw
      have hz1 := named_frozen hw
      have hh1 := named_heap hw
      haveI hi1 := named_in hw
      haveI hb1 := named_below (w := w) hw
      clear hw
      obtain ⟨og1, cp1, rfl⟩ := owns_form hB1.1
      go_wp2_with fail
      refine (VIEW _ _ (hB1.grown (by exact grown_of))).mono ?_
      rintro e w2 ⟨v2, rfl, hv2, _t, hw⟩
      haveI hb2_1 := named_below (w := w1) hw
      have hc2 := named_cell hw
      have hz2 := named_frozen hw
      have hh2 := named_heap hw
      haveI hi2 := named_in hw
      haveI hb2 := named_below (w := w) hw
      clear hw
      go_wp2_with fail
      refine (near _).mono ?_
      rintro e w3 ⟨rfl, _t, hw⟩
      haveI hb3_1 := named_below (w := w1) hw
      haveI hb3_2 := named_below (w := w2) hw
      have hc3 := named_cell hw
      have hz3 := named_frozen hw
      have hh3 := named_heap hw
      haveI hi3 := named_in hw
      haveI hb3 := named_below (w := w) hw
      clear hw
      go_wp2_with fail
      refine (AT _ _ (hB1.grown (by exact grown_of))).mono ?_
      rintro e w4 ⟨rfl, _t, hw⟩
      haveI hb4_1 := named_below (w := w1) hw
      haveI hb4_2 := named_below (w := w2) hw
      have hc4 := named_cell hw
      have hz4 := named_frozen hw
      have hh4 := named_heap hw
      haveI hi4 := named_in hw
      haveI hb4 := named_below (w := w) hw
      clear hw
      go_wp2_with fail
      refine (NEXT v2 _ (hv2.grow (by exact grown_of))).mono ?_
      rintro e w5 ⟨v5, rfl, ho5, _t, hw⟩
      haveI hb5_1 := named_below (w := w1) hw
      haveI hb5_2 := named_below (w := w2) hw
      have hc5 := named_cell hw
      have hz5 := named_frozen hw
      have hh5 := named_heap hw
      haveI hi5 := named_in hw
      haveI hb5 := named_below (w := w) hw
      clear hw
      go_wp2_with fail
      refine (FEEDS v2 _ (hv2.grow (by exact grown_of))).mono ?_
      rintro e w6 ⟨rfl, _t, hw⟩
      haveI hb6_1 := named_below (w := w1) hw
      haveI hb6_2 := named_below (w := w2) hw
      haveI hb6_5 := named_below (w := w5) hw
      have hc6 := named_cell hw
      have hz6 := named_frozen hw
      have hh6 := named_heap hw
      haveI hi6 := named_in hw
      haveI hb6 := named_below (w := w) hw
      clear hw
      obtain ⟨og, cap, rfl⟩ := owns_form ho5
      have HO := Lib.hid (owns_grown ho5 (grown_of (w := w5) (W := w6)))
      clear ho5
      go_wp2_with fail
      go_loopw [12] (fun i wr => ∃ k : Nat, k ≤ l.length ∧ i = .int .i64 k ∧ ∃ f, wr = ext w6 f) (fun i _ => l.length - (intOf i).toNat)
      case atStart => exact ⟨0, by omega, rfl, grown_of⟩
      case round =>
        obtain ⟨k, hk, rfl, _, hw⟩ := hrel
        rename World => w7
        haveI hg7 := named_grown hw
        haveI hb7_5 := named_below (w := w5) hw
        have hc7 := named_cell hw
        have hz7 := named_frozen hw
        have hh7 := named_heap hw
        haveI hi7 := named_in hw
        haveI hb7 := named_below (w := w) hw
        clear hw
        by_cases hlt : k < l.length
        · obtain ⟨g, rfl, hc⟩ := row_cells (owns_grown HO.out (grown_of (w := w6) (W := w7))) (by omega)
          obtain ⟨t0, t1, t2, t3⟩ := chV_at l k hlt
          have d0 := hc _ _ t0
          have d1 := hc _ _ t1
          have d2 := hc _ _ t2
          have heq := SRC.out k hlt
          haveI := in_of_cell d0
          have HK := Lib.hid hlt
          have k1 : (k : Int) < 5 := by have := NL.out; omega
          clear hc t0 t1 t2 t3
          generalize l[k].1 = a at *
          generalize l[k].2.1 = b at *
          generalize l[k].2.2.1 = c at *
          go_wp2_with fail
          refine wp_region_ext ?_ ?_ ?_
          · kernel_rfl
          · kernel_rfl
          repeat (go_big_quiet_step (first | fail))
          refine wpQuiet_nil ?_
          rintro w8 ⟨_t, hw⟩
          haveI hg8 := named_grown hw
          have hc8 := named_cell hw
          have hz8 := named_frozen hw
          have hh8 := named_heap hw
          haveI hi8 := named_in hw
          haveI hb8 := named_below (w := w) hw
          clear hw
          haveI hb8_6 := below_thru w6 w7 w8
          go_wp2_with fail
          go_roundw
          case rel => exact ⟨k + 1, HK.out, by go_num, grown_of⟩
          case measure => have := HK.out; simp [intOf]; omega
        · go_wp2_with fail
          refine (lives_any _).mono ?_
          rintro e w10 ⟨rfl, _t, hw⟩
          have hc10 := named_cell hw
          have hz10 := named_frozen hw
          have hh10 := named_heap hw
          haveI hi10 := named_in hw
          haveI hb10 := named_below (w := w) hw
          clear hw
          go_wp2_with fail
          go_ret
          exact ⟨rfl, grown_of⟩
  · have q1 : (B == 8) = false := by simp [b8]
    clear src2 b8
    rcases fed with ⟨n, hn, hb, n1, n2⟩ | ⟨n, hn, hb⟩
    · clear gone
      by_cases q2 : 8 < B
      · rw [hn, hb] at FEEDS
        clear hn hb
        go_enter Try.func6, Try.ntmps6
        go_wp2_with fail
        refine (GOOD _ (HS.out.grown (by exact grown_of))).mono ?_
        rintro e w1 ⟨o1, rfl, hB1, _t, hw⟩
        have hc1 := named_cell hw
        have hz1 := named_frozen hw
        have hh1 := named_heap hw
        haveI hi1 := named_in hw
        haveI hb1 := named_below (w := w) hw
        clear hw
        obtain ⟨og1, cp1, rfl⟩ := owns_form hB1.1
        go_wp2_with fail
        refine (VIEW _ _ (hB1.grown (by exact grown_of))).mono ?_
        rintro e w2 ⟨v2, rfl, hv2, _t, hw⟩
        haveI hb2_1 := named_below (w := w1) hw
        have hc2 := named_cell hw
        have hz2 := named_frozen hw
        have hh2 := named_heap hw
        haveI hi2 := named_in hw
        haveI hb2 := named_below (w := w) hw
        clear hw
        go_wp2_with fail
        refine (near _).mono ?_
        rintro e w3 ⟨rfl, _t, hw⟩
        haveI hb3_1 := named_below (w := w1) hw
        haveI hb3_2 := named_below (w := w2) hw
        have hc3 := named_cell hw
        have hz3 := named_frozen hw
        have hh3 := named_heap hw
        haveI hi3 := named_in hw
        haveI hb3 := named_below (w := w) hw
        clear hw
        go_wp2_with fail
        refine (AT _ _ (hB1.grown (by exact grown_of))).mono ?_
        rintro e w4 ⟨rfl, _t, hw⟩
        haveI hb4_1 := named_below (w := w1) hw
        haveI hb4_2 := named_below (w := w2) hw
        have hc4 := named_cell hw
        have hz4 := named_frozen hw
        have hh4 := named_heap hw
        haveI hi4 := named_in hw
        haveI hb4 := named_below (w := w) hw
        clear hw
        go_wp2_with fail
        refine (NEXT v2 _ (hv2.grow (by exact grown_of))).mono ?_
        rintro e w5 ⟨v5, rfl, ho5, _t, hw⟩
        haveI hb5_1 := named_below (w := w1) hw
        haveI hb5_2 := named_below (w := w2) hw
        have hc5 := named_cell hw
        have hz5 := named_frozen hw
        have hh5 := named_heap hw
        haveI hi5 := named_in hw
        haveI hb5 := named_below (w := w) hw
        clear hw
        go_wp2_with fail
        refine (FEEDS v2 _ (hv2.grow (by exact grown_of))).mono ?_
        rintro e w6 ⟨rfl, _t, hw⟩
        haveI hb6_1 := named_below (w := w1) hw
        haveI hb6_2 := named_below (w := w2) hw
        haveI hb6_5 := named_below (w := w5) hw
        have hc6 := named_cell hw
        have hz6 := named_frozen hw
        have hh6 := named_heap hw
        haveI hi6 := named_in hw
        haveI hb6 := named_below (w := w) hw
        clear hw
        obtain ⟨og, cap, rfl⟩ := owns_form ho5
        have HO := Lib.hid (owns_grown ho5 (grown_of (w := w5) (W := w6)))
        clear ho5
        go_wp2_with fail
        go_loopw [12] (fun i wr => ∃ k : Nat, k ≤ l.length ∧ i = .int .i64 k ∧ ∃ f, wr = ext w6 f) (fun i _ => l.length - (intOf i).toNat)
        case atStart => exact ⟨0, by omega, rfl, grown_of⟩
        case round =>
          obtain ⟨k, hk, rfl, _, hw⟩ := hrel
          rename World => w7
          haveI hg7 := named_grown hw
          haveI hb7_5 := named_below (w := w5) hw
          have hc7 := named_cell hw
          have hz7 := named_frozen hw
          have hh7 := named_heap hw
          haveI hi7 := named_in hw
          haveI hb7 := named_below (w := w) hw
          clear hw
          by_cases hlt : k < l.length
          · have HK := Lib.hid hlt
            have k1 : (k : Int) < 5 := by have := NL.out; omega
            go_wp2_with fail
            refine wp_region_ext ?_ ?_ ?_
            · kernel_rfl
            · kernel_rfl
            repeat (go_big_quiet_step (first | fail))
            refine wpQuiet_nil ?_
            rintro w8 ⟨_t, hw⟩
            haveI hg8 := named_grown hw
            have hc8 := named_cell hw
            have hz8 := named_frozen hw
            have hh8 := named_heap hw
            haveI hi8 := named_in hw
            haveI hb8 := named_below (w := w) hw
            clear hw
            haveI hb8_6 := below_thru w6 w7 w8
            go_wp2_with fail
            go_roundw
            case rel => exact ⟨k + 1, HK.out, by go_num, grown_of⟩
            case measure => have := HK.out; simp [intOf]; omega
          · go_wp2_with fail
            refine (lives_any _).mono ?_
            rintro e w10 ⟨rfl, _t, hw⟩
            have hc10 := named_cell hw
            have hz10 := named_frozen hw
            have hh10 := named_heap hw
            haveI hi10 := named_in hw
            haveI hb10 := named_below (w := w) hw
            clear hw
            go_wp2_with fail
            go_ret
            exact ⟨rfl, grown_of⟩
      · rw [hn, hb] at FEEDS
        clear hn hb
        go_enter Try.func6, Try.ntmps6
        go_wp2_with fail
        refine (GOOD _ (HS.out.grown (by exact grown_of))).mono ?_
        rintro e w1 ⟨o1, rfl, hB1, _t, hw⟩
        have hc1 := named_cell hw
        have hz1 := named_frozen hw
        have hh1 := named_heap hw
        haveI hi1 := named_in hw
        haveI hb1 := named_below (w := w) hw
        clear hw
        obtain ⟨og1, cp1, rfl⟩ := owns_form hB1.1
        go_wp2_with fail
        refine (VIEW _ _ (hB1.grown (by exact grown_of))).mono ?_
        rintro e w2 ⟨v2, rfl, hv2, _t, hw⟩
        haveI hb2_1 := named_below (w := w1) hw
        have hc2 := named_cell hw
        have hz2 := named_frozen hw
        have hh2 := named_heap hw
        haveI hi2 := named_in hw
        haveI hb2 := named_below (w := w) hw
        clear hw
        go_wp2_with fail
        refine (near _).mono ?_
        rintro e w3 ⟨rfl, _t, hw⟩
        haveI hb3_1 := named_below (w := w1) hw
        haveI hb3_2 := named_below (w := w2) hw
        have hc3 := named_cell hw
        have hz3 := named_frozen hw
        have hh3 := named_heap hw
        haveI hi3 := named_in hw
        haveI hb3 := named_below (w := w) hw
        clear hw
        go_wp2_with fail
        refine (AT _ _ (hB1.grown (by exact grown_of))).mono ?_
        rintro e w4 ⟨rfl, _t, hw⟩
        haveI hb4_1 := named_below (w := w1) hw
        haveI hb4_2 := named_below (w := w2) hw
        have hc4 := named_cell hw
        have hz4 := named_frozen hw
        have hh4 := named_heap hw
        haveI hi4 := named_in hw
        haveI hb4 := named_below (w := w) hw
        clear hw
        go_wp2_with fail
        refine (NEXT v2 _ (hv2.grow (by exact grown_of))).mono ?_
        rintro e w5 ⟨v5, rfl, ho5, _t, hw⟩
        haveI hb5_1 := named_below (w := w1) hw
        haveI hb5_2 := named_below (w := w2) hw
        have hc5 := named_cell hw
        have hz5 := named_frozen hw
        have hh5 := named_heap hw
        haveI hi5 := named_in hw
        haveI hb5 := named_below (w := w) hw
        clear hw
        go_wp2_with fail
        refine (FEEDS v2 _ (hv2.grow (by exact grown_of))).mono ?_
        rintro e w6 ⟨rfl, _t, hw⟩
        haveI hb6_1 := named_below (w := w1) hw
        haveI hb6_2 := named_below (w := w2) hw
        haveI hb6_5 := named_below (w := w5) hw
        have hc6 := named_cell hw
        have hz6 := named_frozen hw
        have hh6 := named_heap hw
        haveI hi6 := named_in hw
        haveI hb6 := named_below (w := w) hw
        clear hw
        obtain ⟨og, cap, rfl⟩ := owns_form ho5
        have HO := Lib.hid (owns_grown ho5 (grown_of (w := w5) (W := w6)))
        clear ho5
        go_wp2_with fail
        go_loopw [12] (fun i wr => ∃ k : Nat, k ≤ l.length ∧ i = .int .i64 k ∧ ∃ f, wr = ext w6 f) (fun i _ => l.length - (intOf i).toNat)
        case atStart => exact ⟨0, by omega, rfl, grown_of⟩
        case round =>
          obtain ⟨k, hk, rfl, _, hw⟩ := hrel
          rename World => w7
          haveI hg7 := named_grown hw
          haveI hb7_5 := named_below (w := w5) hw
          have hc7 := named_cell hw
          have hz7 := named_frozen hw
          have hh7 := named_heap hw
          haveI hi7 := named_in hw
          haveI hb7 := named_below (w := w) hw
          clear hw
          by_cases hlt : k < l.length
          · have HK := Lib.hid hlt
            have k1 : (k : Int) < 5 := by have := NL.out; omega
            go_wp2_with fail
            refine wp_region_ext ?_ ?_ ?_
            · kernel_rfl
            · kernel_rfl
            repeat (go_big_quiet_step (first | fail))
            refine wpQuiet_nil ?_
            rintro w8 ⟨_t, hw⟩
            haveI hg8 := named_grown hw
            have hc8 := named_cell hw
            have hz8 := named_frozen hw
            have hh8 := named_heap hw
            haveI hi8 := named_in hw
            haveI hb8 := named_below (w := w) hw
            clear hw
            haveI hb8_6 := below_thru w6 w7 w8
            go_wp2_with fail
            go_roundw
            case rel => exact ⟨k + 1, HK.out, by go_num, grown_of⟩
            case measure => have := HK.out; simp [intOf]; omega
          · go_wp2_with fail
            refine (lives_any _).mono ?_
            rintro e w10 ⟨rfl, _t, hw⟩
            have hc10 := named_cell hw
            have hz10 := named_frozen hw
            have hh10 := named_heap hw
            haveI hi10 := named_in hw
            haveI hb10 := named_below (w := w) hw
            clear hw
            go_wp2_with fail
            go_ret
            exact ⟨rfl, grown_of⟩
    · by_cases q2 : 8 < B
      · have HG := Lib.hid (gone q2 vb2 hb)
        clear gone
        rw [hn, hb] at FEEDS
        clear hn hb
        go_enter Try.func6, Try.ntmps6
        go_wp2_with fail
        refine (GOOD _ (HS.out.grown (by exact grown_of))).mono ?_
        rintro e w1 ⟨o1, rfl, hB1, _t, hw⟩
        have hc1 := named_cell hw
        have hz1 := named_frozen hw
        have hh1 := named_heap hw
        haveI hi1 := named_in hw
        haveI hb1 := named_below (w := w) hw
        clear hw
        obtain ⟨og1, cp1, rfl⟩ := owns_form hB1.1
        go_wp2_with fail
        refine (VIEW _ _ (hB1.grown (by exact grown_of))).mono ?_
        rintro e w2 ⟨v2, rfl, hv2, _t, hw⟩
        haveI hb2_1 := named_below (w := w1) hw
        have hc2 := named_cell hw
        have hz2 := named_frozen hw
        have hh2 := named_heap hw
        haveI hi2 := named_in hw
        haveI hb2 := named_below (w := w) hw
        clear hw
        go_wp2_with fail
        refine (near _).mono ?_
        rintro e w3 ⟨rfl, _t, hw⟩
        haveI hb3_1 := named_below (w := w1) hw
        haveI hb3_2 := named_below (w := w2) hw
        have hc3 := named_cell hw
        have hz3 := named_frozen hw
        have hh3 := named_heap hw
        haveI hi3 := named_in hw
        haveI hb3 := named_below (w := w) hw
        clear hw
        go_wp2_with fail
        refine (AT _ _ (hB1.grown (by exact grown_of))).mono ?_
        rintro e w4 ⟨rfl, _t, hw⟩
        haveI hb4_1 := named_below (w := w1) hw
        haveI hb4_2 := named_below (w := w2) hw
        have hc4 := named_cell hw
        have hz4 := named_frozen hw
        have hh4 := named_heap hw
        haveI hi4 := named_in hw
        haveI hb4 := named_below (w := w) hw
        clear hw
        go_wp2_with fail
        refine (NEXT v2 _ (hv2.grow (by exact grown_of))).mono ?_
        rintro e w5 ⟨v5, rfl, ho5, _t, hw⟩
        haveI hb5_1 := named_below (w := w1) hw
        haveI hb5_2 := named_below (w := w2) hw
        have hc5 := named_cell hw
        have hz5 := named_frozen hw
        have hh5 := named_heap hw
        haveI hi5 := named_in hw
        haveI hb5 := named_below (w := w) hw
        clear hw
        go_wp2_with fail
        refine (FEEDS v2 _ (hv2.grow (by exact grown_of))).mono ?_
        rintro e w6 ⟨rfl, _t, hw⟩
        haveI hb6_1 := named_below (w := w1) hw
        haveI hb6_2 := named_below (w := w2) hw
        haveI hb6_5 := named_below (w := w5) hw
        have hc6 := named_cell hw
        have hz6 := named_frozen hw
        have hh6 := named_heap hw
        haveI hi6 := named_in hw
        haveI hb6 := named_below (w := w) hw
        clear hw
        obtain ⟨og, cap, rfl⟩ := owns_form ho5
        have HO := Lib.hid (owns_grown ho5 (grown_of (w := w5) (W := w6)))
        clear ho5
        go_wp2_with fail
        go_loopw [12] (fun i wr => ∃ k : Nat, k ≤ l.length ∧ i = .int .i64 k ∧ ∃ f, wr = ext w6 f) (fun i _ => l.length - (intOf i).toNat)
        case atStart => exact ⟨0, by omega, rfl, grown_of⟩
        case round =>
          obtain ⟨k, hk, rfl, _, hw⟩ := hrel
          rename World => w7
          haveI hg7 := named_grown hw
          haveI hb7_5 := named_below (w := w5) hw
          have hc7 := named_cell hw
          have hz7 := named_frozen hw
          have hh7 := named_heap hw
          haveI hi7 := named_in hw
          haveI hb7 := named_below (w := w) hw
          clear hw
          by_cases hlt : k < l.length
          · have HK := Lib.hid hlt
            have k1 : (k : Int) < 5 := by have := NL.out; omega
            go_wp2_with fail
            refine wp_region_ext ?_ ?_ ?_
            · kernel_rfl
            · kernel_rfl
            repeat (go_big_quiet_step (first | fail))
            refine wpQuiet_nil ?_
            rintro w8 ⟨_t, hw⟩
            haveI hg8 := named_grown hw
            have hc8 := named_cell hw
            have hz8 := named_frozen hw
            have hh8 := named_heap hw
            haveI hi8 := named_in hw
            haveI hb8 := named_below (w := w) hw
            clear hw
            haveI hb8_6 := below_thru w6 w7 w8
            go_wp2_with fail
            go_roundw
            case rel => exact ⟨k + 1, HK.out, by go_num, grown_of⟩
            case measure => have := HK.out; simp [intOf]; omega
          · have HOL := Lib.hid (owns_grown HO.out (grown_of (w := w6) (W := w7)))
            go_wp2_with fail
            have hl2 : (w7.alloc (.cells #[.int .i64 X, .int .i64 Y, .int .i64 Z, .int .i64 0] 36)).ownsRow 0 36 4 (.slice (some ⟨w7.heap.size, 0, none⟩) 1 1) l.length (chV l) := by
              rw [HG.out]
              exact owns_lit (n := 1) (size := 4) rfl (by unfold maxLen; omega) (Nat.zero_le _)
            refine (same_any l _ _ _ _ _ (owns_grown HOL.out (by exact grown_of)) hl2 (by have := NL.out; omega)).mono ?_
            rintro e w9 ⟨rfl, _t, hw⟩
            have hc9 := named_cell hw
            have hz9 := named_frozen hw
            have hh9 := named_heap hw
            haveI hi9 := named_in hw
            haveI hb9 := named_below (w := w) hw
            clear hw
            go_wp2_with fail
            refine (lives_any _).mono ?_
            rintro e w10 ⟨rfl, _t, hw⟩
            have hc10 := named_cell hw
            have hz10 := named_frozen hw
            have hh10 := named_heap hw
            haveI hi10 := named_in hw
            haveI hb10 := named_below (w := w) hw
            clear hw
            go_wp2_with fail
            go_ret
            exact ⟨rfl, grown_of⟩
      · clear gone
        rw [hn, hb] at FEEDS
        clear hn hb
        go_enter Try.func6, Try.ntmps6
        go_wp2_with fail
        refine (GOOD _ (HS.out.grown (by exact grown_of))).mono ?_
        rintro e w1 ⟨o1, rfl, hB1, _t, hw⟩
        have hc1 := named_cell hw
        have hz1 := named_frozen hw
        have hh1 := named_heap hw
        haveI hi1 := named_in hw
        haveI hb1 := named_below (w := w) hw
        clear hw
        obtain ⟨og1, cp1, rfl⟩ := owns_form hB1.1
        go_wp2_with fail
        refine (VIEW _ _ (hB1.grown (by exact grown_of))).mono ?_
        rintro e w2 ⟨v2, rfl, hv2, _t, hw⟩
        haveI hb2_1 := named_below (w := w1) hw
        have hc2 := named_cell hw
        have hz2 := named_frozen hw
        have hh2 := named_heap hw
        haveI hi2 := named_in hw
        haveI hb2 := named_below (w := w) hw
        clear hw
        go_wp2_with fail
        refine (near _).mono ?_
        rintro e w3 ⟨rfl, _t, hw⟩
        haveI hb3_1 := named_below (w := w1) hw
        haveI hb3_2 := named_below (w := w2) hw
        have hc3 := named_cell hw
        have hz3 := named_frozen hw
        have hh3 := named_heap hw
        haveI hi3 := named_in hw
        haveI hb3 := named_below (w := w) hw
        clear hw
        go_wp2_with fail
        refine (AT _ _ (hB1.grown (by exact grown_of))).mono ?_
        rintro e w4 ⟨rfl, _t, hw⟩
        haveI hb4_1 := named_below (w := w1) hw
        haveI hb4_2 := named_below (w := w2) hw
        have hc4 := named_cell hw
        have hz4 := named_frozen hw
        have hh4 := named_heap hw
        haveI hi4 := named_in hw
        haveI hb4 := named_below (w := w) hw
        clear hw
        go_wp2_with fail
        refine (NEXT v2 _ (hv2.grow (by exact grown_of))).mono ?_
        rintro e w5 ⟨v5, rfl, ho5, _t, hw⟩
        haveI hb5_1 := named_below (w := w1) hw
        haveI hb5_2 := named_below (w := w2) hw
        have hc5 := named_cell hw
        have hz5 := named_frozen hw
        have hh5 := named_heap hw
        haveI hi5 := named_in hw
        haveI hb5 := named_below (w := w) hw
        clear hw
        go_wp2_with fail
        refine (FEEDS v2 _ (hv2.grow (by exact grown_of))).mono ?_
        rintro e w6 ⟨rfl, _t, hw⟩
        haveI hb6_1 := named_below (w := w1) hw
        haveI hb6_2 := named_below (w := w2) hw
        haveI hb6_5 := named_below (w := w5) hw
        have hc6 := named_cell hw
        have hz6 := named_frozen hw
        have hh6 := named_heap hw
        haveI hi6 := named_in hw
        haveI hb6 := named_below (w := w) hw
        clear hw
        obtain ⟨og, cap, rfl⟩ := owns_form ho5
        have HO := Lib.hid (owns_grown ho5 (grown_of (w := w5) (W := w6)))
        clear ho5
        go_wp2_with fail
        go_loopw [12] (fun i wr => ∃ k : Nat, k ≤ l.length ∧ i = .int .i64 k ∧ ∃ f, wr = ext w6 f) (fun i _ => l.length - (intOf i).toNat)
        case atStart => exact ⟨0, by omega, rfl, grown_of⟩
        case round =>
          obtain ⟨k, hk, rfl, _, hw⟩ := hrel
          rename World => w7
          haveI hg7 := named_grown hw
          haveI hb7_5 := named_below (w := w5) hw
          have hc7 := named_cell hw
          have hz7 := named_frozen hw
          have hh7 := named_heap hw
          haveI hi7 := named_in hw
          haveI hb7 := named_below (w := w) hw
          clear hw
          by_cases hlt : k < l.length
          · have HK := Lib.hid hlt
            have k1 : (k : Int) < 5 := by have := NL.out; omega
            go_wp2_with fail
            refine wp_region_ext ?_ ?_ ?_
            · kernel_rfl
            · kernel_rfl
            repeat (go_big_quiet_step (first | fail))
            refine wpQuiet_nil ?_
            rintro w8 ⟨_t, hw⟩
            haveI hg8 := named_grown hw
            have hc8 := named_cell hw
            have hz8 := named_frozen hw
            have hh8 := named_heap hw
            haveI hi8 := named_in hw
            haveI hb8 := named_below (w := w) hw
            clear hw
            haveI hb8_6 := below_thru w6 w7 w8
            go_wp2_with fail
            go_roundw
            case rel => exact ⟨k + 1, HK.out, by go_num, grown_of⟩
            case measure => have := HK.out; simp [intOf]; omega
          · go_wp2_with fail
            refine (lives_any _).mono ?_
            rintro e w10 ⟨rfl, _t, hw⟩
            have hc10 := named_cell hw
            have hz10 := named_frozen hw
            have hh10 := named_heap hw
            haveI hi10 := named_in hw
            haveI hb10 := named_below (w := w) hw
            clear hw
            go_wp2_with fail
            go_ret
            exact ⟨rfl, grown_of⟩
set_option maxRecDepth 100000 in
theorem lifted (os : Os) (started : os.Started) (H : Type) (enc : TypeId × Value → H) :
    ReturnsInHanded {} Try.checked os 6 .any (Rows.flowSourcesSpec.pre6 enc Try.prog Try.f6 Rows.flowSourcesRow.domain false) (Rows.flowSourcesSpec.post enc Try.prog Try.f6 false true false false) := by
  refine returnsInHanded_of_change (C := Try.checked) own started (by kernel_rfl) Try.func6
    (ChangeSpec.witness6 (enc := enc) (C := Try.checked) false ⟨#[], #[.agg #[.slice none 0 0, .int .i64 0], .agg #[.int .i64 0, .int .i64 0, .int .i64 0]], []⟩ 8 (by kernel_rfl) (by kernel_rfl) (by kernel_rfl) (by kernel_rfl)) ?_
  intro W base args ds gs before hval0 hW hcnd hsz
  have hval : ∀ (j : Nat) t v, Try.f6.params[j]? = some t → args[j]? = some v → Value.okWide Try.prog W .any base t v := hval0
  have hW' := hW
  obtain ⟨p, q, hA0, hV, rfl, hfz, hnd⟩ := hW
  have hA : DataW.TrodAll enc Try.prog W 0 (fun _ => true) true Try.f6.params.toList args.toList ds p := hA0
  rw [Try.params6] at hA hval
  obtain ⟨v0, vs0, d0, ds0, p0, q0, hargs, rfl, rfl, h0, r0⟩ := trodAll_cons hA
  obtain ⟨v1, vs1, d1, ds1, p1, q1, rfl, rfl, rfl, h1, r1⟩ := trodAll_cons r0
  obtain ⟨rfl, rfl, rfl⟩ := trodAll_nil r1
  obtain rfl : args = #[v0, v1] := by cases args; simp_all
  obtain ⟨rfl, rfl⟩ := trodVars_none hV
  obtain ⟨s0, bs0, el0, rfl, hs0, fe0⟩ := open_world Try.underlying3 Try.underlying22 Try.underlying24 (by kernel_rfl) (by kernel_rfl) (by kernel_rfl) (by kernel_rfl) rfl rfl (hval 0 24 v0 rfl rfl) h0
  obtain ⟨a1, b1, c1, rfl, fa1, fb1, fc1⟩ := open_three Try.underlying3 Try.underlying26 (by kernel_rfl) (by kernel_rfl) rfl rfl rfl (hval 1 26 v1 rfl rfl) h1
  simp only [List.append_nil] at hW'
  refine (walk W s0 bs0 el0 a1 b1 c1 hs0 fe0 fa1 fb1 fc1).mono fun e W' ⟨he, g, hg⟩ => ?_
  subst he
  subst hg
  exact ⟨_, rfl, law_post laidOut rfl rfl (by kernel_rfl) Try.underlying4 (by rw [Try.params6]; decide +kernel) hW' (ext_below _ _)⟩

theorem over : Rows.flowSourcesRow.holds Try.pinned (OpenSpec.ofChange Rows.flowSourcesSpec) :=
  OpenClaim.holds_of_wide 6 Try.f6 rfl rfl rfl rfl rfl rfl rfl ⟨rfl, rfl, rfl, rfl, rfl⟩ rfl rfl rfl rfl rfl (by kernel_rfl) Try.func6 (by kernel_rfl)
    (of_decide_eq_true (by kernel_rfl)) (by unfold Func.isWrapper; first | (rw [if_pos (by decide +kernel)]; kernel_rfl) | (rw [if_neg (by decide +kernel)]; exact ⟨rfl, rfl⟩))
    (fun os started H enc _ => lifted os started H enc)

theorem proved : Rows.FlowSourcesSaid := over
#print axioms proved
end flowSources
end Go.Proofs.Ytjejobfhddlmeaa
