/- An update changes no solid block but sand, and no ladder, and not what is Away; it keeps the sand; at most four cells are changed, each another one, each to another block: whatever small world and cell come in, FlowKeeps hands back true; no conditions. -/
import Derived.Test.YtjejobfhddlmeaaKept
import Derived.Deep.RegionHeld3
namespace Go.Proofs.Ytjejobfhddlmeaa
open Go.RowKit
attribute [local go_sem] ext_ext drew_ext ext_drew ext_cell ext_frozen in_lt in_le in_ne in_en in_ne1 in_en1 in_le1 in_ltn in_len in_nen in_enn size_le ite_max ite_min
set_option linter.unusedVariables false
set_option linter.unusedSimpArgs false
attribute [local go_sem ↓] eqc_any

namespace flowKeeps
open Go.ChangeShapes Go.WideShapes Go.ChangeAt

set_option maxRecDepth 100000 in
set_option maxHeartbeats 8000000 in
theorem walk (w : World) (sv : Value) (bs : List Int) (el x y z : Int) (hs : IntsIn w sv bs) (fe : Fit el) (fx : Fit x) (fy : Fit y) (fz : Fit z) :
    Calls Try.prog 3 #[.agg #[sv, .int .i64 el], .agg #[.int .i64 x, .int .i64 y, .int .i64 z]] w fun e w' => e = .returned (.bool true) ∧ ∃ f, w' = ext w f := by
  have HS := Lib.hid hs
  have GOOD := fun (w : World) (h : IntsIn w sv bs) => goodw_any sv bs el w h fe
  generalize (bs.take 216).map gdS = BS at GOOD
  obtain ⟨V, hV⟩ : ∃ V, V = atS BS (arS el 3 - 1) := ⟨_, rfl⟩
  have VIEW := fun (w : World) (sv : Value) => view_any BS sv (arS el 3 - 1) w
  have AT := fun (w : World) (sv : Value) (h : Blocks w sv BS) (x y z : Int) => refat_any BS sv (arS el 3 - 1) x y z w h
  rw [← hV] at VIEW AT
  clear hs hV
  have NEXT := fun (v : Value) (w : World) (hv : ViewVal Try.prog v V w) => next_any v V (arS x 8 - 1) (arS y 8 - 1) (arS z 8 - 1) w hv near_mid near_mid near_mid
  have nl := next_len V (arS x 8 - 1) (arS y 8 - 1) (arS z 8 - 1)
  have KP := next_kept V (arS x 8 - 1) (arS y 8 - 1) (arS z 8 - 1)
  have near := fun (w : World) => near18_any x y z w fx fy fz
  generalize arS x 8 - 1 = X at *
  generalize arS y 8 - 1 = Y at *
  generalize arS z 8 - 1 = Z at *
  generalize nextS V X Y Z = l at *
  have NL := Lib.hid nl
  have KEPT := Lib.hid KP
  clear nl KP
  go_enter Try.func3, Try.ntmps3
  go_wp2_with fail
  refine (GOOD _ (HS.out.grown (by exact grown_of))).mono ?_
  rintro e w1 ⟨o1, rfl, hB1, _t, hw⟩
  have hc1 := named_cell hw
  have hz1 := named_frozen hw
  have hh1 := named_heap hw
  haveI hi1 := named_in hw
  haveI hb1 := named_below (w := w) hw
  clear hw
  obtain ⟨og1, cp1, rfl⟩ := owns_form hB1.1
  go_upto_region 2 with fail
  go_cut [6] from 13 to 17 (fun v wx => wx.ownsRow w.heap.size 36 4 v l.length (chV l) ∧ wx.cell? ⟨w1.heap.size, 0, none⟩ = some (.slice og1 BS.length cp1) ∧ wx.cell? ⟨w1.heap.size, 1, none⟩ = some (.int .i64 (arS el 3 - 1)) ∧ ∃ g, wx = ext w1 g)
  case first =>
    go_region_held3 (fun w' => w'.cell? ⟨w1.heap.size, 0, none⟩ = some (.slice og1 BS.length cp1) ∧ w'.cell? ⟨w1.heap.size, 1, none⟩ = some (.int .i64 (arS el 3 - 1)) ∧ w'.cell? ⟨w.heap.size + 1, 0, none⟩ = some (.int .i64 x) ∧ w'.cell? ⟨w.heap.size + 1, 1, none⟩ = some (.int .i64 y) ∧ w'.cell? ⟨w.heap.size + 1, 2, none⟩ = some (.int .i64 z))
      (((try dsimp only); refine ⟨?_, ?_, ?_, ?_, ?_⟩ <;> go_simp))
      (first
        | (go_at_call 11; refine (VIEW _ _ (hB1.grown (by exact grown_of))).mono ?_; rintro e w2 ⟨v2, rfl, hv2, _t, hw⟩; (try haveI hb2_1 := named_below (w := w1) hw); (try haveI hb2_3 := named_below (w := w3) hw); have hc2 := named_cell hw; have hz2 := named_frozen hw; have hh2 := named_heap hw; haveI hi2 := named_in hw; haveI hb2 := named_below (w := w) hw; clear hw)
        | (go_at_call 12; refine (near _).mono ?_; rintro e w3 ⟨rfl, _t, hw⟩; (try haveI hb3_1 := named_below (w := w1) hw); (try haveI hb3_2 := named_below (w := w2) hw); have hc3 := named_cell hw; have hz3 := named_frozen hw; have hh3 := named_heap hw; haveI hi3 := named_in hw; haveI hb3 := named_below (w := w) hw; clear hw)
        | (go_at_call 10; refine (NEXT _ _ (hv2.grow (by exact grown_of))).mono ?_; rintro e w4 ⟨v4, rfl, ho4, _t, hw⟩; (try haveI hb4_1 := named_below (w := w1) hw); have hc4 := named_cell hw; have hz4 := named_frozen hw; have hh4 := named_heap hw; haveI hi4 := named_in hw; haveI hb4 := named_below (w := w) hw; clear hw))
    all_goals (go_wp2_with fail; go_meet; exact ⟨owns_base ho4 (by first | exact (grown_now (w := w) (W := w2)).size | exact (grown_now (w := w) (W := w3)).size), by go_simp, by go_simp, grown_of⟩)
  case rest =>
    obtain ⟨ho5, p0, p1, _, hw⟩ := hcut
    rename World => w5
    haveI hg5 := named_grown hw
    have hc5 := named_cell hw
    have hz5 := named_frozen hw
    have hh5 := named_heap hw
    haveI hi5 := named_in hw
    haveI hb5 := named_below (w := w) hw
    clear hw
    haveI := in_of_cell p0
    obtain ⟨og, cap, rfl⟩ := owns_form ho5
    have HO := Lib.hid ho5
    have hl4 : ¬ (4 : Int) < l.length := by have := NL.out; omega
    have s0 : sandL V [] = 0 := rfl
    clear ho5
    go_wp2_with fail
    go_loopw [7, 8] (fun s i wr => ∃ k : Nat, k ≤ l.length ∧ i = .int .i64 k ∧ s = .int .i64 (sandL V (l.take k)) ∧ ∃ f, wr = ext w5 f) (fun _ i _ => l.length - (intOf i).toNat)
    case atStart => exact ⟨0, by omega, rfl, rfl, grown_of⟩
    case round =>
      obtain ⟨k, hk, rfl, rfl, _, hw⟩ := hrel
      rename World => w6
      haveI hg6 := named_grown hw
      haveI hb6_1 := named_below (w := w1) hw
      have hc6 := named_cell hw
      have hz6 := named_frozen hw
      have hh6 := named_heap hw
      haveI hi6 := named_in hw
      haveI hb6 := named_below (w := w) hw
      clear hw
      by_cases hlt : k < l.length
      · obtain ⟨g, rfl, hc⟩ := row_cells (owns_grown HO.out (grown_of (w := w5) (W := w6))) (by omega)
        obtain ⟨t0, t1, t2, t3⟩ := chV_at l k hlt
        have d0 := hc _ _ t0
        have d1 := hc _ _ t1
        have d2 := hc _ _ t2
        have d3 := hc _ _ t3
        haveI := in_of_cell d0
        have HC := Lib.hid hc
        have HK := Lib.hid hlt
        have k1 : (k : Int) < 5 := by have := NL.out; omega
        have k2 : (k : Int) < (l.length : Int) := by omega
        have ka : (V l[k].1 l[k].2.1 l[k].2.2.1 = 3 ∨ yldB (V l[k].1 l[k].2.1 l[k].2.2.1) = true) ∧ V l[k].1 l[k].2.1 l[k].2.2.1 ≠ l[k].2.2.2 ∧ 0 ≤ l[k].2.2.2 ∧ l[k].2.2.2 ≤ 15 ∧ l[k].2.2.2 ≠ 6 ∧ l[k].2.2.2 ≠ 7 := kept_at KEPT.out k hlt
        have AP := Lib.hid (fun j (hj : j < k) => (kept_apart KEPT.out j k (by omega) hlt hj : eqcS (l[j]'(by omega)).1 (l[j]'(by omega)).2.1 (l[j]'(by omega)).2.2.1 l[k].1 l[k].2.1 l[k].2.2.1 = false))
        have ST := Lib.hid (show sandL V (l.take (k + 1)) = sandL V (l.take k) + ((if V l[k].1 l[k].2.1 l[k].2.2.1 = 3 then -1 else 0) + (if l[k].2.2.2 = 3 then 1 else 0)) from sandL_take V l k hlt)
        obtain ⟨s1, s2⟩ : -4 ≤ sandL V (l.take k) ∧ sandL V (l.take k) ≤ 4 := by
          have := sandL_bd V (l.take k)
          have := NL.out
          rw [List.length_take] at *
          omega
        clear hc t0 t1 t2 t3
        generalize l[k].1 = a at *
        generalize l[k].2.1 = b at *
        generalize l[k].2.2.1 = c at *
        generalize l[k].2.2.2 = e at *
        generalize sandL V (l.take k) = s at *
        obtain ⟨ka1, ka2, ka3, ka4, ka5, ka6⟩ := ka
        have e6 : (e == 6) = false := by simp [ka5]
        have e7 : (e == 7) = false := by simp [ka6]
        have ve : (V a b c == e) = false := by simp [ka2]
        clear ka5 ka6
        by_cases h3 : V a b c = 3
        · have q1 : (V a b c == 3) = true := by simp [h3]
          have q2 : (V a b c != 3) = false := by simp [h3]
          have e3 : (e == 3) = false := by simp; omega
          have ST2 : Hid (sandL V (l.take (k + 1)) = s - 1) := Lib.hid (by rw [ST.out, if_pos h3, if_neg (by omega)]; omega)
          clear ST h3 ka1 ka2
          go_wp2_with fail
          refine wp_region_ext ?_ ?_ ?_
          · kernel_rfl
          · kernel_rfl
          repeat (go_big_quiet_step (first | (go_at_call 13; exact ext_call (AT _ _ (hB1.grown (by exact grown_of)) _ _ _))))
          refine wpQuiet_nil ?_
          rintro w7 ⟨_t, hw⟩
          haveI hg7 := named_grown hw
          have hc7 := named_cell hw
          have hz7 := named_frozen hw
          have hh7 := named_heap hw
          haveI hi7 := named_in hw
          haveI hb7 := named_below (w := w) hw
          clear hw
          haveI hb7_5 := below_thru w5 w6 w7
          go_wp2_with (first | (go_at_call 14; refine (refyld_any _ _).mono ?_; rintro e w1 ⟨rfl, rfl⟩) | (go_at_call 15; refine (refmay_any _ _ (by omega) (by omega) (by first | assumption | rfl) (by first | assumption | rfl)).mono ?_; rintro e w1 ⟨rfl, rfl⟩))
          go_loopw [10] (fun i wr => ∃ j : Nat, j ≤ k ∧ i = .int .i64 j ∧ ∃ f, wr = ext w7 f) (fun i _ => k - (intOf i).toNat)
          case atStart => exact ⟨0, by omega, rfl, grown_of⟩
          case round =>
            obtain ⟨j, hj, rfl, _, hw⟩ := hrel
            rename World => w8
            haveI hg8 := named_grown hw
            haveI hb8_5 := named_below (w := w5) hw
            have hc8 := named_cell hw
            have hz8 := named_frozen hw
            have hh8 := named_heap hw
            haveI hi8 := named_in hw
            haveI hb8 := named_below (w := w) hw
            clear hw
            by_cases hjk : j < k
            · have hj2 : j < l.length := by have := HK.out; omega
              obtain ⟨x0, x1, x2, x3⟩ := chV_at l j hj2
              have y0 := HC.out _ _ x0
              have y1 := HC.out _ _ x1
              have y2 := HC.out _ _ x2
              have heq := AP.out j hjk
              have j1 : (j : Int) < (l.length : Int) := by omega
              have j2 : (j : Int) < (k : Int) := by omega
              haveI := in_of_cell y0
              clear x0 x1 x2 x3
              generalize l[j].1 = a' at *
              generalize l[j].2.1 = b' at *
              generalize l[j].2.2.1 = c' at *
              go_wp2_with fail
              refine wp_region_ext ?_ ?_ ?_
              · kernel_rfl
              · kernel_rfl
              repeat (go_big_quiet_step (first | fail))
              refine wpQuiet_nil ?_
              rintro w9 ⟨_t, hw⟩
              haveI hg9 := named_grown hw
              have hc9 := named_cell hw
              have hz9 := named_frozen hw
              have hh9 := named_heap hw
              haveI hi9 := named_in hw
              haveI hb9 := named_below (w := w) hw
              clear hw
              haveI hb9_7 := below_thru w7 w8 w9
              go_wp2_with fail
              go_roundw
              case rel => exact ⟨j + 1, by omega, by go_num, grown_of⟩
              case measure => simp [intOf]; omega
            · have j2 : ¬ (j : Int) < (k : Int) := by omega
              go_wp2_with fail
              go_roundw
              case rel => exact ⟨k + 1, HK.out, by go_num, by rw [ST2.out], grown_of⟩
              case measure => have := HK.out; simp [intOf]; omega
        have hy := ka1.resolve_left h3
        have q1 : (V a b c == 3) = false := by simp [h3]
        have q2 : (V a b c != 3) = true := by simp [h3]
        by_cases h4 : e = 3
        · have e3 : (e == 3) = true := by simp [h4]
          have ST2 : Hid (sandL V (l.take (k + 1)) = s + 1) := Lib.hid (by rw [ST.out, if_neg h3, if_pos h4]; omega)
          clear ST h3 h4 ka1 ka2
          go_wp2_with fail
          refine wp_region_ext ?_ ?_ ?_
          · kernel_rfl
          · kernel_rfl
          repeat (go_big_quiet_step (first | (go_at_call 13; exact ext_call (AT _ _ (hB1.grown (by exact grown_of)) _ _ _))))
          refine wpQuiet_nil ?_
          rintro w7 ⟨_t, hw⟩
          haveI hg7 := named_grown hw
          have hc7 := named_cell hw
          have hz7 := named_frozen hw
          have hh7 := named_heap hw
          haveI hi7 := named_in hw
          haveI hb7 := named_below (w := w) hw
          clear hw
          haveI hb7_5 := below_thru w5 w6 w7
          go_wp2_with (first | (go_at_call 14; refine (refyld_any _ _).mono ?_; rintro e w1 ⟨rfl, rfl⟩) | (go_at_call 15; refine (refmay_any _ _ (by omega) (by omega) (by first | assumption | rfl) (by first | assumption | rfl)).mono ?_; rintro e w1 ⟨rfl, rfl⟩))
          go_loopw [10] (fun i wr => ∃ j : Nat, j ≤ k ∧ i = .int .i64 j ∧ ∃ f, wr = ext w7 f) (fun i _ => k - (intOf i).toNat)
          case atStart => exact ⟨0, by omega, rfl, grown_of⟩
          case round =>
            obtain ⟨j, hj, rfl, _, hw⟩ := hrel
            rename World => w8
            haveI hg8 := named_grown hw
            haveI hb8_5 := named_below (w := w5) hw
            have hc8 := named_cell hw
            have hz8 := named_frozen hw
            have hh8 := named_heap hw
            haveI hi8 := named_in hw
            haveI hb8 := named_below (w := w) hw
            clear hw
            by_cases hjk : j < k
            · have hj2 : j < l.length := by have := HK.out; omega
              obtain ⟨x0, x1, x2, x3⟩ := chV_at l j hj2
              have y0 := HC.out _ _ x0
              have y1 := HC.out _ _ x1
              have y2 := HC.out _ _ x2
              have heq := AP.out j hjk
              have j1 : (j : Int) < (l.length : Int) := by omega
              have j2 : (j : Int) < (k : Int) := by omega
              haveI := in_of_cell y0
              clear x0 x1 x2 x3
              generalize l[j].1 = a' at *
              generalize l[j].2.1 = b' at *
              generalize l[j].2.2.1 = c' at *
              go_wp2_with fail
              refine wp_region_ext ?_ ?_ ?_
              · kernel_rfl
              · kernel_rfl
              repeat (go_big_quiet_step (first | fail))
              refine wpQuiet_nil ?_
              rintro w9 ⟨_t, hw⟩
              haveI hg9 := named_grown hw
              have hc9 := named_cell hw
              have hz9 := named_frozen hw
              have hh9 := named_heap hw
              haveI hi9 := named_in hw
              haveI hb9 := named_below (w := w) hw
              clear hw
              haveI hb9_7 := below_thru w7 w8 w9
              go_wp2_with fail
              go_roundw
              case rel => exact ⟨j + 1, by omega, by go_num, grown_of⟩
              case measure => simp [intOf]; omega
            · have j2 : ¬ (j : Int) < (k : Int) := by omega
              go_wp2_with fail
              go_roundw
              case rel => exact ⟨k + 1, HK.out, by go_num, by rw [ST2.out], grown_of⟩
              case measure => have := HK.out; simp [intOf]; omega
        · have e3 : (e == 3) = false := by simp [h4]
          have ST2 : Hid (sandL V (l.take (k + 1)) = s) := Lib.hid (by rw [ST.out, if_neg h3, if_neg h4]; omega)
          clear ST h3 h4 ka1 ka2
          go_wp2_with fail
          refine wp_region_ext ?_ ?_ ?_
          · kernel_rfl
          · kernel_rfl
          repeat (go_big_quiet_step (first | (go_at_call 13; exact ext_call (AT _ _ (hB1.grown (by exact grown_of)) _ _ _))))
          refine wpQuiet_nil ?_
          rintro w7 ⟨_t, hw⟩
          haveI hg7 := named_grown hw
          have hc7 := named_cell hw
          have hz7 := named_frozen hw
          have hh7 := named_heap hw
          haveI hi7 := named_in hw
          haveI hb7 := named_below (w := w) hw
          clear hw
          haveI hb7_5 := below_thru w5 w6 w7
          go_wp2_with (first | (go_at_call 14; refine (refyld_any _ _).mono ?_; rintro e w1 ⟨rfl, rfl⟩) | (go_at_call 15; refine (refmay_any _ _ (by omega) (by omega) (by first | assumption | rfl) (by first | assumption | rfl)).mono ?_; rintro e w1 ⟨rfl, rfl⟩))
          go_loopw [10] (fun i wr => ∃ j : Nat, j ≤ k ∧ i = .int .i64 j ∧ ∃ f, wr = ext w7 f) (fun i _ => k - (intOf i).toNat)
          case atStart => exact ⟨0, by omega, rfl, grown_of⟩
          case round =>
            obtain ⟨j, hj, rfl, _, hw⟩ := hrel
            rename World => w8
            haveI hg8 := named_grown hw
            haveI hb8_5 := named_below (w := w5) hw
            have hc8 := named_cell hw
            have hz8 := named_frozen hw
            have hh8 := named_heap hw
            haveI hi8 := named_in hw
            haveI hb8 := named_below (w := w) hw
            clear hw
            by_cases hjk : j < k
            · have hj2 : j < l.length := by have := HK.out; omega
              obtain ⟨x0, x1, x2, x3⟩ := chV_at l j hj2
              have y0 := HC.out _ _ x0
              have y1 := HC.out _ _ x1
              have y2 := HC.out _ _ x2
              have heq := AP.out j hjk
              have j1 : (j : Int) < (l.length : Int) := by omega
              have j2 : (j : Int) < (k : Int) := by omega
              haveI := in_of_cell y0
              clear x0 x1 x2 x3
              generalize l[j].1 = a' at *
              generalize l[j].2.1 = b' at *
              generalize l[j].2.2.1 = c' at *
              go_wp2_with fail
              refine wp_region_ext ?_ ?_ ?_
              · kernel_rfl
              · kernel_rfl
              repeat (go_big_quiet_step (first | fail))
              refine wpQuiet_nil ?_
              rintro w9 ⟨_t, hw⟩
              haveI hg9 := named_grown hw
              have hc9 := named_cell hw
              have hz9 := named_frozen hw
              have hh9 := named_heap hw
              haveI hi9 := named_in hw
              haveI hb9 := named_below (w := w) hw
              clear hw
              haveI hb9_7 := below_thru w7 w8 w9
              go_wp2_with fail
              go_roundw
              case rel => exact ⟨j + 1, by omega, by go_num, grown_of⟩
              case measure => simp [intOf]; omega
            · have j2 : ¬ (j : Int) < (k : Int) := by omega
              go_wp2_with fail
              go_roundw
              case rel => exact ⟨k + 1, HK.out, by go_num, by rw [ST2.out], grown_of⟩
              case measure => have := HK.out; simp [intOf]; omega
      · have hk2 : k = l.length := by omega
        have hz : sandL V (l.take k) = 0 := by rw [hk2, List.take_length]; exact KEPT.out.sand
        have hn : ¬ (k : Int) < (l.length : Int) := by omega
        clear hk2
        go_wp2_with fail
        refine (lives_any _).mono ?_
        rintro e w10 ⟨rfl, _t, hw⟩
        have hc10 := named_cell hw
        have hz10 := named_frozen hw
        have hh10 := named_heap hw
        haveI hi10 := named_in hw
        haveI hb10 := named_below (w := w) hw
        clear hw
        go_wp2_with fail
        go_ret
        exact ⟨rfl, grown_of⟩
set_option maxRecDepth 100000 in
theorem lifted (os : Os) (started : os.Started) (H : Type) (enc : TypeId × Value → H) :
    ReturnsInHanded {} Try.checked os 3 .any (Rows.flowKeepsSpec.pre6 enc Try.prog Try.f3 Rows.flowKeepsRow.domain false) (Rows.flowKeepsSpec.post enc Try.prog Try.f3 false true false false) := by
  refine returnsInHanded_of_change (C := Try.checked) own started (by kernel_rfl) Try.func3
    (ChangeSpec.witness6 (enc := enc) (C := Try.checked) false ⟨#[], #[.agg #[.slice none 0 0, .int .i64 0], .agg #[.int .i64 0, .int .i64 0, .int .i64 0]], []⟩ 8 (by kernel_rfl) (by kernel_rfl) (by kernel_rfl) (by kernel_rfl)) ?_
  intro W base args ds gs before hval0 hW hcnd hsz
  have hval : ∀ (j : Nat) t v, Try.f3.params[j]? = some t → args[j]? = some v → Value.okWide Try.prog W .any base t v := hval0
  have hW' := hW
  obtain ⟨p, q, hA0, hV, rfl, hfz, hnd⟩ := hW
  have hA : DataW.TrodAll enc Try.prog W 0 (fun _ => true) true Try.f3.params.toList args.toList ds p := hA0
  rw [Try.params3] at hA hval
  obtain ⟨v0, vs0, d0, ds0, p0, q0, hargs, rfl, rfl, h0, r0⟩ := trodAll_cons hA
  obtain ⟨v1, vs1, d1, ds1, p1, q1, rfl, rfl, rfl, h1, r1⟩ := trodAll_cons r0
  obtain ⟨rfl, rfl, rfl⟩ := trodAll_nil r1
  obtain rfl : args = #[v0, v1] := by cases args; simp_all
  obtain ⟨rfl, rfl⟩ := trodVars_none hV
  obtain ⟨s0, bs0, el0, rfl, hs0, fe0⟩ := open_world Try.underlying3 Try.underlying22 Try.underlying24 (by kernel_rfl) (by kernel_rfl) (by kernel_rfl) (by kernel_rfl) rfl rfl (hval 0 24 v0 rfl rfl) h0
  obtain ⟨a1, b1, c1, rfl, fa1, fb1, fc1⟩ := open_three Try.underlying3 Try.underlying26 (by kernel_rfl) (by kernel_rfl) rfl rfl rfl (hval 1 26 v1 rfl rfl) h1
  simp only [List.append_nil] at hW'
  refine (walk W s0 bs0 el0 a1 b1 c1 hs0 fe0 fa1 fb1 fc1).mono fun e W' ⟨he, g, hg⟩ => ?_
  subst he
  subst hg
  exact ⟨_, rfl, law_post laidOut rfl rfl (by kernel_rfl) Try.underlying4 (by rw [Try.params3]; decide +kernel) hW' (ext_below _ _)⟩

theorem over : Rows.flowKeepsRow.holds Try.pinned (OpenSpec.ofChange Rows.flowKeepsSpec) :=
  OpenClaim.holds_of_wide 3 Try.f3 rfl rfl rfl rfl rfl rfl rfl ⟨rfl, rfl, rfl, rfl, rfl⟩ rfl rfl rfl rfl rfl (by kernel_rfl) Try.func3 (by kernel_rfl)
    (of_decide_eq_true (by kernel_rfl)) (by unfold Func.isWrapper; first | (rw [if_pos (by decide +kernel)]; kernel_rfl) | (rw [if_neg (by decide +kernel)]; exact ⟨rfl, rfl⟩))
    (fun os started H enc _ => lifted os started H enc)

theorem proved : Rows.FlowKeepsSaid := over
#print axioms proved
end flowKeeps
end Go.Proofs.Ytjejobfhddlmeaa
