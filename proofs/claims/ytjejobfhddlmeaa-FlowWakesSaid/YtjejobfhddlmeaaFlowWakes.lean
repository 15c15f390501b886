/- What a change wakes, and for how long an update waits, is the document's: whatever small world, cell and number come in, FlowWakes hands back true; no conditions. -/
import Derived.Test.YtjejobfhddlmeaaWakes
import Derived.Deep.RegionHeld3
namespace Go.Proofs.Ytjejobfhddlmeaa
open Go.RowKit
attribute [local go_sem] ext_ext drew_ext ext_drew ext_cell ext_frozen in_lt in_le in_ne in_en in_ne1 in_en1 in_le1 in_ltn in_len in_nen in_enn size_le ite_max ite_min
set_option linter.unusedVariables false
set_option linter.unusedSimpArgs false

namespace flowWakes
open Go.ChangeShapes Go.WideShapes Go.ChangeAt

set_option maxRecDepth 100000 in
set_option maxHeartbeats 8000000 in
theorem walk (w : World) (sv : Value) (bs : List Int) (el x y z n : Int) (hs : IntsIn w sv bs) (fe : Fit el) (fx : Fit x) (fy : Fit y) (fz : Fit z) (_fn : Fit n) :
    Calls Try.prog 8 #[.agg #[sv, .int .i64 el], .agg #[.int .i64 x, .int .i64 y, .int .i64 z], .int .i64 n] w fun e w' => e = .returned (.bool true) ∧ ∃ f, w' = ext w f := by
  obtain ⟨i0, iz0, iz1, iz2, iz3⟩ := info_parts cellInfo
  have HS := Lib.hid hs
  have GOOD := fun (w : World) (h : IntsIn w sv bs) => goodw_any sv bs el w h fe
  generalize (bs.take 216).map gdS = BS at GOOD
  obtain ⟨V, hV⟩ : ∃ V, V = atS BS (arS el 3 - 1) := ⟨_, rfl⟩
  have VIEW := fun (w : World) (sv : Value) => view_any BS sv (arS el 3 - 1) w
  have AT := fun (w : World) (sv : Value) (h : Blocks w sv BS) (x y z : Int) => refat_any BS sv (arS el 3 - 1) x y z w h
  rw [← hV] at VIEW AT
  clear hs hV
  have near := fun (w : World) => near18_any x y z w fx fy fz
  have WAKES := fun (v : Value) (w : World) (hv : ViewVal Try.prog v V w) => wakes_any v V (arS x 8 - 1) (arS y 8 - 1) (arS z 8 - 1) w hv near_mid near_mid near_mid
  have NEAR7 := fun (w : World) => near7_any (arS x 8 - 1) (arS y 8 - 1) (arS z 8 - 1) w near_mid near_mid near_mid
  generalize arS x 8 - 1 = X at *
  generalize arS y 8 - 1 = Y at *
  generalize arS z 8 - 1 = Z at *
  go_enter Try.func8, Try.ntmps8
  go_wp2_with fail
  refine (GOOD _ (HS.out.grown (by exact grown_of))).mono ?_
  rintro e w1 ⟨o1, rfl, hB1, _t, hw⟩
  have hc1 := named_cell hw
  have hz1 := named_frozen hw
  have hh1 := named_heap hw
  haveI hi1 := named_in hw
  haveI hb1 := named_below (w := w) hw
  clear hw
  obtain ⟨og1, cp1, rfl⟩ := owns_form hB1.1
  go_wp2_with fail
  refine (near _).mono ?_
  rintro e w2 ⟨rfl, _t, hw⟩
  haveI hb2_1 := named_below (w := w1) hw
  have hc2 := named_cell hw
  have hz2 := named_frozen hw
  have hh2 := named_heap hw
  haveI hi2 := named_in hw
  haveI hb2 := named_below (w := w) hw
  clear hw
  go_wp2_with fail
  refine (NEAR7 _).mono ?_
  rintro e w3 ⟨v3, rfl, ho3, _t, hw⟩
  haveI hb3_1 := named_below (w := w1) hw
  have hc3 := named_cell hw
  have hz3 := named_frozen hw
  have hh3 := named_heap hw
  haveI hi3 := named_in hw
  haveI hb3 := named_below (w := w) hw
  clear hw
  obtain ⟨g, cap, rfl, _, _, _, hcells⟩ := owns_some ho3 (by omega)
  have HC := Lib.hid hcells
  have hg : g < w3.heap.size := (ho3.lt g rfl).2
  haveI : Nonempty (In g w3) := ⟨hg⟩
  clear hcells ho3
  go_wp2_with fail
  go_loopw [10, 11] (fun o i wr => ∃ k : Nat, k ≤ 7 ∧ i = .int .i64 k ∧ wr.ownsRow w3.heap.size 26 3 o (wkL V X Y Z k).length (cV (wkL V X Y Z k)) ∧ ∃ f, wr = ext w3 f) (fun _ i _ => 7 - (intOf i).toNat)
  case atStart => exact ⟨0, by omega, rfl, World.ownsRow_nil .., grown_of⟩
  case round =>
    obtain ⟨k, hk, rfl, ow, _, hw⟩ := hrel
    rename World => w4
    haveI hg4 := named_grown hw
    haveI hb4_1 := named_below (w := w1) hw
    have hc4 := named_cell hw
    have hz4 := named_frozen hw
    have hh4 := named_heap hw
    haveI hi4 := named_in hw
    haveI hb4 := named_below (w := w) hw
    clear hw
    have OW := Lib.hid ow
    by_cases hlt : k < 7
    · clear ow
      obtain ⟨t0, t1, t2⟩ := near7_at X Y Z k hlt
      have d0 := HC.out _ _ t0
      have d1 := HC.out _ _ t1
      have d2 := HC.out _ _ t2
      have HIN := Lib.hid (fun h => wkL_in (V := V) (x := X) (y := Y) (z := Z) (k := k) h)
      have HOUT := Lib.hid (fun h => wkL_out (V := V) (x := X) (y := Y) (z := Z) (k := k) h)
      have HLn := Lib.hid (wkL_len V X Y Z k)
      clear t0 t1 t2
      generalize n7X X k = a at *
      generalize n7Y Y k = b at *
      generalize n7Z Z k = c at *
      by_cases h0 : 0 < dlyS (V a b c)
      · have HN2 : Hid (wkL V X Y Z (k + 1) = wkL V X Y Z k ++ [(a, b, c)]) := Lib.hid (HIN.out h0)
        clear HIN HOUT
        go_wp2_with fail
        refine wp_region_ext ?_ ?_ ?_
        · kernel_rfl
        · kernel_rfl
        repeat (go_big_quiet_step (first | (go_at_call 13; exact ext_call (AT _ _ (hB1.grown (by exact grown_of)) _ _ _)) | (go_at_call 26; exact ext_same (refdelay_any _ _))))
        refine wpQuiet_nil ?_
        rintro w6 ⟨_t, hw⟩
        haveI hg6 := named_grown hw
        have hc6 := named_cell hw
        have hz6 := named_frozen hw
        have hh6 := named_heap hw
        haveI hi6 := named_in hw
        haveI hb6 := named_below (w := w) hw
        clear hw
        haveI hb6_3 := below_thru w3 w4 w6
        have OW6 := Lib.hid (owns_grown OW.out (grown_of (w := w4) (W := w6)))
        have HB6 := Lib.hid (grown_now (w := w3) (W := w6))
        go_wp2_with (at_builtin; refine wpList_append_own _ rfl (.tmp 33) (.tmp 38) 50 rfl w3.heap.size 26 i0 _ 3 24 Try.underlying50 iz0 iz1 iz2 iz3 rfl (by omega) _ _ _ rfl (OW6.out.alloc _) _ 1 1 [.int .i64 a, .int .i64 b, .int .i64 c] rfl rfl (World.news_of_block (heap_alloc_new w6 _)) (by simp [Value.oneCell']) (by have := HLn.out; unfold maxLen; omega) (by have := HLn.out; omega) (by have := HB6.out.size; simp; omega) ?_; intro v' w1' hown1 hgrow _)
        go_roundw
        case rel =>
          refine ⟨k + 1, by omega, by go_num, ?_, ext_of ((HB6.out.alloc HB6.out.size _).grown hgrow (by have := HB6.out.size; simp; omega) (fun q hq => (OW6.out.lt q hq).1))⟩
          rw [HN2.out, List.length_append, cV_snoc]
          exact hown1
        case measure => simp [intOf]; omega
      · have HN2 : Hid (wkL V X Y Z (k + 1) = wkL V X Y Z k) := Lib.hid (HOUT.out h0)
        clear HIN HOUT
        go_wp2_with fail
        refine wp_region_ext ?_ ?_ ?_
        · kernel_rfl
        · kernel_rfl
        repeat (go_big_quiet_step (first | (go_at_call 13; exact ext_call (AT _ _ (hB1.grown (by exact grown_of)) _ _ _)) | (go_at_call 26; exact ext_same (refdelay_any _ _))))
        refine wpQuiet_nil ?_
        rintro w6 ⟨_t, hw⟩
        haveI hg6 := named_grown hw
        have hc6 := named_cell hw
        have hz6 := named_frozen hw
        have hh6 := named_heap hw
        haveI hi6 := named_in hw
        haveI hb6 := named_below (w := w) hw
        clear hw
        haveI hb6_3 := below_thru w3 w4 w6
        have OW6 := Lib.hid (owns_grown OW.out (grown_of (w := w4) (W := w6)))
        go_wp2_with fail
        go_roundw
        case rel => exact ⟨k + 1, by omega, by go_num, by rw [HN2.out]; exact OW6.out, grown_of⟩
        case measure => simp [intOf]; omega
    · have e7 : k = 7 := by omega
      have hl : wkL V X Y Z k = wkL V X Y Z 7 := by rw [e7]
      rw [hl] at OW ow
      have k7 : ¬ (k : Int) < 7 := by omega
      clear e7 hl hlt hk
      have LL := Lib.hid (wkL_len V X Y Z 7)
      generalize wkL V X Y Z 7 = l at *
      obtain ⟨og, cap', rfl⟩ := owns_form ow
      clear ow
      go_wp2_with fail
      go_loopw [12] (fun i wr => ∃ j : Int, -1 ≤ j ∧ j ≤ 17 ∧ i = .int .i64 j ∧ ∃ f, wr = ext w4 f) (fun i _ => (17 - intOf i).toNat)
      case atStart => exact ⟨-1, by omega, by omega, rfl, grown_of⟩
      case round =>
        obtain ⟨j, j1, j2, rfl, _, hw⟩ := hrel
        rename World => w9
        haveI hg9 := named_grown hw
        haveI hb9_1 := named_below (w := w1) hw
        have hc9 := named_cell hw
        have hz9 := named_frozen hw
        have hh9 := named_heap hw
        haveI hi9 := named_in hw
        haveI hb9 := named_below (w := w) hw
        clear hw
        by_cases hj : j < 17
        · go_wp2_with (first | (go_at_call 27; refine (delay_any _ _).mono ?_; rintro e w1 ⟨rfl, rfl⟩) | (go_at_call 26; refine (refdelay_any _ _).mono ?_; rintro e w1 ⟨rfl, rfl⟩))
          go_roundw
          case rel => exact ⟨j + 1, by omega, by omega, by go_num, grown_of⟩
          case measure => simp [intOf]; omega
        · go_wp2_with fail
          go_region_held3 (fun w' => w'.cell? ⟨w1.heap.size, 0, none⟩ = some (.slice og1 BS.length cp1) ∧ w'.cell? ⟨w1.heap.size, 1, none⟩ = some (.int .i64 (arS el 3 - 1)) ∧ w'.cell? ⟨w2.heap.size, 0, none⟩ = some (.int .i64 X) ∧ w'.cell? ⟨w2.heap.size, 1, none⟩ = some (.int .i64 Y) ∧ w'.cell? ⟨w2.heap.size, 2, none⟩ = some (.int .i64 Z))
            (((try dsimp only); refine ⟨?_, ?_, ?_, ?_, ?_⟩ <;> go_simp))
            (first
              | (go_at_call 11; refine (VIEW _ _ (hB1.grown (by exact grown_of))).mono ?_; rintro e w5 ⟨v5, rfl, hv5, _t, hw⟩; (try haveI hb5_4 := named_below (w := w4) hw); (try haveI hb5_1 := named_below (w := w1) hw); have hc5 := named_cell hw; have hz5 := named_frozen hw; have hh5 := named_heap hw; haveI hi5 := named_in hw; haveI hb5 := named_below (w := w) hw; clear hw)
              | (go_at_call 29; refine (WAKES _ _ (hv5.grow (by exact grown_of))).mono ?_; rintro e w6 ⟨v6, rfl, ho6, _t, hw⟩; (try haveI hb6_4 := named_below (w := w4) hw); (try haveI hb6_5 := named_below (w := w5) hw); (try haveI hb6_1 := named_below (w := w1) hw); have hc6 := named_cell hw; have hz6 := named_frozen hw; have hh6 := named_heap hw; haveI hi6 := named_in hw; haveI hb6 := named_below (w := w) hw; clear hw)
              | (go_at_call 28; refine (samecells_any l _ _ _ _ _ (owns_grown ho6 (by exact grown_of)) (owns_grown OW.out (by exact grown_of)) (by have := LL.out; omega)).mono ?_; rintro e w7 ⟨rfl, _t, hw⟩; (try haveI hb7_4 := named_below (w := w4) hw); (try haveI hb7_1 := named_below (w := w1) hw); have hc7 := named_cell hw; have hz7 := named_frozen hw; have hh7 := named_heap hw; haveI hi7 := named_in hw; haveI hb7 := named_below (w := w) hw; clear hw)
              | (go_at_call 27; refine (delay_any _ _).mono ?_; rintro e w1 ⟨rfl, rfl⟩)
              | (go_at_call 26; refine (refdelay_any _ _).mono ?_; rintro e w1 ⟨rfl, rfl⟩)
              | (go_at_call 16; refine (lives_any _).mono ?_; rintro e w8 ⟨rfl, _t, hw⟩; (try haveI hb8_4 := named_below (w := w4) hw); (try haveI hb8_1 := named_below (w := w1) hw); have hc8 := named_cell hw; have hz8 := named_frozen hw; have hh8 := named_heap hw; haveI hi8 := named_in hw; haveI hb8 := named_below (w := w) hw; clear hw))
          all_goals (go_wp2_with fail; go_ret; exact ⟨rfl, grown_of⟩)
set_option maxRecDepth 100000 in
theorem lifted (os : Os) (started : os.Started) (H : Type) (enc : TypeId × Value → H) :
    ReturnsInHanded {} Try.checked os 8 .any (Rows.flowWakesSpec.pre6 enc Try.prog Try.f8 Rows.flowWakesRow.domain false) (Rows.flowWakesSpec.post enc Try.prog Try.f8 false true false false) := by
  refine returnsInHanded_of_change (C := Try.checked) own started (by kernel_rfl) Try.func8
    (ChangeSpec.witness6 (enc := enc) (C := Try.checked) false ⟨#[], #[.agg #[.slice none 0 0, .int .i64 0], .agg #[.int .i64 0, .int .i64 0, .int .i64 0], .int .i64 0], []⟩ 8 (by kernel_rfl) (by kernel_rfl) (by kernel_rfl) (by kernel_rfl)) ?_
  intro W base args ds gs before hval0 hW hcnd hsz
  have hval : ∀ (j : Nat) t v, Try.f8.params[j]? = some t → args[j]? = some v → Value.okWide Try.prog W .any base t v := hval0
  have hW' := hW
  obtain ⟨p, q, hA0, hV, rfl, hfz, hnd⟩ := hW
  have hA : DataW.TrodAll enc Try.prog W 0 (fun _ => true) true Try.f8.params.toList args.toList ds p := hA0
  rw [Try.params8] at hA hval
  obtain ⟨v0, vs0, d0, ds0, p0, q0, hargs, rfl, rfl, h0, r0⟩ := trodAll_cons hA
  obtain ⟨v1, vs1, d1, ds1, p1, q1, rfl, rfl, rfl, h1, r1⟩ := trodAll_cons r0
  obtain ⟨v2, vs2, d2, ds2, p2, q2, rfl, rfl, rfl, h2, r2⟩ := trodAll_cons r1
  obtain ⟨rfl, rfl, rfl⟩ := trodAll_nil r2
  obtain rfl : args = #[v0, v1, v2] := by cases args; simp_all
  obtain ⟨rfl, rfl⟩ := trodVars_none hV
  obtain ⟨s0, bs0, el0, rfl, hs0, fe0⟩ := open_world Try.underlying3 Try.underlying22 Try.underlying24 (by kernel_rfl) (by kernel_rfl) (by kernel_rfl) (by kernel_rfl) rfl rfl (hval 0 24 v0 rfl rfl) h0
  obtain ⟨a1, b1, c1, rfl, fa1, fb1, fc1⟩ := open_three Try.underlying3 Try.underlying26 (by kernel_rfl) (by kernel_rfl) rfl rfl rfl (hval 1 26 v1 rfl rfl) h1
  obtain ⟨a2, rfl, fa2⟩ := open_one Try.underlying3 (hval 2 3 v2 rfl rfl) h2
  simp only [List.append_nil] at hW'
  refine (walk W s0 bs0 el0 a1 b1 c1 a2 hs0 fe0 fa1 fb1 fc1 fa2).mono fun e W' ⟨he, g, hg⟩ => ?_
  subst he
  subst hg
  exact ⟨_, rfl, law_post laidOut rfl rfl (by kernel_rfl) Try.underlying4 (by rw [Try.params8]; decide +kernel) hW' (ext_below _ _)⟩

theorem over : Rows.flowWakesRow.holds Try.pinned (OpenSpec.ofChange Rows.flowWakesSpec) :=
  OpenClaim.holds_of_wide 8 Try.f8 rfl rfl rfl rfl rfl rfl rfl ⟨rfl, rfl, rfl, rfl, rfl⟩ rfl rfl rfl rfl rfl (by kernel_rfl) Try.func8 (by kernel_rfl)
    (of_decide_eq_true (by kernel_rfl)) (by unfold Func.isWrapper; first | (rw [if_pos (by decide +kernel)]; kernel_rfl) | (rw [if_neg (by decide +kernel)]; exact ⟨rfl, rfl⟩))
    (fun os started H enc _ => lifted os started H enc)

theorem proved : Rows.FlowWakesSaid := over
#print axioms proved
end flowWakes
end Go.Proofs.Ytjejobfhddlmeaa
