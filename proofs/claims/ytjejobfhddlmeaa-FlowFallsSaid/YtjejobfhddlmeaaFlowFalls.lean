/- Sand that is updated where it came to, again and again, comes to rest over what does not give way, and leaves what it fell through over itself: whatever blocks come in, FlowFalls hands back true; no conditions. -/
import Derived.Test.YtjejobfhddlmeaaFall
import Derived.Test.YtjejobfhddlmeaaOpen
import Derived.IntWalk
namespace Go.Proofs.Ytjejobfhddlmeaa
open Go.RowKit
attribute [local go_sem] ext_ext drew_ext ext_drew ext_cell ext_frozen in_lt in_le in_ne in_en in_ne1 in_en1 in_le1 in_ltn in_len in_nen in_enn size_le ite_max ite_min
set_option linter.unusedVariables false
set_option linter.unusedSimpArgs false

namespace flowFalls
open Go.ChangeShapes Go.WideShapes Go.ChangeAt

theorem IntsIn.form {w : World} {v : Value} {cs : List Int} (h : IntsIn w v cs) : ∃ og cap, v = .slice og cs.length cap := by
  rcases h.lies with ⟨rfl, rfl⟩ | ⟨g, fo, cap, rfl, _, _⟩
  · exact ⟨none, 0, rfl⟩
  · exact ⟨_, _, rfl⟩
theorem IntsIn.small {w : World} {v : Value} {cs : List Int} (h : IntsIn w v cs) : cs.length ≤ 9223372036854775807 := by
  rcases h.lies with ⟨rfl, rfl⟩ | ⟨g, fo, cap, rfl, h, _⟩
  · simp
  · exact h
theorem IntsIn.at {w : World} {og : Option Addr} {n cap : Nat} {cs : List Int} (h : IntsIn w (.slice og n cap) cs) (k : Nat) (hk : k < cs.length) :
    ∃ g fo, og = some ⟨g, fo, none⟩ ∧ w.cell? ⟨g, fo + k, none⟩ = some (.int .i64 (cs.getD k 0)) := by
  rcases h.lies with ⟨_, rfl⟩ | ⟨g, fo, cap, hv, _, h⟩
  · simp at hk
  · simp only [Value.slice.injEq] at hv
    exact ⟨g, fo, hv.1, h k hk⟩

set_option maxRecDepth 100000 in
set_option maxHeartbeats 8000000 in
theorem walk (w : World) (lv : Value) (cs : List Int) (hl : IntsIn w lv cs) :
    Calls Try.prog 5 #[lv] w fun e w' => e = .returned (.bool true) ∧ ∃ f, w' = ext w f := by
  obtain ⟨i0, iz0, iz1, iz2, iz3⟩ := info_parts chInfo
  obtain ⟨j0, jz0, jz1, jz2, jz3⟩ := info_parts intInfo
  have HL := Lib.hid hl
  obtain ⟨ogl, capl, rfl⟩ := IntsIn.form hl
  clear hl
  go_enter Try.func5, Try.ntmps5
  go_wp2_with fail
  go_loopw [3, 4] (fun s i wr => ∃ y : Nat, y ≤ 6 ∧ i = .int .i64 y ∧ wr.ownsRow w.heap.size 3 1 s (36 * y) (boxV cs (36 * y)) ∧ ∃ f, wr = ext w f) (fun _ i _ => 6 - (intOf i).toNat)
  case atStart => exact ⟨0, by omega, rfl, World.ownsRow_nil .., grown_of⟩
  case round =>
    obtain ⟨y, hy, rfl, ow, _, hw⟩ := hrel
    rename World => w1
    have hc1 := named_cell hw
    have hz1 := named_frozen hw
    have hh1 := named_heap hw
    haveI hi1 := named_in hw
    haveI hb1 := named_below (w := w) hw
    clear hw
    have OW := Lib.hid ow
    by_cases hy6 : y < 6
    · have y6 : (y : Int) < 6 := by omega
      clear ow
      go_wp2_with fail
      go_loopw [3, 5] (fun s i wr => ∃ k : Nat, k ≤ 36 ∧ i = .int .i64 k ∧ wr.ownsRow w.heap.size 3 1 s (36 * y + k) (boxV cs (36 * y + k)) ∧ ∃ f, wr = ext w f) (fun _ i _ => 36 - (intOf i).toNat)
      case atStart => exact ⟨0, by omega, rfl, OW.out, grown_of⟩
      case round =>
        obtain ⟨k, hk, rfl, ow, _, hw⟩ := hrel
        rename World => w2
        have hc2 := named_cell hw
        have hz2 := named_frozen hw
        have hh2 := named_heap hw
        haveI hi2 := named_in hw
        haveI hb2 := named_below (w := w) hw
        clear hw
        have OW2 := Lib.hid ow
        have HB2 := Lib.hid (grown_now (w := w) (W := w2))
        clear ow
        by_cases hk36 : k < 36
        · have k36 : (k : Int) < 36 := by omega
          have K36 := Lib.hid hk36
          have Y6 := Lib.hid hy6
          by_cases hk0 : k = 0
          · have HN := Lib.hid (boxV_first cs y k hk36 hk0)
            have z0 : ((k : Int) == 0) = true := by simp; omega
            clear hk0
            by_cases hy5 : y = 5
            · have HC : Hid (colF cs y = 3) := Lib.hid (by unfold colF; rw [if_pos hy5])
              have z5 : ((y : Int) == 5) = true := by simp; omega
              clear hy5
              by_cases hyl : y < cs.length
              · obtain ⟨g, fo, rfl, d0⟩ := IntsIn.at HL.out y hyl
                have fd := HL.out.fit (cs.getD y 0) (by rw [List.getD_eq_getElem?_getD, List.getElem?_eq_getElem hyl]; exact List.getElem_mem hyl)
                haveI := in_of_cell d0
                have zl : (y : Int) < (cs.length : Int) := by omega
                generalize cs.getD y 0 = u at *
                go_wp2_with (first | (go_at_call 17; refine (refgood_any _ _ fd).mono ?_; rintro e w1 ⟨rfl, rfl⟩) | (at_builtin; refine wpList_append_own _ rfl (.tmp 43) (.tmp 45) 22 rfl w.heap.size 3 j0 _ 1 8 Try.underlying22 jz0 jz1 jz2 jz3 rfl (by omega) _ _ _ rfl (OW2.out.alloc _) _ 1 1 [.int .i64 (3)] rfl rfl (World.news_of_block (heap_alloc_new w2 _)) (by simp [Value.oneCell']) (by have := K36.out; have := Y6.out; unfold maxLen; omega) (by have := K36.out; have := Y6.out; omega) (by have := HB2.out.size; simp; omega) ?_; intro v' w1' hown1 hgrow _))
                go_roundw
                case rel => exact ⟨k + 1, K36.out, by go_num, by rw [HN.out, HC.out]; exact hown1, ext_of ((HB2.out.alloc HB2.out.size _).grown hgrow (by have := HB2.out.size; simp; omega) (fun q hq => (OW2.out.lt q hq).1))⟩
                case measure => simp [intOf]; omega
              · have zl : ¬ (y : Int) < (cs.length : Int) := by omega
                go_wp2_with (first | (at_builtin; refine wpList_append_own _ rfl (.tmp 43) (.tmp 45) 22 rfl w.heap.size 3 j0 _ 1 8 Try.underlying22 jz0 jz1 jz2 jz3 rfl (by omega) _ _ _ rfl (OW2.out.alloc _) _ 1 1 [.int .i64 (3)] rfl rfl (World.news_of_block (heap_alloc_new w2 _)) (by simp [Value.oneCell']) (by have := K36.out; have := Y6.out; unfold maxLen; omega) (by have := K36.out; have := Y6.out; omega) (by have := HB2.out.size; simp; omega) ?_; intro v' w1' hown1 hgrow _))
                go_roundw
                case rel => exact ⟨k + 1, K36.out, by go_num, by rw [HN.out, HC.out]; exact hown1, ext_of ((HB2.out.alloc HB2.out.size _).grown hgrow (by have := HB2.out.size; simp; omega) (fun q hq => (OW2.out.lt q hq).1))⟩
                case measure => simp [intOf]; omega
            · have z5 : ((y : Int) == 5) = false := by simp; omega
              by_cases hyl : y < cs.length
              · have HC : Hid (colF cs y = gdS (cs.getD y 0)) := Lib.hid (by unfold colF; rw [if_neg hy5, if_pos hyl])
                obtain ⟨g, fo, rfl, d0⟩ := IntsIn.at HL.out y hyl
                have fd := HL.out.fit (cs.getD y 0) (by rw [List.getD_eq_getElem?_getD, List.getElem?_eq_getElem hyl]; exact List.getElem_mem hyl)
                haveI := in_of_cell d0
                have zl : (y : Int) < (cs.length : Int) := by omega
                clear hy5
                generalize cs.getD y 0 = u at *
                go_wp2_with (first | (go_at_call 17; refine (refgood_any _ _ fd).mono ?_; rintro e w1 ⟨rfl, rfl⟩) | (at_builtin; refine wpList_append_own _ rfl (.tmp 43) (.tmp 45) 22 rfl w.heap.size 3 j0 _ 1 8 Try.underlying22 jz0 jz1 jz2 jz3 rfl (by omega) _ _ _ rfl (OW2.out.alloc _) _ 1 1 [.int .i64 (gdS u)] rfl rfl (World.news_of_block (heap_alloc_new w2 _)) (by simp [Value.oneCell']) (by have := K36.out; have := Y6.out; unfold maxLen; omega) (by have := K36.out; have := Y6.out; omega) (by have := HB2.out.size; simp; omega) ?_; intro v' w1' hown1 hgrow _))
                go_roundw
                case rel => exact ⟨k + 1, K36.out, by go_num, by rw [HN.out, HC.out]; exact hown1, ext_of ((HB2.out.alloc HB2.out.size _).grown hgrow (by have := HB2.out.size; simp; omega) (fun q hq => (OW2.out.lt q hq).1))⟩
                case measure => simp [intOf]; omega
              · have HC : Hid (colF cs y = 0) := Lib.hid (by unfold colF; rw [if_neg hy5, if_neg hyl])
                have zl : ¬ (y : Int) < (cs.length : Int) := by omega
                clear hy5
                go_wp2_with (first | (at_builtin; refine wpList_append_own _ rfl (.tmp 43) (.tmp 45) 22 rfl w.heap.size 3 j0 _ 1 8 Try.underlying22 jz0 jz1 jz2 jz3 rfl (by omega) _ _ _ rfl (OW2.out.alloc _) _ 1 1 [.int .i64 (0)] rfl rfl (World.news_of_block (heap_alloc_new w2 _)) (by simp [Value.oneCell']) (by have := K36.out; have := Y6.out; unfold maxLen; omega) (by have := K36.out; have := Y6.out; omega) (by have := HB2.out.size; simp; omega) ?_; intro v' w1' hown1 hgrow _))
                go_roundw
                case rel => exact ⟨k + 1, K36.out, by go_num, by rw [HN.out, HC.out]; exact hown1, ext_of ((HB2.out.alloc HB2.out.size _).grown hgrow (by have := HB2.out.size; simp; omega) (fun q hq => (OW2.out.lt q hq).1))⟩
                case measure => simp [intOf]; omega
          · have HN := Lib.hid (boxV_next cs y k hk36 hk0)
            have z0 : ((k : Int) == 0) = false := by simp; omega
            clear hk0
            go_wp2_with (first | (at_builtin; refine wpList_append_own _ rfl (.tmp 43) (.tmp 45) 22 rfl w.heap.size 3 j0 _ 1 8 Try.underlying22 jz0 jz1 jz2 jz3 rfl (by omega) _ _ _ rfl (OW2.out.alloc _) _ 1 1 [.int .i64 (0)] rfl rfl (World.news_of_block (heap_alloc_new w2 _)) (by simp [Value.oneCell']) (by have := K36.out; have := Y6.out; unfold maxLen; omega) (by have := K36.out; have := Y6.out; omega) (by have := HB2.out.size; simp; omega) ?_; intro v' w1' hown1 hgrow _))
            go_roundw
            case rel => exact ⟨k + 1, K36.out, by go_num, by rw [HN.out]; exact hown1, ext_of ((HB2.out.alloc HB2.out.size _).grown hgrow (by have := HB2.out.size; simp; omega) (fun q hq => (OW2.out.lt q hq).1))⟩
            case measure => simp [intOf]; omega
        · have k36 : ¬ (k : Int) < 36 := by omega
          have e36 : 36 * y + k = 36 * (y + 1) := by omega
          have OW2' := OW2.out
          rw [e36] at OW2'
          have OW3 := Lib.hid OW2'
          clear e36 OW2'
          have Y6 := Lib.hid hy6
          clear OW2
          go_wp2_with fail
          go_roundw
          case rel => exact ⟨y + 1, Y6.out, by go_num, OW3.out, grown_of⟩
          case measure => simp [intOf]; omega
    · have y6 : ¬ (y : Int) < 6 := by omega
      have e216 : 36 * y = 216 := by omega
      rw [e216] at ow
      have hblk : Blocks w1 _ (boxF cs 216) := ⟨by rw [boxF_len]; exact owns_base ow (Nat.zero_le _), by rw [boxF_len]; omega⟩
      obtain ⟨gB, cpB, rfl, _, _, _, hcB⟩ := owns_some ow (by omega)
      have HBK := Lib.hid hblk
      have HCOL := Lib.hid (col_cells hcB)
      have VIEW := fun (W : World) (h : Blocks W (.slice (some ⟨gB, 0, none⟩) 216 cpB) (boxF cs 216)) => view_any (boxF cs 216) _ 1 W h
      have TELLS := fun (W : World) (lv : Value) (l : List Ch) (b1 : Nat) (h : Blocks W (.slice (some ⟨gB, 0, none⟩) 216 cpB) (boxF cs 216)) => tells_of (boxF cs 216) _ lv l b1 1 W h
      have V5 := Lib.hid (box_top cs)
      have VF := Lib.hid (box_floor 1 (boxF cs 216))
      have VB := Lib.hid (fun y => at_bd (boxF cs 216) 1 0 y 0 (box_bd cs 216) (by omega) (by omega))
      haveI hgB : Nonempty (In gB w1) := ⟨(ow.lt gB rfl).2⟩
      clear hblk hcB ow OW e216 hy6 hy
      generalize atS (boxF cs 216) 1 = V at *
      go_wp2_with fail
      refine (VIEW _ (HBK.out.grown (by exact grown_of))).mono ?_
      rintro e w3 ⟨v3, rfl, hv3, _t, hw⟩
      haveI hb3_1 := named_below (w := w1) hw
      have hc3 := named_cell hw
      have hz3 := named_frozen hw
      have hh3 := named_heap hw
      haveI hi3 := named_in hw
      haveI hb3 := named_below (w := w) hw
      clear hw
      go_wp2_with fail
      go_loopw [10, 11] (fun l i wr => ∃ (t : Nat) (s : Int), t ≤ 5 ∧ s + t = 5 ∧ i = .int .i64 t ∧ FallIn V w3 t s l wr ∧ Hid (∀ r : Int, s < r → r ≤ 5 → yldB (V 0 (r + -1) 0) = true)) (fun _ i _ => 8 - (intOf i).toNat)
      case atStart =>
        exact ⟨0, 5, by omega, by omega, rfl, ⟨grown_of, by simp, by go_simp, by go_simp, by go_simp, fun j => by go_simp, World.ownsRow_nil ..⟩, Lib.hid (fun r h1 h2 => by omega)⟩
      case round =>
        obtain ⟨t, s, ht, hs, rfl, hF, HY⟩ := hrel
        rename World => w4
        have HF := Lib.hid hF
        obtain ⟨⟨_, hw⟩, hsz, c0, c1, c2, cf, own⟩ := hF
        haveI hb4_3 := named_below (w := w3) hw
        haveI hb4_1 := named_below (w := w1) hw
        have hc4 := named_cell hw
        have hz4 := named_frozen hw
        have hh4 := named_heap hw
        haveI hi4 := named_in hw
        haveI hb4 := named_below (w := w) hw
        clear hw
        have cf0 := cf 0
        have cf1 := cf 1
        have cf2 := cf 2
        haveI := in_of_cell c0
        obtain ⟨ogL, cpL, rfl⟩ := owns_form own
        have OWL := Lib.hid own
        have NR := Lib.hid (fall_near V t ht)
        have WF := Lib.hid (fall_wf V VB.out t)
        have LN : Hid ((fallL V t).length ≤ 10) := Lib.hid (by rw [fallL_len]; omega)
        have t8 : (t : Int) < 8 := by omega
        have s0 : 0 ≤ s := by omega
        have s5 : s ≤ 5 := by omega
        have MS : Hid (Mid s) := Lib.hid ⟨by omega, by omega⟩
        clear cf own hsz
        rcases hyl : yldB (V 0 (s + -1) 0) with _ | _
        · have NEXT := fun (v : Value) (W : World) (hv : ViewVal Try.prog v (layS V (fallL V t)) W) => next_any v (layS V (fallL V t)) 0 s 0 W hv mid0 MS.out mid0
          rw [fall_end V V5.out t s hs hyl] at NEXT
          have HYL := Lib.hid hyl
          clear hyl
          go_wp2_with fail
          refine (lay_any _ V (fallL V t) _ (w3.heap.size + 1) _ NR.out WF.out (hv3.grow (by exact grown_of)) (by have := LN.out; omega) (owns_grown OWL.out (by exact grown_of))).mono ?_
          rintro e w5 ⟨v5, rfl, hv5, _t, hw⟩
          haveI hb5_4 := named_below (w := w4) hw
          haveI hb5_3 := named_below (w := w3) hw
          haveI hb5_1 := named_below (w := w1) hw
          have hc5 := named_cell hw
          have hz5 := named_frozen hw
          have hh5 := named_heap hw
          haveI hi5 := named_in hw
          haveI hb5 := named_below (w := w) hw
          clear hw
          have HV5 := Lib.hid hv5
          obtain ⟨f2, caps2, rfl, hvw⟩ := hv5
          have hne : ∀ W : World, (binOp .eql 31 (.func (.func f2) #[] caps2) .nilFunc).run Try.prog W = .ok (.bool false) W := fun W => func_nil f2 caps2 W
          clear hvw
          go_wp2_with fail
          refine (NEXT _ _ (HV5.out.grow (by exact grown_of))).mono ?_
          rintro e w6 ⟨v6, rfl, ho6, _t, hw⟩
          haveI hb6_5 := named_below (w := w5) hw
          haveI hb6_4 := named_below (w := w4) hw
          haveI hb6_3 := named_below (w := w3) hw
          haveI hb6_1 := named_below (w := w1) hw
          have hc6 := named_cell hw
          have hz6 := named_frozen hw
          have hh6 := named_heap hw
          haveI hi6 := named_in hw
          haveI hb6 := named_below (w := w) hw
          clear hw
          obtain ⟨ogx, cpx, rfl⟩ := owns_form ho6
          have TL := Lib.hid (TELLS w6 (.slice ogL (fallL V t).length cpL) (fallL V t) (w3.heap.size + 1) (HBK.out.grown (by exact grown_of)) (owns_grown OWL.out (by exact grown_of)) (by have := LN.out; omega))
          clear ho6
          go_wp2_with fail
          go_loopw [14] (fun i wr => ∃ r : Int, s ≤ r ∧ r ≤ 5 ∧ i = .int .i64 r ∧ ∃ f, wr = ext w6 f) (fun i _ => (intOf i).toNat)
          case atStart => exact ⟨5, by omega, by omega, rfl, grown_of⟩
          case round =>
            obtain ⟨r, r1, r2, rfl, _, hw⟩ := hrel
            rename World => w8
            haveI hb8_6 := named_below (w := w6) hw
            haveI hb8_4 := named_below (w := w4) hw
            haveI hb8_3 := named_below (w := w3) hw
            haveI hb8_1 := named_below (w := w1) hw
            have hc8 := named_cell hw
            have hz8 := named_frozen hw
            have hh8 := named_heap hw
            haveI hi8 := named_in hw
            haveI hb8 := named_below (w := w) hw
            clear hw
            by_cases hr : s < r
            · have d0 := HCOL.out (r - 1) (by omega) (by omega)
              have hy := HY.out r hr r2
              rw [show r + -1 = r - 1 by omega] at hy
              have rp : 0 < r := by omega
              haveI := in_of_cell d0
              generalize V 0 (r - 1) 0 = u at *
              go_wp2_with (first | (go_at_call 14; refine (refyld_any _ _).mono ?_; rintro e w1 ⟨rfl, rfl⟩))
              go_roundw
              case rel => exact ⟨r - 1, by omega, by omega, rfl, grown_of⟩
              case measure => simp [intOf]; omega
            · obtain rfl : s = r := by omega
              clear hr r1
              by_cases hx : 0 < s
              · have d0 := HCOL.out (s - 1) (by omega) (by omega)
                have hy := HYL.out
                rw [show s + -1 = s - 1 by omega] at hy
                haveI := in_of_cell d0
                generalize V 0 (s - 1) 0 = u at *
                go_wp2_with (first | (go_at_call 14; refine (refyld_any _ _).mono ?_; rintro e w1 ⟨rfl, rfl⟩))
                go_loopw [15] (fun i wr => ∃ y : Int, s ≤ y ∧ y ≤ 5 ∧ i = .int .i64 y ∧ ∃ f, wr = ext w8 f) (fun i _ => (5 - intOf i).toNat)
                case atStart => exact ⟨s, by omega, by omega, rfl, grown_of⟩
                case round =>
                  obtain ⟨y, y1, y2, rfl, _, hw⟩ := hrel
                  rename World => w9
                  haveI hb9_8 := named_below (w := w8) hw
                  haveI hb9_6 := named_below (w := w6) hw
                  haveI hb9_4 := named_below (w := w4) hw
                  haveI hb9_3 := named_below (w := w3) hw
                  haveI hb9_1 := named_below (w := w1) hw
                  have hc9 := named_cell hw
                  have hz9 := named_frozen hw
                  have hh9 := named_heap hw
                  haveI hi9 := named_in hw
                  haveI hb9 := named_below (w := w) hw
                  clear hw
                  by_cases hy5 : y < 5
                  · have d0 := HCOL.out y (by omega) (by omega)
                    have AY : Hid (∀ W, (∃ f, W = ext w6 f) → Calls Try.prog 19 #[.agg #[.slice (some ⟨gB, 0, none⟩) 216 cpB, .int .i64 1], .slice ogL (fallL V t).length cpL, .agg #[.int .i64 0, .int .i64 (y + 1), .int .i64 0]] W fun e w' => e = .returned (.int .i64 (V 0 y 0)) ∧ ∃ f, w' = ext W f) := Lib.hid (fun W hW => by
                      rw [← fall_over V V5.out t s y hs (by omega) hy5]
                      exact TL.out W hW 0 (y + 1) 0)
                    have wy : IntKind.i64.wrap (y + 1) = y + 1 := IntWalk.i64_in _ (by omega)
                    have w36 : IntKind.i64.wrap (36 * y) = 36 * y := IntWalk.i64_in _ (by omega)
                    haveI := in_of_cell d0
                    have ys : 0 ≤ y := by omega
                    generalize V 0 y 0 = u at *
                    go_wp2_with fail
                    refine wp_region_ext ?_ ?_ ?_
                    · kernel_rfl
                    · kernel_rfl
                    repeat (go_big_quiet_step (first | (go_at_call 19; exact ext_call (AY.out _ (by exact grown_of)))))
                    refine wpQuiet_nil ?_
                    rintro w10 ⟨_t, hw⟩
                    haveI hg10 := named_grown hw
                    haveI hb10_6 := named_below (w := w6) hw
                    have hc10 := named_cell hw
                    have hz10 := named_frozen hw
                    have hh10 := named_heap hw
                    haveI hi10 := named_in hw
                    haveI hb10 := named_below (w := w) hw
                    clear hw
                    haveI hb10_8 := below_thru w8 w9 w10
                    clear wy w36
                    go_wp2_with fail
                    go_roundw
                    case rel => exact ⟨y + 1, by omega, by omega, by go_num, grown_of⟩
                    case measure => simp [intOf]; omega
                  · have AC : Hid (∀ W, (∃ f, W = ext w6 f) → Calls Try.prog 19 #[.agg #[.slice (some ⟨gB, 0, none⟩) 216 cpB, .int .i64 1], .slice ogL (fallL V t).length cpL, .agg #[.int .i64 0, .int .i64 s, .int .i64 0]] W fun e w' => e = .returned (.int .i64 3) ∧ ∃ f, w' = ext W f) := Lib.hid (fun W hW => by
                      rw [← fall_here V V5.out t s hs]
                      exact TL.out W hW 0 s 0)
                    go_wp2_with fail
                    refine (AC.out _ (by exact grown_of)).mono ?_
                    rintro e w11 ⟨rfl, _t, hw⟩
                    have hc11 := named_cell hw
                    have hz11 := named_frozen hw
                    have hh11 := named_heap hw
                    haveI hi11 := named_in hw
                    haveI hb11 := named_below (w := w) hw
                    clear hw
                    go_wp2_with fail
                    refine (lives_any _).mono ?_
                    rintro e w12 ⟨rfl, _t, hw⟩
                    have hc12 := named_cell hw
                    have hz12 := named_frozen hw
                    have hh12 := named_heap hw
                    haveI hi12 := named_in hw
                    haveI hb12 := named_below (w := w) hw
                    clear hw
                    go_wp2_with fail
                    go_ret
                    exact ⟨rfl, grown_of⟩
              · go_wp2_with fail
                go_loopw [15] (fun i wr => ∃ y : Int, s ≤ y ∧ y ≤ 5 ∧ i = .int .i64 y ∧ ∃ f, wr = ext w8 f) (fun i _ => (5 - intOf i).toNat)
                case atStart => exact ⟨s, by omega, by omega, rfl, grown_of⟩
                case round =>
                  obtain ⟨y, y1, y2, rfl, _, hw⟩ := hrel
                  rename World => w9
                  haveI hb9_8 := named_below (w := w8) hw
                  haveI hb9_6 := named_below (w := w6) hw
                  haveI hb9_4 := named_below (w := w4) hw
                  haveI hb9_3 := named_below (w := w3) hw
                  haveI hb9_1 := named_below (w := w1) hw
                  have hc9 := named_cell hw
                  have hz9 := named_frozen hw
                  have hh9 := named_heap hw
                  haveI hi9 := named_in hw
                  haveI hb9 := named_below (w := w) hw
                  clear hw
                  by_cases hy5 : y < 5
                  · have d0 := HCOL.out y (by omega) (by omega)
                    have AY : Hid (∀ W, (∃ f, W = ext w6 f) → Calls Try.prog 19 #[.agg #[.slice (some ⟨gB, 0, none⟩) 216 cpB, .int .i64 1], .slice ogL (fallL V t).length cpL, .agg #[.int .i64 0, .int .i64 (y + 1), .int .i64 0]] W fun e w' => e = .returned (.int .i64 (V 0 y 0)) ∧ ∃ f, w' = ext W f) := Lib.hid (fun W hW => by
                      rw [← fall_over V V5.out t s y hs (by omega) hy5]
                      exact TL.out W hW 0 (y + 1) 0)
                    have wy : IntKind.i64.wrap (y + 1) = y + 1 := IntWalk.i64_in _ (by omega)
                    have w36 : IntKind.i64.wrap (36 * y) = 36 * y := IntWalk.i64_in _ (by omega)
                    haveI := in_of_cell d0
                    have ys : 0 ≤ y := by omega
                    generalize V 0 y 0 = u at *
                    go_wp2_with fail
                    refine wp_region_ext ?_ ?_ ?_
                    · kernel_rfl
                    · kernel_rfl
                    repeat (go_big_quiet_step (first | (go_at_call 19; exact ext_call (AY.out _ (by exact grown_of)))))
                    refine wpQuiet_nil ?_
                    rintro w10 ⟨_t, hw⟩
                    haveI hg10 := named_grown hw
                    haveI hb10_6 := named_below (w := w6) hw
                    have hc10 := named_cell hw
                    have hz10 := named_frozen hw
                    have hh10 := named_heap hw
                    haveI hi10 := named_in hw
                    haveI hb10 := named_below (w := w) hw
                    clear hw
                    haveI hb10_8 := below_thru w8 w9 w10
                    clear wy w36
                    go_wp2_with fail
                    go_roundw
                    case rel => exact ⟨y + 1, by omega, by omega, by go_num, grown_of⟩
                    case measure => simp [intOf]; omega
                  · have AC : Hid (∀ W, (∃ f, W = ext w6 f) → Calls Try.prog 19 #[.agg #[.slice (some ⟨gB, 0, none⟩) 216 cpB, .int .i64 1], .slice ogL (fallL V t).length cpL, .agg #[.int .i64 0, .int .i64 s, .int .i64 0]] W fun e w' => e = .returned (.int .i64 3) ∧ ∃ f, w' = ext W f) := Lib.hid (fun W hW => by
                      rw [← fall_here V V5.out t s hs]
                      exact TL.out W hW 0 s 0)
                    go_wp2_with fail
                    refine (AC.out _ (by exact grown_of)).mono ?_
                    rintro e w11 ⟨rfl, _t, hw⟩
                    have hc11 := named_cell hw
                    have hz11 := named_frozen hw
                    have hh11 := named_heap hw
                    haveI hi11 := named_in hw
                    haveI hb11 := named_below (w := w) hw
                    clear hw
                    go_wp2_with fail
                    refine (lives_any _).mono ?_
                    rintro e w12 ⟨rfl, _t, hw⟩
                    have hc12 := named_cell hw
                    have hz12 := named_frozen hw
                    have hh12 := named_heap hw
                    haveI hi12 := named_in hw
                    haveI hb12 := named_below (w := w) hw
                    clear hw
                    go_wp2_with fail
                    go_ret
                    exact ⟨rfl, grown_of⟩
        · have s1 : 1 ≤ s := by
            refine Decidable.byContradiction fun h => ?_
            obtain rfl : s = 0 := by omega
            have h1 := VF.out
            rw [show (0 : Int) + -1 = -1 by omega, h1] at hyl
            exact absurd hyl (by decide)
          have NEXT := fun (v : Value) (W : World) (hv : ViewVal Try.prog v (layS V (fallL V t)) W) => next_any v (layS V (fallL V t)) 0 s 0 W hv mid0 MS.out mid0
          rw [fall_go V V5.out t s hs hyl] at NEXT
          have HY2 : Hid (∀ r : Int, s + -1 < r → r ≤ 5 → yldB (V 0 (r + -1) 0) = true) := Lib.hid (fun r h1 h2 => by
            by_cases h : r = s
            · rw [h]; exact hyl
            · exact HY.out r (by omega) h2)
          have LEN := Lib.hid (fallL_len V t)
          clear hyl
          go_wp2_with fail
          refine (lay_any _ V (fallL V t) _ (w3.heap.size + 1) _ NR.out WF.out (hv3.grow (by exact grown_of)) (by have := LN.out; omega) (owns_grown OWL.out (by exact grown_of))).mono ?_
          rintro e w5 ⟨v5, rfl, hv5, _t, hw⟩
          haveI hb5_4 := named_below (w := w4) hw
          haveI hb5_3 := named_below (w := w3) hw
          haveI hb5_1 := named_below (w := w1) hw
          have hc5 := named_cell hw
          have hz5 := named_frozen hw
          have hh5 := named_heap hw
          haveI hi5 := named_in hw
          haveI hb5 := named_below (w := w) hw
          clear hw
          have HV5 := Lib.hid hv5
          obtain ⟨f2, caps2, rfl, hvw⟩ := hv5
          have hne : ∀ W : World, (binOp .eql 31 (.func (.func f2) #[] caps2) .nilFunc).run Try.prog W = .ok (.bool false) W := fun W => func_nil f2 caps2 W
          clear hvw
          go_wp2_with fail
          refine (NEXT _ _ (HV5.out.grow (by exact grown_of))).mono ?_
          rintro e w6 ⟨v6, rfl, ho6, _t, hw⟩
          haveI hb6_5 := named_below (w := w5) hw
          haveI hb6_4 := named_below (w := w4) hw
          haveI hb6_3 := named_below (w := w3) hw
          haveI hb6_1 := named_below (w := w1) hw
          have hc6 := named_cell hw
          have hz6 := named_frozen hw
          have hh6 := named_heap hw
          haveI hi6 := named_in hw
          haveI hb6 := named_below (w := w) hw
          clear hw
          have ho6' : w6.ownsRow _ 36 4 v6 2 (chV [(0, s, 0, V 0 (s + -1) 0), (0, s + -1, 0, 3)]) := ho6
          obtain ⟨g6, cp6, rfl, hg6, _, _, hc6x⟩ := owns_some ho6' (by omega)
          have HX := Lib.hid hc6x
          have HW64 := Lib.hid (grown_of (w := w4) (W := w6))
          have OW6 := Lib.hid (owns_grown OWL.out HW64.out)
          have HNE : Hid (some g6 ≠ (Value.slice ogL (fallL V t).length cpL).ownBlock ∧ g6 < w6.heap.size) := Lib.hid ⟨fun e => by
            have h1 := (OWL.out.lt _ e.symm).2
            have h2 := (grown_now (w := w4) (W := w5)).size
            omega, (ho6'.lt g6 rfl).2⟩
          clear ho6 ho6' hc6x hg6
          go_wp2_with (at_builtin; refine wpList_append_own _ rfl (.tmp 70) (.tmp 71) 28 rfl (w3.heap.size + 1) 36 i0 _ 4 32 Try.underlying28 iz0 iz1 iz2 iz3 rfl (by omega) _ _ _ rfl OW6.out _ 2 cp6 (chV [(0, s, 0, V 0 (s + -1) 0), (0, s + -1, 0, 3)]) rfl rfl (row_news HX.out) (by simp [chV, Value.oneCell']) (by have := LN.out; unfold maxLen; omega) (by have := LN.out; omega) (by have := HNE.out.2; have := (grown_now (w := w3) (W := w6)).size; have := (OW6.out); have := World.block_lt_of_cell? w4 _ c0; have := (grown_now (w := w4) (W := w6)).size; simp at *; omega) ?_; intro v' w7 hown1 hgrow _; obtain ⟨⟨k0, k1, k2, kf⟩, hFN⟩ := fall_step hs HF.out HW64.out hown1 hgrow; have x4 := (hgrow.cell_far ⟨g6, 4, none⟩ HNE.out.2 HNE.out.1).trans (HX.out 4 _ rfl); have x5 := (hgrow.cell_far ⟨g6, 5, none⟩ HNE.out.2 HNE.out.1).trans (HX.out 5 _ rfl); have x6 := (hgrow.cell_far ⟨g6, 6, none⟩ HNE.out.2 HNE.out.1).trans (HX.out 6 _ rfl); have kf0 := kf 0; have kf1 := kf 1; have kf2 := kf 2; haveI := in_of_cell k0; haveI := in_of_cell x4; have HFN := Lib.hid hFN; clear hFN kf hown1 hgrow)
          go_roundw
          case rel => exact ⟨t + 1, s + -1, by omega, by omega, by go_num, HFN.out, HY2⟩
          case measure => simp [intOf]; omega
set_option maxRecDepth 100000 in
theorem lifted (os : Os) (started : os.Started) (H : Type) (enc : TypeId × Value → H) :
    ReturnsInHanded {} Try.checked os 5 .any (Rows.flowFallsSpec.pre6 enc Try.prog Try.f5 Rows.flowFallsRow.domain false) (Rows.flowFallsSpec.post enc Try.prog Try.f5 false true false false) := by
  refine returnsInHanded_of_change (C := Try.checked) own started (by kernel_rfl) Try.func5
    (ChangeSpec.witness6 (enc := enc) (C := Try.checked) false ⟨#[], #[.slice none 0 0], []⟩ 8 (by kernel_rfl) (by kernel_rfl) (by kernel_rfl) (by kernel_rfl)) ?_
  intro W base args ds gs before hval0 hW hcnd hsz
  have hval : ∀ (j : Nat) t v, Try.f5.params[j]? = some t → args[j]? = some v → Value.okWide Try.prog W .any base t v := hval0
  have hW' := hW
  obtain ⟨p, q, hA0, hV, rfl, hfz, hnd⟩ := hW
  have hA : DataW.TrodAll enc Try.prog W 0 (fun _ => true) true Try.f5.params.toList args.toList ds p := hA0
  rw [Try.params5] at hA hval
  obtain ⟨v0, vs0, d0, ds0, p0, q0, hargs, rfl, rfl, h0, r0⟩ := trodAll_cons hA
  obtain ⟨rfl, rfl, rfl⟩ := trodAll_nil r0
  obtain rfl : args = #[v0] := by cases args; simp_all
  obtain ⟨rfl, rfl⟩ := trodVars_none hV
  obtain ⟨bs0, hs0⟩ := open_ints1 Try.underlying22 Try.underlying3 (by kernel_rfl) (hval 0 22 v0 rfl rfl) h0
  simp only [List.append_nil] at hW'
  refine (walk W v0 bs0 hs0).mono fun e W' ⟨he, g, hg⟩ => ?_
  subst he
  subst hg
  exact ⟨_, rfl, law_post laidOut rfl rfl (by kernel_rfl) Try.underlying4 (by rw [Try.params5]; decide +kernel) hW' (ext_below _ _)⟩

theorem over : Rows.flowFallsRow.holds Try.pinned (OpenSpec.ofChange Rows.flowFallsSpec) :=
  OpenClaim.holds_of_wide 5 Try.f5 rfl rfl rfl rfl rfl rfl rfl ⟨rfl, rfl, rfl, rfl, rfl⟩ rfl rfl rfl rfl rfl (by kernel_rfl) Try.func5 (by kernel_rfl)
    (of_decide_eq_true (by kernel_rfl)) (by unfold Func.isWrapper; first | (rw [if_pos (by decide +kernel)]; kernel_rfl) | (rw [if_neg (by decide +kernel)]; exact ⟨rfl, rfl⟩))
    (fun os started H enc _ => lifted os started H enc)

theorem proved : Rows.FlowFallsSaid := over
#print axioms proved
end flowFalls
end Go.Proofs.Ytjejobfhddlmeaa
