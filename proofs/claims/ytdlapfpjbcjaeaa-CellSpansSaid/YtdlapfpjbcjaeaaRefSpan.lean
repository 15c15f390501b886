/-
  The cells that a box overlaps: what the document's function hands back: the same.
-/
import Derived.Test.YtdlapfpjbcjaeaaSpan
import Derived.Deep.RegionHeld3
import Derived.Handy
import Derived.Deep.CutRange
namespace Go.Proofs.Ytdlapfpjbcjaeaa
open Go.RowKit
attribute [local go_sem] ext_ext drew_ext ext_drew ext_cell ext_frozen in_lt in_le in_ne in_en in_ne1 in_en1 in_le1 in_ltn in_len in_nen in_enn size_le ite_max ite_min
set_option linter.unusedVariables false
set_option linter.unusedSimpArgs false

theorem setCell_self {w : World} {b o : Nat} {v : Value} (h : w.cell? ⟨b, o, none⟩ = some v) : w.setCell ⟨b, o, none⟩ v = w := by
  unfold World.setCell
  congr 1
  apply Array.ext
  · simp
  · intro i h1 h2
    rw [Array.getElem_modify]
    split
    · rename_i hb
      subst hb
      simp only [World.cell?] at h
      have hi : w.heap[b]? = some w.heap[b] := by simp [h2]
      rw [hi] at h
      generalize w.heap[b] = o' at *
      cases o' with
      | cells c elem frozen =>
        simp only [Option.isSome_none, Bool.false_eq_true, if_false] at h ⊢
        congr 1
        have h3 : c[o]? = some v := by simpa using h
        apply Array.ext
        · simp
        · intro j h4 h5
          rw [Array.getElem_setIfInBounds (by simpa using h5)]
          split
          · rename_i hj
            subst hj
            rw [Array.getElem?_eq_some_iff] at h3
            exact h3.2.symm
          · rfl
      | _ => rfl
    · rfl

theorem cell_far {w : World} {b o n i : Nat} {v : Value} (h : n ≠ b) : (w.setCell ⟨b, o, none⟩ v).cell? ⟨n, i, none⟩ = w.cell? ⟨n, i, none⟩ := by
  unfold World.setCell World.cell?
  simp [Array.getElem?_modify, Ne.symm h]

theorem setCell_twice (w : World) (blk off : Nat) (v v' : Value) : (w.setCell ⟨blk, off, none⟩ v).setCell ⟨blk, off, none⟩ v' = w.setCell ⟨blk, off, none⟩ v' := by
  unfold World.setCell
  congr 1
  apply Array.ext
  · simp
  · intro i h1 h2
    simp only [Array.getElem_modify]
    split
    · rename_i hb
      generalize w.heap[i]'(by simpa using h1) = o'
      cases o' with
      | cells c elem frozen => simp
      | _ => rfl
    · rfl

theorem refaxis0_any (a b c : Int) (w : World) : Calls Try.prog 57 #[.agg #[.int .i64 a, .int .i64 b, .int .i64 c], .int .i64 0] w fun e w' => e = .returned (.int .i64 a) ∧ ∃ f, w' = ext w f := by
  go_enter Try.func57, Try.ntmps57
  go_wp2
  go_ret
  exact ⟨rfl, grown_of⟩
theorem refaxis1_any (a b c : Int) (w : World) : Calls Try.prog 57 #[.agg #[.int .i64 a, .int .i64 b, .int .i64 c], .int .i64 1] w fun e w' => e = .returned (.int .i64 b) ∧ ∃ f, w' = ext w f := by
  go_enter Try.func57, Try.ntmps57
  go_wp2
  go_ret
  exact ⟨rfl, grown_of⟩
theorem refaxis2_any (a b c : Int) (w : World) : Calls Try.prog 57 #[.agg #[.int .i64 a, .int .i64 b, .int .i64 c], .int .i64 2] w fun e w' => e = .returned (.int .i64 c) ∧ ∃ f, w' = ext w f := by
  go_enter Try.func57, Try.ntmps57
  go_wp2
  go_ret
  exact ⟨rfl, grown_of⟩

/-- A side that may be: both its ends within the bounds, in their order. -/
def Side (n m : Int) : Prop := fcS n = n ∧ fcS m = m ∧ n ≤ m
/-- Of an axis: the greatest cell is one less than the end's. -/
def lessB (n m : Int) : Bool := decide (flS m * 65536 = m) && decide (flS n < flS m)
def topS (n m : Int) : Int := thinS n m (flS n) (flS (faS m (-1)))
theorem side_fl {n m : Int} (h : Side n m) : flS n = n / 65536 ∧ flS m = m / 65536 ∧ -140737488355328 ≤ n ∧ m ≤ 140737488355328 ∧ n ≤ m := by
  obtain ⟨h1, h2, h3⟩ := h
  have b1 := fcS_bd n
  have b2 := fcS_bd m
  refine ⟨by unfold flS; rw [h1], by unfold flS; rw [h2], by omega, by omega, h3⟩
theorem side_top {n m : Int} (h : Side n m) : topS n m = if n = m then n / 65536 else (m - 1) / 65536 := by
  obtain ⟨e1, e2, e3, e4, e5⟩ := side_fl h
  unfold topS thinS
  split
  · exact e1
  · have : faS m (-1) = m - 1 := by
      unfold faS
      rw [h.2.1, show fcS (-1) = -1 by decide]
      exact fcS_in (by omega) (by omega)
    rw [this]
    unfold flS
    rw [fcS_in (by omega) (by omega)]
theorem side_void {n m : Int} (h : Side n m) : voidS n m = decide (n = m ∧ n % 65536 = 0) := by
  unfold voidS frS
  rw [h.1]
  rw [Bool.eq_iff_iff]
  simp
theorem side_cases {n m : Int} (h : Side n m) (hv : voidS n m = false) :
    ((flS m * 65536 == m) = false ∧ lessB n m = false ∧ topS n m = flS m) ∨ ((flS m * 65536 == m) = true ∧ flS n < flS m ∧ lessB n m = true ∧ topS n m = flS m - 1) := by
  obtain ⟨e1, e2, e3, e4, e5⟩ := side_fl h
  rw [side_void h, decide_eq_false_iff_not] at hv
  unfold lessB
  rw [side_top h, e1, e2]
  by_cases h1 : m / 65536 * 65536 = m
  · have h2 : n ≠ m := fun e => hv ⟨e, by subst e; omega⟩
    refine .inr ⟨by simp [h1], by omega, ?_, ?_⟩
    · rw [Bool.and_eq_true, decide_eq_true_eq, decide_eq_true_eq]
      exact ⟨h1, by omega⟩
    · rw [if_neg h2]
      omega
  · refine .inl ⟨by simp [h1], by simp [h1], ?_⟩
    split <;> omega
theorem side_full {n m : Int} (h : Side n m) (hv : voidS n m = true) : n = m ∧ flS n * 65536 = n := by
  obtain ⟨e1, e2, e3, e4, e5⟩ := side_fl h
  rw [side_void h, decide_eq_true_eq] at hv
  exact ⟨hv.1, by rw [e1]; omega⟩
theorem side_open {n m : Int} (h : Side n m) (hv : voidS n m = false) : (n == m) = false ∨ ((n == m) = true ∧ (flS n * 65536 == n) = false) := by
  obtain ⟨e1, e2, e3, e4, e5⟩ := side_fl h
  rw [side_void h, decide_eq_false_iff_not] at hv
  by_cases h1 : n = m
  · refine .inr ⟨by simp [h1], ?_⟩
    rw [beq_eq_false_iff_ne, e1]
    intro h2
    exact hv ⟨h1, by omega⟩
  · exact .inl (by simp [h1])

set_option maxRecDepth 100000 in
set_option maxHeartbeats 8000000 in
theorem refspan_some (a b c d e f : Int) (sa : Side a d) (sb : Side b e) (sc : Side c f) (ha : voidS a d = false) (hb : voidS b e = false) (hc : voidS c f = false) (w : World) :
    Calls Try.prog 40 #[.agg #[.int .i64 a, .int .i64 b, .int .i64 c, .int .i64 d, .int .i64 e, .int .i64 f]] w fun o w' =>
      o = .returned (.tuple #[.agg #[.int .i64 (flS a), .int .i64 (flS b), .int .i64 (flS c)], .agg #[.int .i64 (topS a d), .int .i64 (topS b e), .int .i64 (topS c f)], .bool true]) ∧ ∃ f, w' = ext w f := by
  have ca := side_cases sa ha
  have cb := side_cases sb hb
  have cc := side_cases sc hc
  have oa := side_open sa ha
  have ob := side_open sb hb
  have oc := side_open sc hc
  clear sa sb sc ha hb hc
  obtain ⟨a1, a2⟩ := flS_bd a
  obtain ⟨d1, d2⟩ := flS_bd d
  obtain ⟨b1, b2⟩ := flS_bd b
  obtain ⟨e1, e2⟩ := flS_bd e
  obtain ⟨c1, c2⟩ := flS_bd c
  obtain ⟨f1, f2⟩ := flS_bd f
  go_enter Try.func40, Try.ntmps40
  go_wp2_with fail
  refine wp_loop_rounds 4 ?_
  rw [rounds_succ]
  go_wp2_with fail
  refine (refaxis0_any _ _ _ _).mono ?_
  rintro e w1 ⟨rfl, _t, hw⟩
  have hc1 := named_cell hw
  have hz1 := named_frozen hw
  have hh1 := named_heap hw
  haveI hi1 := named_in hw
  haveI hb1 := named_below (w := w) hw
  clear hw
  go_wp2_with fail
  refine (refaxis0_any _ _ _ _).mono ?_
  rintro e w2 ⟨rfl, _t, hw⟩
  have hc2 := named_cell hw
  have hz2 := named_frozen hw
  have hh2 := named_heap hw
  haveI hi2 := named_in hw
  haveI hb2 := named_below (w := w) hw
  clear hw
  go_upto_region 10 with (first | (go_at_call 50; refine (reffloor_any _ _).mono ?_; rintro e w1 ⟨rfl, rfl⟩))
  go_cut [44] from 10 to 62 (fun v wx => v = .bool (lessB a d) ∧ ∃ g, wx = ext ((w2.setCell ⟨w.heap.size + 1 + 1 + 1, 0, none⟩ (.int .i64 (flS a))).setCell ⟨w.heap.size + 1 + 1 + 1 + 1, 0, none⟩ (.int .i64 (flS d))) g)
  case first =>
    rcases ca with ⟨g1, g2, g3⟩ | ⟨g1, g4, g2, g3⟩
    · have G := Lib.hid g2
      clear g2 g3; (try clear ca); (try clear cb); (try clear cc); clear oa ob oc
      refine wp_region_ext ?_ ?_ ?_
      · kernel_rfl
      · kernel_rfl
      repeat (go_big_quiet_step (fail))
      refine wpQuiet_nil ?_
      rintro wq hq
      go_wp2_with fail
      go_meet
      exact ⟨congrArg Value.bool G.out.symm, hq⟩
    · have G := Lib.hid g2
      clear g2 g3; (try clear ca); (try clear cb); (try clear cc); clear oa ob oc
      refine wp_region_ext ?_ ?_ ?_
      · kernel_rfl
      · kernel_rfl
      repeat (go_big_quiet_step (fail))
      refine wpQuiet_nil ?_
      rintro wq hq
      go_wp2_with fail
      go_meet
      exact ⟨congrArg Value.bool G.out.symm, hq⟩
  case rest =>
    obtain ⟨rfl, _, hw⟩ := hcut
    rename World => w3
    have hc3 := named_cell hw
    have hz3 := named_frozen hw
    have hh3 := named_heap hw
    haveI hi3 := named_in hw
    haveI hb3 := named_below (w := w) hw
    clear hw
    have q0 : w3.cell? ⟨w.heap.size + 1 + 1 + 1 + 1, 0, none⟩ = some (.int .i64 (flS d)) := by go_simp
    go_upto_if 44 with fail
    go_cut [44] from 10 to 62 (fun v wx => wx = w3.setCell ⟨w.heap.size + 1 + 1 + 1 + 1, 0, none⟩ (.int .i64 (topS a d)))
    case first =>
      rcases ca with ⟨g1, g2, g3⟩ | ⟨g1, g4, g2, g3⟩
      · have G := Lib.hid g3
        clear g3; (try clear ca); (try clear cb); (try clear cc); clear oa ob oc
        have hs := setCell_self (w := w3) (b := w.heap.size + 1 + 1 + 1 + 1) (o := 0) (v := .int .i64 (flS d)) (by go_simp)
        rw [g2]
        go_wp2_with fail
        go_meet
        exact by rw [G.out, hs]
      · have G := Lib.hid g3
        clear g3; (try clear ca); (try clear cb); (try clear cc); clear oa ob oc
        rw [g2]
        go_wp2_with fail
        go_meet
        exact by rw [G.out]
    case rest =>
      subst hcut
      have r0 : (w3.setCell ⟨w.heap.size + 1 + 1 + 1 + 1, 0, none⟩ (.int .i64 (topS a d))).cell? ⟨w.heap.size + 1 + 1 + 1 + 1, 0, none⟩ = some (.int .i64 (topS a d)) := by apply World.cell?_setCell_same; exact q0
      go_upto_region 12 with fail
      go_cut [60] from 10 to 62 (fun v wx => v = .bool false ∧ wx = w3.setCell ⟨w.heap.size + 1 + 1 + 1 + 1, 0, none⟩ (.int .i64 (topS a d)))
      case first =>
        rcases oa with g | ⟨g, g2⟩
        · clear ca cb cc; (try clear oa); (try clear ob); (try clear oc)
          go_wp2_with fail
          go_meet
          exact ⟨rfl, rfl⟩
        · clear ca cb cc; (try clear oa); (try clear ob); (try clear oc)
          go_wp2_with fail
          go_meet
          exact ⟨rfl, rfl⟩
      case rest =>
        obtain ⟨rfl, rfl⟩ := hcut
        go_wp2_with fail
        rw [rounds_succ]
        go_wp2_with fail
        refine (refaxis1_any _ _ _ _).mono ?_
        rintro e w4 ⟨rfl, _t, hw⟩
        have hc4 := named_cell hw
        have hz4 := named_frozen hw
        have hh4 := named_heap hw
        haveI hi4 := named_in hw
        haveI hb4 := named_below (w := w) hw
        clear hw
        go_wp2_with fail
        refine (refaxis1_any _ _ _ _).mono ?_
        rintro e w5 ⟨rfl, _t, hw⟩
        have hc5 := named_cell hw
        have hz5 := named_frozen hw
        have hh5 := named_heap hw
        haveI hi5 := named_in hw
        haveI hb5 := named_below (w := w) hw
        clear hw
        go_upto_region 10 with (first | (go_at_call 50; refine (reffloor_any _ _).mono ?_; rintro e w1 ⟨rfl, rfl⟩))
        go_cut [44] from 10 to 62 (fun v wx => v = .bool (lessB b e) ∧ ∃ g, wx = ext ((w5.setCell ⟨w.heap.size + 1 + 1 + 1, 1, none⟩ (.int .i64 (flS b))).setCell ⟨w.heap.size + 1 + 1 + 1 + 1, 1, none⟩ (.int .i64 (flS e))) g)
        case first =>
          rcases cb with ⟨g1, g2, g3⟩ | ⟨g1, g4, g2, g3⟩
          · have G := Lib.hid g2
            clear g2 g3; (try clear ca); (try clear cb); (try clear cc); clear oa ob oc
            refine wp_region_ext ?_ ?_ ?_
            · kernel_rfl
            · kernel_rfl
            repeat (go_big_quiet_step (fail))
            refine wpQuiet_nil ?_
            rintro wq hq
            go_wp2_with fail
            go_meet
            exact ⟨congrArg Value.bool G.out.symm, hq⟩
          · have G := Lib.hid g2
            clear g2 g3; (try clear ca); (try clear cb); (try clear cc); clear oa ob oc
            refine wp_region_ext ?_ ?_ ?_
            · kernel_rfl
            · kernel_rfl
            repeat (go_big_quiet_step (fail))
            refine wpQuiet_nil ?_
            rintro wq hq
            go_wp2_with fail
            go_meet
            exact ⟨congrArg Value.bool G.out.symm, hq⟩
        case rest =>
          obtain ⟨rfl, _, hw⟩ := hcut
          rename World => w6
          have hc6 := named_cell hw
          have hz6 := named_frozen hw
          have hh6 := named_heap hw
          haveI hi6 := named_in hw
          haveI hb6 := named_below (w := w) hw
          clear hw
          have q1 : w6.cell? ⟨w.heap.size + 1 + 1 + 1 + 1, 1, none⟩ = some (.int .i64 (flS e)) := by go_simp
          go_upto_if 44 with fail
          go_cut [44] from 10 to 62 (fun v wx => wx = w6.setCell ⟨w.heap.size + 1 + 1 + 1 + 1, 1, none⟩ (.int .i64 (topS b e)))
          case first =>
            rcases cb with ⟨g1, g2, g3⟩ | ⟨g1, g4, g2, g3⟩
            · have G := Lib.hid g3
              clear g3; (try clear ca); (try clear cb); (try clear cc); clear oa ob oc
              have hs := setCell_self (w := w6) (b := w.heap.size + 1 + 1 + 1 + 1) (o := 1) (v := .int .i64 (flS e)) (by go_simp)
              rw [g2]
              go_wp2_with fail
              go_meet
              exact by rw [G.out, hs]
            · have G := Lib.hid g3
              clear g3; (try clear ca); (try clear cb); (try clear cc); clear oa ob oc
              rw [g2]
              go_wp2_with fail
              go_meet
              exact by rw [G.out]
          case rest =>
            subst hcut
            have r1 : (w6.setCell ⟨w.heap.size + 1 + 1 + 1 + 1, 1, none⟩ (.int .i64 (topS b e))).cell? ⟨w.heap.size + 1 + 1 + 1 + 1, 1, none⟩ = some (.int .i64 (topS b e)) := by apply World.cell?_setCell_same; exact q1
            go_upto_region 12 with fail
            go_cut [60] from 10 to 62 (fun v wx => v = .bool false ∧ wx = w6.setCell ⟨w.heap.size + 1 + 1 + 1 + 1, 1, none⟩ (.int .i64 (topS b e)))
            case first =>
              rcases ob with g | ⟨g, g2⟩
              · clear ca cb cc; (try clear oa); (try clear ob); (try clear oc)
                go_wp2_with fail
                go_meet
                exact ⟨rfl, rfl⟩
              · clear ca cb cc; (try clear oa); (try clear ob); (try clear oc)
                go_wp2_with fail
                go_meet
                exact ⟨rfl, rfl⟩
            case rest =>
              obtain ⟨rfl, rfl⟩ := hcut
              go_wp2_with fail
              rw [rounds_succ]
              go_wp2_with fail
              refine (refaxis2_any _ _ _ _).mono ?_
              rintro e w7 ⟨rfl, _t, hw⟩
              have hc7 := named_cell hw
              have hz7 := named_frozen hw
              have hh7 := named_heap hw
              haveI hi7 := named_in hw
              haveI hb7 := named_below (w := w) hw
              clear hw
              go_wp2_with fail
              refine (refaxis2_any _ _ _ _).mono ?_
              rintro e w8 ⟨rfl, _t, hw⟩
              have hc8 := named_cell hw
              have hz8 := named_frozen hw
              have hh8 := named_heap hw
              haveI hi8 := named_in hw
              haveI hb8 := named_below (w := w) hw
              clear hw
              go_upto_region 10 with (first | (go_at_call 50; refine (reffloor_any _ _).mono ?_; rintro e w1 ⟨rfl, rfl⟩))
              go_cut [44] from 10 to 62 (fun v wx => v = .bool (lessB c f) ∧ ∃ g, wx = ext ((w8.setCell ⟨w.heap.size + 1 + 1 + 1, 2, none⟩ (.int .i64 (flS c))).setCell ⟨w.heap.size + 1 + 1 + 1 + 1, 2, none⟩ (.int .i64 (flS f))) g)
              case first =>
                rcases cc with ⟨g1, g2, g3⟩ | ⟨g1, g4, g2, g3⟩
                · have G := Lib.hid g2
                  clear g2 g3; (try clear ca); (try clear cb); (try clear cc); clear oa ob oc
                  refine wp_region_ext ?_ ?_ ?_
                  · kernel_rfl
                  · kernel_rfl
                  repeat (go_big_quiet_step (fail))
                  refine wpQuiet_nil ?_
                  rintro wq hq
                  go_wp2_with fail
                  go_meet
                  exact ⟨congrArg Value.bool G.out.symm, hq⟩
                · have G := Lib.hid g2
                  clear g2 g3; (try clear ca); (try clear cb); (try clear cc); clear oa ob oc
                  refine wp_region_ext ?_ ?_ ?_
                  · kernel_rfl
                  · kernel_rfl
                  repeat (go_big_quiet_step (fail))
                  refine wpQuiet_nil ?_
                  rintro wq hq
                  go_wp2_with fail
                  go_meet
                  exact ⟨congrArg Value.bool G.out.symm, hq⟩
              case rest =>
                obtain ⟨rfl, _, hw⟩ := hcut
                rename World => w9
                have hc9 := named_cell hw
                have hz9 := named_frozen hw
                have hh9 := named_heap hw
                haveI hi9 := named_in hw
                haveI hb9 := named_below (w := w) hw
                clear hw
                have q2 : w9.cell? ⟨w.heap.size + 1 + 1 + 1 + 1, 2, none⟩ = some (.int .i64 (flS f)) := by go_simp
                go_upto_if 44 with fail
                go_cut [44] from 10 to 62 (fun v wx => wx = w9.setCell ⟨w.heap.size + 1 + 1 + 1 + 1, 2, none⟩ (.int .i64 (topS c f)))
                case first =>
                  rcases cc with ⟨g1, g2, g3⟩ | ⟨g1, g4, g2, g3⟩
                  · have G := Lib.hid g3
                    clear g3; (try clear ca); (try clear cb); (try clear cc); clear oa ob oc
                    have hs := setCell_self (w := w9) (b := w.heap.size + 1 + 1 + 1 + 1) (o := 2) (v := .int .i64 (flS f)) (by go_simp)
                    rw [g2]
                    go_wp2_with fail
                    go_meet
                    exact by rw [G.out, hs]
                  · have G := Lib.hid g3
                    clear g3; (try clear ca); (try clear cb); (try clear cc); clear oa ob oc
                    rw [g2]
                    go_wp2_with fail
                    go_meet
                    exact by rw [G.out]
                case rest =>
                  subst hcut
                  have r2 : (w9.setCell ⟨w.heap.size + 1 + 1 + 1 + 1, 2, none⟩ (.int .i64 (topS c f))).cell? ⟨w.heap.size + 1 + 1 + 1 + 1, 2, none⟩ = some (.int .i64 (topS c f)) := by apply World.cell?_setCell_same; exact q2
                  go_upto_region 12 with fail
                  go_cut [60] from 10 to 62 (fun v wx => v = .bool false ∧ wx = w9.setCell ⟨w.heap.size + 1 + 1 + 1 + 1, 2, none⟩ (.int .i64 (topS c f)))
                  case first =>
                    rcases oc with g | ⟨g, g2⟩
                    · clear ca cb cc; (try clear oa); (try clear ob); (try clear oc)
                      go_wp2_with fail
                      go_meet
                      exact ⟨rfl, rfl⟩
                    · clear ca cb cc; (try clear oa); (try clear ob); (try clear oc)
                      go_wp2_with fail
                      go_meet
                      exact ⟨rfl, rfl⟩
                  case rest =>
                    obtain ⟨rfl, rfl⟩ := hcut
                    go_wp2_with fail
                    rw [rounds_succ]
                    go_wp2_with fail
                    clear ca cb cc oa ob oc
                    obtain ⟨WF, hWF⟩ : ∃ W, W = (w9.setCell ⟨w.heap.size + 1 + 1 + 1 + 1, 2, none⟩ (.int .i64 (topS c f))) := ⟨_, rfl⟩
                    have s0 : WF.cell? ⟨w.heap.size + 1 + 1 + 1, 0, none⟩ = some (.int .i64 (flS a)) := by subst hWF; go_simp
                    have t0 : WF.cell? ⟨w.heap.size + 1 + 1 + 1 + 1, 0, none⟩ = some (.int .i64 (topS a d)) := by subst hWF; go_simp
                    have x0 : WF.cell? ⟨w.heap.size + 1, 0, none⟩ = some (.int .i64 0) := by subst hWF; go_simp
                    have y0 : WF.cell? ⟨w.heap.size + 1 + 1, 0, none⟩ = some (.int .i64 0) := by subst hWF; go_simp
                    have xf0 : WF.frozen? ⟨w.heap.size + 1, 0, none⟩ = false := by subst hWF; go_simp
                    have yf0 : WF.frozen? ⟨w.heap.size + 1 + 1, 0, none⟩ = false := by subst hWF; go_simp
                    have s1 : WF.cell? ⟨w.heap.size + 1 + 1 + 1, 1, none⟩ = some (.int .i64 (flS b)) := by subst hWF; go_simp
                    have t1 : WF.cell? ⟨w.heap.size + 1 + 1 + 1 + 1, 1, none⟩ = some (.int .i64 (topS b e)) := by subst hWF; go_simp
                    have x1 : WF.cell? ⟨w.heap.size + 1, 1, none⟩ = some (.int .i64 0) := by subst hWF; go_simp
                    have y1 : WF.cell? ⟨w.heap.size + 1 + 1, 1, none⟩ = some (.int .i64 0) := by subst hWF; go_simp
                    have xf1 : WF.frozen? ⟨w.heap.size + 1, 1, none⟩ = false := by subst hWF; go_simp
                    have yf1 : WF.frozen? ⟨w.heap.size + 1 + 1, 1, none⟩ = false := by subst hWF; go_simp
                    have s2 : WF.cell? ⟨w.heap.size + 1 + 1 + 1, 2, none⟩ = some (.int .i64 (flS c)) := by subst hWF; go_simp
                    have t2 : WF.cell? ⟨w.heap.size + 1 + 1 + 1 + 1, 2, none⟩ = some (.int .i64 (topS c f)) := by subst hWF; go_simp
                    have x2 : WF.cell? ⟨w.heap.size + 1, 2, none⟩ = some (.int .i64 0) := by subst hWF; go_simp
                    have y2 : WF.cell? ⟨w.heap.size + 1 + 1, 2, none⟩ = some (.int .i64 0) := by subst hWF; go_simp
                    have xf2 : WF.frozen? ⟨w.heap.size + 1, 2, none⟩ = false := by subst hWF; go_simp
                    have yf2 : WF.frozen? ⟨w.heap.size + 1 + 1, 2, none⟩ = false := by subst hWF; go_simp
                    haveI hbF : Nonempty (Below w.heap.size w WF) := by subst hWF; exact ⟨grown_now⟩
                    have _n : w.heap.size + 1 + 1 + 1 ≠ w.heap.size + 1 := by omega
                    have _n : w.heap.size + 1 + 1 + 1 + 1 ≠ w.heap.size + 1 := by omega
                    have _n : w.heap.size + 1 + 1 + 1 ≠ w.heap.size + 1 + 1 := by omega
                    have _n : w.heap.size + 1 + 1 + 1 + 1 ≠ w.heap.size + 1 + 1 := by omega
                    rw [← hWF]
                    clear hWF
                    clear hc1 hz1 hh1 hi1 hb1 hc2 hz2 hh2 hi2 hb2 hc3 hz3 hh3 hi3 hb3 hc4 hz4 hh4 hi4 hb4 hc5 hz5 hh5 hi5 hb5 hc6 hz6 hh6 hi6 hb6 hc7 hz7 hh7 hi7 hb7 hc8 hz8 hh8 hi8 hb8 hc9 hz9 hh9 hi9 hb9
                    clear q0 q1 q2 r0 r1 r2
                    go_region_held3 (fun w' => w'.cell? ⟨w.heap.size + 1 + 1 + 1, 0, none⟩ = some (.int .i64 (flS a)) ∧ w'.cell? ⟨w.heap.size + 1 + 1 + 1, 1, none⟩ = some (.int .i64 (flS b)) ∧ w'.cell? ⟨w.heap.size + 1 + 1 + 1, 2, none⟩ = some (.int .i64 (flS c)) ∧ w'.cell? ⟨w.heap.size + 1 + 1 + 1 + 1, 0, none⟩ = some (.int .i64 (topS a d)) ∧ w'.cell? ⟨w.heap.size + 1 + 1 + 1 + 1, 1, none⟩ = some (.int .i64 (topS b e)) ∧ w'.cell? ⟨w.heap.size + 1 + 1 + 1 + 1, 2, none⟩ = some (.int .i64 (topS c f))) (((try dsimp only); refine ⟨?_, ?_, ?_, ?_, ?_, ?_⟩ <;> ((try rw [World.cell?_drew]); (repeat rw [cell_far (by assumption)]); (try rw [World.cell?_drew]); first | (with_reducible assumption) | fail))) (fail)
                    go_wp2
                    refine bodyPost_ret (by simp [results, Try.results40, go_sem, x0, x1, x2, y0, y1, y2]; try rfl) rfl ?_
                    exact ⟨rfl, grown_of⟩
end Go.Proofs.Ytdlapfpjbcjaeaa
