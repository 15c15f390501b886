/-
  What feeds a cell: the Go function, in a plain definition.
-/
import Derived.Test.YtjejobfhddlmeaaSides
import Derived.Handy
import Derived.Deep.CutRange
import Derived.Deep.CutBlock
namespace Go.Proofs.Ytjejobfhddlmeaa
open Go.RowKit
attribute [local go_sem] ext_ext drew_ext ext_drew ext_cell ext_frozen in_lt in_le in_ne in_en in_ne1 in_en1 in_le1 in_ltn in_len in_nen in_enn size_le ite_max ite_min
set_option linter.unusedVariables false
set_option linter.unusedSimpArgs false
attribute [local go_sem] nb_under nb_over

/-- The least level so far, and one block more. -/
def lstep (l b : Int) : Int := if 0 ≤ lvlS b then min l (lvlS b) else l
theorem lstep_in {l b : Int} (h : 0 ≤ lvlS b) : lstep l b = min l (lvlS b) := by unfold lstep; rw [if_pos h]
theorem lstep_out {l b : Int} (h : ¬ 0 ≤ lvlS b) : lstep l b = l := by unfold lstep; rw [if_neg h]
theorem lvl_bd (b : Int) : -1 ≤ lvlS b ∧ lvlS b ≤ 7 := by unfold lvlS; split <;> omega
theorem lstep_bd {l b : Int} (h1 : 0 ≤ l) (h2 : l ≤ 7) : 0 ≤ lstep l b ∧ lstep l b ≤ 7 := by have := lvl_bd b; unfold lstep; split <;> omega
/-- The least level beside a cell, 7 at most. -/
def leastS (V : Int → Int → Int → Int) (x y z : Int) : Int := lstep (lstep (lstep (lstep 7 (V (x + -1) y z)) (V (x + 1) y z)) (V x y (z + -1))) (V x y (z + 1))
theorem least_bd (V : Int → Int → Int → Int) (x y z : Int) : 0 ≤ leastS V x y z ∧ leastS V x y z ≤ 7 := by
  have h1 := lstep_bd (l := 7) (b := V (x + -1) y z) (by omega) (by omega)
  have h2 := lstep_bd (b := V (x + 1) y z) h1.1 h1.2
  have h3 := lstep_bd (b := V x y (z + -1)) h2.1 h2.2
  exact lstep_bd h3.1 h3.2
/-- The level that feeds a cell, and whether anything does. -/
def fedN (V : Int → Int → Int → Int) (x y z : Int) : Int := if wetB (V x (y + 1) z) then 1 else if leastS V x y z = 7 then 0 else leastS V x y z + 1
def fedB (V : Int → Int → Int → Int) (x y z : Int) : Bool := wetB (V x (y + 1) z) || decide (leastS V x y z ≠ 7)

set_option maxHeartbeats 4000000 in
theorem feeds_any (v : Value) (V : Int → Int → Int → Int) (x y z : Int) (w : World) (hv : ViewVal Try.prog v V w) (hx : Mid x) (hy : Mid y) (hz : Mid z) :
    Calls Try.prog 22 #[v, .agg #[.int .i64 x, .int .i64 y, .int .i64 z]] w fun e w' => e = .returned (.tuple #[.int .i64 (fedN V x y z), .bool (fedB V x y z)]) ∧ ∃ f, w' = ext w f := by
  obtain ⟨f, caps, rfl, hv⟩ := hv
  have hvf := hv.enters
  have LB := Lib.hid (least_bd V x y z)
  have FN := Lib.hid (show fedN V x y z = if wetB (V x (y + 1) z) then 1 else if leastS V x y z = 7 then 0 else leastS V x y z + 1 from rfl)
  have FB := Lib.hid (show fedB V x y z = (wetB (V x (y + 1) z) || decide (leastS V x y z ≠ 7)) from rfl)
  go_enter Try.func22, Try.ntmps22
  go_wp2_with fail
  refine (nb_any _ _ _ _ hx hy hz).mono ?_
  rintro e w1 ⟨rfl, _t, hw⟩
  have hc1 := named_cell hw
  have hz1 := named_frozen hw
  have hh1 := named_heap hw
  haveI hi1 := named_in hw
  haveI hb1 := named_below (w := w) hw
  clear hw
  go_wp2_with fail
  refine (hv.tells _ (by exact grown_of) x (y + 1) z (by first | exact hx.wid | exact hx.up | exact hx.down) (by first | exact hy.wid | exact hy.up | exact hy.down) (by first | exact hz.wid | exact hz.up | exact hz.down)).mono ?_
  rintro e w2 ⟨rfl, _t, hw⟩
  have hc2 := named_cell hw
  have hz2 := named_frozen hw
  have hh2 := named_heap hw
  haveI hi2 := named_in hw
  haveI hb2 := named_below (w := w) hw
  clear hw
  rcases hwt : wetB (V x (y + 1) z) with _ | _
  · go_wp2_with (first | (go_at_call 33; refine (wet_any _ _).mono ?_; rintro e w1 ⟨rfl, rfl⟩))
    refine (beside_any _ _ _ _ hx hy hz).mono ?_
    rintro e w3 ⟨v3, rfl, ho3, _t, hw⟩
    have hc3 := named_cell hw
    have hz3 := named_frozen hw
    have hh3 := named_heap hw
    haveI hi3 := named_in hw
    haveI hb3 := named_below (w := w) hw
    clear hw
    obtain ⟨g, cap, rfl, _, _, _, hcells⟩ := owns_some ho3 (by omega)
    have k0 := hcells 0 _ rfl
    have k1 := hcells 1 _ rfl
    have k2 := hcells 2 _ rfl
    have k3 := hcells 3 _ rfl
    have k4 := hcells 4 _ rfl
    have k5 := hcells 5 _ rfl
    have k6 := hcells 6 _ rfl
    have k7 := hcells 7 _ rfl
    have k8 := hcells 8 _ rfl
    have k9 := hcells 9 _ rfl
    have k10 := hcells 10 _ rfl
    have k11 := hcells 11 _ rfl
    haveI := in_of_cell k0
    clear hcells ho3
    go_wp2_with fail
    refine wp_loop_rounds 5 ?_
    rw [rounds_succ]
    go_upto_block 1 with fail
    go_cut [6] from 20 to 31 (fun v wx => v = .int .i64 (lstep 7 (V (x + -1) (y) (z))) ∧ ∃ g, wx = ext w3 g)
    case first =>
      by_cases h : 0 ≤ lvlS (V (x + -1) (y) (z))
      · have H := Lib.hid (lstep_in (l := 7) h)
        go_wp2_with fail
        refine (hv.tells _ (by exact grown_of) _ _ _ (by first | exact hx.wid | exact hx.up | exact hx.down) (by first | exact hy.wid | exact hy.up | exact hy.down) (by first | exact hz.wid | exact hz.up | exact hz.down)).mono ?_
        rintro e w1 ⟨rfl, t1, rfl⟩
        go_wp2_with (first | (go_at_call 35; refine (lvl_any _ _).mono ?_; rintro e w1 ⟨rfl, rfl⟩))
        go_meet
        exact ⟨by rw [H.out]; try rw [Int.min_comm], grown_of⟩
      · have H := Lib.hid (lstep_out (l := 7) h)
        go_wp2_with fail
        refine (hv.tells _ (by exact grown_of) _ _ _ (by first | exact hx.wid | exact hx.up | exact hx.down) (by first | exact hy.wid | exact hy.up | exact hy.down) (by first | exact hz.wid | exact hz.up | exact hz.down)).mono ?_
        rintro e w1 ⟨rfl, t1, rfl⟩
        go_wp2_with (first | (go_at_call 35; refine (lvl_any _ _).mono ?_; rintro e w1 ⟨rfl, rfl⟩))
        go_meet
        exact ⟨by rw [H.out]; try rw [Int.min_comm], grown_of⟩
    case rest =>
      obtain ⟨rfl, _, hw⟩ := hcut
      rename World => w4
      have hc4 := named_cell hw
      have hz4 := named_frozen hw
      have hh4 := named_heap hw
      haveI hi4 := named_in hw
      haveI hb4 := named_below (w := w) hw
      clear hw
      go_wp2_with fail
      rw [rounds_succ]
      go_upto_block 1 with fail
      go_cut [6] from 20 to 31 (fun v wx => v = .int .i64 (lstep (lstep 7 (V (x + -1) (y) (z))) (V (x + 1) (y) (z))) ∧ ∃ g, wx = ext w4 g)
      case first =>
        by_cases h : 0 ≤ lvlS (V (x + 1) (y) (z))
        · have H := Lib.hid (lstep_in (l := lstep 7 (V (x + -1) (y) (z))) h)
          go_wp2_with fail
          refine (hv.tells _ (by exact grown_of) _ _ _ (by first | exact hx.wid | exact hx.up | exact hx.down) (by first | exact hy.wid | exact hy.up | exact hy.down) (by first | exact hz.wid | exact hz.up | exact hz.down)).mono ?_
          rintro e w1 ⟨rfl, t1, rfl⟩
          go_wp2_with (first | (go_at_call 35; refine (lvl_any _ _).mono ?_; rintro e w1 ⟨rfl, rfl⟩))
          go_meet
          exact ⟨by rw [H.out]; try rw [Int.min_comm], grown_of⟩
        · have H := Lib.hid (lstep_out (l := lstep 7 (V (x + -1) (y) (z))) h)
          go_wp2_with fail
          refine (hv.tells _ (by exact grown_of) _ _ _ (by first | exact hx.wid | exact hx.up | exact hx.down) (by first | exact hy.wid | exact hy.up | exact hy.down) (by first | exact hz.wid | exact hz.up | exact hz.down)).mono ?_
          rintro e w1 ⟨rfl, t1, rfl⟩
          go_wp2_with (first | (go_at_call 35; refine (lvl_any _ _).mono ?_; rintro e w1 ⟨rfl, rfl⟩))
          go_meet
          exact ⟨by rw [H.out]; try rw [Int.min_comm], grown_of⟩
      case rest =>
        obtain ⟨rfl, _, hw⟩ := hcut
        rename World => w5
        have hc5 := named_cell hw
        have hz5 := named_frozen hw
        have hh5 := named_heap hw
        haveI hi5 := named_in hw
        haveI hb5 := named_below (w := w) hw
        clear hw
        go_wp2_with fail
        rw [rounds_succ]
        go_upto_block 1 with fail
        go_cut [6] from 20 to 31 (fun v wx => v = .int .i64 (lstep (lstep (lstep 7 (V (x + -1) (y) (z))) (V (x + 1) (y) (z))) (V (x) (y) (z + -1))) ∧ ∃ g, wx = ext w5 g)
        case first =>
          by_cases h : 0 ≤ lvlS (V (x) (y) (z + -1))
          · have H := Lib.hid (lstep_in (l := lstep (lstep 7 (V (x + -1) (y) (z))) (V (x + 1) (y) (z))) h)
            go_wp2_with fail
            refine (hv.tells _ (by exact grown_of) _ _ _ (by first | exact hx.wid | exact hx.up | exact hx.down) (by first | exact hy.wid | exact hy.up | exact hy.down) (by first | exact hz.wid | exact hz.up | exact hz.down)).mono ?_
            rintro e w1 ⟨rfl, t1, rfl⟩
            go_wp2_with (first | (go_at_call 35; refine (lvl_any _ _).mono ?_; rintro e w1 ⟨rfl, rfl⟩))
            go_meet
            exact ⟨by rw [H.out]; try rw [Int.min_comm], grown_of⟩
          · have H := Lib.hid (lstep_out (l := lstep (lstep 7 (V (x + -1) (y) (z))) (V (x + 1) (y) (z))) h)
            go_wp2_with fail
            refine (hv.tells _ (by exact grown_of) _ _ _ (by first | exact hx.wid | exact hx.up | exact hx.down) (by first | exact hy.wid | exact hy.up | exact hy.down) (by first | exact hz.wid | exact hz.up | exact hz.down)).mono ?_
            rintro e w1 ⟨rfl, t1, rfl⟩
            go_wp2_with (first | (go_at_call 35; refine (lvl_any _ _).mono ?_; rintro e w1 ⟨rfl, rfl⟩))
            go_meet
            exact ⟨by rw [H.out]; try rw [Int.min_comm], grown_of⟩
        case rest =>
          obtain ⟨rfl, _, hw⟩ := hcut
          rename World => w6
          have hc6 := named_cell hw
          have hz6 := named_frozen hw
          have hh6 := named_heap hw
          haveI hi6 := named_in hw
          haveI hb6 := named_below (w := w) hw
          clear hw
          go_wp2_with fail
          rw [rounds_succ]
          go_upto_block 1 with fail
          go_cut [6] from 20 to 31 (fun v wx => v = .int .i64 (lstep (lstep (lstep (lstep 7 (V (x + -1) (y) (z))) (V (x + 1) (y) (z))) (V (x) (y) (z + -1))) (V (x) (y) (z + 1))) ∧ ∃ g, wx = ext w6 g)
          case first =>
            by_cases h : 0 ≤ lvlS (V (x) (y) (z + 1))
            · have H := Lib.hid (lstep_in (l := lstep (lstep (lstep 7 (V (x + -1) (y) (z))) (V (x + 1) (y) (z))) (V (x) (y) (z + -1))) h)
              go_wp2_with fail
              refine (hv.tells _ (by exact grown_of) _ _ _ (by first | exact hx.wid | exact hx.up | exact hx.down) (by first | exact hy.wid | exact hy.up | exact hy.down) (by first | exact hz.wid | exact hz.up | exact hz.down)).mono ?_
              rintro e w1 ⟨rfl, t1, rfl⟩
              go_wp2_with (first | (go_at_call 35; refine (lvl_any _ _).mono ?_; rintro e w1 ⟨rfl, rfl⟩))
              go_meet
              exact ⟨by rw [H.out]; try rw [Int.min_comm], grown_of⟩
            · have H := Lib.hid (lstep_out (l := lstep (lstep (lstep 7 (V (x + -1) (y) (z))) (V (x + 1) (y) (z))) (V (x) (y) (z + -1))) h)
              go_wp2_with fail
              refine (hv.tells _ (by exact grown_of) _ _ _ (by first | exact hx.wid | exact hx.up | exact hx.down) (by first | exact hy.wid | exact hy.up | exact hy.down) (by first | exact hz.wid | exact hz.up | exact hz.down)).mono ?_
              rintro e w1 ⟨rfl, t1, rfl⟩
              go_wp2_with (first | (go_at_call 35; refine (lvl_any _ _).mono ?_; rintro e w1 ⟨rfl, rfl⟩))
              go_meet
              exact ⟨by rw [H.out]; try rw [Int.min_comm], grown_of⟩
          case rest =>
            obtain ⟨rfl, _, hw⟩ := hcut
            rename World => w7
            have hc7 := named_cell hw
            have hz7 := named_frozen hw
            have hh7 := named_heap hw
            haveI hi7 := named_in hw
            haveI hb7 := named_below (w := w) hw
            clear hw
            have hE : lstep (lstep (lstep (lstep 7 (V (x + -1) (y) (z))) (V (x + 1) (y) (z))) (V (x) (y) (z + -1))) (V (x) (y) (z + 1)) = leastS V x y z := rfl
            rw [hE]
            clear hE
            have hb := LB.out
            obtain ⟨hb1, hb2⟩ := hb
            by_cases h7 : leastS V x y z = 7
            · have h7b : (leastS V x y z == 7) = true := by simp [h7]
              have E1 := Lib.hid (show fedN V x y z = 0 by rw [FN.out, hwt, if_neg (by simp), if_pos h7])
              have E2 := Lib.hid (show fedB V x y z = false by rw [FB.out, hwt]; simp [h7])
              clear h7
              go_wp2_with fail
              rw [rounds_succ]
              go_wp2_with fail
              go_ret2
              exact ⟨by rw [E1.out, E2.out]; rfl, grown_of⟩
            · have h7b : (leastS V x y z == 7) = false := by simp [h7]
              have E1 := Lib.hid (show fedN V x y z = leastS V x y z + 1 by rw [FN.out, hwt, if_neg (by simp), if_neg h7])
              have E2 := Lib.hid (show fedB V x y z = true by rw [FB.out, hwt]; simp [h7])
              clear h7
              go_wp2_with fail
              rw [rounds_succ]
              go_wp2_with fail
              go_ret2
              exact ⟨by rw [E1.out, E2.out]; rfl, grown_of⟩
  · have E1 := Lib.hid (show fedN V x y z = 1 by rw [FN.out, hwt, if_pos rfl])
    have E2 := Lib.hid (show fedB V x y z = true by rw [FB.out, hwt]; simp)
    go_wp2_with (first | (go_at_call 33; refine (wet_any _ _).mono ?_; rintro e w1 ⟨rfl, rfl⟩))
    go_ret2
    exact ⟨by rw [E1.out, E2.out]; rfl, grown_of⟩
end Go.Proofs.Ytjejobfhddlmeaa
