/-
  What feeds a cell: the document's answer.
-/
import Derived.Test.YtjejobfhddlmeaaAt18
namespace Go.Proofs.Ytjejobfhddlmeaa
open Go.RowKit
attribute [local go_sem] ext_ext drew_ext ext_drew ext_cell ext_frozen in_lt in_le in_ne in_en in_ne1 in_en1 in_le1 in_ltn in_len in_nen in_enn size_le ite_max ite_min
set_option linter.unusedVariables false
set_option linter.unusedSimpArgs false

/-- The cells beside one, by their number. -/
def sdX (x : Int) (k : Nat) : Int := if k = 0 then x + -1 else if k = 1 then x + 1 else x
def sdZ (z : Int) (k : Nat) : Int := if k = 2 then z + -1 else if k = 3 then z + 1 else z
theorem side_at (x y z : Int) (k : Nat) (hk : k < 4) : (sideL x y z)[k * 3]? = some (.int .i64 (sdX x k)) ∧ (sideL x y z)[k * 3 + 1]? = some (.int .i64 y) ∧ (sideL x y z)[k * 3 + 2]? = some (.int .i64 (sdZ z k)) := by
  rcases k with _ | _ | _ | _ | k
  · exact ⟨rfl, rfl, rfl⟩
  · exact ⟨rfl, rfl, rfl⟩
  · exact ⟨rfl, rfl, rfl⟩
  · exact ⟨rfl, rfl, rfl⟩
  · omega
/-- The least level, one added, behind k cells. -/
def lowS (V : Int → Int → Int → Int) (x y z : Int) : Nat → Int
  | 0 => 8
  | k + 1 => if wetB (V (sdX x k) y (sdZ z k)) = true then min (lowS V x y z k) (V (sdX x k) y (sdZ z k) - 8 + 1) else lowS V x y z k
theorem low_bd (V : Int → Int → Int → Int) (x y z : Int) (k : Nat) : 1 ≤ lowS V x y z k ∧ lowS V x y z k ≤ 8 := by
  induction k with
  | zero => exact ⟨by unfold lowS; omega, by unfold lowS; omega⟩
  | succ k ih =>
    unfold lowS
    split
    · rename_i h
      unfold wetB at h
      rw [decide_eq_true_eq] at h
      omega
    · exact ih
theorem low_step (l b : Int) : (if wetB b = true then min (l + 1) (b - 8 + 1) else l + 1) = lstep l b + 1 := by
  unfold lstep lvlS wetB
  by_cases h : 8 ≤ b ∧ b ≤ 15
  · rw [if_pos (by rw [decide_eq_true_eq]; exact h), if_pos h, if_pos (by omega)]
    omega
  · rw [if_neg (by rw [decide_eq_true_eq]; exact h), if_neg h, if_neg (by omega)]
theorem low_least (V : Int → Int → Int → Int) (x y z : Int) : lowS V x y z 4 = leastS V x y z + 1 := by
  have h1 : lowS V x y z 1 = lstep 7 (V (x + -1) y z) + 1 := low_step 7 _
  have h2 : lowS V x y z 2 = lstep (lstep 7 (V (x + -1) y z)) (V (x + 1) y z) + 1 := by
    rw [← low_step, ← h1]
    rfl
  have h3 : lowS V x y z 3 = lstep (lstep (lstep 7 (V (x + -1) y z)) (V (x + 1) y z)) (V x y (z + -1)) + 1 := by
    rw [← low_step, ← h2]
    rfl
  unfold leastS
  rw [← low_step, ← h3]
  rfl
/-- The document's number of what feeds a cell; 8: nothing does. -/
def fedR (V : Int → Int → Int → Int) (x y z : Int) : Int := if wetB (V x (y + 1) z) = true then 1 else leastS V x y z + 1
theorem fedR_low {V : Int → Int → Int → Int} {x y z : Int} (h : wetB (V x (y + 1) z) = false) : fedR V x y z = lowS V x y z 4 := by
  unfold fedR
  rw [h, low_least]
  rfl
theorem fedR_one {V : Int → Int → Int → Int} {x y z : Int} (h : wetB (V x (y + 1) z) = true) : fedR V x y z = 1 := by
  unfold fedR
  rw [if_pos h]
theorem fedR_bd (V : Int → Int → Int → Int) (x y z : Int) : 1 ≤ fedR V x y z ∧ fedR V x y z ≤ 8 := by
  have := least_bd V x y z
  unfold fedR
  split <;> omega

/-- The document's At tells V. -/
def Tells (sv lv : Value) (el : Int) (V : Int → Int → Int → Int) (w : World) : Prop :=
  ∀ W, (∃ f, W = ext w f) → ∀ x y z : Int, Calls Try.prog 19 #[.agg #[sv, .int .i64 el], lv, .agg #[.int .i64 x, .int .i64 y, .int .i64 z]] W fun e w' => e = .returned (.int .i64 (V x y z)) ∧ ∃ f, w' = ext W f
theorem Tells.grow {sv lv : Value} {el : Int} {V : Int → Int → Int → Int} {w W : World} (h : Tells sv lv el V w) (hW : ∃ f, W = ext w f) : Tells sv lv el V W := by
  obtain ⟨g, rfl⟩ := hW
  intro W' hW'
  obtain ⟨g', rfl⟩ := hW'
  exact h _ ⟨_, ext_ext w g g'⟩
theorem tells_of (bs : List Int) (sv lv : Value) (l : List Ch) (b1 : Nat) (el : Int) (w : World) (h : Blocks w sv bs) (hs : w.ownsRow b1 36 4 lv l.length (chV l)) (hl : l.length ≤ 1000) :
    Tells sv lv el (layS (atS bs el) l) w := fun W hW x y z => atl_any bs sv lv l b1 el x y z W (h.grown hW) (owns_grown hs hW) hl

set_option maxHeartbeats 2000000 in
theorem reffeeds_any (sv lv : Value) (el : Int) (V : Int → Int → Int → Int) (x y z : Int) (w : World) (hT : Tells sv lv el V w) (hx : Mid x) (hy : Mid y) (hz : Mid z) :
    Calls Try.prog 23 #[.agg #[sv, .int .i64 el], lv, .agg #[.int .i64 x, .int .i64 y, .int .i64 z]] w fun e w' => e = .returned (.int .i64 (fedR V x y z)) ∧ ∃ f, w' = ext w f := by
  rcases hwt : wetB (V x (y + 1) z) with _ | _
  · have HF := Lib.hid (fedR_low hwt)
    have RW := fun W => refwet_any (V x (y + 1) z) W
    simp only [hwt] at RW
    go_enter Try.func23, Try.ntmps23
    go_wp2_with fail
    refine wp_region_ext ?_ ?_ ?_
    · kernel_rfl
    · kernel_rfl
    repeat (go_big_quiet_step (first | (go_at_call 39; exact ext_call (by_u _ _ _ _ hx hy hz)) | (go_at_call 19; exact ext_call (hT _ (by exact grown_of) _ _ _)) | (go_at_call 37; exact ext_same (RW _))))
    refine wpQuiet_nil ?_
    rintro w1 ⟨_t, hw⟩
    have hc1 := named_cell hw
    have hz1 := named_frozen hw
    have hh1 := named_heap hw
    haveI hi1 := named_in hw
    haveI hb1 := named_below (w := w) hw
    clear hw
    go_wp2_with fail
    refine (sides_any _ _ _ _ hx hy hz).mono ?_
    rintro e w2 ⟨v2, rfl, ho2, _t, hw⟩
    have hc2 := named_cell hw
    have hz2 := named_frozen hw
    have hh2 := named_heap hw
    haveI hi2 := named_in hw
    haveI hb2 := named_below (w := w) hw
    clear hw
    obtain ⟨g, cap, rfl, _, _, _, hcells⟩ := owns_some ho2 (by omega)
    have HC := Lib.hid hcells
    have hg : g < w2.heap.size := (ho2.lt g rfl).2
    haveI : Nonempty (In g w2) := ⟨hg⟩
    clear hcells ho2
    go_wp2_with fail
    go_loopw [8, 9] (fun l i wr => ∃ k : Nat, k ≤ 4 ∧ i = .int .i64 k ∧ l = .int .i64 (lowS V x y z k) ∧ ∃ f, wr = ext w2 f) (fun _ i _ => 4 - (intOf i).toNat)
    case atStart => exact ⟨0, by omega, rfl, rfl, grown_of⟩
    case round =>
      obtain ⟨k, hk, rfl, rfl, _, hw⟩ := hrel
      rename World => w3
      have hc3 := named_cell hw
      have hz3 := named_frozen hw
      have hh3 := named_heap hw
      haveI hi3 := named_in hw
      haveI hb3 := named_below (w := w) hw
      haveI hb3' := named_below (w := w2) hw
      clear hw
      by_cases hlt : k < 4
      · obtain ⟨t0, t1, t2⟩ := side_at x y z k hlt
        have d0 := HC.out _ _ t0
        have d1 := HC.out _ _ t1
        have d2 := HC.out _ _ t2
        obtain ⟨b1, b2⟩ := low_bd V x y z k
        have HL := Lib.hid (show lowS V x y z (k + 1) = if wetB (V (sdX x k) y (sdZ z k)) = true then min (lowS V x y z k) (V (sdX x k) y (sdZ z k) - 8 + 1) else lowS V x y z k from rfl)
        clear t0 t1 t2
        generalize sdX x k = a at *
        generalize sdZ z k = c at *
        rcases hw : wetB (V a y c) with _ | _
        · have HL2 : Hid (lowS V x y z (k + 1) = lowS V x y z k) := Lib.hid (by rw [HL.out, hw]; rfl)
          clear HL
          go_wp2_with fail
          refine wp_region_ext ?_ ?_ ?_
          · kernel_rfl
          · kernel_rfl
          repeat (go_big_quiet_step (first | (go_at_call 19; exact ext_call (hT _ (by exact grown_of) _ _ _))))
          refine wpQuiet_nil ?_
          rintro w4 ⟨_t, hw⟩
          haveI hg4 := named_grown hw
          have hc4 := named_cell hw
          have hz4 := named_frozen hw
          have hh4 := named_heap hw
          haveI hi4 := named_in hw
          haveI hb4 := named_below (w := w) hw
          clear hw
          haveI hb4' := below_thru w2 w3 w4
          go_wp2_with (first | (go_at_call 37; refine (refwet_any _ _).mono ?_; rintro e w1 ⟨rfl, rfl⟩))
          go_roundw
          case rel => exact ⟨k + 1, by omega, by go_num, by rw [HL2.out]; try rw [Int.min_comm], grown_of⟩
          case measure => simp [intOf]; omega
        · have HL2 : Hid (lowS V x y z (k + 1) = min (lowS V x y z k) (V a y c - 8 + 1)) := Lib.hid (by rw [HL.out, hw]; rfl)
          have hw2 := hw
          unfold wetB at hw2
          rw [decide_eq_true_eq] at hw2
          obtain ⟨v1, v2⟩ := hw2
          clear HL
          go_wp2_with fail
          refine wp_region_ext ?_ ?_ ?_
          · kernel_rfl
          · kernel_rfl
          repeat (go_big_quiet_step (first | (go_at_call 19; exact ext_call (hT _ (by exact grown_of) _ _ _))))
          refine wpQuiet_nil ?_
          rintro w4 ⟨_t, hw⟩
          haveI hg4 := named_grown hw
          have hc4 := named_cell hw
          have hz4 := named_frozen hw
          have hh4 := named_heap hw
          haveI hi4 := named_in hw
          haveI hb4 := named_below (w := w) hw
          clear hw
          haveI hb4' := below_thru w2 w3 w4
          go_wp2_with (first | (go_at_call 37; refine (refwet_any _ _).mono ?_; rintro e w1 ⟨rfl, rfl⟩))
          go_roundw
          case rel => exact ⟨k + 1, by omega, by go_num, by rw [HL2.out]; try rw [Int.min_comm], grown_of⟩
          case measure => simp [intOf]; omega
      · obtain rfl : k = 4 := by omega
        go_wp2_with fail
        go_ret
        exact ⟨ret_int HF.out.symm, grown_of⟩
  · have HF := Lib.hid (fedR_one hwt)
    have RW := fun W => refwet_any (V x (y + 1) z) W
    simp only [hwt] at RW
    go_enter Try.func23, Try.ntmps23
    go_wp2_with fail
    refine wp_region_ext ?_ ?_ ?_
    · kernel_rfl
    · kernel_rfl
    repeat (go_big_quiet_step (first | (go_at_call 39; exact ext_call (by_u _ _ _ _ hx hy hz)) | (go_at_call 19; exact ext_call (hT _ (by exact grown_of) _ _ _)) | (go_at_call 37; exact ext_same (RW _))))
    refine wpQuiet_nil ?_
    rintro w1 ⟨_t, hw⟩
    have hc1 := named_cell hw
    have hz1 := named_frozen hw
    have hh1 := named_heap hw
    haveI hi1 := named_in hw
    haveI hb1 := named_below (w := w) hw
    clear hw
    go_wp2_with fail
    go_ret
    exact ⟨ret_int HF.out.symm, grown_of⟩
end Go.Proofs.Ytjejobfhddlmeaa
