/-
  What an update changes: the document's answer.
-/
import Derived.Test.YtjejobfhddlmeaaRefFeeds
import Derived.Test.YtjejobfhddlmeaaUpd
namespace Go.Proofs.Ytjejobfhddlmeaa
open Go.RowKit
attribute [local go_sem] ext_ext drew_ext ext_drew ext_cell ext_frozen in_lt in_le in_ne in_en in_ne1 in_en1 in_le1 in_ltn in_len in_nen in_enn size_le ite_max ite_min
set_option linter.unusedVariables false
set_option linter.unusedSimpArgs false

/-- Behind k cells beside: what is changed there. -/
def dryL (V : Int → Int → Int → Int) (t x y z : Int) : Nat → List Ch
  | 0 => []
  | k + 1 => dryS V t (dryL V t x y z k) (sdX x k) y (sdZ z k)
theorem dryL_4 (V : Int → Int → Int → Int) (t x y z : Int) : dryL V t x y z 4 = spreadS V t x y z := rfl
theorem dryL_len (V : Int → Int → Int → Int) (t x y z : Int) (k : Nat) : (dryL V t x y z k).length ≤ k := by
  induction k with
  | zero => exact Nat.le_refl _
  | succ k ih =>
    have := dryS_len (V := V) (t := t) (l := dryL V t x y z k) (x := sdX x k) (y := y) (z := sdZ z k)
    show (dryS V t (dryL V t x y z k) (sdX x k) y (sdZ z k)).length ≤ k + 1
    omega

theorem fed_eq (V : Int → Int → Int → Int) (x y z : Int) : fedB V x y z = decide (fedR V x y z ≤ 7) ∧ (fedB V x y z = true → fedN V x y z = fedR V x y z) ∧ (fedB V x y z = false → fedN V x y z = 0) := by
  have h := least_bd V x y z
  unfold fedB fedN fedR
  cases wetB (V x (y + 1) z)
  · simp only [Bool.false_or, Bool.false_eq_true, if_false]
    by_cases h7 : leastS V x y z = 7
    · simp [h7]
    · have h8 : leastS V x y z + 1 ≤ 7 := by omega
      simp [h7, h8]
  · simp

/-- The ways of an update of water, as the document goes them. -/
theorem water_ways (V : Int → Int → Int → Int) (x y z : Int) (hb : wetB (V x y z) = true) (h3 : ¬ V x y z = 3) :
    (0 < V x y z - 8 → 7 < fedR V x y z → nextS V x y z = [(x, y, z, 0)]) ∧
    (0 < V x y z - 8 → ¬ 7 < fedR V x y z → ¬ fedR V x y z = V x y z - 8 → nextS V x y z = [(x, y, z, 8 + fedR V x y z)]) ∧
    ((0 < V x y z - 8 → ¬ 7 < fedR V x y z ∧ fedR V x y z = V x y z - 8) →
      (V x (y + -1) z = 0 → nextS V x y z = [(x, y + -1, z, 9)]) ∧
      (¬ V x (y + -1) z = 0 → (wetB (V x (y + -1) z) = true ∨ V x y z - 8 = 7) → nextS V x y z = []) ∧
      (¬ V x (y + -1) z = 0 → wetB (V x (y + -1) z) = false → ¬ V x y z - 8 = 7 → nextS V x y z = spreadS V (9 + (V x y z - 8)) x y z)) := by
  have hb2 := hb
  unfold wetB at hb2
  rw [decide_eq_true_eq] at hb2
  obtain ⟨f1, f2, f3⟩ := fed_eq V x y z
  obtain ⟨r1, r2⟩ := fedR_bd V x y z
  have e : nextS V x y z = waterS V x y z (V x y z - 8) := by
    unfold nextS
    rw [if_neg h3, hb]
    unfold lvlS
    rw [if_pos hb2]
    rfl
  rw [e]
  unfold waterS
  have w1 : watS 1 = 9 := by decide
  refine ⟨fun h0 h7 => ?_, fun h0 h7 hne => ?_, fun h => ⟨fun h4 => ?_, fun h4 h5 => ?_, fun h4 h5 h6 => ?_⟩⟩
  · rw [if_pos ⟨h0, by rw [f1, decide_eq_false_iff_not]; omega⟩]
  · have ft : fedB V x y z = true := by rw [f1, decide_eq_true_eq]; omega
    rw [if_neg (by rw [ft]; simp), if_pos ⟨h0, by rw [f2 ft]; exact hne⟩, f2 ft]
    have : watS (fedR V x y z) = 8 + fedR V x y z := by unfold watS; omega
    rw [this]
  all_goals
    have n1 : ¬ (0 < V x y z - 8 ∧ fedB V x y z = false) := fun ⟨p, q⟩ => by
      rw [f1, decide_eq_false_iff_not] at q
      have := h p
      omega
    have n2 : ¬ (0 < V x y z - 8 ∧ fedN V x y z ≠ V x y z - 8) := fun ⟨p, q⟩ => by
      have := h p
      rw [f2 (by rw [f1, decide_eq_true_eq]; omega)] at q
      exact q this.2
    rw [if_neg n1, if_neg n2]
  · rw [if_pos h4, w1]
  · rw [if_neg h4, if_pos (h5.imp id fun e => by omega)]
  · rw [if_neg h4, if_neg (by rw [h5]; intro h; rcases h with h | h; cases h; omega)]
    have : watS (V x y z - 8 + 1) = 9 + (V x y z - 8) := by unfold watS; omega
    rw [this]

set_option maxHeartbeats 8000000 in
theorem refnext_rest (sv lv : Value) (el : Int) (V : Int → Int → Int → Int) (x y z B L F : Int) (w : World) (hT : Tells sv lv el V w) (hx : Mid x) (hy : Mid y) (hz : Mid z)
    (AT0 : ∀ W, (∃ f, W = ext w f) → Calls Try.prog 19 #[.agg #[sv, .int .i64 el], lv, .agg #[.int .i64 x, .int .i64 y, .int .i64 z]] W fun e w' => e = .returned (.int .i64 B) ∧ ∃ f, w' = ext W f)
    (AT1 : ∀ W, (∃ f, W = ext w f) → Calls Try.prog 19 #[.agg #[sv, .int .i64 el], lv, .agg #[.int .i64 x, .int .i64 (y + -1), .int .i64 z]] W fun e w' => e = .returned (.int .i64 L) ∧ ∃ f, w' = ext W f)
    (FD : ∀ W, (∃ f, W = ext w f) → Calls Try.prog 23 #[.agg #[sv, .int .i64 el], lv, .agg #[.int .i64 x, .int .i64 y, .int .i64 z]] W fun e w' => e = .returned (.int .i64 F) ∧ ∃ f, w' = ext W f)
    (a1 : (B == 3) = false) (hw : wetB B = true) (v1 : 8 ≤ B) (v2 : B ≤ 15) (r1 : 1 ≤ F) (r2 : F ≤ 8) (hset : (¬ 0 < B - 8) ∨ (0 < B - 8 ∧ ¬ 7 < F ∧ F = B - 8))
    (k1 : L = 0 → nextS V x y z = [(x, y + -1, z, 9)]) (k2 : ¬ L = 0 → (wetB L = true ∨ B - 8 = 7) → nextS V x y z = []) (k3 : ¬ L = 0 → wetB L = false → ¬ B - 8 = 7 → nextS V x y z = spreadS V (9 + (B - 8)) x y z) :
    Calls Try.prog 21 #[.agg #[sv, .int .i64 el], lv, .agg #[.int .i64 x, .int .i64 y, .int .i64 z]] w (MadeCh (nextS V x y z) w) := by
  obtain ⟨i0, iz0, iz1, iz2, iz3⟩ := info_parts chInfo
  by_cases m0 : L = 0
  · have H := Lib.hid (k1 m0)
    have m1 : (L == 0) = true := by simp [m0]
    clear k1 k2 k3 m0
    rcases hset with s | ⟨s1, s2, rfl⟩
    · go_enter Try.func21, Try.ntmps21
      go_wp2_with fail
      refine (AT0 _ (by exact grown_of)).mono ?_
      rintro e w1 ⟨rfl, _t, hw⟩
      have hc1 := named_cell hw
      have hz1 := named_frozen hw
      have hh1 := named_heap hw
      haveI hi1 := named_in hw
      haveI hb1 := named_below (w := w) hw
      clear hw
      go_wp2_with fail
      refine (by_d _ _ _ _ hx hy hz).mono ?_
      rintro e w2 ⟨rfl, _t, hw⟩
      have hc2 := named_cell hw
      have hz2 := named_frozen hw
      have hh2 := named_heap hw
      haveI hi2 := named_in hw
      haveI hb2 := named_below (w := w) hw
      clear hw
      go_wp2_with fail
      refine (AT1 _ (by exact grown_of)).mono ?_
      rintro e w3 ⟨rfl, _t, hw⟩
      have hc3 := named_cell hw
      have hz3 := named_frozen hw
      have hh3 := named_heap hw
      haveI hi3 := named_in hw
      haveI hb3 := named_below (w := w) hw
      clear hw
      go_wp2_with (first | (go_at_call 37; refine (refwet_any _ _).mono ?_; rintro e w1 ⟨rfl, rfl⟩))
      refine (FD _ (by exact grown_of)).mono ?_
      rintro e w4 ⟨rfl, _t, hw⟩
      have hc4 := named_cell hw
      have hz4 := named_frozen hw
      have hh4 := named_heap hw
      haveI hi4 := named_in hw
      haveI hb4 := named_below (w := w) hw
      clear hw
      go_wp2_with (first | (go_at_call 37; refine (refwet_any _ _).mono ?_; rintro e w1 ⟨rfl, rfl⟩))
      go_ret
      refine H.out ▸ ⟨_, rfl, owns_lit (n := 1) (size := 4) rfl (by unfold maxLen; omega) ?_, grown_of⟩
      exact (grown_now (w := w) (W := w4)).size
    · go_enter Try.func21, Try.ntmps21
      go_wp2_with fail
      refine (AT0 _ (by exact grown_of)).mono ?_
      rintro e w1 ⟨rfl, _t, hw⟩
      have hc1 := named_cell hw
      have hz1 := named_frozen hw
      have hh1 := named_heap hw
      haveI hi1 := named_in hw
      haveI hb1 := named_below (w := w) hw
      clear hw
      go_wp2_with fail
      refine (by_d _ _ _ _ hx hy hz).mono ?_
      rintro e w2 ⟨rfl, _t, hw⟩
      have hc2 := named_cell hw
      have hz2 := named_frozen hw
      have hh2 := named_heap hw
      haveI hi2 := named_in hw
      haveI hb2 := named_below (w := w) hw
      clear hw
      go_wp2_with fail
      refine (AT1 _ (by exact grown_of)).mono ?_
      rintro e w3 ⟨rfl, _t, hw⟩
      have hc3 := named_cell hw
      have hz3 := named_frozen hw
      have hh3 := named_heap hw
      haveI hi3 := named_in hw
      haveI hb3 := named_below (w := w) hw
      clear hw
      go_wp2_with (first | (go_at_call 37; refine (refwet_any _ _).mono ?_; rintro e w1 ⟨rfl, rfl⟩))
      refine (FD _ (by exact grown_of)).mono ?_
      rintro e w4 ⟨rfl, _t, hw⟩
      have hc4 := named_cell hw
      have hz4 := named_frozen hw
      have hh4 := named_heap hw
      haveI hi4 := named_in hw
      haveI hb4 := named_below (w := w) hw
      clear hw
      go_wp2_with (first | (go_at_call 37; refine (refwet_any _ _).mono ?_; rintro e w1 ⟨rfl, rfl⟩))
      go_ret
      refine H.out ▸ ⟨_, rfl, owns_lit (n := 1) (size := 4) rfl (by unfold maxLen; omega) ?_, grown_of⟩
      exact (grown_now (w := w) (W := w4)).size
  have m1 : (L == 0) = false := by simp [m0]
  rcases m2 : wetB L with _ | _
  rotate_left 1
  · have H := Lib.hid (k2 m0 (.inl m2))
    clear k1 k2 k3 m0
    rcases hset with s | ⟨s1, s2, rfl⟩
    · go_enter Try.func21, Try.ntmps21
      go_wp2_with fail
      refine (AT0 _ (by exact grown_of)).mono ?_
      rintro e w1 ⟨rfl, _t, hw⟩
      have hc1 := named_cell hw
      have hz1 := named_frozen hw
      have hh1 := named_heap hw
      haveI hi1 := named_in hw
      haveI hb1 := named_below (w := w) hw
      clear hw
      go_wp2_with fail
      refine (by_d _ _ _ _ hx hy hz).mono ?_
      rintro e w2 ⟨rfl, _t, hw⟩
      have hc2 := named_cell hw
      have hz2 := named_frozen hw
      have hh2 := named_heap hw
      haveI hi2 := named_in hw
      haveI hb2 := named_below (w := w) hw
      clear hw
      go_wp2_with fail
      refine (AT1 _ (by exact grown_of)).mono ?_
      rintro e w3 ⟨rfl, _t, hw⟩
      have hc3 := named_cell hw
      have hz3 := named_frozen hw
      have hh3 := named_heap hw
      haveI hi3 := named_in hw
      haveI hb3 := named_below (w := w) hw
      clear hw
      go_wp2_with (first | (go_at_call 37; refine (refwet_any _ _).mono ?_; rintro e w1 ⟨rfl, rfl⟩))
      refine (FD _ (by exact grown_of)).mono ?_
      rintro e w4 ⟨rfl, _t, hw⟩
      have hc4 := named_cell hw
      have hz4 := named_frozen hw
      have hh4 := named_heap hw
      haveI hi4 := named_in hw
      haveI hb4 := named_below (w := w) hw
      clear hw
      go_wp2_with (first | (go_at_call 37; refine (refwet_any _ _).mono ?_; rintro e w1 ⟨rfl, rfl⟩))
      go_ret
      exact H.out ▸ madeCh_nil grown_of
    · go_enter Try.func21, Try.ntmps21
      go_wp2_with fail
      refine (AT0 _ (by exact grown_of)).mono ?_
      rintro e w1 ⟨rfl, _t, hw⟩
      have hc1 := named_cell hw
      have hz1 := named_frozen hw
      have hh1 := named_heap hw
      haveI hi1 := named_in hw
      haveI hb1 := named_below (w := w) hw
      clear hw
      go_wp2_with fail
      refine (by_d _ _ _ _ hx hy hz).mono ?_
      rintro e w2 ⟨rfl, _t, hw⟩
      have hc2 := named_cell hw
      have hz2 := named_frozen hw
      have hh2 := named_heap hw
      haveI hi2 := named_in hw
      haveI hb2 := named_below (w := w) hw
      clear hw
      go_wp2_with fail
      refine (AT1 _ (by exact grown_of)).mono ?_
      rintro e w3 ⟨rfl, _t, hw⟩
      have hc3 := named_cell hw
      have hz3 := named_frozen hw
      have hh3 := named_heap hw
      haveI hi3 := named_in hw
      haveI hb3 := named_below (w := w) hw
      clear hw
      go_wp2_with (first | (go_at_call 37; refine (refwet_any _ _).mono ?_; rintro e w1 ⟨rfl, rfl⟩))
      refine (FD _ (by exact grown_of)).mono ?_
      rintro e w4 ⟨rfl, _t, hw⟩
      have hc4 := named_cell hw
      have hz4 := named_frozen hw
      have hh4 := named_heap hw
      haveI hi4 := named_in hw
      haveI hb4 := named_below (w := w) hw
      clear hw
      go_wp2_with (first | (go_at_call 37; refine (refwet_any _ _).mono ?_; rintro e w1 ⟨rfl, rfl⟩))
      go_ret
      exact H.out ▸ madeCh_nil grown_of
  by_cases m3 : B - 8 = 7
  · have H := Lib.hid (k2 m0 (.inr m3))
    obtain rfl : B = 15 := by omega
    clear k1 k2 k3 m0 m3
    rcases hset with s | ⟨s1, s2, rfl⟩
    · omega
    · go_enter Try.func21, Try.ntmps21
      go_wp2_with fail
      refine (AT0 _ (by exact grown_of)).mono ?_
      rintro e w1 ⟨rfl, _t, hw⟩
      have hc1 := named_cell hw
      have hz1 := named_frozen hw
      have hh1 := named_heap hw
      haveI hi1 := named_in hw
      haveI hb1 := named_below (w := w) hw
      clear hw
      go_wp2_with fail
      refine (by_d _ _ _ _ hx hy hz).mono ?_
      rintro e w2 ⟨rfl, _t, hw⟩
      have hc2 := named_cell hw
      have hz2 := named_frozen hw
      have hh2 := named_heap hw
      haveI hi2 := named_in hw
      haveI hb2 := named_below (w := w) hw
      clear hw
      go_wp2_with fail
      refine (AT1 _ (by exact grown_of)).mono ?_
      rintro e w3 ⟨rfl, _t, hw⟩
      have hc3 := named_cell hw
      have hz3 := named_frozen hw
      have hh3 := named_heap hw
      haveI hi3 := named_in hw
      haveI hb3 := named_below (w := w) hw
      clear hw
      go_wp2_with (first | (go_at_call 37; refine (refwet_any _ _).mono ?_; rintro e w1 ⟨rfl, rfl⟩))
      refine (FD _ (by exact grown_of)).mono ?_
      rintro e w4 ⟨rfl, _t, hw⟩
      have hc4 := named_cell hw
      have hz4 := named_frozen hw
      have hh4 := named_heap hw
      haveI hi4 := named_in hw
      haveI hb4 := named_below (w := w) hw
      clear hw
      go_wp2_with (first | (go_at_call 37; refine (refwet_any _ _).mono ?_; rintro e w1 ⟨rfl, rfl⟩))
      go_ret
      exact H.out ▸ madeCh_nil grown_of
  have H := Lib.hid (k3 m0 m2 m3)
  have m4 : (B - 8 == 7) = false := by simp [m3]
  clear k1 k2 k3 m0 m3
  rcases hset with s | ⟨s1, s2, rfl⟩
  · go_enter Try.func21, Try.ntmps21
    go_wp2_with fail
    refine (AT0 _ (by exact grown_of)).mono ?_
    rintro e w1 ⟨rfl, _t, hw⟩
    have hc1 := named_cell hw
    have hz1 := named_frozen hw
    have hh1 := named_heap hw
    haveI hi1 := named_in hw
    haveI hb1 := named_below (w := w) hw
    clear hw
    go_wp2_with fail
    refine (by_d _ _ _ _ hx hy hz).mono ?_
    rintro e w2 ⟨rfl, _t, hw⟩
    have hc2 := named_cell hw
    have hz2 := named_frozen hw
    have hh2 := named_heap hw
    haveI hi2 := named_in hw
    haveI hb2 := named_below (w := w) hw
    clear hw
    go_wp2_with fail
    refine (AT1 _ (by exact grown_of)).mono ?_
    rintro e w3 ⟨rfl, _t, hw⟩
    have hc3 := named_cell hw
    have hz3 := named_frozen hw
    have hh3 := named_heap hw
    haveI hi3 := named_in hw
    haveI hb3 := named_below (w := w) hw
    clear hw
    go_wp2_with (first | (go_at_call 37; refine (refwet_any _ _).mono ?_; rintro e w1 ⟨rfl, rfl⟩))
    refine (FD _ (by exact grown_of)).mono ?_
    rintro e w4 ⟨rfl, _t, hw⟩
    have hc4 := named_cell hw
    have hz4 := named_frozen hw
    have hh4 := named_heap hw
    haveI hi4 := named_in hw
    haveI hb4 := named_below (w := w) hw
    clear hw
    go_wp2_with (first | (go_at_call 37; refine (refwet_any _ _).mono ?_; rintro e w1 ⟨rfl, rfl⟩))
    refine (sides_any _ _ _ _ hx hy hz).mono ?_
    rintro e w5 ⟨v5, rfl, ho5, _t, hw⟩
    have hc5 := named_cell hw
    have hz5 := named_frozen hw
    have hh5 := named_heap hw
    haveI hi5 := named_in hw
    haveI hb5 := named_below (w := w) hw
    clear hw
    obtain ⟨g, cap, rfl, _, _, _, hcells⟩ := owns_some ho5 (by omega)
    have HC := Lib.hid hcells
    have hg : g < w5.heap.size := (ho5.lt g rfl).2
    haveI : Nonempty (In g w5) := ⟨hg⟩
    clear hcells ho5
    go_wp2_with fail
    go_loopw [13, 14] (fun o i wr => ∃ k : Nat, k ≤ 4 ∧ i = .int .i64 k ∧ wr.ownsRow w5.heap.size 36 4 o (dryL V (9 + (B - 8)) x y z k).length (chV (dryL V (9 + (B - 8)) x y z k)) ∧ ∃ f, wr = ext w5 f) (fun _ i _ => 4 - (intOf i).toNat)
    case atStart => exact ⟨0, by omega, rfl, World.ownsRow_nil .., grown_of⟩
    case round =>
      obtain ⟨k, hk, rfl, ow, _, hw⟩ := hrel
      rename World => w6
      rename_i ov _
      haveI he6 : Nonempty (Below w5.heap.size w5 w6) := ⟨by rw [hw]; exact ext_below _ _⟩
      have hc6 := named_cell hw
      have hz6 := named_frozen hw
      have hh6 := named_heap hw
      haveI hi6 := named_in hw
      haveI hb6 := named_below (w := w) hw
      clear hw
      have OW := Lib.hid ow
      clear ow
      by_cases hlt : k < 4
      · obtain ⟨t0, t1, t2⟩ := side_at x y z k hlt
        have d0 := HC.out _ _ t0
        have d1 := HC.out _ _ t1
        have d2 := HC.out _ _ t2
        have HN := Lib.hid (show dryL V (9 + (B - 8)) x y z (k + 1) = dryS V (9 + (B - 8)) (dryL V (9 + (B - 8)) x y z k) (sdX x k) y (sdZ z k) from rfl)
        have HLn := Lib.hid (dryL_len V (9 + (B - 8)) x y z k)
        clear t0 t1 t2
        generalize sdX x k = a at *
        generalize sdZ z k = c at *
        by_cases h0 : V a y c = 0
        · have HN2 : Hid (dryL V (9 + (B - 8)) x y z (k + 1) = dryL V (9 + (B - 8)) x y z k ++ [(a, y, c, 9 + (B - 8))]) := Lib.hid (HN.out.trans (dryS_in h0))
          have h9 : (V a y c == 0) = true := by simp [h0]
          clear HN h0
          go_wp2_with fail
          refine wp_region_ext ?_ ?_ ?_
          · kernel_rfl
          · kernel_rfl
          repeat (go_big_quiet_step (first | (go_at_call 19; exact ext_call (hT _ (by exact grown_of) _ _ _))))
          refine wpQuiet_nil ?_
          rintro w7 ⟨_t, hw⟩
          haveI hg7 := named_grown hw
          have hc7 := named_cell hw
          have hz7 := named_frozen hw
          have hh7 := named_heap hw
          haveI hi7 := named_in hw
          haveI hb7 := named_below (w := w) hw
          clear hw
          haveI he7 := below_thru w5 w6 w7
          have OW7 := Lib.hid (owns_grown OW.out (grown_of (w := w6) (W := w7)))
          have HB7 := Lib.hid (grown_now (w := w5) (W := w7))
          go_wp2_with (at_builtin; refine wpList_append_own _ rfl (.tmp 90) (.tmp 98) 28 rfl w5.heap.size 36 i0 _ 4 32 Try.underlying28 iz0 iz1 iz2 iz3 rfl (by omega) _ _ _ rfl (OW7.out.alloc _) _ 1 1 [.int .i64 a, .int .i64 y, .int .i64 c, .int .i64 (9 + (B - 8))] rfl rfl (World.news_of_block (heap_alloc_new w7 _)) (by simp [Value.oneCell']) (by have := HLn.out; unfold maxLen; omega) (by have := HLn.out; omega) (by have := HB7.out.size; simp; omega) ?_; intro v' w1' hown1 hgrow _)
          go_roundw
          case rel =>
            refine ⟨k + 1, by omega, by go_num, ?_, ext_of ((HB7.out.alloc HB7.out.size _).grown hgrow (by have := HB7.out.size; simp; omega) (fun q hq => (OW7.out.lt q hq).1))⟩
            rw [HN2.out, List.length_append, chV_snoc]
            exact hown1
          case measure => simp [intOf]; omega
        · have HN2 : Hid (dryL V (9 + (B - 8)) x y z (k + 1) = dryL V (9 + (B - 8)) x y z k) := Lib.hid (HN.out.trans (dryS_out h0))
          have h9 : (V a y c == 0) = false := by simp [h0]
          clear HN h0
          go_wp2_with fail
          refine wp_region_ext ?_ ?_ ?_
          · kernel_rfl
          · kernel_rfl
          repeat (go_big_quiet_step (first | (go_at_call 19; exact ext_call (hT _ (by exact grown_of) _ _ _))))
          refine wpQuiet_nil ?_
          rintro w7 ⟨_t, hw⟩
          haveI hg7 := named_grown hw
          have hc7 := named_cell hw
          have hz7 := named_frozen hw
          have hh7 := named_heap hw
          haveI hi7 := named_in hw
          haveI hb7 := named_below (w := w) hw
          clear hw
          haveI he7 := below_thru w5 w6 w7
          have OW7 := Lib.hid (owns_grown OW.out (grown_of (w := w6) (W := w7)))
          go_wp2_with fail
          go_roundw
          case rel => exact ⟨k + 1, by omega, by go_num, by rw [HN2.out]; exact OW7.out, grown_of⟩
          case measure => simp [intOf]; omega
      · obtain rfl : k = 4 := by omega
        have OW2 := OW.out
        rw [dryL_4] at OW2
        have OW3 := Lib.hid OW2
        clear OW OW2
        go_wp2_with fail
        go_ret
        rw [H.out]; exact ⟨_, rfl, owns_base OW3.out (grown_now (w := w) (W := w5)).size, grown_of⟩
  · go_enter Try.func21, Try.ntmps21
    go_wp2_with fail
    refine (AT0 _ (by exact grown_of)).mono ?_
    rintro e w1 ⟨rfl, _t, hw⟩
    have hc1 := named_cell hw
    have hz1 := named_frozen hw
    have hh1 := named_heap hw
    haveI hi1 := named_in hw
    haveI hb1 := named_below (w := w) hw
    clear hw
    go_wp2_with fail
    refine (by_d _ _ _ _ hx hy hz).mono ?_
    rintro e w2 ⟨rfl, _t, hw⟩
    have hc2 := named_cell hw
    have hz2 := named_frozen hw
    have hh2 := named_heap hw
    haveI hi2 := named_in hw
    haveI hb2 := named_below (w := w) hw
    clear hw
    go_wp2_with fail
    refine (AT1 _ (by exact grown_of)).mono ?_
    rintro e w3 ⟨rfl, _t, hw⟩
    have hc3 := named_cell hw
    have hz3 := named_frozen hw
    have hh3 := named_heap hw
    haveI hi3 := named_in hw
    haveI hb3 := named_below (w := w) hw
    clear hw
    go_wp2_with (first | (go_at_call 37; refine (refwet_any _ _).mono ?_; rintro e w1 ⟨rfl, rfl⟩))
    refine (FD _ (by exact grown_of)).mono ?_
    rintro e w4 ⟨rfl, _t, hw⟩
    have hc4 := named_cell hw
    have hz4 := named_frozen hw
    have hh4 := named_heap hw
    haveI hi4 := named_in hw
    haveI hb4 := named_below (w := w) hw
    clear hw
    go_wp2_with (first | (go_at_call 37; refine (refwet_any _ _).mono ?_; rintro e w1 ⟨rfl, rfl⟩))
    refine (sides_any _ _ _ _ hx hy hz).mono ?_
    rintro e w5 ⟨v5, rfl, ho5, _t, hw⟩
    have hc5 := named_cell hw
    have hz5 := named_frozen hw
    have hh5 := named_heap hw
    haveI hi5 := named_in hw
    haveI hb5 := named_below (w := w) hw
    clear hw
    obtain ⟨g, cap, rfl, _, _, _, hcells⟩ := owns_some ho5 (by omega)
    have HC := Lib.hid hcells
    have hg : g < w5.heap.size := (ho5.lt g rfl).2
    haveI : Nonempty (In g w5) := ⟨hg⟩
    clear hcells ho5
    go_wp2_with fail
    go_loopw [13, 14] (fun o i wr => ∃ k : Nat, k ≤ 4 ∧ i = .int .i64 k ∧ wr.ownsRow w5.heap.size 36 4 o (dryL V (9 + (B - 8)) x y z k).length (chV (dryL V (9 + (B - 8)) x y z k)) ∧ ∃ f, wr = ext w5 f) (fun _ i _ => 4 - (intOf i).toNat)
    case atStart => exact ⟨0, by omega, rfl, World.ownsRow_nil .., grown_of⟩
    case round =>
      obtain ⟨k, hk, rfl, ow, _, hw⟩ := hrel
      rename World => w6
      rename_i ov _
      haveI he6 : Nonempty (Below w5.heap.size w5 w6) := ⟨by rw [hw]; exact ext_below _ _⟩
      have hc6 := named_cell hw
      have hz6 := named_frozen hw
      have hh6 := named_heap hw
      haveI hi6 := named_in hw
      haveI hb6 := named_below (w := w) hw
      clear hw
      have OW := Lib.hid ow
      clear ow
      by_cases hlt : k < 4
      · obtain ⟨t0, t1, t2⟩ := side_at x y z k hlt
        have d0 := HC.out _ _ t0
        have d1 := HC.out _ _ t1
        have d2 := HC.out _ _ t2
        have HN := Lib.hid (show dryL V (9 + (B - 8)) x y z (k + 1) = dryS V (9 + (B - 8)) (dryL V (9 + (B - 8)) x y z k) (sdX x k) y (sdZ z k) from rfl)
        have HLn := Lib.hid (dryL_len V (9 + (B - 8)) x y z k)
        clear t0 t1 t2
        generalize sdX x k = a at *
        generalize sdZ z k = c at *
        by_cases h0 : V a y c = 0
        · have HN2 : Hid (dryL V (9 + (B - 8)) x y z (k + 1) = dryL V (9 + (B - 8)) x y z k ++ [(a, y, c, 9 + (B - 8))]) := Lib.hid (HN.out.trans (dryS_in h0))
          have h9 : (V a y c == 0) = true := by simp [h0]
          clear HN h0
          go_wp2_with fail
          refine wp_region_ext ?_ ?_ ?_
          · kernel_rfl
          · kernel_rfl
          repeat (go_big_quiet_step (first | (go_at_call 19; exact ext_call (hT _ (by exact grown_of) _ _ _))))
          refine wpQuiet_nil ?_
          rintro w7 ⟨_t, hw⟩
          haveI hg7 := named_grown hw
          have hc7 := named_cell hw
          have hz7 := named_frozen hw
          have hh7 := named_heap hw
          haveI hi7 := named_in hw
          haveI hb7 := named_below (w := w) hw
          clear hw
          haveI he7 := below_thru w5 w6 w7
          have OW7 := Lib.hid (owns_grown OW.out (grown_of (w := w6) (W := w7)))
          have HB7 := Lib.hid (grown_now (w := w5) (W := w7))
          go_wp2_with (at_builtin; refine wpList_append_own _ rfl (.tmp 90) (.tmp 98) 28 rfl w5.heap.size 36 i0 _ 4 32 Try.underlying28 iz0 iz1 iz2 iz3 rfl (by omega) _ _ _ rfl (OW7.out.alloc _) _ 1 1 [.int .i64 a, .int .i64 y, .int .i64 c, .int .i64 (9 + (B - 8))] rfl rfl (World.news_of_block (heap_alloc_new w7 _)) (by simp [Value.oneCell']) (by have := HLn.out; unfold maxLen; omega) (by have := HLn.out; omega) (by have := HB7.out.size; simp; omega) ?_; intro v' w1' hown1 hgrow _)
          go_roundw
          case rel =>
            refine ⟨k + 1, by omega, by go_num, ?_, ext_of ((HB7.out.alloc HB7.out.size _).grown hgrow (by have := HB7.out.size; simp; omega) (fun q hq => (OW7.out.lt q hq).1))⟩
            rw [HN2.out, List.length_append, chV_snoc]
            exact hown1
          case measure => simp [intOf]; omega
        · have HN2 : Hid (dryL V (9 + (B - 8)) x y z (k + 1) = dryL V (9 + (B - 8)) x y z k) := Lib.hid (HN.out.trans (dryS_out h0))
          have h9 : (V a y c == 0) = false := by simp [h0]
          clear HN h0
          go_wp2_with fail
          refine wp_region_ext ?_ ?_ ?_
          · kernel_rfl
          · kernel_rfl
          repeat (go_big_quiet_step (first | (go_at_call 19; exact ext_call (hT _ (by exact grown_of) _ _ _))))
          refine wpQuiet_nil ?_
          rintro w7 ⟨_t, hw⟩
          haveI hg7 := named_grown hw
          have hc7 := named_cell hw
          have hz7 := named_frozen hw
          have hh7 := named_heap hw
          haveI hi7 := named_in hw
          haveI hb7 := named_below (w := w) hw
          clear hw
          haveI he7 := below_thru w5 w6 w7
          have OW7 := Lib.hid (owns_grown OW.out (grown_of (w := w6) (W := w7)))
          go_wp2_with fail
          go_roundw
          case rel => exact ⟨k + 1, by omega, by go_num, by rw [HN2.out]; exact OW7.out, grown_of⟩
          case measure => simp [intOf]; omega
      · obtain rfl : k = 4 := by omega
        have OW2 := OW.out
        rw [dryL_4] at OW2
        have OW3 := Lib.hid OW2
        clear OW OW2
        go_wp2_with fail
        go_ret
        rw [H.out]; exact ⟨_, rfl, owns_base OW3.out (grown_now (w := w) (W := w5)).size, grown_of⟩

set_option maxHeartbeats 4000000 in
theorem refnext_any (sv lv : Value) (el : Int) (V : Int → Int → Int → Int) (x y z : Int) (w : World) (hT : Tells sv lv el V w) (hx : Mid x) (hy : Mid y) (hz : Mid z) :
    Calls Try.prog 21 #[.agg #[sv, .int .i64 el], lv, .agg #[.int .i64 x, .int .i64 y, .int .i64 z]] w (MadeCh (nextS V x y z) w) := by
  obtain ⟨i0, iz0, iz1, iz2, iz3⟩ := info_parts chInfo
  obtain ⟨B, hB⟩ : ∃ B, B = V x y z := ⟨_, rfl⟩
  obtain ⟨L, hL⟩ : ∃ L, L = V x (y + -1) z := ⟨_, rfl⟩
  have AT0 : ∀ W, (∃ f, W = ext w f) → Calls Try.prog 19 #[.agg #[sv, .int .i64 el], lv, .agg #[.int .i64 x, .int .i64 y, .int .i64 z]] W fun e w' => e = .returned (.int .i64 B) ∧ ∃ f, w' = ext W f := fun W hW => by rw [hB]; exact hT W hW x y z
  have AT1 : ∀ W, (∃ f, W = ext w f) → Calls Try.prog 19 #[.agg #[sv, .int .i64 el], lv, .agg #[.int .i64 x, .int .i64 (y + -1), .int .i64 z]] W fun e w' => e = .returned (.int .i64 L) ∧ ∃ f, w' = ext W f := fun W hW => by rw [hL]; exact hT W hW x (y + -1) z
  by_cases h3 : B = 3
  · have a1 : (B == 3) = true := by simp [h3]
    have e0 : nextS V x y z = sandS V x y z := by unfold nextS; rw [← hB, if_pos h3]
    rcases hyl : yldB L with _ | _
    · have H := Lib.hid (show nextS V x y z = [] by rw [e0]; unfold sandS; rw [← hL, hyl]; rfl)
      clear hB hL e0 h3
      go_enter Try.func21, Try.ntmps21
      go_wp2_with fail
      refine (AT0 _ (by exact grown_of)).mono ?_
      rintro e w1 ⟨rfl, _t, hw⟩
      have hc1 := named_cell hw
      have hz1 := named_frozen hw
      have hh1 := named_heap hw
      haveI hi1 := named_in hw
      haveI hb1 := named_below (w := w) hw
      clear hw
      go_wp2_with fail
      refine (by_d _ _ _ _ hx hy hz).mono ?_
      rintro e w2 ⟨rfl, _t, hw⟩
      have hc2 := named_cell hw
      have hz2 := named_frozen hw
      have hh2 := named_heap hw
      haveI hi2 := named_in hw
      haveI hb2 := named_below (w := w) hw
      clear hw
      go_wp2_with fail
      refine (AT1 _ (by exact grown_of)).mono ?_
      rintro e w3 ⟨rfl, _t, hw⟩
      have hc3 := named_cell hw
      have hz3 := named_frozen hw
      have hh3 := named_heap hw
      haveI hi3 := named_in hw
      haveI hb3 := named_below (w := w) hw
      clear hw
      go_wp2_with (first | (go_at_call 14; refine (refyld_any _ _).mono ?_; rintro e w1 ⟨rfl, rfl⟩))
      go_ret
      exact H.out ▸ madeCh_nil grown_of
    · have H := Lib.hid (show nextS V x y z = [(x, y, z, L), (x, y + -1, z, 3)] by rw [e0]; unfold sandS; rw [← hL, hyl]; rfl)
      clear hB hL e0 h3
      go_enter Try.func21, Try.ntmps21
      go_wp2_with fail
      refine (AT0 _ (by exact grown_of)).mono ?_
      rintro e w1 ⟨rfl, _t, hw⟩
      have hc1 := named_cell hw
      have hz1 := named_frozen hw
      have hh1 := named_heap hw
      haveI hi1 := named_in hw
      haveI hb1 := named_below (w := w) hw
      clear hw
      go_wp2_with fail
      refine (by_d _ _ _ _ hx hy hz).mono ?_
      rintro e w2 ⟨rfl, _t, hw⟩
      have hc2 := named_cell hw
      have hz2 := named_frozen hw
      have hh2 := named_heap hw
      haveI hi2 := named_in hw
      haveI hb2 := named_below (w := w) hw
      clear hw
      go_wp2_with fail
      refine (AT1 _ (by exact grown_of)).mono ?_
      rintro e w3 ⟨rfl, _t, hw⟩
      have hc3 := named_cell hw
      have hz3 := named_frozen hw
      have hh3 := named_heap hw
      haveI hi3 := named_in hw
      haveI hb3 := named_below (w := w) hw
      clear hw
      go_wp2_with (first | (go_at_call 14; refine (refyld_any _ _).mono ?_; rintro e w1 ⟨rfl, rfl⟩))
      go_ret
      refine H.out ▸ ⟨_, rfl, owns_lit (n := 2) (size := 4) rfl (by unfold maxLen; omega) ?_, grown_of⟩
      exact (grown_now (w := w) (W := w3)).size
  have a1 : (B == 3) = false := by simp [h3]
  rcases hw : wetB B with _ | _
  · have H := Lib.hid (show nextS V x y z = [] by unfold nextS; rw [← hB, if_neg h3, hw]; rfl)
    clear hB hL h3
    go_enter Try.func21, Try.ntmps21
    go_wp2_with fail
    refine (AT0 _ (by exact grown_of)).mono ?_
    rintro e w1 ⟨rfl, _t, hw⟩
    have hc1 := named_cell hw
    have hz1 := named_frozen hw
    have hh1 := named_heap hw
    haveI hi1 := named_in hw
    haveI hb1 := named_below (w := w) hw
    clear hw
    go_wp2_with fail
    refine (by_d _ _ _ _ hx hy hz).mono ?_
    rintro e w2 ⟨rfl, _t, hw⟩
    have hc2 := named_cell hw
    have hz2 := named_frozen hw
    have hh2 := named_heap hw
    haveI hi2 := named_in hw
    haveI hb2 := named_below (w := w) hw
    clear hw
    go_wp2_with fail
    refine (AT1 _ (by exact grown_of)).mono ?_
    rintro e w3 ⟨rfl, _t, hw⟩
    have hc3 := named_cell hw
    have hz3 := named_frozen hw
    have hh3 := named_heap hw
    haveI hi3 := named_in hw
    haveI hb3 := named_below (w := w) hw
    clear hw
    go_wp2_with (first | (go_at_call 37; refine (refwet_any _ _).mono ?_; rintro e w1 ⟨rfl, rfl⟩))
    go_ret
    exact H.out ▸ madeCh_nil grown_of
  obtain ⟨q1, q2, q3⟩ := water_ways V x y z (hB ▸ hw) (hB ▸ h3)
  obtain ⟨r1, r2⟩ := fedR_bd V x y z
  have FD : ∀ W, (∃ f, W = ext w f) → Calls Try.prog 23 #[.agg #[sv, .int .i64 el], lv, .agg #[.int .i64 x, .int .i64 y, .int .i64 z]] W fun e w' => e = .returned (.int .i64 (fedR V x y z)) ∧ ∃ f, w' = ext W f := fun W hW => reffeeds_any sv lv el V x y z W (hT.grow hW) hx hy hz
  rw [← hB] at q1 q2 q3
  rw [← hL] at q3
  obtain ⟨F, hF⟩ : ∃ F, F = fedR V x y z := ⟨_, rfl⟩
  rw [← hF] at q1 q2 q3 r1 r2 FD
  clear hF
  have hw2 := hw
  unfold wetB at hw2
  rw [decide_eq_true_eq] at hw2
  obtain ⟨v1, v2⟩ := hw2
  clear h3
  have hset : (¬ 0 < B - 8) ∨ (0 < B - 8 ∧ ¬ 7 < F ∧ F = B - 8) ∨ (0 < B - 8 ∧ 7 < F) ∨ (0 < B - 8 ∧ ¬ 7 < F ∧ ¬ F = B - 8) := by omega
  rcases hset with s | ⟨s1, s2, s3⟩ | ⟨s1, s2⟩ | ⟨s1, s2, s3⟩
  rotate_left 2
  · have H := Lib.hid (q1 s1 s2)
    clear hB hL q1 q2 q3
    go_enter Try.func21, Try.ntmps21
    go_wp2_with fail
    refine (AT0 _ (by exact grown_of)).mono ?_
    rintro e w1 ⟨rfl, _t, hw⟩
    have hc1 := named_cell hw
    have hz1 := named_frozen hw
    have hh1 := named_heap hw
    haveI hi1 := named_in hw
    haveI hb1 := named_below (w := w) hw
    clear hw
    go_wp2_with fail
    refine (by_d _ _ _ _ hx hy hz).mono ?_
    rintro e w2 ⟨rfl, _t, hw⟩
    have hc2 := named_cell hw
    have hz2 := named_frozen hw
    have hh2 := named_heap hw
    haveI hi2 := named_in hw
    haveI hb2 := named_below (w := w) hw
    clear hw
    go_wp2_with fail
    refine (AT1 _ (by exact grown_of)).mono ?_
    rintro e w3 ⟨rfl, _t, hw⟩
    have hc3 := named_cell hw
    have hz3 := named_frozen hw
    have hh3 := named_heap hw
    haveI hi3 := named_in hw
    haveI hb3 := named_below (w := w) hw
    clear hw
    go_wp2_with (first | (go_at_call 37; refine (refwet_any _ _).mono ?_; rintro e w1 ⟨rfl, rfl⟩))
    refine (FD _ (by exact grown_of)).mono ?_
    rintro e w4 ⟨rfl, _t, hw⟩
    have hc4 := named_cell hw
    have hz4 := named_frozen hw
    have hh4 := named_heap hw
    haveI hi4 := named_in hw
    haveI hb4 := named_below (w := w) hw
    clear hw
    go_wp2_with (first | (go_at_call 37; refine (refwet_any _ _).mono ?_; rintro e w1 ⟨rfl, rfl⟩))
    go_ret
    refine H.out ▸ ⟨_, rfl, owns_lit (n := 1) (size := 4) rfl (by unfold maxLen; omega) ?_, grown_of⟩
    exact (grown_now (w := w) (W := w4)).size
  · have H := Lib.hid (q2 s1 s2 s3)
    have g8 : (F != B - 8) = true := by simp [s3]
    clear hB hL q1 q2 q3 s3
    go_enter Try.func21, Try.ntmps21
    go_wp2_with fail
    refine (AT0 _ (by exact grown_of)).mono ?_
    rintro e w1 ⟨rfl, _t, hw⟩
    have hc1 := named_cell hw
    have hz1 := named_frozen hw
    have hh1 := named_heap hw
    haveI hi1 := named_in hw
    haveI hb1 := named_below (w := w) hw
    clear hw
    go_wp2_with fail
    refine (by_d _ _ _ _ hx hy hz).mono ?_
    rintro e w2 ⟨rfl, _t, hw⟩
    have hc2 := named_cell hw
    have hz2 := named_frozen hw
    have hh2 := named_heap hw
    haveI hi2 := named_in hw
    haveI hb2 := named_below (w := w) hw
    clear hw
    go_wp2_with fail
    refine (AT1 _ (by exact grown_of)).mono ?_
    rintro e w3 ⟨rfl, _t, hw⟩
    have hc3 := named_cell hw
    have hz3 := named_frozen hw
    have hh3 := named_heap hw
    haveI hi3 := named_in hw
    haveI hb3 := named_below (w := w) hw
    clear hw
    go_wp2_with (first | (go_at_call 37; refine (refwet_any _ _).mono ?_; rintro e w1 ⟨rfl, rfl⟩))
    refine (FD _ (by exact grown_of)).mono ?_
    rintro e w4 ⟨rfl, _t, hw⟩
    have hc4 := named_cell hw
    have hz4 := named_frozen hw
    have hh4 := named_heap hw
    haveI hi4 := named_in hw
    haveI hb4 := named_below (w := w) hw
    clear hw
    go_wp2_with (first | (go_at_call 37; refine (refwet_any _ _).mono ?_; rintro e w1 ⟨rfl, rfl⟩))
    go_ret
    refine H.out ▸ ⟨_, rfl, owns_lit (n := 1) (size := 4) rfl (by unfold maxLen; omega) ?_, grown_of⟩
    exact (grown_now (w := w) (W := w4)).size
  · obtain ⟨k1, k2, k3⟩ := q3 (fun h => absurd h s)
    clear q1 q2 q3
    exact refnext_rest sv lv el V x y z B L F w hT hx hy hz AT0 AT1 FD a1 hw v1 v2 r1 r2 (.inl s) k1 k2 k3
  · obtain ⟨k1, k2, k3⟩ := q3 (fun _ => ⟨s2, s3⟩)
    clear q1 q2 q3
    exact refnext_rest sv lv el V x y z B L F w hT hx hy hz AT0 AT1 FD a1 hw v1 v2 r1 r2 (.inr ⟨s1, s2, s3⟩) k1 k2 k3
end Go.Proofs.Ytjejobfhddlmeaa
