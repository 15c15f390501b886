/-
  The runs of blocks: the Go function, and the document's; runs that are the same.
-/
import Derived.Test.YtgnlechegenjpaaRuns
namespace Go.Proofs.Ytgnlechegenjpaa
open Go.RowKit
attribute [local go_sem] ext_ext drew_ext ext_drew ext_cell ext_frozen in_lt in_le in_ne in_en in_ne1 in_en1 in_le1 in_ltn in_len in_nen in_enn size_le ite_max ite_min
set_option linter.unusedVariables false
set_option linter.unusedSimpArgs false

theorem push_any (f : Nat → Int) (k : Nat) (base : Nat) (lv : Value) (w : World) (h : w.ownsRow base 48 2 lv (rleN f k).length (rV (rleN f k))) (hb : base ≤ w.heap.size) (hk : k ≤ 9000) :
    Calls Try.prog 28 #[lv, .agg #[.int .i64 1, .int .i64 (f k)]] w (Pushed base (rleN f (k + 1)) w) := by
  cases k with
  | zero => exact push_first (f 0) base lv w h hb
  | succ m =>
    obtain ⟨rs, n, e, h1, h2, h3⟩ := rleN_form f m
    have e2 : rleN f (m + 1 + 1) = pushR (rleN f (m + 1)) (f (m + 1)) := rfl
    rw [e] at h e2
    have h' : w.ownsRow base 48 2 lv (rs.length + 1) (rV (rs ++ [(n, f m)])) := by simpa using h
    by_cases hf : f m = f (m + 1)
    · rw [hf, pushR_same] at e2
      rw [e2]
      rw [hf] at h'
      exact push_same rs n (f (m + 1)) base lv w h' hb (by omega) (by omega) (by omega)
    · rw [pushR_other _ _ _ _ hf] at e2
      rw [e2]
      exact push_other rs n (f m) (f (m + 1)) base lv w h' hb hf (by omega)

set_option maxHeartbeats 2000000 in
theorem of_runs (f : Nat → Int) (N g cap : Nat) (w : World) (hN : 0 < N) (hN2 : N ≤ 9000) (hc : ∀ k, k < N → w.cell? ⟨g, k, none⟩ = some (.int .i64 (f k))) :
    Calls Try.prog 22 #[.slice (some ⟨g, 0, none⟩) N cap] w (MadeRow 48 2 (rleN f N).length (rV (rleN f N)) w) := by
  have HC := Lib.hid hc
  have HN := Lib.hid hN2
  haveI := in_of_cell (hc 0 hN)
  clear hc hN
  go_enter Try.func22, Try.ntmps22
  go_wp2_with fail
  go_loopw [3, 8] (fun o i wr => ∃ k : Nat, k ≤ N ∧ i = .int .i64 k ∧ wr.ownsRow w.heap.size 48 2 o (rleN f k).length (rV (rleN f k)) ∧ ∃ F, wr = ext w F) (fun _ i _ => N - (intOf i).toNat)
  case atStart => exact ⟨0, by omega, rfl, World.ownsRow_nil .., grown_of⟩
  case round =>
    obtain ⟨k, hk, rfl, ow, _, hw⟩ := hrel
    rename World => w1
    have hB := named_grown hw
    have hc1 := named_cell hw
    have hz1 := named_frozen hw
    have hh1 := named_heap hw
    haveI hi1 := named_in hw
    haveI hb1 := named_below (w := w) hw
    clear hw
    have OW := Lib.hid ow
    have HB := Lib.hid (grown_now (w := w) (W := w1))
    by_cases hlt : k < N
    · have d0 := HC.out k hlt
      haveI := in_of_cell d0
      have PU := fun W (h : W = w1) => push_any f k w.heap.size _ W (h ▸ ow) (by rw [h]; exact HB.out.size) (by omega)
      have HK := Lib.hid hlt
      have k1 : (k : Int) < 9000 := by omega
      have k2 : (k : Int) < (N : Int) := by omega
      clear ow hN2
      generalize f k = b at *
      go_wp2_with fail
      refine (PU _ rfl).mono ?_
      rintro e w2 ⟨v2, rfl, ow2, hB2⟩
      have OW2 := Lib.hid ow2
      have HB2 := Lib.hid hB2
      clear ow2 hB2 PU
      go_wp2_with fail
      go_roundw
      case rel => exact ⟨k + 1, HK.out, by go_num, OW2.out, ext_of (HB.out.trans HB2.out)⟩
      case measure => have := HK.out; simp [intOf]; omega
    · obtain rfl : k = N := by omega
      clear ow
      go_wp2_with fail
      go_ret
      exact ⟨_, rfl, OW.out, grown_of⟩

set_option maxRecDepth 100000 in
set_option maxHeartbeats 4000000 in
theorem of_ref (f : Nat → Int) (N g cap : Nat) (w : World) (hN : 0 < N) (hN2 : N ≤ 9000) (hc : ∀ k, k < N → w.cell? ⟨g, k, none⟩ = some (.int .i64 (f k))) :
    Calls Try.prog 24 #[.slice (some ⟨g, 0, none⟩) N cap] w (MadeRow 48 2 (rleN f N).length (rV (rleN f N)) w) := by
  obtain ⟨i0, iz0, iz1, iz2, iz3⟩ := info_parts runInfo
  have HC := Lib.hid hc
  have HN := Lib.hid hN2
  have hgg : g < w.heap.size := World.block_lt_of_cell? w _ (hc 0 hN)
  haveI := in_of_cell (hc 0 hN)
  have HGG := Lib.hid hgg
  clear hc hN hgg
  go_enter Try.func24, Try.ntmps24
  go_wp2_with fail
  go_loopw [3, 4] (fun o i wr => ∃ k : Nat, k ≤ N ∧ i = .int .i64 k ∧ wr.ownsRow w.heap.size 48 2 o (rleN f k).length (rV (rleN f k)) ∧ ∃ F, wr = ext w F) (fun _ i _ => N - (intOf i).toNat)
  case atStart => exact ⟨0, by omega, rfl, World.ownsRow_nil .., grown_of⟩
  case round =>
    obtain ⟨k, hk, rfl, ow, _, hw⟩ := hrel
    rename World => w1
    haveI hg1 := named_grown hw
    have hc1 := named_cell hw
    have hz1 := named_frozen hw
    have hh1 := named_heap hw
    haveI hi1 := named_in hw
    haveI hb1 := named_below (w := w) hw
    clear hw
    have HB := Lib.hid (grown_now (w := w) (W := w1))
    by_cases hlt : k < N
    · have d0 := HC.out k hlt
      haveI := in_of_cell d0
      have HK := Lib.hid hlt
      have k1 : (k : Int) < 9000 := by omega
      have k2 : (k : Int) < (N : Int) := by omega
      have k0 : (0 : Int) ≤ (k : Int) := Int.natCast_nonneg _
      cases k with
      | zero =>
        have HN2 : Hid (rleN f (0 + 1) = [(1, f 0)]) := Lib.hid rfl
        rw [show rleN f 0 = ([] : List Rn) from rfl, show rV [] = [] from rfl, List.length_nil] at ow
        have OW := Lib.hid ow
        clear ow hN2
        generalize f 0 = b at *
        go_wp2_with fail
        refine wp_region_ext ?_ ?_ ?_
        · kernel_rfl
        · kernel_rfl
        repeat (go_big_quiet_step (first | fail))
        refine wpQuiet_nil ?_
        rintro w2 ⟨_t, hw⟩
        haveI hg2 := named_grown hw
        have hc2 := named_cell hw
        have hz2 := named_frozen hw
        have hh2 := named_heap hw
        haveI hi2 := named_in hw
        haveI hb2 := named_below (w := w) hw
        clear hw
        have OW2 := Lib.hid (owns_grown OW.out (grown_of (w := w1) (W := w2)))
        have HB2 := Lib.hid ((grown_now (w := w1) (W := w2)).mono HB.out.size)
        go_wp2_with (at_builtin; refine wpList_append_own _ rfl (.tmp 35) (.tmp 41) 32 rfl w.heap.size 48 i0 _ 2 16 Try.underlying32 iz0 iz1 iz2 iz3 rfl (by omega) _ _ _ rfl (OW2.out.alloc _) _ 1 1 [.int .i64 1, .int .i64 b] rfl rfl (World.news_of_block (heap_alloc_new w2 _)) (by simp [Value.oneCell']) (by unfold maxLen; omega) (by omega) (by have := (HB.out.trans HB2.out).size; simp; omega) ?_; intro v' w1' hown1 hgrow _)
        go_roundw
        case rel =>
          refine ⟨0 + 1, HK.out, by go_num, ?_, ext_of (((HB.out.trans HB2.out).alloc (HB.out.trans HB2.out).size _).grown hgrow (by have := (HB.out.trans HB2.out).size; simp; omega) (fun q hq => (OW2.out.lt q hq).1))⟩
          rw [HN2.out]
          exact hown1
        case measure => have := HK.out; simp [intOf]; omega
      | succ m =>
        have hm : m < N := by omega
        have d1 := HC.out m hm
        obtain ⟨rs, n, e, h1, h2, h3⟩ := rleN_form f m
        have e2 : rleN f (m + 1 + 1) = pushR (rleN f (m + 1)) (f (m + 1)) := rfl
        rw [e] at ow e2
        have sl : ((rs ++ [(n, f m)]) : List Rn).length = rs.length + 1 := by simp
        rw [sl] at ow
        have h' := ow
        obtain ⟨gr, cpr, rfl, hgr, _, _, _⟩ := owns_some ow (by omega)
        obtain ⟨c0, c1, f0, _⟩ := own_last h' rfl
        haveI := in_of_cell c0
        have OW := Lib.hid h'
        have HGR := Lib.hid hgr
        have m0 : (0 : Int) ≤ (m : Int) := Int.natCast_nonneg _
        have n1 : n ≤ 9001 := by omega
        have rl : rs.length ≤ 9000 := by omega
        by_cases hf : f m = f (m + 1)
        · rw [hf, pushR_same] at e2
          have HE := Lib.hid e2
          have HSL := Lib.hid (show ((rs ++ [(n + 1, f (m + 1))]) : List Rn).length = rs.length + 1 by simp)
          have hff : (f m == f (m + 1)) = true := by simp [hf]
          have HF := Lib.hid hf
          generalize hj : rs.length = j at *
          have HJ := Lib.hid hj
          have j0 : (0 : Int) ≤ (j : Int) := Int.natCast_nonneg _
          have j1 : (j : Int) ≤ 9000 := by omega
          clear ow h' e e2 sl hf hgr hj hN2
          generalize f m = bm at *
          generalize f (m + 1) = b at *
          go_wp2_with fail
          refine wp_region_ext ?_ ?_ ?_
          · kernel_rfl
          · kernel_rfl
          repeat (go_big_quiet_step (first | fail))
          refine wpQuiet_nil ?_
          rintro w2 ⟨_t, hw⟩
          haveI hg2 := named_grown hw
          have hc2 := named_cell hw
          have hz2 := named_frozen hw
          have hh2 := named_heap hw
          haveI hi2 := named_in hw
          haveI hb2 := named_below (w := w) hw
          clear hw
          have OW2 := Lib.hid (owns_grown OW.out (grown_of (w := w1) (W := w2)))
          have HB2 := Lib.hid ((grown_now (w := w1) (W := w2)).mono HB.out.size)
          go_wp2_with fail
          go_roundw
          case rel =>
            refine ⟨m + 1 + 1, HK.out, by go_num, ?_, ext_of ((HB.out.trans HB2.out).setCell HGR.out _)⟩
            rw [HE.out, HSL.out, ← HF.out]
            exact (own_last OW2.out HJ.out).2.2.2 (n + 1)
          case measure => have := HK.out; simp [intOf]; omega
        · rw [pushR_other _ _ _ _ hf] at e2
          have HE := Lib.hid e2
          have HSL := Lib.hid (show ((rs ++ [(n, f m)]) ++ [(1, f (m + 1))] : List Rn).length = rs.length + 1 + 1 by simp)
          have HRV := Lib.hid (show rV ((rs ++ [(n, f m)]) ++ [(1, f (m + 1))]) = rV (rs ++ [(n, f m)]) ++ [.int .i64 1, .int .i64 (f (m + 1))] from rV_snoc _ _ _)
          have hff : (f m == f (m + 1)) = false := by simp [hf]
          generalize hj : rs.length = j at *
          have HJ : Hid (j ≤ 9000) := Lib.hid rl
          have j0 : (0 : Int) ≤ (j : Int) := Int.natCast_nonneg _
          have j1 : (j : Int) ≤ 9000 := by omega
          clear ow h' e e2 sl hf hgr hj hN2
          generalize f m = bm at *
          generalize f (m + 1) = b at *
          go_wp2_with fail
          refine wp_region_ext ?_ ?_ ?_
          · kernel_rfl
          · kernel_rfl
          repeat (go_big_quiet_step (first | fail))
          refine wpQuiet_nil ?_
          rintro w2 ⟨_t, hw⟩
          haveI hg2 := named_grown hw
          have hc2 := named_cell hw
          have hz2 := named_frozen hw
          have hh2 := named_heap hw
          haveI hi2 := named_in hw
          haveI hb2 := named_below (w := w) hw
          clear hw
          have OW2 := Lib.hid (owns_grown OW.out (grown_of (w := w1) (W := w2)))
          have HB2 := Lib.hid ((grown_now (w := w1) (W := w2)).mono HB.out.size)
          go_wp2_with (at_builtin; refine wpList_append_own _ rfl (.tmp 35) (.tmp 41) 32 rfl w.heap.size 48 i0 _ 2 16 Try.underlying32 iz0 iz1 iz2 iz3 rfl (by omega) _ _ _ rfl (OW2.out.alloc _) _ 1 1 [.int .i64 1, .int .i64 b] rfl rfl (World.news_of_block (heap_alloc_new w2 _)) (by simp [Value.oneCell']) (by have := HJ.out; unfold maxLen; omega) (by have := HJ.out; omega) (by have := (HB.out.trans HB2.out).size; simp; omega) ?_; intro v' w1' hown1 hgrow _)
          go_roundw
          case rel =>
            refine ⟨m + 1 + 1, HK.out, by go_num, ?_, ext_of (((HB.out.trans HB2.out).alloc (HB.out.trans HB2.out).size _).grown hgrow (by have := (HB.out.trans HB2.out).size; simp; omega) (fun q hq => (OW2.out.lt q hq).1))⟩
            rw [HE.out, HSL.out, HRV.out]
            exact hown1
          case measure => have := HK.out; simp [intOf]; omega
    · obtain rfl : k = N := by omega
      have OW := Lib.hid ow
      clear ow
      go_wp2_with fail
      go_ret
      exact ⟨_, rfl, OW.out, grown_of⟩

theorem eq_run (a b : Int) (w : World) : (Op.equalIn 10000 48 (.agg #[.int .i64 a, .int .i64 b]) (.agg #[.int .i64 a, .int .i64 b])).run Try.prog w = .ok true w := by
  simp [go_sem]
attribute [local go_sem ↓] eq_run

set_option maxHeartbeats 2000000 in
theorem same_runs (l : List Rn) (s t : Value) (b1 b2 : Nat) (w : World) (hs : w.ownsRow b1 48 2 s l.length (rV l)) (ht : w.ownsRow b2 48 2 t l.length (rV l)) (h0 : 0 < l.length) (hl : l.length ≤ 9000) :
    Calls Try.prog 11 #[s, t] w fun e w' => e = .returned (.bool true) ∧ ∃ f, w' = ext w f := by
  obtain ⟨g, cap, rfl, _, _, _, hc⟩ := owns_some hs h0
  obtain ⟨g', cap', rfl, _, _, _, hc'⟩ := owns_some ht h0
  have HC := Lib.hid hc
  have HC' := Lib.hid hc'
  have hg : g < w.heap.size := (hs.lt g rfl).2
  have hg' : g' < w.heap.size := (ht.lt g' rfl).2
  clear hc hc' hs ht
  go_enter Try.func11, Try.ntmps11
  go_wp2_with fail
  go_loopw [5] (fun i wr => ∃ k : Nat, k ≤ l.length ∧ i = .int .i64 k ∧ ∃ f, wr = ext w f) (fun i _ => l.length - (intOf i).toNat)
  case atStart => exact ⟨0, Nat.zero_le _, rfl, grown_of⟩
  case round =>
    obtain ⟨k, hk, rfl, f, rfl⟩ := hrel
    by_cases hlt : k < l.length
    · obtain ⟨c0, c1⟩ := rV_at l k hlt
      have d0 := HC.out _ _ c0
      have d1 := HC.out _ _ c1
      have e0 := HC'.out _ _ c0
      have e1 := HC'.out _ _ c1
      haveI := in_of_cell d0
      haveI := in_of_cell e0
      have k0 : (0 : Int) ≤ (k : Int) := Int.natCast_nonneg _
      have k1 : (k : Int) < (l.length : Int) := by omega
      clear c0 c1
      generalize l[k].1 = a at *
      generalize l[k].2 = b at *
      go_wp2_with fail
      first | (with_reducible refine wp_region_ext_on ?_ ?_ ?_) | refine wp_region_ext ?_ ?_ ?_
      · kernel_rfl
      · kernel_rfl
      repeat (go_big_quiet_step (first | fail))
      refine wpQuiet_nil ?_
      rintro _ ⟨t, rfl⟩
      go_wp2_with fail
      go_roundw
      case rel => exact ⟨k + 1, by omega, by go_num, grown_of⟩
      case measure => simp [intOf]; omega
    · go_wp2_with fail
      go_ret
      exact ⟨rfl, grown_of⟩
end Go.Proofs.Ytgnlechegenjpaa
