/-
  A run pushed behind others, of any length.
  The runs of blocks: the Go function, and the document's; runs that are the same.
  Runs: how many cells, a place's block.
  Runs: a part of them.
  Runs: one run alone; runs joined.
-/
import Derived.Test.YtnogfelfgclajaaGreatDoorMa01
import Derived.Test.YtnogfelfgclajaaGreatDoorMa04
section
namespace Go.Proofs.YtnogfelfgclajaaGreatDoor
open Go.RowKit
attribute [local go_sem] ext_ext drew_ext ext_drew ext_cell ext_frozen in_lt in_le in_ne in_en in_ne1 in_en1 in_le1 in_ltn in_len in_nen in_enn size_le ite_max ite_min
set_option linter.unusedVariables false
set_option linter.unusedSimpArgs false

/-- What a push hands back; of the older blocks only the row's own may have turned. -/
def PushedT (base : Nat) (rs : List Rn) (lv : Value) (w : World) (e : Ending) (w' : World) : Prop := ∃ v, e = .returned v ∧ w'.ownsRow base 235 2 v rs.length (rV rs) ∧ Turn (fun k => lv.ownBlock = some k) w w'

set_option maxRecDepth 100000 in
set_option maxHeartbeats 2000000 in
theorem pushg_first (l b : Int) (hl1 : 1 ≤ l) (base : Nat) (lv : Value) (w : World) (h : w.ownsRow base 235 2 lv 0 []) (hb : base ≤ w.heap.size) :
    Calls Tryz.prog 235 #[lv, .agg #[.int .i64 l, .int .i64 b]] w (PushedT base [(l, b)] lv w) := by
  obtain ⟨i0, iz0, iz1, iz2, iz3⟩ := info_parts runInfo
  obtain ⟨og, cap, rfl⟩ := owns_form h
  have HO := Lib.hid h
  have HB := Lib.hid hb
  clear h hb
  go_enter Tryz.func235, Tryz.ntmps235
  go_wp2_with fail
  refine wp_region_ext ?_ ?_ ?_
  · kernel_rfl
  · kernel_rfl
  repeat (go_big_quiet_step (first | fail))
  refine wpQuiet_nil ?_
  rintro w1 ⟨_t, hw⟩
  have hc1 := named_cell hw
  have hz1 := named_frozen hw
  have hh1 := named_heap hw
  haveI hi1 := named_in hw
  haveI hb1 := named_below (w := w) hw
  clear hw
  have HO1 := Lib.hid (owns_grown HO.out (grown_of (w := w) (W := w1)))
  have H1 := Lib.hid (grown_now (w := w) (W := w1))
  go_wp2_with (at_builtin; refine wpList_append_own _ rfl (.tmp 38) (.tmp 40) 185 rfl base 235 i0 _ 2 16 Tryz.underlying185 iz0 iz1 iz2 iz3 rfl (by omega) _ _ _ rfl (HO1.out.alloc _) _ 1 1 [.int .i64 l, .int .i64 b] rfl rfl (World.news_of_block (heap_alloc_new w1 _)) (by simp [Value.oneCell']) (by unfold maxLen; omega) (by omega) (by have := HB.out; have := H1.out.size; simp; omega) ?_; intro v' w1' hown1 hgrow _)
  go_ret
  exact ⟨_, rfl, hown1, turn_append H1.out hgrow⟩

set_option maxRecDepth 100000 in
set_option maxHeartbeats 2000000 in
theorem pushg_other (l : Int) (hl1 : 1 ≤ l) (rs : List Rn) (n c b : Int) (base : Nat) (lv : Value) (w : World) (h : w.ownsRow base 235 2 lv (rs.length + 1) (rV (rs ++ [(n, c)]))) (hb : base ≤ w.heap.size) (hne : ¬ c = b) (hl : rs.length ≤ 10000) :
    Calls Tryz.prog 235 #[lv, .agg #[.int .i64 l, .int .i64 b]] w (PushedT base ((rs ++ [(n, c)]) ++ [(l, b)]) lv w) := by
  obtain ⟨i0, iz0, iz1, iz2, iz3⟩ := info_parts runInfo
  obtain ⟨g, cap, rfl, _, _, _, _⟩ := owns_some h (by omega)
  obtain ⟨c0, c1, _, _⟩ := own_last h rfl
  have HO := Lib.hid h
  have HB := Lib.hid hb
  have hcb : (c == b) = false := by simp [hne]
  have HL := Lib.hid (show (rV ((rs ++ [(n, c)]) ++ [(l, b)])) = rV (rs ++ [(n, c)]) ++ [.int .i64 l, .int .i64 b] from rV_snoc _ _ _)
  have HN := Lib.hid (show ((rs ++ [(n, c)]) ++ [(l, b)]).length = rs.length + 1 + 1 by simp)
  generalize hj : rs.length = j at *
  have j0 : (0 : Int) ≤ (j : Int) := Int.natCast_nonneg _
  have HJ := Lib.hid hl
  have j1 : (j : Int) ≤ 10000 := by omega
  haveI := in_of_cell c0
  clear h hb hne hj hl
  go_enter Tryz.func235, Tryz.ntmps235
  go_wp2_with fail
  refine wp_region_ext ?_ ?_ ?_
  · kernel_rfl
  · kernel_rfl
  repeat (go_big_quiet_step (first | fail))
  refine wpQuiet_nil ?_
  rintro w1 ⟨_t, hw⟩
  have hc1 := named_cell hw
  have hz1 := named_frozen hw
  have hh1 := named_heap hw
  haveI hi1 := named_in hw
  haveI hb1 := named_below (w := w) hw
  clear hw
  have HO1 := Lib.hid (owns_grown HO.out (grown_of (w := w) (W := w1)))
  have H1 := Lib.hid (grown_now (w := w) (W := w1))
  go_wp2_with (at_builtin; refine wpList_append_own _ rfl (.tmp 38) (.tmp 40) 185 rfl base 235 i0 _ 2 16 Tryz.underlying185 iz0 iz1 iz2 iz3 rfl (by omega) _ _ _ rfl (HO1.out.alloc _) _ 1 1 [.int .i64 l, .int .i64 b] rfl rfl (World.news_of_block (heap_alloc_new w1 _)) (by simp [Value.oneCell']) (by have := HJ.out; unfold maxLen; omega) (by have := HJ.out; omega) (by have := HB.out; have := H1.out.size; simp; omega) ?_; intro v' w1' hown1 hgrow _)
  go_ret
  refine ⟨_, rfl, ?_, turn_append H1.out hgrow⟩
  rw [HL.out, HN.out]
  exact hown1

set_option maxRecDepth 100000 in
set_option maxHeartbeats 2000000 in
theorem pushg_same (l : Int) (hl1 : 1 ≤ l) (hl2 : l ≤ 10000) (rs : List Rn) (n b : Int) (base : Nat) (lv : Value) (w : World) (h : w.ownsRow base 235 2 lv (rs.length + 1) (rV (rs ++ [(n, b)]))) (hb : base ≤ w.heap.size) (n1 : 0 ≤ n) (n2 : n ≤ 10000) (hl : rs.length ≤ 10000) :
    Calls Tryz.prog 235 #[lv, .agg #[.int .i64 l, .int .i64 b]] w (PushedT base (rs ++ [(n + l, b)]) lv w) := by
  obtain ⟨g, cap, rfl, hg, _, _, _⟩ := owns_some h (by omega)
  obtain ⟨c0, c1, f0, _⟩ := own_last h rfl
  have HO := Lib.hid h
  have HB := Lib.hid hb
  have HG := Lib.hid hg
  have HN := Lib.hid (show (rs ++ [(n + l, b)]).length = rs.length + 1 by simp)
  have HR := Lib.hid (show rs.length = rs.length from rfl)
  generalize hj : rs.length = j at *
  have HJ := Lib.hid hj
  have j0 : (0 : Int) ≤ (j : Int) := Int.natCast_nonneg _
  have j1 : (j : Int) ≤ 10000 := by omega
  haveI := in_of_cell c0
  clear h hb hj hl hg HR
  go_enter Tryz.func235, Tryz.ntmps235
  go_wp2_with fail
  refine wp_region_ext ?_ ?_ ?_
  · kernel_rfl
  · kernel_rfl
  repeat (go_big_quiet_step (first | fail))
  refine wpQuiet_nil ?_
  rintro w1 ⟨_t, hw⟩
  have hc1 := named_cell hw
  have hz1 := named_frozen hw
  have hh1 := named_heap hw
  haveI hi1 := named_in hw
  haveI hb1 := named_below (w := w) hw
  clear hw
  go_wp2_with fail
  refine wp_region_ext_tail 10 ?_ ?_ ?_
  · kernel_rfl
  · kernel_rfl
  simp only [List.take_succ_cons, List.take_zero, List.drop_succ_cons, List.drop_zero]
  repeat (go_big_quiet_step (first | fail))
  refine wpQuiet_nil ?_
  rintro w2 ⟨_t, hw⟩
  have hc2 := named_cell hw
  have hz2 := named_frozen hw
  have hh2 := named_heap hw
  haveI hi2 := named_in hw
  haveI hb2 := named_below (w := w) hw
  clear hw
  have HO2 := Lib.hid (owns_grown HO.out (grown_of (w := w) (W := w2)))
  have H2 := Lib.hid (grown_now (w := w) (W := w2))
  go_wp2_with fail
  go_ret
  refine ⟨_, rfl, ?_, (turn_below H2.out).trans (turn_set (F := fun k => some g = some k) _ _ _ rfl) (fun _ _ h => h)⟩
  rw [HN.out]
  exact (own_last HO2.out HJ.out).2.2.2 (n + l)

theorem pushg_none (l b : Int) (hl : l < 1) (rs : List Rn) (base : Nat) (lv : Value) (w : World) (h : w.ownsRow base 235 2 lv rs.length (rV rs)) (hb : base ≤ w.heap.size) (hr : rs.length ≤ 10000) :
    Calls Tryz.prog 235 #[lv, .agg #[.int .i64 l, .int .i64 b]] w (PushedT base rs lv w) := by
  obtain ⟨og, cap, rfl⟩ := owns_form h
  have HO := Lib.hid h
  have HB := Lib.hid hb
  generalize hj : rs.length = j at *
  have HJ := Lib.hid hj
  have j1 : (j : Int) ≤ 10000 := by omega
  have j0 : (0 : Int) ≤ (j : Int) := Int.natCast_nonneg _
  clear h hb hr hj
  go_enter Tryz.func235, Tryz.ntmps235
  go_wp2_with fail
  go_ret
  refine ⟨_, rfl, ?_, turn_below grown_now⟩
  rw [HJ.out]
  exact owns_grown HO.out grown_of

theorem pushG_any (rs : List Rn) (n b : Int) (base : Nat) (lv : Value) (w : World) (h : w.ownsRow base 235 2 lv rs.length (rV rs)) (hb : base ≤ w.heap.size) (hn : n ≤ 10000) (hr : rs.length ≤ 10000) (hrs : ∀ r ∈ rs, 0 ≤ r.1 ∧ r.1 ≤ 10000) :
    Calls Tryz.prog 235 #[lv, .agg #[.int .i64 n, .int .i64 b]] w (PushedT base (pushG rs n b) lv w) := by
  by_cases hn1 : n < 1
  · rw [pushG_none _ _ _ hn1]
    exact pushg_none n b hn1 rs base lv w h hb hr
  · rcases last_form rs with rfl | ⟨l, m, c, rfl⟩
    · rw [pushG_nil _ _ (by omega)]
      exact pushg_first n b (by omega) base lv w h hb
    · have hm := hrs (m, c) (by simp)
      simp only at hm
      rw [List.length_append, List.length_singleton] at h hr
      by_cases hc : c = b
      · subst hc
        rw [pushG_same _ _ _ _ (by omega)]
        exact pushg_same n (by omega) hn l m c base lv w h hb hm.1 hm.2 (by omega)
      · rw [pushG_other _ _ _ _ _ (by omega) hc]
        exact pushg_other n (by omega) l m c b base lv w h hb hc (by omega)
end Go.Proofs.YtnogfelfgclajaaGreatDoor
end

section
namespace Go.Proofs.YtnogfelfgclajaaGreatDoor
open Go.RowKit
attribute [local go_sem] ext_ext drew_ext ext_drew ext_cell ext_frozen in_lt in_le in_ne in_en in_ne1 in_en1 in_le1 in_ltn in_len in_nen in_enn size_le ite_max ite_min
set_option linter.unusedVariables false
set_option linter.unusedSimpArgs false

theorem push_any (f : Nat → Int) (k : Nat) (base : Nat) (lv : Value) (w : World) (h : w.ownsRow base 235 2 lv (rleN f k).length (rV (rleN f k))) (hb : base ≤ w.heap.size) (hk : k ≤ 9000) :
    Calls Tryz.prog 235 #[lv, .agg #[.int .i64 1, .int .i64 (f k)]] w (Pushed base (rleN f (k + 1)) w) := by
  cases k with
  | zero => exact push_first (f 0) base lv w h hb
  | succ m =>
    obtain ⟨rs, n, e, h1, h2, h3⟩ := rleN_form f m
    have e2 : rleN f (m + 1 + 1) = pushR (rleN f (m + 1)) (f (m + 1)) := rfl
    rw [e] at h e2
    have h' : w.ownsRow base 235 2 lv (rs.length + 1) (rV (rs ++ [(n, f m)])) := by simpa using h
    by_cases hf : f m = f (m + 1)
    · rw [hf, pushR_same] at e2
      rw [e2]
      rw [hf] at h'
      exact push_same rs n (f (m + 1)) base lv w h' hb (by omega) (by omega) (by omega)
    · rw [pushR_other _ _ _ _ hf] at e2
      rw [e2]
      exact push_other rs n (f m) (f (m + 1)) base lv w h' hb hf (by omega)

set_option maxHeartbeats 2000000 in
theorem of_runs (f : Nat → Int) (N g cap : Nat) (w : World) (hN : 0 < N) (hN2 : N ≤ 9000) (hc : ∀ k, k < N → w.cell? ⟨g, k, none⟩ = some (.int .i64 (f k))) :
    Calls Tryz.prog 184 #[.slice (some ⟨g, 0, none⟩) N cap] w (MadeRow 235 2 (rleN f N).length (rV (rleN f N)) w) := by
  have HC := Lib.hid hc
  have HN := Lib.hid hN2
  haveI := in_of_cell (hc 0 hN)
  clear hc hN
  go_enter Tryz.func184, Tryz.ntmps184
  go_wp2_with fail
  go_loopw [3, 8] (fun o i wr => ∃ k : Nat, k ≤ N ∧ i = .int .i64 k ∧ wr.ownsRow w.heap.size 235 2 o (rleN f k).length (rV (rleN f k)) ∧ ∃ F, wr = ext w F) (fun _ i _ => N - (intOf i).toNat)
  case atStart => exact ⟨0, by omega, rfl, World.ownsRow_nil .., grown_of⟩
  case round =>
    obtain ⟨k, hk, rfl, ow, _, hw⟩ := hrel
    rename World => w1
    have hB := named_grown hw
    have hc1 := named_cell hw
    have hz1 := named_frozen hw
    have hh1 := named_heap hw
    haveI hi1 := named_in hw
    haveI hb1 := named_below (w := w) hw
    clear hw
    have OW := Lib.hid ow
    have HB := Lib.hid (grown_now (w := w) (W := w1))
    by_cases hlt : k < N
    · have d0 := HC.out k hlt
      haveI := in_of_cell d0
      have PU := fun W (h : W = w1) => push_any f k w.heap.size _ W (h ▸ ow) (by rw [h]; exact HB.out.size) (by omega)
      have HK := Lib.hid hlt
      have k1 : (k : Int) < 9000 := by omega
      have k2 : (k : Int) < (N : Int) := by omega
      clear ow hN2
      generalize f k = b at *
      go_wp2_with fail
      refine (PU _ rfl).mono ?_
      rintro e w2 ⟨v2, rfl, ow2, hB2⟩
      have OW2 := Lib.hid ow2
      have HB2 := Lib.hid hB2
      clear ow2 hB2 PU
      go_wp2_with fail
      go_roundw
      case rel => exact ⟨k + 1, HK.out, by go_num, OW2.out, ext_of (HB.out.trans HB2.out)⟩
      case measure => have := HK.out; simp [intOf]; omega
    · obtain rfl : k = N := by omega
      clear ow
      go_wp2_with fail
      go_ret
      exact ⟨_, rfl, OW.out, grown_of⟩

end Go.Proofs.YtnogfelfgclajaaGreatDoor
end

section
namespace Go.Proofs.YtnogfelfgclajaaGreatDoor
open Go.RowKit
attribute [local go_sem] ext_ext drew_ext ext_drew ext_cell ext_frozen in_lt in_le in_ne in_en in_ne1 in_en1 in_le1 in_ltn in_len in_nen in_enn size_le ite_max ite_min
set_option linter.unusedVariables false
set_option linter.unusedSimpArgs false

/-- Runs that are not too many, nor too long. -/
structure RB (l : List Rn) : Prop where
  len : l.length ≤ 10000
  each : ∀ r ∈ l, 0 ≤ r.1 ∧ r.1 ≤ 10000
def RunsAt (w : World) (g : Nat) (l : List Rn) : Prop := ∀ j u, (rV l)[j]? = some u → w.cell? ⟨g, j, none⟩ = some u
theorem RunsAt.grown {w W : World} {g : Nat} {l : List Rn} (h : RunsAt w g l) (hW : ∃ f, W = ext w f) : RunsAt W g l := fun j u hu => by
  obtain ⟨f, rfl⟩ := hW
  have h1 := h j u hu
  exact ((ext_below w f).cell (p := ⟨g, j, none⟩) (World.block_lt_of_cell? w _ h1)).trans h1
theorem lenR_take (l : List Rn) (k : Nat) (hk : k < l.length) : lenR (l.take (k + 1)) = lenR (l.take k) + l[k].1 := by
  unfold lenR
  rw [List.take_succ_eq_append_getElem hk, List.map_append, List.sum_append]
  simp
theorem lenR_bd {l : List Rn} (h : RB l) (k : Nat) : 0 ≤ lenR (l.take k) ∧ lenR (l.take k) ≤ 100000000 := by
  have key : ∀ m : List Rn, (∀ r ∈ m, 0 ≤ r.1 ∧ r.1 ≤ 10000) → 0 ≤ lenR m ∧ lenR m ≤ 10000 * (m.length : Int) := by
    intro m
    induction m with
    | nil => intro _; simp [lenR]
    | cons r m ih =>
      intro hm
      have h1 := hm r (by simp)
      have h2 := ih (fun x hx => hm x (by simp [hx]))
      unfold lenR at h2 ⊢
      simp only [List.map_cons, List.sum_cons, List.length_cons]
      omega
  have h1 := key (l.take k) (fun r hr => h.each r (List.mem_of_mem_take hr))
  have h2 : (l.take k).length ≤ 10000 := by have := h.len; simp; omega
  omega

set_option maxRecDepth 100000 in
set_option maxHeartbeats 2000000 in
theorem len_any (l : List Rn) (g cap : Nat) (w : World) (hl : RB l) (h0 : 0 < l.length) (hc : RunsAt w g l) :
    Calls Tryz.prog 241 #[.slice (some ⟨g, 0, none⟩) l.length cap] w fun e w' => e = .returned (.int .i64 (lenR l)) ∧ ∃ f, w' = ext w f := by
  have HC := Lib.hid hc
  have HL := Lib.hid hl
  haveI := in_of_cell (hc 0 _ (rV_at l 0 h0).1)
  clear hc hl h0
  go_enter Tryz.func241, Tryz.ntmps241
  go_wp2_with fail
  go_loopw [3, 8] (fun n i wr => ∃ k : Nat, k ≤ l.length ∧ i = .int .i64 k ∧ n = .int .i64 (lenR (l.take k)) ∧ ∃ f, wr = ext w f) (fun _ i _ => l.length - (intOf i).toNat)
  case atStart => exact ⟨0, by omega, rfl, rfl, grown_of⟩
  case round =>
    obtain ⟨k, hk, rfl, rfl, _, hw⟩ := hrel
    rename World => w1
    haveI hg1 := named_grown hw
    have hc1 := named_cell hw
    have hz1 := named_frozen hw
    have hh1 := named_heap hw
    haveI hi1 := named_in hw
    haveI hb1 := named_below (w := w) hw
    clear hw
    by_cases hlt : k < l.length
    · obtain ⟨t0, t1⟩ := rV_at l k hlt
      have d0 := HC.out _ _ t0
      have d1 := HC.out _ _ t1
      haveI := in_of_cell d0
      have HT := Lib.hid (lenR_take l k hlt)
      have HK := Lib.hid hlt
      obtain ⟨b1, b2⟩ := lenR_bd HL.out k
      obtain ⟨e1, e2⟩ := HL.out.each l[k] (List.getElem_mem hlt)
      have k1 : (k : Int) < (l.length : Int) := by omega
      have k2 : (l.length : Int) ≤ 10000 := by have := HL.out.len; omega
      clear t0 t1
      generalize lenR (l.take k) = s at *
      generalize l[k].1 = a at *
      generalize l[k].2 = b at *
      go_wp2_with fail
      go_roundw
      case rel => exact ⟨k + 1, HK.out, by go_num, by rw [HT.out], grown_of⟩
      case measure => have := HK.out; simp [intOf]; omega
    · have k1 : ¬ (k : Int) < (l.length : Int) := by omega
      have HE : Hid (lenR (l.take k) = lenR l) := Lib.hid (by rw [List.take_of_length_le (by omega)])
      go_wp2_with fail
      go_ret
      exact ⟨ret_int HE.out, grown_of⟩

set_option maxRecDepth 100000 in
set_option maxHeartbeats 2000000 in
theorem runsat_any (l : List Rn) (i : Int) (g cap : Nat) (w : World) (hl : RB l) (h0 : 0 < l.length) (hc : RunsAt w g l) (i0 : 0 ≤ i) (i1 : i ≤ 100000000) :
    Calls Tryz.prog 129 #[.slice (some ⟨g, 0, none⟩) l.length cap, .int .i64 i] w fun e w' => e = .returned (.int .i64 (atG l i)) ∧ ∃ f, w' = ext w f := by
  have HC := Lib.hid hc
  have HL := Lib.hid hl
  haveI := in_of_cell (hc 0 _ (rV_at l 0 h0).1)
  clear hc hl h0
  go_enter Tryz.func129, Tryz.ntmps129
  go_wp2_with fail
  go_loopw [1, 9] (fun n j wr => ∃ (k : Nat) (m : Int), k ≤ l.length ∧ j = .int .i64 k ∧ n = .int .i64 m ∧ 0 ≤ m ∧ m ≤ 100000000 ∧ Hid (atG l i = atG (l.drop k) m) ∧ ∃ f, wr = ext w f) (fun _ j _ => l.length - (intOf j).toNat)
  case atStart => exact ⟨0, i, by omega, rfl, rfl, i0, i1, Lib.hid rfl, grown_of⟩
  case round =>
    obtain ⟨k, m, hk, rfl, rfl, m0, m1, HM, _, hw⟩ := hrel
    rename World => w1
    haveI hg1 := named_grown hw
    have hc1 := named_cell hw
    have hz1 := named_frozen hw
    have hh1 := named_heap hw
    haveI hi1 := named_in hw
    haveI hb1 := named_below (w := w) hw
    clear hw
    by_cases hlt : k < l.length
    · obtain ⟨t0, t1⟩ := rV_at l k hlt
      have d0 := HC.out _ _ t0
      have d1 := HC.out _ _ t1
      haveI := in_of_cell d0
      have HK := Lib.hid hlt
      obtain ⟨e1, e2⟩ := HL.out.each l[k] (List.getElem_mem hlt)
      have k1 : (k : Int) < (l.length : Int) := by omega
      have k2 : (l.length : Int) ≤ 10000 := by have := HL.out.len; omega
      have HD : Hid (atG (l.drop k) m = if 0 ≤ m ∧ m < l[k].1 then l[k].2 else atG (l.drop (k + 1)) (m - l[k].1)) := Lib.hid (by rw [List.drop_eq_getElem_cons hlt]; rfl)
      clear t0 t1
      generalize l[k].1 = a at *
      generalize l[k].2 = b at *
      by_cases hm : m < a
      · have HR : Hid (atG l i = b) := Lib.hid (by rw [HM.out, HD.out, if_pos ⟨m0, hm⟩])
        clear HD HM
        go_wp2_with fail
        go_ret
        exact ⟨ret_int HR.out.symm, grown_of⟩
      · have HR : Hid (atG l i = atG (l.drop (k + 1)) (m - a)) := Lib.hid (by rw [HM.out, HD.out, if_neg (by omega)])
        clear HD HM
        go_wp2_with fail
        go_roundw
        case rel => exact ⟨k + 1, m - a, HK.out, by go_num, rfl, by omega, by omega, HR, grown_of⟩
        case measure => have := HK.out; simp [intOf]; omega
    · have k1 : ¬ (k : Int) < (l.length : Int) := by omega
      have HR : Hid (atG l i = -1) := Lib.hid (by rw [HM.out, List.drop_of_length_le (by omega)]; rfl)
      go_wp2_with fail
      go_ret
      exact ⟨ret_int HR.out.symm, grown_of⟩
end Go.Proofs.YtnogfelfgclajaaGreatDoor
end

section
namespace Go.Proofs.YtnogfelfgclajaaGreatDoor
open Go.RowKit
attribute [local go_sem] ext_ext drew_ext ext_drew ext_cell ext_frozen in_lt in_le in_ne in_en in_ne1 in_en1 in_le1 in_ltn in_len in_nen in_enn size_le ite_max ite_min
set_option linter.unusedVariables false
set_option linter.unusedSimpArgs false

theorem canon_bd {l : List Rn} (h : Canon l) : l.length ≤ (cellsR l).length ∧ ∀ r ∈ l, 1 ≤ r.1 ∧ r.1 ≤ ((cellsR l).length : Int) := by
  induction l with
  | nil => exact ⟨Nat.le_refl _, fun r hr => (by cases hr)⟩
  | cons r l ih =>
    obtain ⟨n, b⟩ := r
    have h1 := h.pos
    obtain ⟨h2, h3⟩ := ih h.tail
    simp only at h1
    rw [cellsR_cons]
    simp only [List.length_cons, List.length_append, List.length_replicate]
    refine ⟨by omega, fun r hr => ?_⟩
    rcases List.mem_cons.1 hr with rfl | hr
    · simp only; omega
    · have := h3 r hr; omega

set_option maxRecDepth 100000 in
set_option maxHeartbeats 4000000 in
theorem runscut_any (l : List Rn) (s t : Int) (g cap : Nat) (w : World) (hl : RB l) (hN : lenR l ≤ 10000) (h0 : 0 < l.length) (hc : RunsAt w g l) (s0 : 0 ≤ s) (s1 : s ≤ 10000) (t0 : 0 ≤ t) (t1 : t ≤ 10000) :
    Calls Tryz.prog 375 #[.slice (some ⟨g, 0, none⟩) l.length cap, .int .i64 s, .int .i64 t] w (MadeRow 235 2 (cutG [] s t l 0).length (rV (cutG [] s t l 0)) w) := by
  have HC := Lib.hid hc
  have HL := Lib.hid hl
  have HN := Lib.hid (show ∀ k, lenR (l.take k) ≤ 10000 from fun k => by
    have h1 : lenR l = lenR (l.take k) + lenR (l.drop k) := by
      unfold lenR
      rw [← List.sum_append, ← List.map_append, List.take_append_drop]
    have h2 : 0 ≤ lenR (l.drop k) := by
      have key : ∀ m : List Rn, (∀ r ∈ m, 0 ≤ r.1) → 0 ≤ lenR m := by
        intro m
        induction m with
        | nil => intro _; simp [lenR]
        | cons r m ih =>
          intro hm
          have h3 := hm r (by simp)
          have h4 := ih (fun x hx => hm x (by simp [hx]))
          unfold lenR at h4 ⊢
          simp only [List.map_cons, List.sum_cons]
          omega
      exact key _ (fun r hr => (hl.each r (List.mem_of_mem_drop hr)).1)
    omega)
  haveI := in_of_cell (hc 0 _ (rV_at l 0 h0).1)
  clear hc hl h0 hN
  go_enter Tryz.func375, Tryz.ntmps375
  go_wp2_with fail
  go_loopw [7, 8, 15] (fun o n i wr => ∃ (k : Nat) (out : List Rn), k ≤ l.length ∧ i = .int .i64 k ∧ n = .int .i64 (lenR (l.take k)) ∧ wr.ownsRow w.heap.size 235 2 o out.length (rV out) ∧
    Hid (cutG [] s t l 0 = cutG out s t (l.drop k) (lenR (l.take k)) ∧ Canon out ∧ ((cellsR out).length : Int) ≤ lenR (l.take k)) ∧ ∃ f, wr = ext w f) (fun _ _ i _ => l.length - (intOf i).toNat)
  case atStart => exact ⟨0, [], by omega, rfl, rfl, World.ownsRow_nil .., Lib.hid ⟨rfl, .nil, by simp [lenR, cellsR]⟩, grown_of⟩
  case round =>
    obtain ⟨k, out, hk, rfl, rfl, ow, HO, _, hw⟩ := hrel
    rename World => w1
    haveI hg1 := named_grown hw
    have hc1 := named_cell hw
    have hz1 := named_frozen hw
    have hh1 := named_heap hw
    haveI hi1 := named_in hw
    haveI hb1 := named_below (w := w) hw
    clear hw
    have OW := Lib.hid ow
    clear ow
    by_cases hlt : k < l.length
    · obtain ⟨x0, x1⟩ := rV_at l k hlt
      have d0 := HC.out _ _ x0
      have d1 := HC.out _ _ x1
      haveI := in_of_cell d0
      have HT := Lib.hid (lenR_take l k hlt)
      have HK := Lib.hid hlt
      obtain ⟨b1, _⟩ := lenR_bd HL.out k
      have b2 := HN.out k
      obtain ⟨e1, e2⟩ := HL.out.each l[k] (List.getElem_mem hlt)
      have k1 : (k : Int) < (l.length : Int) := by omega
      have k2 : (l.length : Int) ≤ 10000 := by have := HL.out.len; omega
      have HD : Hid (cutG out s t (l.drop k) (lenR (l.take k)) = cutG (pushG out (min t (lenR (l.take k) + l[k].1) - max s (lenR (l.take k))) l[k].2) s t (l.drop (k + 1)) (lenR (l.take k) + l[k].1)) := Lib.hid (by rw [List.drop_eq_getElem_cons hlt]; rfl)
      have HPC := Lib.hid (pushG_cells (min t (lenR (l.take k) + l[k].1) - max s (lenR (l.take k))) l[k].2 HO.out.2.1)
      clear x0 x1
      generalize lenR (l.take k) = m at *
      generalize l[k].1 = a at *
      generalize l[k].2 = b at *
      have HB := Lib.hid (grown_now (w := w) (W := w1))
      rw [show min t (m + a) = min (m + a) t from Int.min_comm _ _] at *
      have HN1 := Lib.hid (pushG_canon (min (m + a) t - max s m) b HO.out.2.1)
      by_cases hp : max s m < min (m + a) t
      · have PU := fun (lv : Value) (W : World) (h : W.ownsRow w.heap.size 235 2 lv out.length (rV out)) (hb : w.heap.size ≤ W.heap.size) => pushG_any out (min (m + a) t - max s m) b w.heap.size lv W h hb (by omega) (by have := (canon_bd HO.out.2.1).1; have := HO.out.2.2; omega) (fun r hr => by have := (canon_bd HO.out.2.1).2 r hr; have := HO.out.2.2; omega)
        have HP := Lib.hid hp
        go_wp2_with fail
        refine wp_region_ext ?_ ?_ ?_
        · kernel_rfl
        · kernel_rfl
        repeat (go_big_quiet_step (first | fail))
        refine wpQuiet_nil ?_
        rintro w2 ⟨_t, hw⟩
        haveI hg2 := named_grown hw
        haveI hb2_1 := named_below (w := w1) hw
        have hc2 := named_cell hw
        have hz2 := named_frozen hw
        have hh2 := named_heap hw
        haveI hi2 := named_in hw
        haveI hb2 := named_below (w := w) hw
        clear hw
        go_wp2_with fail
        refine (PU _ _ (owns_grown OW.out (by exact grown_of)) (by exact (grown_now (w := w) (W := w2)).size)).mono ?_
        rintro e w3 ⟨v3, rfl, ow3, hT⟩
        have hB3 : Below w.heap.size w w3 := (grown_now (w := w) (W := w2)).trans (hT.below (fun i _ hi => (OW.out.lt i hi).1) (grown_now (w := w) (W := w2)).size)
        have hr1 : w3.cell? ⟨w1.heap.size, 0, none⟩ = some (.int .i64 a) := (hT.cell (of_eq_true in_lt) (fun hi => Nat.lt_irrefl _ (OW.out.lt _ hi).2)).trans (by go_simp)
        have OW3 := Lib.hid ow3
        have HB3 := Lib.hid hB3
        clear ow3 hB3 PU hT
        go_wp2_with fail
        go_roundw
        case rel =>
          refine ⟨k + 1, pushG out (min (m + a) t - max s m) b, HK.out, by go_num, by rw [HT.out], OW3.out, Lib.hid ⟨HO.out.1.trans (by rw [HT.out]; exact HD.out), HN1.out, ?_⟩, ext_of HB3.out⟩
          have := HO.out.2.2
          rw [HPC.out, HT.out]
          simp only [List.length_append, List.length_replicate]
          omega
        case measure => have := HK.out; simp [intOf]; omega
      · have hd : decide (max s m < min (m + a) t) = false := by simp [hp]
        have HP : Hid (pushG out (min (m + a) t - max s m) b = out) := Lib.hid (pushG_none _ _ _ (by omega))
        have HP2 := Lib.hid hp
        go_wp2_with fail
        refine wp_region_ext ?_ ?_ ?_
        · kernel_rfl
        · kernel_rfl
        repeat (go_big_quiet_step (first | fail))
        refine wpQuiet_nil ?_
        rintro w2 ⟨_t, hw⟩
        haveI hg2 := named_grown hw
        haveI hb2_1 := named_below (w := w1) hw
        have hc2 := named_cell hw
        have hz2 := named_frozen hw
        have hh2 := named_heap hw
        haveI hi2 := named_in hw
        haveI hb2 := named_below (w := w) hw
        clear hw
        have HB2 := Lib.hid (grown_now (w := w) (W := w2))
        have OW2 := Lib.hid (owns_grown OW.out (grown_of (w := w1) (W := w2)))
        go_wp2_with fail
        go_roundw
        case rel =>
          refine ⟨k + 1, out, HK.out, by go_num, by rw [HT.out], OW2.out, Lib.hid ⟨HO.out.1.trans (by rw [HT.out, HD.out, HP.out]), HO.out.2.1, ?_⟩, ext_of HB2.out⟩
          have := HO.out.2.2
          rw [HT.out]
          omega
        case measure => have := HK.out; simp [intOf]; omega
    · have k1 : ¬ (k : Int) < (l.length : Int) := by omega
      have HE : Hid (cutG [] s t l 0 = out) := Lib.hid (by rw [HO.out.1, List.drop_of_length_le (by omega)]; rfl)
      obtain ⟨og, cp, rfl⟩ := owns_form OW.out
      go_wp2_with fail
      go_ret
      rw [HE.out]
      exact ⟨_, rfl, OW.out, grown_of⟩
end Go.Proofs.YtnogfelfgclajaaGreatDoor
end

section
namespace Go.Proofs.YtnogfelfgclajaaGreatDoor
open Go.RowKit
attribute [local go_sem] ext_ext drew_ext ext_drew ext_cell ext_frozen in_lt in_le in_ne in_en in_ne1 in_en1 in_le1 in_ltn in_len in_nen in_enn size_le ite_max ite_min
set_option linter.unusedVariables false
set_option linter.unusedSimpArgs false

set_option maxRecDepth 100000 in
set_option maxHeartbeats 2000000 in
theorem runsmake_any (n b : Int) (hn : n ≤ 10000) (w : World) :
    Calls Tryz.prog 376 #[.int .i64 n, .int .i64 b] w (MadeRow 235 2 (pushG [] n b).length (rV (pushG [] n b)) w) := by
  have HN := Lib.hid hn
  clear hn
  go_enter Tryz.func376, Tryz.ntmps376
  go_wp2_with fail
  refine (pushG_any [] n b w.heap.size _ _ (World.ownsRow_nil ..) (by exact Nat.le_refl _) HN.out (by simp) (fun r hr => by cases hr)).mono ?_
  rintro e w1 ⟨v1, rfl, ow1, hT⟩
  have HB1 := Lib.hid (hT.below (B := w.heap.size) (fun i _ hi => by cases hi) (Nat.le_refl _))
  have OW1 := Lib.hid ow1
  clear ow1 hT
  go_wp2_with fail
  go_ret
  exact ⟨_, rfl, OW1.out, ext_of HB1.out⟩
end Go.Proofs.YtnogfelfgclajaaGreatDoor
end
