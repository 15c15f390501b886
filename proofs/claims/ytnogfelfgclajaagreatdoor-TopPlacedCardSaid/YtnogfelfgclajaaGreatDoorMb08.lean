/-
  The runs of bytes.
  The word that tells turned bytes: its table.
  The word that tells turned bytes: with bytes behind.
  Room for bytes; bytes one behind the other.
-/
import Derived.Test.YtnogfelfgclajaaGreatDoorMb07
import Derived.Test.YtnogfelfgclajaaGreatDoorMb01
import Derived.IntWalk
import Derived.Deep.RegionHeld3
section
namespace Go.Proofs.YtnogfelfgclajaaGreatDoor
open Go.RowKit
attribute [local go_sem] ext_ext drew_ext ext_drew ext_cell ext_frozen in_lt in_le in_ne in_en in_ne1 in_en1 in_le1 in_ltn in_len in_nen in_enn size_le ite_max ite_min
set_option linter.unusedVariables false
set_option linter.unusedSimpArgs false

/-- What a reader hands back: runs, and no error. -/
def MadeRuns (l : List Rn) (w : World) (o : Ending) (w' : World) : Prop := ∃ v, o = .returned (.tuple #[v, .int .i64 0]) ∧ w'.ownsRow w.heap.size 235 2 v l.length (rV l) ∧ ∃ f, w' = ext w f
theorem codeW_at (l : List Rn) (k : Nat) (hk : k < l.length) : codeW (l.drop k) = l[k].2.toNat :: (numB l[k].1.toNat ++ codeW (l.drop (k + 1))) := by
  rw [List.drop_eq_getElem_cons hk]
  obtain ⟨n, b⟩ := l[k]
  exact codeW_cons ..
theorem codeW_split (l : List Rn) (k : Nat) : (codeW (l.take k)).length + (codeW (l.drop k)).length = (codeW l).length := by
  rw [← List.length_append, ← codeW_append, List.take_append_drop]
theorem codeW_all {l : List Rn} (h : Fine l) : (codeW l).length ≤ 20000 := by have := codeW_bd h l.length; rwa [List.take_length] at this
/-- Bytes that lie in a slice (which may have more room). -/
def SliceOf (w : World) (g o m c : Nat) (l : List Nat) : Prop := m = l.length ∧ m ≤ c ∧ BytesAt w g o l

set_option maxRecDepth 100000 in
set_option maxHeartbeats 4000000 in
theorem coderead_any (l : List Rn) (g o c : Nat) (w : World) (h : Fine l) (hcl : (codeW l).length ≤ c) (hc : BytesAt w g o (codeW l)) :
    Calls Tryz.prog 138 #[.slice (some ⟨g, o, none⟩) (codeW l).length c, .int .i64 8192] w (MadeRuns l w) := by
  obtain ⟨i0, iz0, iz1, iz2, iz3⟩ := info_parts runInfo
  have HC := Lib.hid hc
  have HF := Lib.hid h
  have HCL := Lib.hid hcl
  have HLB := Lib.hid (codeW_all h)
  have HB0 := Lib.hid (show ∀ k (hk : k < l.length), (codeW (l.drop k)).length + (codeW (l.take k)).length = (codeW l).length from fun k _ => by have := codeW_split l k; omega)
  have HBY := Lib.hid (show ∀ k, BytesAt w g (o + (codeW (l.take k)).length) (codeW (l.drop k)) from fun k j u hu => by
    have e : codeW l = codeW (l.take k) ++ codeW (l.drop k) := by rw [← codeW_append, List.take_append_drop]
    have h1 := hc ((codeW (l.take k)).length + j) u (by
      rw [e, bV_append, List.getElem?_append_right (by rw [bV_length]; omega), bV_length, Nat.add_sub_cancel_left]
      exact hu)
    rwa [← Nat.add_assoc] at h1)
  haveI : Nonempty (In g w) := in_of_cell (hc 0 (.int .u8 ((l[0]'h.full).2.toNat : Int)) (by
    have := codeW_at l 0 h.full
    rw [List.drop_zero] at this
    rw [this]
    rfl))
  have HFU := Lib.hid h.full
  clear hc h hcl
  go_enter Tryz.func138, Tryz.ntmps138
  go_wp2_with fail
  go_step3
  go_wp2_with fail
  go_step3
  go_wp2_with fail
  go_loopw [0, 1, 6, 7] (fun b n v last wr => ∃ (k m cc : Nat) (la : Int), k < l.length ∧ Hid (m = (codeW (l.drop k)).length) ∧ m ≤ cc ∧ b = .slice (some ⟨g, o + (codeW (l.take k)).length, none⟩) m cc ∧ n = .int .i64 (8192 - lenR (l.take k)) ∧ last = .int .i64 la ∧ Hid (∀ hk : k < l.length, la ≠ l[k].2) ∧
    wr.ownsRow w.heap.size 235 2 v k (rV (l.take k)) ∧ ∃ f, wr = ext w f) (fun _ _ v _ _ => l.length - (match v with | .slice _ n _ => n | _ => 0))
  case atStart => exact ⟨0, _, c, -1, HFU.out, Lib.hid (by rw [List.drop_zero]), HCL.out, rfl, rfl, rfl, Lib.hid (fun hk => by have := (HF.out.good l[0] (List.getElem_mem hk)).lo; omega), World.ownsRow_nil .., grown_of⟩
  case round =>
    obtain ⟨k, m, cc, la, hk, hm, hcc, rfl, rfl, rfl, hla, ow, _, hw⟩ := hrel
    rename World => w1
    haveI hg1 := named_grown hw
    have hc1 := named_cell hw
    have hz1 := named_frozen hw
    have hh1 := named_heap hw
    haveI hi1 := named_in hw
    haveI hb1 := named_below (w := w) hw
    clear hw
    have OW := Lib.hid ow
    clear ow
    have HBk := HBY.out k
    have HAT := codeW_at l k hk
    have d0 : w.cell? ⟨g, o + (codeW (l.take k)).length, none⟩ = some (.int .u8 ((l[k].2.toNat : Nat) : Int)) := HBk 0 _ (by rw [HAT]; rfl)
    obtain ⟨og, cp, rfl⟩ := owns_form OW.out
    have GB := HF.out.good l[k] (List.getElem_mem hk)
    have MB := fun W => may_any l[k].2 GB W
    rw [show ((l[k].2.toNat : Nat) : Int) = l[k].2 from Int.toNat_of_nonneg GB.lo] at d0
    obtain ⟨e1, e2⟩ := HF.out.each l[k] (List.getElem_mem hk)
    have hm2 : m = (numB l[k].1.toNat ++ codeW (l.drop (k + 1))).length + 1 := by rw [hm.out, HAT]; rfl
    have HX : (numB l[k].1.toNat ++ codeW (l.drop (k + 1))).length = (numB l[k].1.toNat).length + (codeW (l.drop (k + 1))).length := List.length_append
    have HXB : (numB l[k].1.toNat ++ codeW (l.drop (k + 1))).length ≤ 20000 := by have := HB0.out k hk; have := HLB.out; have := hm.out; omega
    have NP := numB_pos l[k].1.toNat
    have DG : ∀ W, (∃ f, W = ext w f) → Calls Tryz.prog 180 #[.slice (some ⟨g, o + (codeW (l.take k)).length + 1, none⟩) (numB l[k].1.toNat ++ codeW (l.drop (k + 1))).length (numB l[k].1.toNat ++ codeW (l.drop (k + 1))).length] W fun e w' => e = .returned (.tuple #[.int .i64 l[k].1, .int .i64 ((numB l[k].1.toNat).length : Int), .int .i64 0]) ∧ ∃ f, w' = ext W f := fun W hW => by
      have := digits_any l[k].1.toNat (by omega) (by omega) (codeW (l.drop (k + 1))) g (o + (codeW (l.take k)).length + 1) (by omega) W (fun j u hu => by
        have h1 := (HBk.grown hW) (j + 1) u (by rw [HAT]; exact hu)
        rwa [show o + (codeW (l.take k)).length + (j + 1) = o + (codeW (l.take k)).length + 1 + j by omega] at h1)
      rwa [Int.toNat_of_nonneg (by omega)] at this
    have HTA := Lib.hid (show (codeW (l.take (k + 1))).length = (codeW (l.take k)).length + 1 + (numB l[k].1.toNat).length by rw [codeW_take l k hk, List.length_append]; simp; omega)
    have HT := Lib.hid (lenR_take l k hk)
    obtain ⟨s0, _⟩ := lenR_le HF.out.nonneg k
    have s1 := (lenR_le HF.out.nonneg (k + 1)).2
    rw [HT.out, HF.out.len] at s1
    have hne : (l[k].2 == la) = false := beq_eq_false_iff_ne.2 (fun e => hla.out hk e.symm)
    have HNX := Lib.hid (show ∀ hk2 : k + 1 < l.length, l[k].2 ≠ l[k + 1].2 from fun hk2 => canon_adj HF.out.canon k hk2)
    have HRV := Lib.hid (show rV (l.take (k + 1)) = rV (l.take k) ++ [.int .i64 l[k].1, .int .i64 l[k].2] by rw [List.take_succ_eq_append_getElem hk]; exact rV_snoc _ _ _)
    have HEND := Lib.hid (show (k + 1 = l.length → lenR (l.take k) + l[k].1 = 8192 ∧ codeW (l.drop (k + 1)) = []) ∧ (k + 1 < l.length → lenR (l.take k) + l[k].1 < 8192 ∧ 1 ≤ (codeW (l.drop (k + 1))).length) from ⟨fun e => ⟨by rw [← HT.out, e, List.take_length]; exact HF.out.len, by rw [e, List.drop_length]; rfl⟩, fun hk2 => ⟨by
        have h1 := (lenR_le HF.out.nonneg (k + 2)).2
        rw [lenR_take l (k + 1) hk2, HT.out, HF.out.len] at h1
        have := (HF.out.each l[k + 1] (List.getElem_mem hk2)).1
        omega, by rw [codeW_at l (k + 1) hk2]; simp⟩⟩)
    have HLEN := Lib.hid (show (codeW (l.drop (k + 1))).length = (codeW (l.drop (k + 1))).length from rfl)
    subst hm2
    have gb0 := GB.lo
    have gb1 := GB.hi
    clear HBk HAT hm hla GB
    generalize hq : (numB l[k].1.toNat).length = q at *
    generalize (numB l[k].1.toNat ++ codeW (l.drop (k + 1))).length = X at *
    generalize hr : (codeW (l.drop (k + 1))).length = r at *
    generalize l[k].1 = a at *
    generalize l[k].2 = b at *
    generalize lenR (l.take k) = s at *
    generalize (codeW (l.take k)).length = oo at *
    have t2 : (a == 0) = false := by simp; omega
    have t3 : decide (8192 - s < a) = false := by simp; omega
    have HR := Lib.hid hr
    have HQ := Lib.hid hq
    clear hr hq
    subst HX
    haveI := in_of_cell d0
    go_wp2_with fail
    refine (MB _).mono ?_
    rintro e w2 ⟨rfl, _t, hw⟩
    haveI hb2_1 := named_below (w := w1) hw
    have hc2 := named_cell hw
    have hz2 := named_frozen hw
    have hh2 := named_heap hw
    haveI hi2 := named_in hw
    haveI hb2 := named_below (w := w) hw
    clear hw
    go_wp2_with fail
    refine (DG _ (by exact grown_of)).mono ?_
    rintro e w3 ⟨rfl, _t, hw⟩
    haveI hb3_1 := named_below (w := w1) hw
    haveI hb3_2 := named_below (w := w2) hw
    have hc3 := named_cell hw
    have hz3 := named_frozen hw
    have hh3 := named_heap hw
    haveI hi3 := named_in hw
    haveI hb3 := named_below (w := w) hw
    clear hw
    go_wp2_with fail
    obtain ⟨w5, hw5⟩ : ∃ W, W = w3.setCell ⟨w1.heap.size, 0, none⟩ (.int .i64 a) := ⟨_, rfl⟩
    rw [← hw5]
    have bl3 : w3.heap[w1.heap.size]? = some (.cells #[.int .i64 0, .int .i64 b] 235 (0, 0)) := by rw [hh3]; (try rw [hh2]); exact heap_alloc_new w1 _
    have bl5 : w5.heap[w1.heap.size]? = some (.cells #[.int .i64 a, .int .i64 b] 235 (0, 0)) := by rw [hw5]; exact block_set bl3 _ (by simp)
    have r0 := cell_of_block (i := 0) bl5 rfl
    have r1 := cell_of_block (i := 1) bl5 rfl
    have O5 := Lib.hid (show w5.ownsRow w.heap.size 235 2 (.slice og k cp) k (rV (l.take k)) by
      rw [hw5]
      exact ownsRow_setCell_other (owns_grown OW.out (by exact grown_of)) (fun e => Nat.lt_irrefl _ (OW.out.lt _ e).2) _)
    haveI hb5 : Nonempty (Below w.heap.size w w5) := by rw [hw5]; infer_instance
    haveI := in_of_block bl5
    clear hw5 bl3 bl5 hc1 hz1 hh1 hc2 hz2 hh2 hc3 hz3 hh3 OW
    have wq : IntKind.i64.wrap (1 + (q : Int)) = 1 + (q : Int) := IntWalk.i64_in _ (by omega)
    have wt : (1 + (q : Int)).toNat = 1 + q := by omega
    have w0 : 0 ≤ 1 + (q : Int) := by omega
    have w00 : 1 + (q : Int) ≤ (q : Int) + (r : Int) + 1 := by omega
    have wn : IntKind.i64.wrap (8192 - s - a) = 8192 - s - a := IntWalk.i64_in _ (by omega)
    generalize w1.heap.size = rb at *
    by_cases hk2 : k + 1 < l.length
    · obtain ⟨z1, z2⟩ := HEND.out.2 hk2
      have c1 : ¬ cc = 1 + q := by omega
      refine wp_region_noPanic ?_
      refine wp_region_mix 8 [0, 4, 5, 6, 7, 8, 9, 10] [1] [2, 3, 11, 12, 13] (by kernel_rfl) (by kernel_rfl) (by kernel_rfl) (fun _ _ _ _ _ h => h) ?_
      simp only [pick, List.getElem?_cons_zero, List.getElem?_cons_succ]
      repeat (refine wpPure_step (fun K hK => ?_); go_simp; refine hK _ ?_; clear hK K)
      refine wpPure_nil ?_
      repeat (go_big_quiet_step (first | fail))
      refine wpQuiet_nil ?_
      rintro w6 ⟨_t, hw⟩
      haveI hb6_5 := named_below (w := w5) hw
      have hc6 := named_cell hw
      have hz6 := named_frozen hw
      have hh6 := named_heap hw
      haveI hi6 := named_in hw
      haveI hb6 := named_below (w := w) hw
      clear hw
      have O6 := Lib.hid (owns_grown O5.out (grown_of (w := w5) (W := w6)))
      have HB6 := Lib.hid (grown_now (w := w) (W := w6))
      go_wp2_with (at_builtin; refine wpList_append_own _ rfl (.tmp 57) (.tmp 59) 185 rfl w.heap.size 235 i0 _ 2 16 Tryz.underlying185 iz0 iz1 iz2 iz3 rfl (by omega) _ _ _ rfl (O6.out.alloc _) _ 1 1 [.int .i64 a, .int .i64 b] rfl rfl (World.news_of_block (heap_alloc_new w6 _)) (by simp [Value.oneCell']) (by have := HF.out.short; unfold maxLen; omega) (by have := HF.out.short; omega) (by have := HB6.out.size; simp; omega) ?_; intro v7 w7 ho7 hgr7 hx; clear hx)
      have HO7 := Lib.hid (show w7.ownsRow w.heap.size 235 2 v7 (k + 1) (rV (l.take (k + 1))) by rw [HRV.out]; exact ho7)
      have HB7 := Lib.hid (show Below w.heap.size w w7 from (HB6.out.alloc HB6.out.size _).grown hgr7 (by have := HB6.out.size; simp; omega) (fun q hq => (O6.out.lt q hq).1))
      clear ho7 hgr7
      refine NoPanic.normal ?_
      have HM := Lib.hid (show q + r + 1 - (1 + q) = (codeW (l.drop (k + 1))).length by rw [HR.out]; omega)
      have hz : ((8192 - s - a) == 0) = false := by simp; omega
      have HK2 := Lib.hid hk2
      clear hk2
      obtain ⟨og7, cp7, rfl⟩ := owns_form HO7.out
      go_wp2_with fail
      go_roundw
      case rel => exact ⟨k + 1, _, cc - (1 + q), b, HK2.out, HM, by omega, by rw [HTA.out, show o + (oo + 1 + q) = o + oo + (1 + q) by omega], by rw [HT.out]; exact num_eq (by omega), rfl, HNX, HO7.out, ext_of HB7.out⟩
      case measure => have := HK2.out; simp; omega
    · have hkl : k + 1 = l.length := by omega
      obtain ⟨z1, z2⟩ := HEND.out.1 hkl
      obtain rfl : r = 0 := by rw [← HR.out, z2]; rfl
      have hz : ((8192 - s - a) == 0) = true := by simp; omega
      have HKL := Lib.hid hkl
      have e0 : 8192 - s - a = 0 := by omega
      rw [e0] at wn
      have w01 : 1 + (q : Int) ≤ (q : Int) + 1 := by omega
      clear hkl z2 hk2 hz
      by_cases c1 : cc = 1 + q
      · subst c1
        refine wp_region_noPanic ?_
        refine wp_region_mix 8 [0, 4, 5, 6, 7, 8, 9, 10] [1] [2, 3, 11, 12, 13] (by kernel_rfl) (by kernel_rfl) (by kernel_rfl) (fun _ _ _ _ _ h => h) ?_
        simp only [pick, List.getElem?_cons_zero, List.getElem?_cons_succ]
        repeat (refine wpPure_step (fun K hK => ?_); go_simp; refine hK _ ?_; clear hK K)
        refine wpPure_nil ?_
        repeat (go_big_quiet_step (first | fail))
        refine wpQuiet_nil ?_
        rintro w6 ⟨_t, hw⟩
        haveI hb6_5 := named_below (w := w5) hw
        have hc6 := named_cell hw
        have hz6 := named_frozen hw
        have hh6 := named_heap hw
        haveI hi6 := named_in hw
        haveI hb6 := named_below (w := w) hw
        clear hw
        have O6 := Lib.hid (owns_grown O5.out (grown_of (w := w5) (W := w6)))
        have HB6 := Lib.hid (grown_now (w := w) (W := w6))
        go_wp2_with (at_builtin; refine wpList_append_own _ rfl (.tmp 57) (.tmp 59) 185 rfl w.heap.size 235 i0 _ 2 16 Tryz.underlying185 iz0 iz1 iz2 iz3 rfl (by omega) _ _ _ rfl (O6.out.alloc _) _ 1 1 [.int .i64 a, .int .i64 b] rfl rfl (World.news_of_block (heap_alloc_new w6 _)) (by simp [Value.oneCell']) (by have := HF.out.short; unfold maxLen; omega) (by have := HF.out.short; omega) (by have := HB6.out.size; simp; omega) ?_; intro v7 w7 ho7 hgr7 hx; clear hx)
        have HO7 := Lib.hid (show w7.ownsRow w.heap.size 235 2 v7 (k + 1) (rV (l.take (k + 1))) by rw [HRV.out]; exact ho7)
        have HB7 := Lib.hid (show Below w.heap.size w w7 from (HB6.out.alloc HB6.out.size _).grown hgr7 (by have := HB6.out.size; simp; omega) (fun q hq => (O6.out.lt q hq).1))
        clear ho7 hgr7
        refine NoPanic.normal ?_
        have HO8 : Hid (w7.ownsRow w.heap.size 235 2 v7 l.length (rV l)) := Lib.hid (by have := HO7.out; rwa [HKL.out, List.take_length] at this)
        go_wp2_with fail
        rw [Exit.noGoto_ret]
        go_ret2
        exact ⟨_, rfl, HO8.out, ext_of HB7.out⟩
      · have c2 : ¬ cc = 1 + q := c1
        refine wp_region_noPanic ?_
        refine wp_region_mix 8 [0, 4, 5, 6, 7, 8, 9, 10] [1] [2, 3, 11, 12, 13] (by kernel_rfl) (by kernel_rfl) (by kernel_rfl) (fun _ _ _ _ _ h => h) ?_
        simp only [pick, List.getElem?_cons_zero, List.getElem?_cons_succ]
        repeat (refine wpPure_step (fun K hK => ?_); go_simp; refine hK _ ?_; clear hK K)
        refine wpPure_nil ?_
        repeat (go_big_quiet_step (first | fail))
        refine wpQuiet_nil ?_
        rintro w6 ⟨_t, hw⟩
        haveI hb6_5 := named_below (w := w5) hw
        have hc6 := named_cell hw
        have hz6 := named_frozen hw
        have hh6 := named_heap hw
        haveI hi6 := named_in hw
        haveI hb6 := named_below (w := w) hw
        clear hw
        have O6 := Lib.hid (owns_grown O5.out (grown_of (w := w5) (W := w6)))
        have HB6 := Lib.hid (grown_now (w := w) (W := w6))
        go_wp2_with (at_builtin; refine wpList_append_own _ rfl (.tmp 57) (.tmp 59) 185 rfl w.heap.size 235 i0 _ 2 16 Tryz.underlying185 iz0 iz1 iz2 iz3 rfl (by omega) _ _ _ rfl (O6.out.alloc _) _ 1 1 [.int .i64 a, .int .i64 b] rfl rfl (World.news_of_block (heap_alloc_new w6 _)) (by simp [Value.oneCell']) (by have := HF.out.short; unfold maxLen; omega) (by have := HF.out.short; omega) (by have := HB6.out.size; simp; omega) ?_; intro v7 w7 ho7 hgr7 hx; clear hx)
        have HO7 := Lib.hid (show w7.ownsRow w.heap.size 235 2 v7 (k + 1) (rV (l.take (k + 1))) by rw [HRV.out]; exact ho7)
        have HB7 := Lib.hid (show Below w.heap.size w w7 from (HB6.out.alloc HB6.out.size _).grown hgr7 (by have := HB6.out.size; simp; omega) (fun q hq => (O6.out.lt q hq).1))
        clear ho7 hgr7
        refine NoPanic.normal ?_
        have HO8 : Hid (w7.ownsRow w.heap.size 235 2 v7 l.length (rV l)) := Lib.hid (by have := HO7.out; rwa [HKL.out, List.take_length] at this)
        go_wp2_with fail
        rw [Exit.noGoto_ret]
        go_ret2
        exact ⟨_, rfl, HO8.out, ext_of HB7.out⟩

set_option maxRecDepth 100000 in
theorem coderead_nil (w : World) : Calls Tryz.prog 138 #[.slice none 0 0, .int .i64 8192] w fun e w' => e = .returned (.tuple #[.slice none 0 0, .int .i64 3]) ∧ ∃ f, w' = ext w f := by
  go_enter Tryz.func138, Tryz.ntmps138
  go_wp2_with fail
  go_step3
  go_wp2_with fail
  go_step3
  go_wp2_with fail
  refine wp_loop_rounds 1 ?_
  rw [rounds_succ]
  go_wp2_with fail
  rw [Exit.noGoto_ret]
  go_ret2
  exact ⟨rfl, grown_of⟩
end Go.Proofs.YtnogfelfgclajaaGreatDoor
end

section
namespace Go.Proofs.YtnogfelfgclajaaGreatDoor
open Go.RowKit
attribute [local go_sem] ext_ext drew_ext ext_drew ext_cell ext_frozen in_lt in_le in_ne in_en in_ne1 in_en1 in_le1 in_ltn in_len in_nen in_enn size_le ite_max ite_min
set_option linter.unusedVariables false
set_option linter.unusedSimpArgs false

def crcS (c : Int) : Int := if (bits BinOp.and IntKind.u16 c 32768 != 0) = true then bits BinOp.xor IntKind.u16 (IntKind.u16.wrap (c * 2)) 4129 else IntKind.u16.wrap (c * 2)
theorem ret_u16 {a b : Int} (h : a = b) : Ending.returned (.int .u16 a) = .returned (.int .u16 b) := by rw [h]
set_option maxRecDepth 100000 in
theorem crcstep_any (c : Int) (w : World) : Calls Tryz.prog 372 #[.int .u16 c] w fun e w' => e = .returned (.int .u16 (crcS c)) ∧ w = w' := by
  by_cases h : (bits BinOp.and IntKind.u16 c 32768 != 0) = true
  · have H := Lib.hid (show crcS c = bits BinOp.xor IntKind.u16 (IntKind.u16.wrap (c * 2)) 4129 by unfold crcS; rw [if_pos h])
    go_enter Tryz.func372, Tryz.ntmps372
    go_wp2
    go_ret
    exact ⟨ret_u16 H.out.symm, rfl⟩
  · have H := Lib.hid (show crcS c = IntKind.u16.wrap (c * 2) by unfold crcS; rw [if_neg h])
    have h' : (bits BinOp.and IntKind.u16 c 32768 != 0) = false := by simpa using h
    clear h
    go_enter Tryz.func372, Tryz.ntmps372
    go_wp2
    go_ret
    exact ⟨ret_u16 H.out.symm, rfl⟩

/-- What the highest four bits do. -/
def tabS (i : Nat) : Int := crcS (crcS (crcS (crcS ((i : Int) * 4096))))
def tabK (k : Nat) : Array Value := (List.ofFn fun i : Fin 16 => if i.val < k then Value.int .u16 (tabS i.val) else .int .u16 0).toArray
theorem tabK_size (k : Nat) : (tabK k).size = 16 := by simp [tabK]
theorem tabK_set (k : Nat) (hk : k < 16) : (tabK k).setIfInBounds k (.int .u16 (tabS k)) = tabK (k + 1) := by
  apply Array.ext
  · simp [tabK]
  · intro i h1 h2
    have hi : i < 16 := by rw [tabK_size] at h2; exact h2
    simp only [tabK, List.setIfInBounds_toArray, List.getElem_toArray, List.getElem_set, List.getElem_ofFn]
    by_cases h : k = i
    · subst h
      rw [if_pos rfl, if_pos (by omega)]
    · rw [if_neg h]
      by_cases h3 : i < k
      · rw [if_pos h3, if_pos (by omega)]
      · rw [if_neg h3, if_neg (by omega)]
theorem tabK_at (k i : Nat) (hi : i < 16) (hk : i < k) : (tabK k)[i]? = some (.int .u16 (tabS i)) := by
  rw [Array.getElem?_eq_getElem (by rw [tabK_size]; exact hi)]
  simp only [tabK, List.getElem_toArray, List.getElem_ofFn]
  rw [if_pos hk]
theorem tab_info : (Tryz.prog.info? 399).map (·.size) = some 16 := by kernel_rfl

set_option maxRecDepth 100000 in
set_option maxHeartbeats 4000000 in
theorem crcsteps_any (w : World) : Calls Tryz.prog 363 #[] w fun e w' => e = .returned (.agg (tabK 16)) ∧ ∃ f, w' = ext w f := by
  have z0 : tabK 0 = #[.int .u16 0, .int .u16 0, .int .u16 0, .int .u16 0, .int .u16 0, .int .u16 0, .int .u16 0, .int .u16 0, .int .u16 0, .int .u16 0, .int .u16 0, .int .u16 0, .int .u16 0, .int .u16 0, .int .u16 0, .int .u16 0] := rfl
  have Z0 := Lib.hid z0
  clear z0
  go_enter Tryz.func363, Tryz.ntmps363
  go_wp2_with fail
  go_loopw [5] (fun i wr => ∃ k : Nat, k ≤ 16 ∧ i = .int .i64 k ∧ wr = (w.alloc (.cells (tabK 0) 399)).alloc (.cells (tabK k) 399)) (fun i _ => 16 - (intOf i).toNat)
  case atStart => exact ⟨0, by omega, rfl, by rw [Z0.out]⟩
  case round =>
    obtain ⟨k, hk, rfl, rfl⟩ := hrel
    by_cases hlt : k < 16
    · have k1 : (k : Int) < 16 := by omega
      have TS := Lib.hid (tabK_set k hlt)
      have HK := Lib.hid hlt
      have z1 : ((w.alloc (.cells (tabK 0) 399)).alloc (.cells (tabK k) 399)).cell? ⟨w.heap.size + 1, k, none⟩ = (tabK k)[k]? := by
        simp
      have z2 : (tabK k)[k]? = some (.int .u16 0) := by
        rw [Array.getElem?_eq_getElem (by rw [tabK_size]; exact hlt)]
        simp only [tabK, List.getElem_toArray, List.getElem_ofFn]
        rw [if_neg (by omega)]
      rw [z2] at z1
      clear z2 hlt hk
      go_wp2_with fail
      refine wp_loop_rounds 5 ?_
      rw [rounds_succ]
      go_wp2_with (go_at_call 372; refine (crcstep_any _ _).mono ?_; rintro e w1 ⟨rfl, rfl⟩)
      rw [rounds_succ]
      go_wp2_with (go_at_call 372; refine (crcstep_any _ _).mono ?_; rintro e w1 ⟨rfl, rfl⟩)
      rw [rounds_succ]
      go_wp2_with (go_at_call 372; refine (crcstep_any _ _).mono ?_; rintro e w1 ⟨rfl, rfl⟩)
      rw [rounds_succ]
      go_wp2_with (go_at_call 372; refine (crcstep_any _ _).mono ?_; rintro e w1 ⟨rfl, rfl⟩)
      rw [rounds_succ]
      go_wp2_with fail
      go_roundw
      case rel => exact ⟨k + 1, HK.out, by go_num, by rw [← TS.out]; rfl⟩
      case measure => have := HK.out; simp [intOf]; omega
    · obtain rfl : k = 16 := by omega
      have z16 : tabK 16 = #[.int .u16 (tabS 0), .int .u16 (tabS 1), .int .u16 (tabS 2), .int .u16 (tabS 3), .int .u16 (tabS 4), .int .u16 (tabS 5), .int .u16 (tabS 6), .int .u16 (tabS 7), .int .u16 (tabS 8), .int .u16 (tabS 9), .int .u16 (tabS 10), .int .u16 (tabS 11), .int .u16 (tabS 12), .int .u16 (tabS 13), .int .u16 (tabS 14), .int .u16 (tabS 15)] := rfl
      rw [z16, Z0.out]
      go_wp2_with fail
      refine bodyPost_ret (by simp [results, Tryz.results363, go_sem, go_sem]; try rfl) rfl ?_
      exact ⟨rfl, grown_of⟩
end Go.Proofs.YtnogfelfgclajaaGreatDoor
end

section
namespace Go.Proofs.YtnogfelfgclajaaGreatDoor
open Go.RowKit
attribute [local go_sem] ext_ext drew_ext ext_drew ext_cell ext_frozen in_lt in_le in_ne in_en in_ne1 in_en1 in_le1 in_ltn in_len in_nen in_enn size_le ite_max ite_min
set_option linter.unusedVariables false
set_option linter.unusedSimpArgs false

def U16 (c : Int) : Prop := 0 ≤ c ∧ c ≤ 65535
theorem xor_u16 (a b : Int) : bits BinOp.xor IntKind.u16 a b = ((BitVec.ofInt 16 a ^^^ BitVec.ofInt 16 b).toNat : Int) := by
  show IntKind.u16.wrap ((BitVec.ofInt 16 a ^^^ BitVec.ofInt 16 b).toNat : Nat) = _
  rw [IntKind.wrap_u16]
  have := (BitVec.ofInt 16 a ^^^ BitVec.ofInt 16 b).isLt
  omega
theorem xor_bd (a b : Int) : U16 (bits BinOp.xor IntKind.u16 a b) := by
  rw [xor_u16]
  have := (BitVec.ofInt 16 a ^^^ BitVec.ofInt 16 b).isLt
  exact ⟨by omega, by omega⟩
theorem xor_self (a : Int) : bits BinOp.xor IntKind.u16 a a = 0 := by rw [xor_u16, BitVec.xor_self]; rfl
theorem xor_zero {a : Int} (h : U16 a) : bits BinOp.xor IntKind.u16 a 0 = a := by
  rw [xor_u16]
  have e : BitVec.ofInt 16 a ^^^ BitVec.ofInt 16 0 = BitVec.ofInt 16 a := by rw [show BitVec.ofInt 16 0 = 0#16 from rfl, BitVec.xor_zero]
  rw [e, BitVec.toNat_ofInt]
  obtain ⟨h1, h2⟩ := h
  omega
theorem xor_nib (a b : Nat) (ha : a < 16) (hb : b < 16) : 0 ≤ bits BinOp.xor IntKind.u16 (a : Int) (b : Int) ∧ bits BinOp.xor IntKind.u16 (a : Int) (b : Int) < 16 := by
  have key : ∀ a b : Fin 16, 0 ≤ bits BinOp.xor IntKind.u16 ((a.val : Nat) : Int) ((b.val : Nat) : Int) ∧ bits BinOp.xor IntKind.u16 ((a.val : Nat) : Int) ((b.val : Nat) : Int) < 16 := by decide +kernel
  exact key ⟨a, ha⟩ ⟨b, hb⟩
theorem and15 (n : Nat) (h : n < 256) : bits BinOp.and IntKind.u8 (n : Int) 15 = (n : Int) % 16 := by
  have key : ∀ n : Fin 256, bits BinOp.and IntKind.u8 ((n.val : Nat) : Int) 15 = ((n.val : Nat) : Int) % 16 := by decide +kernel
  exact key ⟨n, h⟩

/-- The word with four bits behind. -/
def crcN (c x : Int) : Int := bits BinOp.xor IntKind.u16 (IntKind.u16.wrap (c * 16)) (tabS (bits BinOp.xor IntKind.u16 (c / 4096) x).toNat)
theorem crcN_u16 (c x : Int) : U16 (crcN c x) := xor_bd _ _
/-- .. with a byte behind. -/
def crcB (c : Int) (n : Nat) : Int := crcN (crcN c ((n : Int) / 16)) ((n : Int) % 16)
theorem crcB_u16 (c : Int) (n : Nat) : U16 (crcB c n) := xor_bd _ _
def crcW (l : List Nat) (c : Int) : Int := l.foldl crcB c
theorem crcW_u16 (l : List Nat) {c : Int} (h : U16 c) : U16 (crcW l c) := by
  induction l generalizing c with
  | nil => exact h
  | cons n l ih => exact ih (crcB_u16 _ _)
theorem crcW_snoc (l : List Nat) (n : Nat) (c : Int) : crcW (l ++ [n]) c = crcB (crcW l c) n := by simp [crcW]
theorem tab_zero : tabS 0 = 0 := by decide +kernel
theorem crcN_self {c : Int} (h : U16 c) : crcN c (c / 4096) = c * 16 % 65536 := by
  unfold crcN
  rw [xor_self, show (0 : Int).toNat = 0 from rfl, tab_zero, IntKind.wrap_u16]
  exact xor_zero ⟨by omega, by omega⟩
/-- Behind its own two bytes a word is 0. -/
theorem crc_own {c : Int} (h : U16 c) : crcB (crcB c (c / 256).toNat) (c % 256).toNat = 0 := by
  obtain ⟨h1, h2⟩ := h
  have a1 : (((c / 256).toNat : Nat) : Int) = c / 256 := by omega
  have a2 : (((c % 256).toNat : Nat) : Int) = c % 256 := by omega
  unfold crcB
  rw [a1, a2, show c / 256 / 16 = c / 4096 by omega, crcN_self ⟨h1, h2⟩]
  rw [show c / 256 % 16 = (c * 16 % 65536) / 4096 by omega, crcN_self ⟨by omega, by omega⟩]
  rw [show c % 256 / 16 = (c * 16 % 65536 * 16 % 65536) / 4096 by omega, crcN_self ⟨by omega, by omega⟩]
  rw [show c % 256 % 16 = (c * 16 % 65536 * 16 % 65536 * 16 % 65536) / 4096 by omega, crcN_self ⟨by omega, by omega⟩]
  omega

theorem tab_one : (tabK 16).all (·.oneCell') = true := by
  rw [Array.all_eq_true]
  intro i hi
  simp only [tabK, List.getElem_toArray, List.getElem_ofFn]
  split <;> rfl
/-- Bytes. -/
def Bytes (l : List Nat) : Prop := ∀ n ∈ l, n < 256

set_option maxRecDepth 100000 in
set_option maxHeartbeats 4000000 in
theorem crcwith_any (l : List Nat) (c : Int) (g o cap : Nat) (w : World) (h : U16 c) (hl : l.length ≤ 1000000) (h0 : 0 < l.length) (hb : Bytes l) (hc : BytesAt w g o l) :
    Calls Tryz.prog 344 #[.int .u16 c, .slice (some ⟨g, o, none⟩) l.length cap] w fun e w' => e = .returned (.int .u16 (crcW l c)) ∧ ∃ f, w' = ext w f := by
  have HC := Lib.hid hc
  have HU := Lib.hid h
  have HB := Lib.hid hb
  haveI := in_of_cell (hc 0 (.int .u8 ((l[0] : Nat) : Int)) (by simp only [bV, List.getElem?_map]; rw [List.getElem?_eq_getElem h0]; rfl))
  clear hc h hb h0
  go_enter Tryz.func344, Tryz.ntmps344
  go_wp2_with fail
  refine (crcsteps_any _).mono ?_
  rintro e w1 ⟨rfl, _t, hw⟩
  have hc1 := named_cell hw
  have hz1 := named_frozen hw
  have hh1 := named_heap hw
  haveI hi1 := named_in hw
  haveI hb1 := named_below (w := w) hw
  clear hw
  go_wp2_with (refine wpList_store_new rfl 399 (.tmp 5) (.tmp 8) rfl _ rfl _ (tabK 16) rfl rfl tab_info (by simp [tabK]) tab_one rfl ?_)
  obtain ⟨w2, hw2⟩ : ∃ W, W = w1.alloc (.cells (tabK 16) 399) := ⟨_, rfl⟩
  rw [← hw2]
  have TB := Lib.hid (show ∀ i, i < 16 → w2.cell? ⟨w1.heap.size, i, none⟩ = some (.int .u16 (tabS i)) from fun i hi => by rw [hw2]; exact (World.cell?_alloc_new ..).trans (tabK_at 16 i hi hi))
  have HC2 := Lib.hid (show BytesAt w2 g o l from HC.out.grown (by rw [hw2]; exact grown_of))
  haveI hb2 : Nonempty (Below w.heap.size w w2) := by rw [hw2]; infer_instance
  clear hw2 HC hc1 hz1 hh1
  generalize w1.heap.size = tb at *
  go_loopw [0, 11] (fun cc i wr => ∃ k : Nat, k ≤ l.length ∧ i = .int .i64 k ∧ cc = .int .u16 (crcW (l.take k) c) ∧ w2 = wr) (fun _ i _ => l.length - (intOf i).toNat)
  case atStart => exact ⟨0, by omega, rfl, rfl, rfl⟩
  case round =>
    obtain ⟨k, hk, rfl, rfl, rfl⟩ := hrel
    by_cases hlt : k < l.length
    · have d0 : w2.cell? ⟨g, o + k, none⟩ = some (.int .u8 ((l[k] : Nat) : Int)) := HC2.out k _ (by simp only [bV, List.getElem?_map]; rw [List.getElem?_eq_getElem hlt]; rfl)
      have HT := Lib.hid (show crcW (l.take (k + 1)) c = crcB (crcW (l.take k) c) l[k] by rw [List.take_succ_eq_append_getElem hlt, crcW_snoc])
      have HK := Lib.hid hlt
      obtain ⟨u0, u1⟩ := crcW_u16 (l.take k) HU.out
      have x1 := HB.out l[k] (List.getElem_mem hlt)
      have k1 : (k : Int) < (l.length : Int) := by omega
      generalize crcW (l.take k) c = d at *
      generalize l[k] = x at *
      have x2 : (x : Int) < 256 := by omega
      have a15 := and15 x x1
      have n1 := xor_nib (d / 4096).toNat (x / 16) (by omega) (by omega)
      rw [show (((d / 4096).toNat : Nat) : Int) = d / 4096 by omega, show ((x / 16 : Nat) : Int) = (x : Int) / 16 by omega] at n1
      obtain ⟨p0, p1⟩ := n1
      have t1 := TB.out (bits BinOp.xor IntKind.u16 (d / 4096) ((x : Int) / 16)).toNat (by omega)
      have HE1 := Lib.hid (show bits BinOp.xor IntKind.u16 (IntKind.u16.wrap (d * 16)) (tabS (bits BinOp.xor IntKind.u16 (d / 4096) ((x : Int) / 16)).toNat) = crcN d ((x : Int) / 16) from rfl)
      obtain ⟨v0, v1⟩ := crcN_u16 d ((x : Int) / 16)
      have HT2 := Lib.hid (show crcB d x = crcN (crcN d ((x : Int) / 16)) ((x : Int) % 16) from rfl)
      have f1 := HE1.out
      generalize crcN d ((x : Int) / 16) = e at *
      have n2 := xor_nib (e / 4096).toNat (x % 16) (by omega) (by omega)
      rw [show (((e / 4096).toNat : Nat) : Int) = e / 4096 by omega, show ((x % 16 : Nat) : Int) = (x : Int) % 16 by omega] at n2
      obtain ⟨q0, q1⟩ := n2
      have t2 := TB.out (bits BinOp.xor IntKind.u16 (e / 4096) ((x : Int) % 16)).toNat (by omega)
      clear hlt hk x1
      go_wp2_with fail
      go_roundw
      case rel => exact ⟨k + 1, HK.out, by go_num, by rw [HT.out, HT2.out]; rfl, trivial⟩
      case measure => have := HK.out; simp [intOf]; omega
    · have k1 : ¬ (k : Int) < (l.length : Int) := by omega
      rw [List.take_of_length_le (show l.length ≤ k by omega)]
      go_wp2_with fail
      go_ret
      exact ⟨rfl, grown_of⟩
theorem crcstart_any (w : World) : Calls Tryz.prog 343 #[] w fun e w' => e = .returned (.int .u16 65535) ∧ w = w' := by
  go_enter Tryz.func343, Tryz.ntmps343
  go_wp2
  go_ret
  exact ⟨rfl, rfl⟩
/-- The word of bytes. -/
def crcOf (l : List Nat) : Int := crcW l 65535
theorem crcOf_u16 (l : List Nat) : U16 (crcOf l) := crcW_u16 l ⟨by omega, by omega⟩
set_option maxRecDepth 100000 in
theorem crcof_any (l : List Nat) (g o cap : Nat) (w : World) (hl : l.length ≤ 1000000) (h0 : 0 < l.length) (hb : Bytes l) (hc : BytesAt w g o l) :
    Calls Tryz.prog 307 #[.slice (some ⟨g, o, none⟩) l.length cap] w fun e w' => e = .returned (.int .u16 (crcOf l)) ∧ ∃ f, w' = ext w f := by
  have W1 := crcwith_any l 65535 g o cap w ⟨by omega, by omega⟩ hl h0 hb hc
  clear hb hc
  go_enter Tryz.func307, Tryz.ntmps307
  go_wp2_with (go_at_call 343; refine (crcstart_any _).mono ?_; rintro e w1 ⟨rfl, rfl⟩)
  refine (W1).mono ?_
  rintro e w1 ⟨rfl, _t, hw⟩
  have hc1 := named_cell hw
  have hz1 := named_frozen hw
  have hh1 := named_heap hw
  haveI hi1 := named_in hw
  haveI hb1 := named_below (w := w) hw
  clear hw
  go_wp2_with fail
  go_ret
  exact ⟨rfl, grown_of⟩
/-- A word's two bytes. -/
def crcT (c : Int) : List Nat := [(c / 256).toNat, (c % 256).toNat]
set_option maxRecDepth 100000 in
theorem crcbytes_any (c : Int) (h : U16 c) (w : World) :
    Calls Tryz.prog 308 #[.int .u16 c] w fun e w' => e = .returned (.agg #[.int .u8 (c / 256), .int .u8 (c % 256)]) ∧ ∃ f, w' = ext w f := by
  have h0 := h.1
  have h1 := h.2
  clear h
  go_enter Tryz.func308, Tryz.ntmps308
  go_wp2_with fail
  refine bodyPost_ret (by simp [results, Tryz.results308, go_sem, go_sem]; try rfl) rfl ?_
  exact ⟨rfl, grown_of⟩
end Go.Proofs.YtnogfelfgclajaaGreatDoor
end

section
namespace Go.Proofs.YtnogfelfgclajaaGreatDoor
open Go.RowKit
attribute [local go_sem] ext_ext drew_ext ext_drew ext_cell ext_frozen in_lt in_le in_ne in_en in_ne1 in_en1 in_le1 in_ltn in_len in_nen in_enn size_le ite_max ite_min
set_option linter.unusedVariables false
set_option linter.unusedSimpArgs false

section
variable {P : Program} {w : World}
theorem run_append_zeros (t ti ty e : TypeId) (i : TypeInfo) (z : Value) (ht : P.underlying t = some (.slice e)) (hti : P.underlying ti = some (.int .i64)) (hi : P.info? e = some i) (hz : i.zero = some z) (hsz : i.size = 1) (hby : i.bytes = 1)
    (n : Nat) (h0 : 0 < n) (h48 : n ≤ 1000000) :
    (Builtin.append_ #[t, ti] ty #[.slice none 0 0, .int .i64 (n : Int)]).run P w =
      .ok (.slice (some ⟨w.heap.size, 0, none⟩) n (grownCap w n 0 e)) (w.drew.alloc (.cells (Builtin.zeroCells z.cells n ++ Builtin.zeroCells z.cells (grownCap w n 0 e - n)) e)) := by
  have hn : n ≠ 0 := by omega
  have hw : IntKind.i64.wrap (n : Int) = (n : Int) := IntWalk.i64_in _ (by omega)
  have h1 : ¬ ((n : Int) < 0) := by omega
  have h2 : ¬ ((281474976710656 : Int) < (n : Int)) := by omega
  have h63' : ¬ (9223372036854775807 < (n : Int)) := by omega
  have h48' : ¬ (281474976710656 < Builtin.nextslicecap n 0) := by rw [nextslicecap_zero h0]; omega
  have ha : ∀ w : World, (asInt (.int .i64 (n : Int))).run P w = .ok (n : Int) w := fun _ => rfl
  simp [Builtin.append_, run_underlying ht, run_underlying hti, sizeOf, typeInfo, zeroValue, hi, hz, hsz, hby, Builtin.lenOf, hn, h63', h48', Question.forced, run_firstCells_none, newRow, grownCap, hw, h1, h2, ha]

theorem wpList_append_zeros {ops : Array Oper} {rest : List Oper} {o : Oper} {a : Act} {Q : Exit → Act → World → Prop} (hgd : o.guard = none) (s x : Operand) (t ti : TypeId)
    (ho : o.op = .call { callee := .builtin .append, args := #[s, x], argTypes := #[t, ti] }) (e : TypeId) (i : TypeInfo) (z : Value)
    (ht : P.underlying t = some (.slice e)) (hti : P.underlying ti = some (.int .i64)) (hi : P.info? e = some i) (hz : i.zero = some z) (hsz : i.size = 1) (hby : i.bytes = 1) (hzs : z.cells.size = 1)
    (n : Nat) (h0 : 0 < n) (h48 : n ≤ 1000000) (hs : a.eval s = .slice none 0 0) (hx : a.eval x = .int .i64 (n : Int))
    (h : ∀ cap w', n ≤ cap → w'.ownsRow w.heap.size e 1 (.slice (some ⟨w.heap.size, 0, none⟩) 0 cap) 0 [] → (∃ f, w' = ext w f) → wpList P ops Q rest (a.put o.dst (.slice (some ⟨w.heap.size, 0, none⟩) n cap)) w') : wpList P ops Q (o :: rest) a w := by
  have hr := run_append_zeros (P := P) (w := w) t ti o.type e i z ht hti hi hz hsz hby n h0 h48
  refine wpList_plain hgd fun K hK => ?_
  unfold Oper.wp execOp
  simp only [ho, resolve, invoke, builtin, Sem.run_bind, Sem.run_pure, Result.andThen_ok, List.map_toArray, List.map_cons, List.map_nil, hs, hx, hr]
  have hge : n ≤ grownCap w n 0 e := grownCap_ge w n 0 e
  refine hK _ _ (h _ _ hge ?_ ?_)
  · refine ⟨by simp, .inr ⟨w.heap.size, _, _, rfl, Nat.le_refl _, heap_alloc_new w.drew _, Nat.zero_le _, grownCap_le_maxLen w n 0 e (by unfold maxLen; omega), ?_, by simp⟩⟩
    simp only [Array.size_append, size_zeroCells, hzs]
    omega
  · exact ext_of (((Below.refl _ w).drew).alloc (Nat.le_refl _) _)
end
/-- Room that was made. -/
def MadeRoom (w : World) (o : Ending) (w' : World) : Prop := ∃ g cap, o = .returned (.slice (some ⟨g, 0, none⟩) 0 cap) ∧ w'.ownsRow w.heap.size 5 1 (.slice (some ⟨g, 0, none⟩) 0 cap) 0 [] ∧ ∃ f, w' = ext w f
set_option maxRecDepth 100000 in
set_option maxHeartbeats 1000000 in
theorem grow_any (n : Nat) (h0 : 0 < n) (h1 : n ≤ 1000000) (w : World) :
    Calls Tryz.prog 309 #[.slice none 0 0, .int .i64 (n : Int)] w (MadeRoom w) := by
  obtain ⟨i0, iz0, iz1, iz2, iz3⟩ := info_parts byteInfo
  have n0 : (0 : Int) < (n : Int) := by omega
  have n1 : (n : Int) ≤ 1000000 := by omega
  go_enter Tryz.func309, Tryz.ntmps309
  go_wp2_with (at_builtin; refine wpList_append_zeros rfl (.tmp 20) (.tmp 21) 87 3 rfl 5 i0 _ Tryz.underlying87 Tryz.underlying3 iz0 iz1 iz2 iz3 rfl n h0 h1 rfl rfl ?_; intro cap w1 hcap ho hext)
  go_ret
  exact ⟨_, _, rfl, ho, hext⟩

set_option maxRecDepth 100000 in
set_option maxHeartbeats 2000000 in
theorem concat2_any (l m : List Nat) (g c g1 o1 c1 g2 o2 c2 : Nat) (w : World) (l0 : 0 < l.length) (m0 : 0 < m.length) (hs : l.length + m.length ≤ 1000000)
    (h0 : w.cell? ⟨g, 0, none⟩ = some (.slice (some ⟨g1, o1, none⟩) l.length c1)) (h1 : w.cell? ⟨g, 1, none⟩ = some (.slice (some ⟨g2, o2, none⟩) m.length c2)) (hl : BytesAt w g1 o1 l) (hm : BytesAt w g2 o2 m) :
    Calls Tryz.prog 238 #[.slice (some ⟨g, 0, none⟩) 2 c] w (MadeRow 5 1 (l ++ m).length (bV (l ++ m)) w) := by
  obtain ⟨i0, iz0, iz1, iz2, iz3⟩ := info_parts byteInfo
  haveI := in_of_cell h0
  have HL := Lib.hid hl
  have HM := Lib.hid hm
  have a1 : (0 : Int) < (l.length : Int) := by omega
  have a2 : (0 : Int) < (m.length : Int) := by omega
  have a3 : (l.length : Int) + (m.length : Int) ≤ 1000000 := by omega
  have GR := fun W => grow_any (l.length + m.length) (by omega) hs W
  rw [show (((l.length + m.length : Nat)) : Int) = (l.length : Int) + (m.length : Int) by omega] at GR
  clear hl hm
  go_enter Tryz.func238, Tryz.ntmps238
  go_wp2_with fail
  refine wp_loop_rounds 3 ?_
  rw [rounds_succ]
  go_wp2_with fail
  rw [rounds_succ]
  go_wp2_with fail
  rw [rounds_succ]
  go_wp2_with fail
  refine (GR _).mono ?_
  rintro e w3 ⟨g3, cap3, rfl, ho3, _t, hw⟩
  have hc3 := named_cell hw
  haveI hi3 := named_in hw
  haveI hb3 := named_below (w := w) hw
  clear hw
  have O3 := Lib.hid ho3
  have B3 := Lib.hid (grown_now (w := w) (W := w3))
  have L3 := Lib.hid (HL.out.below B3.out)
  clear ho3
  go_wp2_with fail
  refine wp_loop_rounds 3 ?_
  rw [rounds_succ]
  go_wp2_with (at_builtin; refine wpList_append_own _ rfl (.tmp 31) (.tmp 32) 87 rfl w.heap.size 5 i0 _ 1 1 Tryz.underlying87 iz0 iz1 iz2 iz3 rfl (by omega) _ 0 [] rfl O3.out ⟨g1, o1, none⟩ l.length c1 (bV l) rfl (by rw [bV_length, Nat.mul_one]) (fun j u hu => by rw [addr_add]; exact L3.out j u hu) (by intro u hu; simp only [bV, List.mem_map] at hu; obtain ⟨x, _, rfl⟩ := hu; rfl) (by unfold maxLen; omega) (by omega) B3.out.size ?_; intro v4 w4 ho4 hgr4 hx; clear hx)
  simp only [Nat.zero_add, List.nil_append] at ho4
  have B4 := Lib.hid (show Below w.heap.size w w4 from B3.out.grown hgr4 B3.out.size (fun k hk => (O3.out.lt k hk).1))
  obtain ⟨_, hw⟩ := ext_of B4.out
  have hc4 := named_cell hw
  haveI hi4 := named_in hw
  have M4 := Lib.hid (HM.out.below B4.out)
  have O4 := Lib.hid ho4
  clear ho4 hgr4 hc3 hw
  rw [rounds_succ]
  go_wp2_with (at_builtin; refine wpList_append_own _ rfl (.tmp 31) (.tmp 32) 87 rfl w.heap.size 5 i0 _ 1 1 Tryz.underlying87 iz0 iz1 iz2 iz3 rfl (by omega) v4 l.length (bV l) rfl O4.out ⟨g2, o2, none⟩ m.length c2 (bV m) rfl (by rw [bV_length, Nat.mul_one]) (fun j u hu => by rw [addr_add]; exact M4.out j u hu) (by intro u hu; simp only [bV, List.mem_map] at hu; obtain ⟨x, _, rfl⟩ := hu; rfl) (by unfold maxLen; omega) (by omega) B4.out.size ?_; intro v5 w5 ho5 hgr5 hx; clear hx)
  have B5 := Lib.hid (show Below w.heap.size w w5 from B4.out.grown hgr5 B4.out.size (fun k hk => (O4.out.lt k hk).1))
  have O5 := Lib.hid (show w5.ownsRow w.heap.size 5 1 v5 (l ++ m).length (bV (l ++ m)) by rw [bV_append, List.length_append]; exact ho5)
  clear ho5 hgr5
  rw [rounds_succ]
  go_wp2_with fail
  go_ret
  exact ⟨_, rfl, O5.out, ext_of B5.out⟩
end Go.Proofs.YtnogfelfgclajaaGreatDoor
end
