/-
  Runs: a part of them.
  Runs: one run alone; runs joined.
  Runs joined.
  Slices cloned: runs; bytes.
  Small numbers' digits.
-/
import Derived.Test.YtnogfelfgclajaaGreatDoorMb03
import Derived.WalkSpells
import Derived.Test.YtnogfelfgclajaaGreatDoorMb01
import Derived.Test.YtnogfelfgclajaaGreatDoorProg
section
namespace Go.Proofs.YtnogfelfgclajaaGreatDoor
open Go.RowKit
attribute [local go_sem] ext_ext drew_ext ext_drew ext_cell ext_frozen in_lt in_le in_ne in_en in_ne1 in_en1 in_le1 in_ltn in_len in_nen in_enn size_le ite_max ite_min
set_option linter.unusedVariables false
set_option linter.unusedSimpArgs false

theorem canon_bd {l : List Rn} (h : Canon l) : l.length ≤ (cellsR l).length ∧ ∀ r ∈ l, 1 ≤ r.1 ∧ r.1 ≤ ((cellsR l).length : Int) := by
  induction l with
  | nil => exact ⟨Nat.le_refl _, fun r hr => (by cases hr)⟩
  | cons r l ih =>
    obtain ⟨n, b⟩ := r
    have h1 := h.pos
    obtain ⟨h2, h3⟩ := ih h.tail
    simp only at h1
    rw [cellsR_cons]
    simp only [List.length_cons, List.length_append, List.length_replicate]
    refine ⟨by omega, fun r hr => ?_⟩
    rcases List.mem_cons.1 hr with rfl | hr
    · simp only; omega
    · have := h3 r hr; omega

set_option maxRecDepth 100000 in
set_option maxHeartbeats 4000000 in
theorem runscut_any (l : List Rn) (s t : Int) (g cap : Nat) (w : World) (hl : RB l) (hN : lenR l ≤ 10000) (h0 : 0 < l.length) (hc : RunsAt w g l) (s0 : 0 ≤ s) (s1 : s ≤ 10000) (t0 : 0 ≤ t) (t1 : t ≤ 10000) :
    Calls Tryz.prog 375 #[.slice (some ⟨g, 0, none⟩) l.length cap, .int .i64 s, .int .i64 t] w (MadeRow 235 2 (cutG [] s t l 0).length (rV (cutG [] s t l 0)) w) := by
  have HC := Lib.hid hc
  have HL := Lib.hid hl
  have HN := Lib.hid (show ∀ k, lenR (l.take k) ≤ 10000 from fun k => by
    have h1 : lenR l = lenR (l.take k) + lenR (l.drop k) := by
      unfold lenR
      rw [← List.sum_append, ← List.map_append, List.take_append_drop]
    have h2 : 0 ≤ lenR (l.drop k) := by
      have key : ∀ m : List Rn, (∀ r ∈ m, 0 ≤ r.1) → 0 ≤ lenR m := by
        intro m
        induction m with
        | nil => intro _; simp [lenR]
        | cons r m ih =>
          intro hm
          have h3 := hm r (by simp)
          have h4 := ih (fun x hx => hm x (by simp [hx]))
          unfold lenR at h4 ⊢
          simp only [List.map_cons, List.sum_cons]
          omega
      exact key _ (fun r hr => (hl.each r (List.mem_of_mem_drop hr)).1)
    omega)
  haveI := in_of_cell (hc 0 _ (rV_at l 0 h0).1)
  clear hc hl h0 hN
  go_enter Tryz.func375, Tryz.ntmps375
  go_wp2_with fail
  go_loopw [7, 8, 15] (fun o n i wr => ∃ (k : Nat) (out : List Rn), k ≤ l.length ∧ i = .int .i64 k ∧ n = .int .i64 (lenR (l.take k)) ∧ wr.ownsRow w.heap.size 235 2 o out.length (rV out) ∧
    Hid (cutG [] s t l 0 = cutG out s t (l.drop k) (lenR (l.take k)) ∧ Canon out ∧ ((cellsR out).length : Int) ≤ lenR (l.take k)) ∧ ∃ f, wr = ext w f) (fun _ _ i _ => l.length - (intOf i).toNat)
  case atStart => exact ⟨0, [], by omega, rfl, rfl, World.ownsRow_nil .., Lib.hid ⟨rfl, .nil, by simp [lenR, cellsR]⟩, grown_of⟩
  case round =>
    obtain ⟨k, out, hk, rfl, rfl, ow, HO, _, hw⟩ := hrel
    rename World => w1
    haveI hg1 := named_grown hw
    have hc1 := named_cell hw
    have hz1 := named_frozen hw
    have hh1 := named_heap hw
    haveI hi1 := named_in hw
    haveI hb1 := named_below (w := w) hw
    clear hw
    have OW := Lib.hid ow
    clear ow
    by_cases hlt : k < l.length
    · obtain ⟨x0, x1⟩ := rV_at l k hlt
      have d0 := HC.out _ _ x0
      have d1 := HC.out _ _ x1
      haveI := in_of_cell d0
      have HT := Lib.hid (lenR_take l k hlt)
      have HK := Lib.hid hlt
      obtain ⟨b1, _⟩ := lenR_bd HL.out k
      have b2 := HN.out k
      obtain ⟨e1, e2⟩ := HL.out.each l[k] (List.getElem_mem hlt)
      have k1 : (k : Int) < (l.length : Int) := by omega
      have k2 : (l.length : Int) ≤ 10000 := by have := HL.out.len; omega
      have HD : Hid (cutG out s t (l.drop k) (lenR (l.take k)) = cutG (pushG out (min t (lenR (l.take k) + l[k].1) - max s (lenR (l.take k))) l[k].2) s t (l.drop (k + 1)) (lenR (l.take k) + l[k].1)) := Lib.hid (by rw [List.drop_eq_getElem_cons hlt]; rfl)
      have HPC := Lib.hid (pushG_cells (min t (lenR (l.take k) + l[k].1) - max s (lenR (l.take k))) l[k].2 HO.out.2.1)
      clear x0 x1
      generalize lenR (l.take k) = m at *
      generalize l[k].1 = a at *
      generalize l[k].2 = b at *
      have HB := Lib.hid (grown_now (w := w) (W := w1))
      rw [show min t (m + a) = min (m + a) t from Int.min_comm _ _] at *
      have HN1 := Lib.hid (pushG_canon (min (m + a) t - max s m) b HO.out.2.1)
      by_cases hp : max s m < min (m + a) t
      · have PU := fun (lv : Value) (W : World) (h : W.ownsRow w.heap.size 235 2 lv out.length (rV out)) (hb : w.heap.size ≤ W.heap.size) => pushG_any out (min (m + a) t - max s m) b w.heap.size lv W h hb (by omega) (by have := (canon_bd HO.out.2.1).1; have := HO.out.2.2; omega) (fun r hr => by have := (canon_bd HO.out.2.1).2 r hr; have := HO.out.2.2; omega)
        have HP := Lib.hid hp
        go_wp2_with fail
        refine wp_region_ext ?_ ?_ ?_
        · kernel_rfl
        · kernel_rfl
        repeat (go_big_quiet_step (first | fail))
        refine wpQuiet_nil ?_
        rintro w2 ⟨_t, hw⟩
        haveI hg2 := named_grown hw
        haveI hb2_1 := named_below (w := w1) hw
        have hc2 := named_cell hw
        have hz2 := named_frozen hw
        have hh2 := named_heap hw
        haveI hi2 := named_in hw
        haveI hb2 := named_below (w := w) hw
        clear hw
        go_wp2_with fail
        refine (PU _ _ (owns_grown OW.out (by exact grown_of)) (by exact (grown_now (w := w) (W := w2)).size)).mono ?_
        rintro e w3 ⟨v3, rfl, ow3, hT⟩
        have hB3 : Below w.heap.size w w3 := (grown_now (w := w) (W := w2)).trans (hT.below (fun i _ hi => (OW.out.lt i hi).1) (grown_now (w := w) (W := w2)).size)
        have hr1 : w3.cell? ⟨w1.heap.size, 0, none⟩ = some (.int .i64 a) := (hT.cell (of_eq_true in_lt) (fun hi => Nat.lt_irrefl _ (OW.out.lt _ hi).2)).trans (by go_simp)
        have OW3 := Lib.hid ow3
        have HB3 := Lib.hid hB3
        clear ow3 hB3 PU hT
        go_wp2_with fail
        go_roundw
        case rel =>
          refine ⟨k + 1, pushG out (min (m + a) t - max s m) b, HK.out, by go_num, by rw [HT.out], OW3.out, Lib.hid ⟨HO.out.1.trans (by rw [HT.out]; exact HD.out), HN1.out, ?_⟩, ext_of HB3.out⟩
          have := HO.out.2.2
          rw [HPC.out, HT.out]
          simp only [List.length_append, List.length_replicate]
          omega
        case measure => have := HK.out; simp [intOf]; omega
      · have hd : decide (max s m < min (m + a) t) = false := by simp [hp]
        have HP : Hid (pushG out (min (m + a) t - max s m) b = out) := Lib.hid (pushG_none _ _ _ (by omega))
        have HP2 := Lib.hid hp
        go_wp2_with fail
        refine wp_region_ext ?_ ?_ ?_
        · kernel_rfl
        · kernel_rfl
        repeat (go_big_quiet_step (first | fail))
        refine wpQuiet_nil ?_
        rintro w2 ⟨_t, hw⟩
        haveI hg2 := named_grown hw
        haveI hb2_1 := named_below (w := w1) hw
        have hc2 := named_cell hw
        have hz2 := named_frozen hw
        have hh2 := named_heap hw
        haveI hi2 := named_in hw
        haveI hb2 := named_below (w := w) hw
        clear hw
        have HB2 := Lib.hid (grown_now (w := w) (W := w2))
        have OW2 := Lib.hid (owns_grown OW.out (grown_of (w := w1) (W := w2)))
        go_wp2_with fail
        go_roundw
        case rel =>
          refine ⟨k + 1, out, HK.out, by go_num, by rw [HT.out], OW2.out, Lib.hid ⟨HO.out.1.trans (by rw [HT.out, HD.out, HP.out]), HO.out.2.1, ?_⟩, ext_of HB2.out⟩
          have := HO.out.2.2
          rw [HT.out]
          omega
        case measure => have := HK.out; simp [intOf]; omega
    · have k1 : ¬ (k : Int) < (l.length : Int) := by omega
      have HE : Hid (cutG [] s t l 0 = out) := Lib.hid (by rw [HO.out.1, List.drop_of_length_le (by omega)]; rfl)
      obtain ⟨og, cp, rfl⟩ := owns_form OW.out
      go_wp2_with fail
      go_ret
      rw [HE.out]
      exact ⟨_, rfl, OW.out, grown_of⟩
end Go.Proofs.YtnogfelfgclajaaGreatDoor
end

section
namespace Go.Proofs.YtnogfelfgclajaaGreatDoor
open Go.RowKit
attribute [local go_sem] ext_ext drew_ext ext_drew ext_cell ext_frozen in_lt in_le in_ne in_en in_ne1 in_en1 in_le1 in_ltn in_len in_nen in_enn size_le ite_max ite_min
set_option linter.unusedVariables false
set_option linter.unusedSimpArgs false

set_option maxRecDepth 100000 in
set_option maxHeartbeats 2000000 in
theorem runsmake_any (n b : Int) (hn : n ≤ 10000) (w : World) :
    Calls Tryz.prog 376 #[.int .i64 n, .int .i64 b] w (MadeRow 235 2 (pushG [] n b).length (rV (pushG [] n b)) w) := by
  have HN := Lib.hid hn
  clear hn
  go_enter Tryz.func376, Tryz.ntmps376
  go_wp2_with fail
  refine (pushG_any [] n b w.heap.size _ _ (World.ownsRow_nil ..) (by exact Nat.le_refl _) HN.out (by simp) (fun r hr => by cases hr)).mono ?_
  rintro e w1 ⟨v1, rfl, ow1, hT⟩
  have HB1 := Lib.hid (hT.below (B := w.heap.size) (fun i _ hi => by cases hi) (Nat.le_refl _))
  have OW1 := Lib.hid ow1
  clear ow1 hT
  go_wp2_with fail
  go_ret
  exact ⟨_, rfl, OW1.out, ext_of HB1.out⟩
end Go.Proofs.YtnogfelfgclajaaGreatDoor
end

section
namespace Go.Proofs.YtnogfelfgclajaaGreatDoor
open Go.RowKit
attribute [local go_sem] ext_ext drew_ext ext_drew ext_cell ext_frozen in_lt in_le in_ne in_en in_ne1 in_en1 in_le1 in_ltn in_len in_nen in_enn size_le ite_max ite_min
set_option linter.unusedVariables false
set_option linter.unusedSimpArgs false

/-- Rows of runs that lie in a row of rows. -/
def RowsAt (w : World) (g : Nat) (ls : List (List Rn)) (vs : List Value) : Prop :=
  ls.length = vs.length ∧ ∀ k (h : k < ls.length) (h' : k < vs.length), w.cell? ⟨g, k, none⟩ = some vs[k] ∧ w.ownsRow 0 235 2 vs[k] ls[k].length (rV ls[k])

theorem pushes_snoc (out l : List Rn) (k : Nat) (hk : k < l.length) : (l.take (k + 1)).foldl (fun a r => pushG a r.1 r.2) out = pushG ((l.take k).foldl (fun a r => pushG a r.1 r.2) out) l[k].1 l[k].2 := by
  rw [List.take_succ_eq_append_getElem hk, List.foldl_append]
  rfl

set_option maxRecDepth 100000 in
set_option maxHeartbeats 4000000 in
theorem runsjoin_any (ls : List (List Rn)) (vs : List Value) (g cap : Nat) (w : World) (hA : RowsAt w g ls vs) (h0 : 0 < ls.length) (hlen : ls.length ≤ 1000) (hl : ∀ l ∈ ls, RB l)
    (hb : ∀ k (h : k < ls.length) j, (cellsR (joinG ((ls.take k).foldl joinG []) (ls[k].take j))).length ≤ 10000) :
    Calls Tryz.prog 374 #[.slice (some ⟨g, 0, none⟩) ls.length cap] w (MadeRow 235 2 (ls.foldl joinG []).length (rV (ls.foldl joinG [])) w) := by
  have HA := Lib.hid hA
  have HL := Lib.hid hl
  have HB := Lib.hid hb
  have HN := Lib.hid hlen
  haveI := in_of_cell (hA.2 0 h0 (by rw [← hA.1]; exact h0)).1
  clear hA hl hb h0 hlen
  go_enter Tryz.func374, Tryz.ntmps374
  go_wp2_with fail
  go_loopw [3, 5, 7, 10] (fun o v5 v7 i wr => ∃ k : Nat, k ≤ ls.length ∧ i = .int .i64 k ∧ wr.ownsRow w.heap.size 235 2 o ((ls.take k).foldl joinG []).length (rV ((ls.take k).foldl joinG [])) ∧ ∃ f, wr = ext w f) (fun _ _ _ i _ => ls.length - (intOf i).toNat)
  case atStart => exact ⟨0, by omega, rfl, World.ownsRow_nil .., grown_of⟩
  case round =>
    obtain ⟨k, hk, rfl, ow, _, hw⟩ := hrel
    rename World => w1
    haveI hg1 := named_grown hw
    have hc1 := named_cell hw
    have hz1 := named_frozen hw
    have hh1 := named_heap hw
    haveI hi1 := named_in hw
    haveI hb1 := named_below (w := w) hw
    clear hw
    have OW := Lib.hid ow
    clear ow
    by_cases hlt : k < ls.length
    · have hlv : k < vs.length := by rw [← HA.out.1]; exact hlt
      have k1 : (k : Int) < (ls.length : Int) := by omega
      have k2 : (ls.length : Int) ≤ 1000 := by have := HN.out; omega
      obtain ⟨d0, hv⟩ := HA.out.2 k hlt hlv
      have HLT := Lib.hid hlt
      have HS : Hid ((ls.take (k + 1)).foldl joinG [] = joinG ((ls.take k).foldl joinG []) ls[k]) := Lib.hid (by rw [List.take_succ_eq_append_getElem hlt, List.foldl_append]; rfl)
      have HBk := Lib.hid (HB.out k hlt)
      have HLk := Lib.hid (HL.out ls[k] (List.getElem_mem hlt))
      have HCk := Lib.hid (show Canon ((ls.take k).foldl joinG []) from by
        have key : ∀ (m : List (List Rn)) (a : List Rn), Canon a → Canon (m.foldl joinG a) := by
          intro m
          induction m with
          | nil => intro a h; exact h
          | cons x m ih => intro a h; exact ih _ (joinG_canon _ h)
        exact key _ _ .nil)
      obtain ⟨og, cp, hvf⟩ := owns_form hv
      have HV := Lib.hid hv
      clear hv
      rw [hvf] at d0 HV
      clear hvf
      generalize ls[k] = l at *
      generalize List.foldl joinG [] (ls.take k) = J at *
      clear hlt hlv
      have j2 : (l.length : Int) ≤ 10000 := by have := HLk.out.len; omega
      go_wp2_with fail
      go_loopw [3, 7, 16] (fun o v7 i wr => ∃ j : Nat, j ≤ l.length ∧ i = .int .i64 j ∧ wr.ownsRow w.heap.size 235 2 o (joinG J (l.take j)).length (rV (joinG J (l.take j))) ∧ ∃ f, wr = ext w f) (fun _ _ i _ => l.length - (intOf i).toNat)
      case atStart => exact ⟨0, by omega, rfl, OW.out, grown_of⟩
      case round =>
        obtain ⟨j, hj, rfl, ow, _, hw⟩ := hrel
        rename World => w2
        haveI hg2 := named_grown hw
        have hc2 := named_cell hw
        have hz2 := named_frozen hw
        have hh2 := named_heap hw
        haveI hi2 := named_in hw
        haveI hb2 := named_below (w := w) hw
        clear hw
        have OW2 := Lib.hid ow
        clear ow
        by_cases hlt : j < l.length
        · obtain ⟨gv, cpv, he, _, _, _, hcv⟩ := owns_some HV.out (by omega)
          obtain rfl : og = some ⟨gv, 0, none⟩ := by injection he
          obtain ⟨x0, x1⟩ := rV_at l j hlt
          have e0 := hcv _ _ x0
          have e1 := hcv _ _ x1
          haveI := in_of_cell e0
          obtain ⟨f1, f2⟩ := HLk.out.each l[j] (List.getElem_mem hlt)
          have HK := Lib.hid hlt
          have HD := Lib.hid (show joinG J (l.take (j + 1)) = pushG (joinG J (l.take j)) l[j].1 l[j].2 from pushes_snoc J l j hlt)
          have hbk := HBk.out j
          have HCJ := Lib.hid (joinG_canon (l.take j) HCk.out)
          have j3 : (j : Int) < (l.length : Int) := by omega
          have hbd := canon_bd HCJ.out
          have PU := fun (lv : Value) (W : World) (h : W.ownsRow w.heap.size 235 2 lv (joinG J (l.take j)).length (rV (joinG J (l.take j)))) (hb : w.heap.size ≤ W.heap.size) => pushG_any (joinG J (l.take j)) l[j].1 l[j].2 w.heap.size lv W h hb f2 (by omega) (fun r hr => by have := hbd.2 r hr; omega)
          clear x0 x1 hcv he hbk hbd
          generalize l[j].1 = a at *
          generalize l[j].2 = b at *
          generalize joinG J (l.take j) = out at *
          clear hlt
          go_wp2_with fail
          refine (PU _ _ (OW2.out.alloc _) (by have := (grown_now (w := w) (W := w2)).size; simp; omega)).mono ?_
          rintro e w3 ⟨v3, rfl, ow3, hT⟩
          have HB3 := Lib.hid (show Below w.heap.size w w3 from (((grown_now (w := w) (W := w2)).alloc (grown_now (w := w) (W := w2)).size _).trans (hT.below (fun i _ hi => (OW2.out.lt i hi).1) (by have := (grown_now (w := w) (W := w2)).size; simp; omega))))
          have OW3 := Lib.hid ow3
          clear ow3 hT PU
          go_wp2_with fail
          go_roundw
          case rel => exact ⟨j + 1, HK.out, by go_num, by rw [HD.out]; exact OW3.out, ext_of HB3.out⟩
          case measure => have := HK.out; simp [intOf]; omega
        · have j1 : ¬ (j : Int) < (l.length : Int) := by omega
          have HJ : Hid (joinG J (l.take j) = joinG J l) := Lib.hid (by rw [List.take_of_length_le (by omega)])
          rw [HJ.out] at OW2
          have HB2 := Lib.hid (grown_now (w := w) (W := w2))
          clear hlt
          go_wp2_with fail
          go_roundw
          case rel => exact ⟨k + 1, HLT.out, by go_num, by rw [HS.out]; exact OW2.out, ext_of HB2.out⟩
          case measure => have := HLT.out; simp [intOf]; omega
    · have k1 : ¬ (k : Int) < (ls.length : Int) := by omega
      rw [List.take_of_length_le (show ls.length ≤ k by omega)] at OW
      go_wp2_with fail
      go_ret
      exact ⟨_, rfl, OW.out, grown_of⟩
end Go.Proofs.YtnogfelfgclajaaGreatDoor
end

section
namespace Go.Proofs.YtnogfelfgclajaaGreatDoor
open Go.RowKit
attribute [local go_sem] ext_ext drew_ext ext_drew ext_cell ext_frozen in_lt in_le in_ne in_en in_ne1 in_en1 in_le1 in_ltn in_len in_nen in_enn size_le ite_max ite_min
set_option linter.unusedVariables false
set_option linter.unusedSimpArgs false

theorem addr_add (b o j : Nat) : (⟨b, o, none⟩ : Addr).add j = ⟨b, o + j, none⟩ := by unfold Addr.add; split <;> simp_all
theorem byteInfo : (Tryz.prog.info? 5).map (fun i => (i.zero, i.size, i.bytes)) = some (some (.int .u8 0), 1, 1) := by kernel_rfl
/-- Bytes, as values. -/
def bV (l : List Nat) : List Value := l.map fun n : Nat => Value.int .u8 (n : Int)
theorem bV_length (l : List Nat) : (bV l).length = l.length := by simp [bV]
/-- Bytes that lie somewhere. -/
def BytesAt (w : World) (g o : Nat) (l : List Nat) : Prop := ∀ j u, (bV l)[j]? = some u → w.cell? ⟨g, o + j, none⟩ = some u
theorem BytesAt.below {w W : World} {g o : Nat} {l : List Nat} (h : BytesAt w g o l) (hW : Below w.heap.size w W) : BytesAt W g o l := fun j u hu => by
  have h1 := h j u hu
  exact (hW.cell (p := ⟨g, o + j, none⟩) (World.block_lt_of_cell? w _ h1)).trans h1
theorem BytesAt.grown {w W : World} {g o : Nat} {l : List Nat} (h : BytesAt w g o l) (hW : ∃ f, W = ext w f) : BytesAt W g o l := by
  obtain ⟨f, rfl⟩ := hW
  exact h.below (ext_below w f)
theorem owns_bytes {w : World} {base g n cap : Nat} {l : List Nat} (h : w.ownsRow base 5 1 (.slice (some ⟨g, 0, none⟩) n cap) n (bV l)) : BytesAt w g 0 l := fun j u hu => by
  have := h.cells (g := g) rfl j u hu
  rwa [addr_add] at this

set_option maxRecDepth 100000 in
set_option maxHeartbeats 1000000 in
theorem cloneruns_any (l : List Rn) (g cap : Nat) (w : World) (h0 : 0 < l.length) (hl : l.length ≤ 10000) (hc : RunsAt w g l) :
    Calls Tryz.prog 182 #[.slice (some ⟨g, 0, none⟩) l.length cap] w (MadeRow 235 2 l.length (rV l) w) := by
  obtain ⟨i0, iz0, iz1, iz2, iz3⟩ := info_parts runInfo
  have HC := Lib.hid (hc.grown (grown_of (w := w) (W := w.alloc (.cells #[] 235))))
  have HL := Lib.hid hl
  have H0 := Lib.hid h0
  clear hc h0 hl
  have kn := fun (w : World) (a : Option Addr) (n c n' c' : Nat) => Lib.run_eql_slice_nil (P := Tryz.prog) w 185 235 a n c n' c' Tryz.underlying185
  go_enter Tryz.func182, Tryz.ntmps182
  go_wp2_with (at_builtin; refine wpList_append_fresh rfl (.tmp 5) (.tmp 6) 185 rfl w.heap.size 235 i0 _ 2 16 Tryz.underlying185 iz0 iz1 iz2 iz3 rfl ⟨w.heap.size, 0, none⟩ 0 0 [] rfl rfl (fun j u hu => by simp at hu) ⟨g, 0, none⟩ l.length cap (rV l) rfl (rV_length l) (fun j u hu => by rw [addr_add, Nat.zero_add]; exact HC.out j u hu) (by have := H0.out; omega) (by have := HL.out; unfold maxLen; omega) (by have := HL.out; omega) (by simp) ?_; intro v1 w1 ho1 hx1)
  obtain ⟨f, hx1⟩ := hx1
  have HX := Lib.hid (show ∃ f, w1 = ext w f from ext_of (by rw [hx1]; exact ((Below.refl _ w).alloc (Nat.le_refl _) _).trans ((ext_below _ f).mono (by simp))))
  simp only [Nat.zero_add, List.nil_append] at ho1
  clear hx1
  go_ret
  exact ⟨_, rfl, ho1, HX.out⟩

set_option maxRecDepth 100000 in
set_option maxHeartbeats 1000000 in
theorem clonebytes_any (l : List Nat) (g o cap : Nat) (w : World) (h0 : 0 < l.length) (hl : l.length ≤ 1000000) (hc : BytesAt w g o l) :
    Calls Tryz.prog 228 #[.slice (some ⟨g, o, none⟩) l.length cap] w (MadeRow 5 1 l.length (bV l) w) := by
  obtain ⟨i0, iz0, iz1, iz2, iz3⟩ := info_parts byteInfo
  have HC := Lib.hid (hc.grown (grown_of (w := w) (W := w.alloc (.cells #[] 5))))
  have HL := Lib.hid hl
  have H0 := Lib.hid h0
  clear hc h0 hl
  have kn := fun (w : World) (a : Option Addr) (n c n' c' : Nat) => Lib.run_eql_slice_nil (P := Tryz.prog) w 87 5 a n c n' c' Tryz.underlying87
  go_enter Tryz.func228, Tryz.ntmps228
  go_wp2_with (at_builtin; refine wpList_append_fresh rfl (.tmp 5) (.tmp 6) 87 rfl w.heap.size 5 i0 _ 1 1 Tryz.underlying87 iz0 iz1 iz2 iz3 rfl ⟨w.heap.size, 0, none⟩ 0 0 [] rfl rfl (fun j u hu => by simp at hu) ⟨g, o, none⟩ l.length cap (bV l) rfl (by rw [bV_length, Nat.mul_one]) (fun j u hu => by rw [addr_add]; exact HC.out j u hu) (by have := H0.out; omega) (by have := HL.out; unfold maxLen; omega) (by have := HL.out; omega) (by simp) ?_; intro v1 w1 ho1 hx1)
  obtain ⟨f, hx1⟩ := hx1
  have HX := Lib.hid (show ∃ f, w1 = ext w f from ext_of (by rw [hx1]; exact ((Below.refl _ w).alloc (Nat.le_refl _) _).trans ((ext_below _ f).mono (by simp))))
  simp only [Nat.zero_add, List.nil_append] at ho1
  clear hx1
  go_ret
  exact ⟨_, rfl, ho1, HX.out⟩
theorem clonebytes_nil (w : World) :
    Calls Tryz.prog 228 #[.slice none 0 0] w fun e w' => e = .returned (.slice none 0 0) ∧ w = w' := by
  have kn := fun (w : World) (a : Option Addr) (n c n' c' : Nat) => Lib.run_eql_slice_nil (P := Tryz.prog) w 87 5 a n c n' c' Tryz.underlying87
  go_enter Tryz.func228, Tryz.ntmps228
  go_wp2
  go_ret
  exact ⟨rfl, rfl⟩
end Go.Proofs.YtnogfelfgclajaaGreatDoor
end

section
namespace Go.Proofs.YtnogfelfgclajaaGreatDoor
open Go.RowKit
attribute [local go_sem] ext_ext drew_ext ext_drew ext_cell ext_frozen in_lt in_le in_ne in_en in_ne1 in_en1 in_le1 in_ltn in_len in_nen in_enn size_le ite_max ite_min
set_option linter.unusedVariables false
set_option linter.unusedSimpArgs false

/-- A text of bytes. -/
def bs (l : List UInt8) : ByteArray := ⟨l.toArray⟩
abbrev sV (l : List UInt8) : Value := .string (bs l)
theorem bs_append (a b : List UInt8) : bs a ++ bs b = bs (a ++ b) := by
  apply ByteArray.ext
  simp [bs]
theorem bs_list (l : List UInt8) : (bs l).data.toList = l := rfl
theorem bs_toList (l : List UInt8) : (bs l).toList = l := by rw [ByteArray.toList_eq]; rfl
theorem bs_size (l : List UInt8) : (bs l).size = l.length := by simp [bs, ByteArray.size]
theorem bs_inj {a b : List UInt8} (h : bs a = bs b) : a = b := by
  have := congrArg (fun s : ByteArray => s.data.toList) h
  simpa [bs] using this
theorem ret_str {a b : ByteArray} (h : a = b) : Ending.returned (.string a) = .returned (.string b) := by rw [h]

set_option maxRecDepth 100000 in
theorem itoa_d (k : Nat) (hk : k < 10) (w : World) :
    Calls Tryz.prog 132 #[.int .i64 (k : Int)] w fun e w' => e = .returned (sV [48 + k.toUInt8]) ∧ w = w' := by
  rcases k with _ | _ | _ | _ | _ | _ | _ | _ | _ | _ | k
  all_goals first | omega | skip
  all_goals
    go_enter Tryz.func132, Tryz.ntmps132
    go_wp2
    go_ret
    exact ⟨ret_str (by decide +kernel), rfl⟩
end Go.Proofs.YtnogfelfgclajaaGreatDoor
end
