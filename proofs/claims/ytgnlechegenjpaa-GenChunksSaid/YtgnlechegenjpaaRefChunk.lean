/-
  The document's runs of a chunk.
-/
import Derived.Test.YtgnlechegenjpaaRunsOf
namespace Go.Proofs.Ytgnlechegenjpaa
open Go.RowKit
attribute [local go_sem] ext_ext drew_ext ext_drew ext_cell ext_frozen in_lt in_le in_ne in_en in_ne1 in_en1 in_le1 in_ltn in_len in_nen in_enn size_le ite_max ite_min
set_option linter.unusedVariables false
set_option linter.unusedSimpArgs false

theorem reffrom_at (px pz : Int) (i : Int) (w : World) (hp : Pl px pz) (i1 : 0 ≤ i) (i2 : i < 8192) :
    Calls Try.prog 15 #[.agg #[.int .i64 px, .int .i64 pz], .int .i64 i] w fun e w' => e = .returned (.tuple #[.agg #[.int .i64 (px * 16 + i % 16), .int .i64 (i / 256), .int .i64 (pz * 16 + i / 16 % 16)], .bool true]) ∧ ∃ f, w' = ext w f := by
  have h := reffrom_any px pz i w hp.p1 hp.p2 hp.q1 hp.q2 i1 i2
  rw [from_same] at h
  exact h
theorem refblock_at (s px pz : Int) (i : Nat) (w : World) (hp : Pl px pz) (i2 : i < 8192) :
    Calls Try.prog 16 #[.int .i64 s, .agg #[.int .i64 (px * 16 + (i : Int) % 16), .int .i64 ((i : Int) / 256), .int .i64 (pz * 16 + (i : Int) / 16 % 16)]] w fun e w' => e = .returned (.int .i64 (blkS s px pz i)) ∧ ∃ f, w' = ext w f := by
  obtain ⟨f1, f2⟩ := pl_fit hp ((i : Int) % 16) ((i : Int) / 16 % 16) (by omega) (by omega) (by omega) (by omega)
  exact refblock_any s _ _ _ w f1 f2 (by omega) (by omega)
def iV (f : Nat → Int) (k : Nat) : List Value := (List.range k).map fun i => .int .i64 (f i)
theorem iV_snoc (f : Nat → Int) (k : Nat) : iV f (k + 1) = iV f k ++ [.int .i64 (f k)] := by simp [iV, List.range_succ]
theorem iV_at (f : Nat → Int) (k i : Nat) (h : i < k) : (iV f k)[i]? = some (.int .i64 (f i)) := by simp [iV, h]

set_option maxRecDepth 100000 in
set_option maxHeartbeats 4000000 in
theorem refchunk_any (s px pz : Int) (w : World) (hp : Pl px pz) :
    Calls Try.prog 12 #[.int .i64 s, .agg #[.int .i64 px, .int .i64 pz]] w (MadeRow 48 2 (rleN (blkS s px pz) 8192).length (rV (rleN (blkS s px pz) 8192)) w) := by
  obtain ⟨i0, iz0, iz1, iz2, iz3⟩ := info_parts intInfo
  have HP := Lib.hid hp
  clear hp
  go_enter Try.func12, Try.ntmps12
  go_wp2_with fail
  have p0 : (w.alloc (.cells #[.int .i64 px, .int .i64 pz] 30)).cell? ⟨w.heap.size, 0, none⟩ = some (.int .i64 px) := by go_simp
  have p1 : (w.alloc (.cells #[.int .i64 px, .int .i64 pz] 30)).cell? ⟨w.heap.size, 1, none⟩ = some (.int .i64 pz) := by go_simp
  obtain ⟨_, hw⟩ : ∃ f, w.alloc (.cells #[.int .i64 px, .int .i64 pz] 30) = ext w f := grown_of
  generalize w.alloc (.cells #[.int .i64 px, .int .i64 pz] 30) = w1 at *
  haveI := in_of_cell p0
  have hc1 := named_cell hw
  have hz1 := named_frozen hw
  have hh1 := named_heap hw
  haveI hi1 := named_in hw
  haveI hb1 := named_below (w := w) hw
  clear hw
  go_loopw [5, 6] (fun o i wr => ∃ k : Nat, k ≤ 8192 ∧ i = .int .i64 k ∧ wr.ownsRow w1.heap.size 3 1 o k (iV (blkS s px pz) k) ∧ ∃ F, wr = ext w1 F) (fun _ i _ => 8192 - (intOf i).toNat)
  case atStart => exact ⟨0, by omega, rfl, World.ownsRow_nil .., grown_of⟩
  case round =>
    obtain ⟨k, hk, rfl, ow, _, hw⟩ := hrel
    rename World => w2
    haveI hg2 := named_grown hw
    have hc2 := named_cell hw
    have hz2 := named_frozen hw
    have hh2 := named_heap hw
    haveI hi2 := named_in hw
    haveI hb2 := named_below (w := w) hw
    clear hw
    have OW := Lib.hid ow
    by_cases hlt : k < 8192
    · have HK := Lib.hid hlt
      have k0 : (0 : Int) ≤ (k : Int) := Int.natCast_nonneg _
      have k1 : (k : Int) < 8192 := by omega
      clear ow
      go_wp2_with fail
      refine (reffrom_at px pz k _ HP.out k0 k1).mono ?_
      rintro e w3 ⟨rfl, _t, hw⟩
      haveI hb3_1 := named_below (w := w1) hw
      haveI hb3_2 := named_below (w := w2) hw
      have hc3 := named_cell hw
      have hz3 := named_frozen hw
      have hh3 := named_heap hw
      haveI hi3 := named_in hw
      haveI hb3 := named_below (w := w) hw
      clear hw
      go_wp2_with fail
      refine (refblock_at s px pz k _ HP.out HK.out).mono ?_
      rintro e w4 ⟨rfl, _t, hw⟩
      haveI hb4_1 := named_below (w := w1) hw
      haveI hb4_2 := named_below (w := w2) hw
      have hc4 := named_cell hw
      have hz4 := named_frozen hw
      have hh4 := named_heap hw
      haveI hi4 := named_in hw
      haveI hb4 := named_below (w := w) hw
      clear hw
      have OW4 := Lib.hid (owns_grown OW.out (grown_of (w := w2) (W := w4)))
      have HB4 := Lib.hid (grown_now (w := w1) (W := w4))
      have HN := Lib.hid (iV_snoc (blkS s px pz) k)
      generalize blkS s px pz k = b at *
      go_wp2_with (at_builtin; refine wpList_append_own _ rfl (.tmp 19) (.tmp 23) 44 rfl w1.heap.size 3 i0 _ 1 8 Try.underlying44 iz0 iz1 iz2 iz3 rfl (by omega) _ _ _ rfl (OW4.out.alloc _) _ 1 1 [.int .i64 b] rfl rfl (World.news_of_block (heap_alloc_new w4 _)) (by simp [Value.oneCell']) (by have := HK.out; unfold maxLen; omega) (by have := HK.out; omega) (by have := HB4.out.size; simp; omega) ?_; intro v' w1' hown1 hgrow _)
      go_roundw
      case rel =>
        refine ⟨k + 1, HK.out, by go_num, ?_, ext_of ((HB4.out.alloc HB4.out.size _).grown hgrow (by have := HB4.out.size; simp; omega) (fun q hq => (OW4.out.lt q hq).1))⟩
        rw [HN.out]
        exact hown1
      case measure => have := HK.out; simp [intOf]; omega
    · have e8 : k = 8192 := by omega
      have k1 : ¬ (k : Int) < 8192 := by omega
      obtain ⟨g, cap, rfl, _, _, _, hc⟩ := owns_some ow (by omega)
      have OFR := fun W (hW : ∃ F, W = ext w2 F) => of_ref (blkS s px pz) k g cap W (by omega) (by omega) (fun i hi => by
        obtain ⟨F, rfl⟩ := hW
        have h1 := hc i _ (iV_at (blkS s px pz) k i hi)
        rw [(ext_below w2 F).cell (p := ⟨g, i, none⟩) (World.block_lt_of_cell? w2 _ h1)]
        exact h1)
      have HF := Lib.hid e8
      clear ow e8 hlt hk hc
      go_wp2_with fail
      refine (OFR _ (by exact grown_of)).mono ?_
      rintro e w3 ⟨v3, rfl, ho3, _t, hw⟩
      haveI hb3_1 := named_below (w := w1) hw
      haveI hb3_2 := named_below (w := w2) hw
      have hc3 := named_cell hw
      have hz3 := named_frozen hw
      have hh3 := named_heap hw
      haveI hi3 := named_in hw
      haveI hb3 := named_below (w := w) hw
      clear hw
      have ho := ho3
      rw [HF.out] at ho
      have HO := Lib.hid ho
      clear ho ho3
      go_wp2_with fail
      go_ret
      exact ⟨_, rfl, owns_base HO.out (grown_now (w := w) (W := w2)).size, grown_of⟩
end Go.Proofs.Ytgnlechegenjpaa
