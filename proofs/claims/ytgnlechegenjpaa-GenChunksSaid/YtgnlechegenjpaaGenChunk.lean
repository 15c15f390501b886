/-
  The Go function's runs of a chunk.
-/
import Derived.Test.YtgnlechegenjpaaCells1
import Derived.RangeFuncWrites
import Derived.RangeFuncBox
import Derived.Maps.AppendAt
namespace Go.Proofs.Ytgnlechegenjpaa
open Go.RowKit Go.Shelf
attribute [local go_sem] ext_ext drew_ext ext_drew ext_cell ext_frozen in_lt in_le in_ne in_en in_ne1 in_en1 in_le1 in_ltn in_len in_nen in_enn size_le ite_max ite_min
set_option linter.unusedVariables false
set_option linter.unusedSimpArgs false
attribute [local go_sem] Oper.semAt_some

theorem clip_any (g n cap : Nat) (w : World) (hn : n ≤ cap) (hc : cap ≤ 9223372036854775807) :
    Calls Try.prog 23 #[.slice (some ⟨g, 0, none⟩) n cap] w fun e w' => e = .returned (.slice (some ⟨g, 0, none⟩) n n) ∧ w = w' := by
  have h1 : (n : Int) ≤ (cap : Int) := by omega
  have h2 : (cap : Int) ≤ 9223372036854775807 := by omega
  go_enter Try.func23, Try.ntmps23
  go_wp2
  go_ret
  exact ⟨rfl, rfl⟩

theorem keepsG_append {W w1 : World} {B n₀ : Nat} {v v' : Value} {k : Nat} {xs : List Value} {tmp : Obj} (hv : Boxed W B 44 v) (hrow : W.ownsRow n₀ 3 1 v k xs) (hgrow : (W.alloc tmp).grownBy w1 v.ownBlock) :
    KeepsG W (w1.setCell ⟨B, 0, none⟩ v') := fun b cs fr hb => by
  have hlt : b < W.heap.size := (Array.getElem?_eq_some_iff.1 hb).1
  have h1 : (W.alloc tmp).heap[b]? = some (.cells cs 50 fr) := (Below.heap_alloc W tmp b hlt).trans hb
  have hne : some b ≠ v.ownBlock := fun e => by
    rcases hrow.2 with ⟨rfl, _⟩ | ⟨g, cap, cur, rfl, _, hgb, _⟩
    · simp [Value.ownBlock] at e
    · obtain rfl : b = g := by simpa [Value.ownBlock] using e
      rw [hgb] at hb
      simp at hb
  have h2 : w1.heap[b]? = some (.cells cs 50 fr) := (hgrow.block b (by simp; omega) hne).trans h1
  have hB : b ≠ B := fun e => by
    subst e
    have := (show W.heap[b]? = _ from hv).symm.trans hb
    simp at this
  exact (Below.heap_setCell w1 _ _ b hB).trans h2

set_option maxRecDepth 100000 in
set_option maxHeartbeats 4000000 in
theorem genchunk_any (s px pz : Int) (w : World) (hp : Pl px pz) :
    Calls Try.prog 10 #[.int .i64 s, .agg #[.int .i64 px, .int .i64 pz]] w (MadeRow 48 2 (rleN (blkS s px pz) 8192).length (rV (rleN (blkS s px pz) 8192)) w) := by
  obtain ⟨i0, hi, hz0, hz1, hz2⟩ := info_parts intInfo
  refine (callsIn_wide (n := 5)).1 ?_
  refine callsIn_of_wp_marks Try.func10 rfl trivial ?_ rfl
  simp only [Try.ntmps10, List.size_toArray, List.length_cons, List.length_nil, Nat.reduceAdd, Nat.reduceSub, Array.replicate_succ, Array.replicate_zero, List.push_toArray, List.append_toArray, List.nil_append, List.cons_append]
  gi_wp2
  refine ⟨trivial, (callsIn_wide.2 (gencells_any s px pz _)).mono ?_⟩
  rintro e w' ⟨rfl, rfl⟩
  gi_wp2
  have hB0 : Below w.heap.size w ((((w.alloc (.cells #[.int .i64 px, .int .i64 pz] 30)).alloc (.cells #[.slice none 0 0] 44)).alloc (.cells #[.int .i64 s] 3)).alloc (.cells #[.int .i64 px, .int .i64 pz] 30)) := grown_now
  have c0 : ((((w.alloc (.cells #[.int .i64 px, .int .i64 pz] 30)).alloc (.cells #[.slice none 0 0] 44)).alloc (.cells #[.int .i64 s] 3)).alloc (.cells #[.int .i64 px, .int .i64 pz] 30)).cell? ⟨w.heap.size + 1 + 1 + 1, 0, none⟩ = some (.int .i64 px) := by go_simp
  have c1 : ((((w.alloc (.cells #[.int .i64 px, .int .i64 pz] 30)).alloc (.cells #[.slice none 0 0] 44)).alloc (.cells #[.int .i64 s] 3)).alloc (.cells #[.int .i64 px, .int .i64 pz] 30)).cell? ⟨w.heap.size + 1 + 1 + 1, 1, none⟩ = some (.int .i64 pz) := by go_simp
  have c2 : ((((w.alloc (.cells #[.int .i64 px, .int .i64 pz] 30)).alloc (.cells #[.slice none 0 0] 44)).alloc (.cells #[.int .i64 s] 3)).alloc (.cells #[.int .i64 px, .int .i64 pz] 30)).cell? ⟨w.heap.size + 1 + 1, 0, none⟩ = some (.int .i64 s) := by go_simp
  have bO := ((Boxed.new (w.alloc (.cells #[.int .i64 px, .int .i64 pz] 30)) 44 (.slice none 0 0)).alloc (.cells #[.int .i64 s] 3)).alloc (.cells #[.int .i64 px, .int .i64 pz] 30)
  rw [World.size_alloc] at bO
  generalize (((w.alloc (.cells #[.int .i64 px, .int .i64 pz] 30)).alloc (.cells #[.slice none 0 0] 44)).alloc (.cells #[.int .i64 s] 3)).alloc (.cells #[.int .i64 px, .int .i64 pz] 30) = W0 at *
  refine wpIn_rangeFunc_ownG rfl (by omega) (gf := 25) (lb := #[.pointer (some ⟨w.heap.size + 1 + 1 + 1, 0, none⟩), .pointer (some ⟨w.heap.size + 1 + 1, 0, none⟩)]) rfl trivial (enters_of Try.func25 (by kernel_rfl) rfl)
    (cells_stops s px pz _ (by omega) hp (w.heap.size + 1 + 1 + 1) (w.heap.size + 1 + 1) W0 c0 c1 c2) KeepsG.trans' keepsG_b (Below.refl _ _) (fun _ => rfl)
    (fun pre W => (∃ v, Boxed W (w.heap.size + 1) 44 v ∧ W.ownsRow w.heap.size 3 1 v pre.length (pre.map fun i => .int .i64 (blkS s px pz i)) ∧ True) ∧ Below w.heap.size w W)
    (fun _ _ _ => False)
    (OwnFrom.and (Own.from (holdsRow_own w.heap.size (w.heap.size + 1) 44 3 1 (fun pre : List Nat => pre.length) (fun pre => pre.map fun i => .int .i64 (blkS s px pz i)) (fun _ _ => True)) _) (ownFrom_below (Nat.le_refl _) hB0.size))
    (fun _ _ _ _ _ hs _ _ => hs)
    ⟨⟨_, bO, World.ownsRow_nil _ _ _ _, trivial⟩, hB0⟩
    (fun x => { tmps := #[.int .i64 s, .agg #[.int .i64 px, .int .i64 pz], undef, .pointer (some ⟨w.heap.size, 0, none⟩), .slice none 0 0, .pointer (some ⟨w.heap.size + 1, 0, none⟩), .int .i64 (blkS s px pz x), .int .i64 s, .agg #[.int .i64 px, .int .i64 pz], .func (.func 25) #[] #[.pointer (some ⟨w.heap.size + 1 + 1 + 1, 0, none⟩), .pointer (some ⟨w.heap.size + 1 + 1, 0, none⟩)], .int .i64 (blkS s px pz x), undef, undef, undef, undef, undef, undef, undef], defers := [] }) ?assign ?body ?done ?stop
  case assign =>
    intro l x W K hK
    gi_wp2
    exact hK
  case body =>
    rintro l pre x W ⟨⟨v, hv, hrow, _⟩, hB⟩ hlt
    have hc := hv.cell
    have HV := Lib.hid hv
    have HR := Lib.hid hrow
    gi_wp2_with (gi_at_builtin; refine wpListIn_append_own _ rfl _ _ 44 rfl w.heap.size 3 i0 (.int .i64 0) 1 8 Try.underlying44 hi hz0 hz1 hz2 rfl (by decide) _ _ _ rfl (HR.out.alloc _) ⟨W.heap.size, 0, none⟩ 1 1 [.int .i64 (blkS s px pz x)] rfl rfl (cell_one_new _ _ _) (by simp [Value.oneCell']) (by unfold maxLen; omega) (by omega) (by have := hB.size; simp; omega) ?_; intro v' w1 hown' hgrow _; obtain ⟨g', cap', rfl⟩ := ownsRow_succ hown'; obtain ⟨hv1, hv2, hr2, hk2, hb2⟩ := HV.out.appended (by decide) HR.out hB.size (by omega) hown' hgrow; have hc1 := hv1.cell; have hf1 := hv1.frozen)
    refine ⟨hk2.from _, keepsG_append HV.out HR.out hgrow, ⟨⟨_, hv2, ?_, trivial⟩, hB.trans hb2⟩⟩
    rw [List.length_append, List.map_append]
    exact hr2
  case done =>
    rintro D ys W hD rfl ⟨⟨v, hv, hrow, _⟩, hB⟩ hK
    rw [List.length_range] at hrow
    obtain ⟨g, cap, rfl, _, hcp, hcm, hcells⟩ := owns_some hrow (by omega)
    have hc := hv.cell
    have HC := Lib.hid (show ∀ i, i < 8192 → W.cell? ⟨g, i, none⟩ = some (.int .i64 (blkS s px pz i)) from fun i hi => hcells i _ (iV_at (blkS s px pz) 8192 i hi))
    have HB := Lib.hid hB
    have HK := Lib.hid hK
    have HD := Lib.hid hD
    haveI hbW : Nonempty (Below w.heap.size w W) := ⟨hB⟩
    clear hcells hrow hv hB hK hD
    gi_wp2
    refine ⟨trivial, (callsIn_wide.2 (clip_any g 8192 cap _ hcp hcm)).mono ?_⟩
    rintro e w2 ⟨rfl, rfl⟩
    gi_wp2
    refine ⟨trivial, (callsIn_wide.2 (of_runs (blkS s px pz) 8192 g 8192 _ (by omega) (by omega) HC.out)).mono ?_⟩
    rintro e w3 ⟨v3, rfl, ho3, _t, hw⟩
    haveI hg3 := named_grown hw
    have hc3 := named_cell hw
    have hz3 := named_frozen hw
    have hh3 := named_heap hw
    haveI hi3 := named_in hw
    clear hw
    have HO := Lib.hid ho3
    have HG3 := Lib.hid (grown_now (w := W) (W := w3))
    have HK3 : Hid (w3.heap[D]? = some (.deferred (some []))) := Lib.hid ((HG3.out.block D (Array.getElem?_eq_some_iff.1 HK.out).1).trans HK.out)
    clear ho3
    gi_wp2
    refine ⟨by simp, .inl ⟨_, _, rfl, run_takeDeferred HK3.out, ?_⟩⟩
    have hf : Below w.heap.size w (w3.putObj D (.deferred none)) := (HB.out.trans (HG3.out.mono HB.out.size)).trans (belowK_b (w := w) (Nat.le_refl _) w3 D _ _ (Nat.le_trans hB0.size HD.out) HK3.out rfl rfl)
    exact ⟨_, results_tmp rfl _ _ _, _, rfl, ownsRow_putObj (owns_base HO.out HB.out.size) _ HK3.out rfl, ext_of hf⟩
  case stop =>
    rintro D c pre W _ _ h _
    exact h.elim
end Go.Proofs.Ytgnlechegenjpaa
