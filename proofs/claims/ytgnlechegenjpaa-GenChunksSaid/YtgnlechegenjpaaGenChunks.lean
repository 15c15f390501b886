/- A chunk's runs are the document's, and its blocks are told one by one: whatever seed, chunk and index come in, GenChunks hands back true; no conditions. -/
import Derived.Test.YtgnlechegenjpaaGenChunk
import Derived.Test.YtgnlechegenjpaaLaw
namespace Go.Proofs.Ytgnlechegenjpaa
open Go.RowKit Go.Shelf
attribute [local go_sem] ext_ext drew_ext ext_drew ext_cell ext_frozen in_lt in_le in_ne in_en in_ne1 in_en1 in_le1 in_ltn in_len in_nen in_enn size_le ite_max ite_min
set_option linter.unusedVariables false
set_option linter.unusedSimpArgs false
attribute [local go_sem] Oper.semAt_some

namespace genChunks
open Go.ChangeShapes Go.WideShapes Go.ChangeAt

theorem pos_any (x z : Int) (w : World) (hx : Fit x) (hz : Fit z) :
    Calls Try.prog 9 #[.agg #[.int .i64 x, .int .i64 z]] w fun e w' => e = .returned (.agg #[.int .i64 (arS x 268435456 - 134217728), .int .i64 (arS z 268435456 - 134217728)]) ∧ ∃ f, w' = ext w f := by
  obtain ⟨a1, a2⟩ := arS_bd (n := x) (m := 268435456) (by omega)
  obtain ⟨b1, b2⟩ := arS_bd (n := z) (m := 268435456) (by omega)
  go_enter Try.func9, Try.ntmps9
  go_wp2_with fail
  first | (with_reducible refine wp_region_ext_tail_on 8 ?_ ?_ ?_) | refine wp_region_ext_tail 8 ?_ ?_ ?_
  · kernel_rfl
  · kernel_rfl
  simp only [List.take_succ_cons, List.take_zero, List.drop_succ_cons, List.drop_zero]
  repeat (go_big_quiet_step (first | (go_at_call 14; exact ext_same (around_fit _ _ _ (by assumption) (by omega) (by omega)))))
  refine wpQuiet_nil ?_
  rintro _ ⟨t, rfl⟩
  go_wp2
  go_returns
  exact ⟨rfl, grown_of⟩
theorem func_nil (f : FuncId) (caps : Array Value) (W : World) : (binOp .eql 36 (.func (.func f) #[] caps) .nilFunc).run Try.prog W = .ok (.bool false) W := by kernel_rfl

theorem kept_ext {W W' : World} {b : Nat} {o : Obj} (h : W.heap[b]? = some o) (hW : ∃ f, W' = ext W f) : W'.heap[b]? = some o := by
  obtain ⟨f, rfl⟩ := hW
  exact ((ext_below W f).block b (Array.getElem?_eq_some_iff.1 h).1).trans h
/-- The law's own variables: seed, place, result. -/
structure Bx (B : Nat) (s px pz : Int) (W : World) : Prop where
  sb : W.heap[B]? = some (.cells #[.int .i64 s] 3 (0, 0))
  pb : W.heap[B + 1]? = some (.cells #[.int .i64 px, .int .i64 pz] 30 (0, 0))
  rb : W.heap[B + 1 + 1]? = some (.cells #[.bool false] 4 (0, 0))
theorem Bx.grow {B : Nat} {s px pz : Int} {W W' : World} (h : Bx B s px pz W) (hW : ∃ f, W' = ext W f) : Bx B s px pz W' := ⟨kept_ext h.sb hW, kept_ext h.pb hW, kept_ext h.rb hW⟩
theorem Bx.cells {B : Nat} {s px pz : Int} {W : World} (h : Bx B s px pz W) :
    W.cell? ⟨B, 0, none⟩ = some (.int .i64 s) ∧ W.cell? ⟨B + 1, 0, none⟩ = some (.int .i64 px) ∧ W.cell? ⟨B + 1, 1, none⟩ = some (.int .i64 pz) ∧ W.cell? ⟨B + 1 + 1, 0, none⟩ = some (.bool false) ∧ W.frozen? ⟨B + 1 + 1, 0, none⟩ = false :=
  ⟨cell_of_row W _ _ _ _ _ h.sb, cell_of_row W _ _ _ _ _ h.pb, cell_of_row W _ _ _ _ _ h.pb, cell_of_row W _ _ _ _ _ h.rb, frozen_of_row W _ _ _ _ h.rb⟩
theorem bx_start (s x z px pz : Int) (w w1 : World) (hw : ∃ f, w1 = ext (((w.alloc (.cells #[.int .i64 s] 3)).alloc (.cells #[.int .i64 x, .int .i64 z] 30)).alloc (.cells #[.bool false] 4)) f) :
    Bx w.heap.size s px pz ((w1.setCell ⟨w.heap.size + 1, 0, none⟩ (.int .i64 px)).setCell ⟨w.heap.size + 1, 1, none⟩ (.int .i64 pz)) := by
  have h0 : (((w.alloc (.cells #[.int .i64 s] 3)).alloc (.cells #[.int .i64 x, .int .i64 z] 30)).alloc (.cells #[.bool false] 4)).heap[w.heap.size]? = some (.cells #[.int .i64 s] 3 (0, 0)) :=
    ((Boxed.new w 3 (.int .i64 s)).alloc _).alloc _
  have h1 : (((w.alloc (.cells #[.int .i64 s] 3)).alloc (.cells #[.int .i64 x, .int .i64 z] 30)).alloc (.cells #[.bool false] 4)).heap[w.heap.size + 1]? = some (.cells #[.int .i64 x, .int .i64 z] 30 (0, 0)) := by
    refine (Below.heap_alloc _ _ _ (by simp)).trans ?_
    have := World.alloc_heap_new (w.alloc (.cells #[.int .i64 s] 3)) (.cells #[.int .i64 x, .int .i64 z] 30)
    rwa [World.size_alloc] at this
  have h2 : (((w.alloc (.cells #[.int .i64 s] 3)).alloc (.cells #[.int .i64 x, .int .i64 z] 30)).alloc (.cells #[.bool false] 4)).heap[w.heap.size + 1 + 1]? = some (.cells #[.bool false] 4 (0, 0)) := by
    have := World.alloc_heap_new ((w.alloc (.cells #[.int .i64 s] 3)).alloc (.cells #[.int .i64 x, .int .i64 z] 30)) (.cells #[.bool false] 4)
    rwa [World.size_alloc, World.size_alloc] at this
  have g0 := kept_ext h0 hw
  have g1 := kept_ext h1 hw
  have g2 := kept_ext h2 hw
  refine ⟨?_, ?_, ?_⟩
  · rw [heap_setCell_other _ _ _ _ (by simp), heap_setCell_other _ _ _ _ (by simp)]
    exact g0
  · exact heap_setCell_same _ _ _ _ _ _ (heap_setCell_same _ _ _ _ _ _ g1)
  · rw [heap_setCell_other _ _ _ _ (by simp), heap_setCell_other _ _ _ _ (by simp)]
    exact g2
/-- What gen.Cells hands back. -/
def MadeIter (s px pz : Int) (w : World) (e : Ending) (w' : World) : Prop := ∃ bp bs, e = .returned (.func (.func 25) #[] #[.pointer (some ⟨bp, 0, none⟩), .pointer (some ⟨bs, 0, none⟩)]) ∧
  (w'.cell? ⟨bp, 0, none⟩ = some (.int .i64 px) ∧ w'.cell? ⟨bp, 1, none⟩ = some (.int .i64 pz) ∧ w'.cell? ⟨bs, 0, none⟩ = some (.int .i64 s)) ∧ ∃ f, w' = ext w f
theorem iter_any (s px pz : Int) (w : World) : Calls Try.prog 13 #[.int .i64 s, .agg #[.int .i64 px, .int .i64 pz]] w (MadeIter s px pz w) :=
  (gencells_any s px pz w).mono fun e w' ⟨he, hw⟩ => by
    subst hw
    exact ⟨_, _, he, ⟨by go_simp, by go_simp, by go_simp⟩, grown_of⟩

theorem kept_row {W W' : World} {row : Option Nat} {b : Nat} {cs : Array Value} {t : TypeId} {fr : Nat × Nat} (h : W.heap[b]? = some (.cells cs t fr)) (hg : W.grownBy W' row) (hr : ∀ r, row = some r → ∃ o : Obj, W.heap[r]? = some o ∧ o.isCells = false) :
    W'.heap[b]? = some (.cells cs t fr) :=
  (hg.block b (Array.getElem?_eq_some_iff.1 h).1 (fun e => by
    obtain ⟨o, ho, hc⟩ := hr b e.symm
    rw [h] at ho
    cases ho
    cases hc)).trans h
theorem keepsG_set {W : World} {B : Nat} {t : TypeId} {v u : Value} (hv : Boxed W B t v) (ht : t ≠ 50) : KeepsG W (W.setCell ⟨B, 0, none⟩ u) := fun b cs fr hb => by
  have hB : b ≠ B := fun e => by
    subst e
    have := (show W.heap[b]? = _ from hv).symm.trans hb
    simp only [Option.some.injEq, Obj.cells.injEq] at this
    exact ht this.2.1
  exact (Below.heap_setCell W _ _ b hB).trans hb
theorem keeps_grown {W W' : World} (h : ∃ f, W' = ext W f) : KeepsOthers W W' := by
  obtain ⟨f, rfl⟩ := h
  exact ⟨ext_size W f, fun k o hk _ => ((ext_below W f).block k (Array.getElem?_eq_some_iff.1 hk).1).trans hk⟩
theorem prefix_range {pre : List Nat} {n : Nat} (h : pre <+: List.range n) : pre = List.range pre.length := by
  have h1 := List.prefix_iff_eq_take.1 h
  have h2 := h.length_le
  rw [List.length_range] at h2
  rw [List.take_range, Nat.min_eq_left h2] at h1
  exact h1
/-- Between two rounds. -/
def LawI (B C : Nat) (s px pz : Int) (K : Nat) (w : World) (pre : List Nat) (W : World) : Prop :=
  (Bx B s px pz W ∧ Boxed W C 3 (.int .i64 K) ∧ Boxed W (C + 1) 3 (.int .i64 pre.length) ∧ pre.length ≤ K) ∧ Below w.heap.size w W
/-- A round has left. -/
def LawX (B C : Nat) (s px pz : Int) (K : Nat) (w : World) (c : Code) (pre : List Nat) (W : World) : Prop :=
  (c = .ret ∧ ¬ pre = List.range pre.length) ∨ (c = .exit 0 ∧ (Bx B s px pz W ∧ Boxed W C 3 (.int .i64 K) ∧ Boxed W (C + 1) 3 (.int .i64 K)) ∧ Below w.heap.size w W)
theorem lawI_own {B C : Nat} {s px pz : Int} {K : Nat} {w : World} {D : Nat} (hD : w.heap.size ≤ D) : OwnFrom D (LawI B C s px pz K w) := by
  intro pre W W' row ⟨⟨bx, bk, bn, hle⟩, hB⟩ hg hr
  have hr' : ∀ r, row = some r → ∃ o : Obj, W.heap[r]? = some o ∧ o.isCells = false := fun r e => (hr r e).2
  exact ⟨⟨⟨kept_row bx.sb hg hr', kept_row bx.pb hg hr', kept_row bx.rb hg hr'⟩, kept_row bk hg hr', kept_row bn hg hr', hle⟩, hB.grown hg hB.size (fun k e => Nat.le_trans hD (hr k e).1)⟩
theorem lawX_own {B C : Nat} {s px pz : Int} {K : Nat} {w : World} {D : Nat} (hD : w.heap.size ≤ D) (c : Code) : OwnFrom D (LawX B C s px pz K w c) := by
  intro pre W W' row h hg hr
  have hr' : ∀ r, row = some r → ∃ o : Obj, W.heap[r]? = some o ∧ o.isCells = false := fun r e => (hr r e).2
  rcases h with h | ⟨hc, ⟨bx, bk, bn⟩, hB⟩
  · exact .inl h
  · exact .inr ⟨hc, ⟨⟨kept_row bx.sb hg hr', kept_row bx.pb hg hr', kept_row bx.rb hg hr'⟩, kept_row bk hg hr', kept_row bn hg hr'⟩, hB.grown hg hB.size (fun k e => Nat.le_trans hD (hr k e).1)⟩

set_option maxRecDepth 100000 in
set_option maxHeartbeats 8000000 in
theorem walk (s x z i : Int) (_fs : Fit s) (fx : Fit x) (fz : Fit z) (fi : Fit i) (w : World) :
    Calls Try.prog 4 #[.int .i64 s, .agg #[.int .i64 x, .int .i64 z], .int .i64 i] w fun e w' => e = .returned (.bool true) ∧ ∃ f, w' = ext w f := by
  obtain ⟨a1, a2⟩ := arS_bd (n := x) (m := 268435456) (by omega)
  obtain ⟨b1, b2⟩ := arS_bd (n := z) (m := 268435456) (by omega)
  obtain ⟨k1, k2⟩ := arS_bd (n := i) (m := 8192) (by omega)
  have HP := Lib.hid (show Pl (arS x 268435456 - 134217728) (arS z 268435456 - 134217728) from ⟨by omega, by omega, by omega, by omega⟩)
  have POS := fun w => pos_any x z w fx fz
  generalize arS x 268435456 - 134217728 = px at *
  generalize arS z 268435456 - 134217728 = pz at *
  have LEN := Lib.hid (rleN_len (blkS s px pz) 8192)
  have LEN0 : Hid (0 < (rleN (blkS s px pz) 8192).length) := Lib.hid (by
    obtain ⟨rs, n, e, _⟩ := rleN_form (blkS s px pz) 8191
    rw [show (8192 : Nat) = 8191 + 1 from rfl, e]
    simp)
  clear a1 a2 b1 b2
  refine (callsIn_wide (n := 5)).1 ?_
  refine callsIn_of_wp_marks Try.func4 rfl trivial ?_ rfl
  simp only [Try.ntmps4, List.size_toArray, List.length_cons, List.length_nil, Nat.reduceAdd, Nat.reduceSub, Array.replicate_succ, Array.replicate_zero, List.push_toArray, List.append_toArray, List.nil_append, List.cons_append]
  gi_wp2
  refine ⟨trivial, (callsIn_wide.2 (POS _)).mono ?_⟩
  rintro e w1 ⟨rfl, _t, hw⟩
  haveI hg1 := named_grown hw
  haveI hb1 := named_below (w := w) hw
  have hc1 := named_cell hw
  have hz1 := named_frozen hw
  have hh1 := named_heap hw
  haveI hi1 := named_in hw
  have hw1 := hw
  clear hw
  obtain ⟨K, hK⟩ := Int.eq_ofNat_of_zero_le k1
  have AR := fun w => around_fit i 8192 w fi (by omega) (by omega)
  rw [hK] at AR
  have HK : Hid (K < 8192) := Lib.hid (by omega)
  clear hK k1 k2
  have BX := Lib.hid (bx_start s x z px pz w w1 ⟨_, hw1⟩)
  have BB := Lib.hid (((grown_now (w := w) (W := w1)).setCell (p := ⟨w.heap.size + 1, 0, none⟩) (by simp) (.int .i64 px)).setCell (p := ⟨w.heap.size + 1, 1, none⟩) (by simp) (.int .i64 pz))
  clear hw1
  gi_wp2
  generalize (w1.setCell ⟨w.heap.size + 1, 0, none⟩ (.int .i64 px)).setCell ⟨w.heap.size + 1, 1, none⟩ (.int .i64 pz) = w2 at *
  clear hc1 hz1 hh1 hi1
  haveI hb2 : Nonempty (Below w.heap.size w w2) := ⟨BB.out⟩
  obtain ⟨x0, x1, x2, x3, x4⟩ := BX.out.cells
  haveI := in_of_cell x0
  haveI := in_of_cell x1
  haveI := in_of_cell x3
  refine ⟨trivial, (callsIn_wide.2 (genchunk_any s px pz _ HP.out)).mono ?_⟩
  rintro e w3 ⟨v3, rfl, ho3, _t, hw⟩
  haveI hg3 := named_grown hw
  haveI hb3_2 := named_below (w := w2) hw
  haveI hb3_w := named_below (w := w) hw
  have hc3 := named_cell hw
  have hz3 := named_frozen hw
  have hh3 := named_heap hw
  haveI hi3 := named_in hw
  clear hw
  gi_wp2
  refine ⟨trivial, (callsIn_wide.2 (refchunk_any s px pz _ HP.out)).mono ?_⟩
  rintro e w4 ⟨v4, rfl, ho4, _t, hw⟩
  haveI hg4 := named_grown hw
  haveI hb4_3 := named_below (w := w3) hw
  haveI hb4_2 := named_below (w := w2) hw
  haveI hb4_w := named_below (w := w) hw
  have hc4 := named_cell hw
  have hz4 := named_frozen hw
  have hh4 := named_heap hw
  haveI hi4 := named_in hw
  clear hw
  gi_wp2
  refine ⟨trivial, (callsIn_wide.2 (same_runs _ _ _ _ _ _ (owns_grown ho3 (by exact grown_of)) ho4 LEN0.out (by have := LEN.out; omega))).mono ?_⟩
  rintro e w5 ⟨rfl, _t, hw⟩
  haveI hg5 := named_grown hw
  haveI hb5_2 := named_below (w := w2) hw
  haveI hb5_w := named_below (w := w) hw
  have hc5 := named_cell hw
  have hz5 := named_frozen hw
  have hh5 := named_heap hw
  haveI hi5 := named_in hw
  clear hw
  have HO3 := Lib.hid ho3
  clear ho4 ho3
  gi_wp2
  refine ⟨trivial, (callsIn_wide.2 (iter_any s px pz _)).mono ?_⟩
  rintro e w6 ⟨bp, bs, rfl, ⟨q0, q1, q2⟩, _t, hw⟩
  haveI hg6 := named_grown hw
  haveI hb6_2 := named_below (w := w2) hw
  haveI hb6_w := named_below (w := w) hw
  have hc6 := named_cell hw
  have hz6 := named_frozen hw
  have hh6 := named_heap hw
  haveI hi6 := named_in hw
  clear hw
  have hne : ∀ W : World, (binOp .eql 36 (.func (.func 25) #[] #[.pointer (some ⟨bp, 0, none⟩), .pointer (some ⟨bs, 0, none⟩)]) .nilFunc).run Try.prog W = .ok (.bool false) W := fun W => func_nil _ _ W
  gi_wp2
  refine ⟨trivial, (callsIn_wide.2 (AR _)).mono ?_⟩
  rintro e w7 ⟨rfl, rfl⟩
  gi_wp2
  have hsz : w.heap.size + 1 + 1 < w6.heap.size := Nat.lt_of_lt_of_le (World.block_lt_of_cell? w2 _ x3) (grown_now (w := w2) (W := w6)).size
  have BX6 := BX.out.grow (grown_of (w := w2) (W := w6))
  have bk := (Boxed.new w6 3 (.int .i64 K)).alloc (.cells #[.int .i64 0] 3)
  have bn := Boxed.new (w6.alloc (.cells #[.int .i64 K] 3)) 3 (.int .i64 0)
  rw [World.size_alloc] at bn
  have BXr : Bx w.heap.size s px pz ((w6.alloc (.cells #[.int .i64 K] 3)).alloc (.cells #[.int .i64 0] 3)) := BX6.grow grown_of
  have hBr : Below w.heap.size w ((w6.alloc (.cells #[.int .i64 K] 3)).alloc (.cells #[.int .i64 0] 3)) := grown_now
  have r0 : ((w6.alloc (.cells #[.int .i64 K] 3)).alloc (.cells #[.int .i64 0] 3)).cell? ⟨bp, 0, none⟩ = some (.int .i64 px) := by haveI := in_of_cell q0; go_simp
  have r1 : ((w6.alloc (.cells #[.int .i64 K] 3)).alloc (.cells #[.int .i64 0] 3)).cell? ⟨bp, 1, none⟩ = some (.int .i64 pz) := by haveI := in_of_cell q0; go_simp
  have r2 : ((w6.alloc (.cells #[.int .i64 K] 3)).alloc (.cells #[.int .i64 0] 3)).cell? ⟨bs, 0, none⟩ = some (.int .i64 s) := by haveI := in_of_cell q2; go_simp
  clear hc3 hz3 hh3 hi3 hc4 hz4 hh4 hi4 hc5 hz5 hh5 hi5 hc6 hz6 hh6 hi6 x0 x1 x2 x3 x4 q0 q1 q2 HO3 BX BB BX6 AR POS LEN LEN0
  generalize (w6.alloc (.cells #[.int .i64 K] 3)).alloc (.cells #[.int .i64 0] 3) = w8 at *
  refine wpIn_rangeFunc_ownG rfl (by omega) (gf := 25) (lb := #[.pointer (some ⟨bp, 0, none⟩), .pointer (some ⟨bs, 0, none⟩)]) rfl trivial (enters_of Try.func25 (by kernel_rfl) rfl)
    (cells_stops s px pz _ (by omega) HP.out bp bs w8 r0 r1 r2) KeepsG.trans' keepsG_b (Below.refl _ _) (fun _ => rfl)
    (LawI w.heap.size w6.heap.size s px pz K w) (LawX w.heap.size w6.heap.size s px pz K w) (lawI_own hBr.size) (lawX_own hBr.size)
    ⟨⟨BXr, bk, bn, Nat.zero_le _⟩, hBr⟩
    (fun y => { tmps := #[.int .i64 s, .agg #[.int .i64 x, .int .i64 z], .int .i64 i, .pointer (some ⟨w.heap.size, 0, none⟩), .pointer (some ⟨w.heap.size + 1, 0, none⟩), undef, .pointer (some ⟨w.heap.size + 1 + 1, 0, none⟩), v3, .func (.func 25) #[] #[.pointer (some ⟨bp, 0, none⟩), .pointer (some ⟨bs, 0, none⟩)], .pointer (some ⟨w6.heap.size, 0, none⟩), .pointer (some ⟨w6.heap.size + 1, 0, none⟩), .int .i64 (blkS s px pz y), undef, undef, .agg #[.int .i64 x, .int .i64 z], .agg #[.int .i64 px, .int .i64 pz], .int .i64 s, .agg #[.int .i64 px, .int .i64 pz], v3, v3, .int .i64 s, .agg #[.int .i64 px, .int .i64 pz], v4, .bool true, .bool false, .int .i64 s, .agg #[.int .i64 px, .int .i64 pz], .func (.func 25) #[] #[.pointer (some ⟨bp, 0, none⟩), .pointer (some ⟨bs, 0, none⟩)], .func (.func 25) #[] #[.pointer (some ⟨bp, 0, none⟩), .pointer (some ⟨bs, 0, none⟩)], .bool false, .int .i64 i, .int .i64 K, .func (.func 25) #[] #[.pointer (some ⟨bp, 0, none⟩), .pointer (some ⟨bs, 0, none⟩)], .int .i64 (blkS s px pz y), undef, undef, undef, undef, undef, undef, undef, undef, undef, undef, undef, undef, undef, undef, undef, undef, undef, undef, undef, undef, undef, undef], defers := [] }) ?assign ?body ?done ?stop
  case assign =>
    intro l y W K' hK'
    gi_wp2
    exact hK'
  case body =>
    rintro l pre y W ⟨⟨bx, bk, bn, hle⟩, hB⟩ hlt
    obtain ⟨x0, x1, x2, x3, x4⟩ := bx.cells
    have y0 := bk.cell
    have y1 := bn.cell
    have y2 := bn.frozen
    haveI := in_of_cell x0
    haveI := in_of_cell x1
    haveI := in_of_cell x3
    haveI := in_of_cell y0
    haveI := in_of_cell y1
    have HBX := Lib.hid bx
    have HBK := Lib.hid bk
    have HBN := Lib.hid bn
    have HBW := Lib.hid hB
    haveI hbW : Nonempty (Below w.heap.size w W) := ⟨hB⟩
    by_cases hk : pre.length = K
    · have t0 : ((pre.length : Int) == (K : Int)) = true := by simp [hk]
      have HKL := Lib.hid hk
      clear bx bk bn hB hle hlt hk
      gi_wp2
      refine ⟨trivial, (CallsIn.inRound l (callsIn_wide.2 (reffrom_at px pz K _ HP.out (by omega) (by have := HK.out; omega)))).mono ?_⟩
      rintro e w1 ⟨rfl, _t, hw⟩
      haveI hg1 := named_grown hw
      haveI hb1_w := named_below (w := w) hw
      have hc1 := named_cell hw
      have hz1 := named_frozen hw
      have hh1 := named_heap hw
      haveI hi1 := named_in hw
      clear hw
      by_cases hb : blkS s px pz y = blkS s px pz K
      · have u0 : (blkS s px pz y == blkS s px pz K) = true := by simp [hb]
        have u1 : (blkS s px pz y != blkS s px pz K) = false := by simp [hb]
        have RB := fun W => refblock_at s px pz K W HP.out HK.out
        clear hb
        generalize blkS s px pz y = by1 at *
        generalize blkS s px pz K = by2 at *
        gi_wp2
        refine ⟨trivial, (CallsIn.inRound l (callsIn_wide.2 (RB _))).mono ?_⟩
        rintro e w9 ⟨rfl, _t, hw⟩
        haveI hg9 := named_grown hw
        haveI hb9_W := named_below (w := W) hw
        haveI hb9_w := named_below (w := w) hw
        have hc9 := named_cell hw
        have hz9 := named_frozen hw
        have hh9 := named_heap hw
        haveI hi9 := named_in hw
        clear hw
        gi_wp2
        exact ⟨(keeps_grown grown_of).from _, .inr ⟨rfl, ⟨HBX.out.grow grown_of, kept_ext HBK.out grown_of, by have := HBN.out; rw [HKL.out] at this; exact kept_ext this grown_of⟩, grown_now⟩⟩
      · have u1 : (blkS s px pz y != blkS s px pz K) = true := by simp [hb]
        have u0 : (blkS s px pz y == blkS s px pz K) = false := by simp [hb]
        have RB := fun W => refblock_at s px pz K W HP.out HK.out
        have HNE : Hid (¬ pre ++ [y] = List.range (pre ++ [y]).length) := Lib.hid (fun e => by
          rw [List.length_append, List.length_singleton, HKL.out, List.range_succ] at e
          have e2 := List.append_inj_right' e rfl
          simp only [List.cons.injEq, and_true] at e2
          exact hb (by rw [e2]))
        clear hb
        generalize blkS s px pz y = by1 at *
        generalize blkS s px pz K = by2 at *
        gi_wp2
        refine ⟨trivial, (CallsIn.inRound l (callsIn_wide.2 (RB _))).mono ?_⟩
        rintro e w9 ⟨rfl, _t, hw⟩
        haveI hg9 := named_grown hw
        haveI hb9_W := named_below (w := W) hw
        haveI hb9_w := named_below (w := w) hw
        have hc9 := named_cell hw
        have hz9 := named_frozen hw
        have hh9 := named_heap hw
        haveI hi9 := named_in hw
        clear hw
        gi_wp2
        exact ⟨((keeps_grown (grown_of (w := W) (W := w9))).trans (KeepsOthers.setCell _ _ _)).from _, .inl ⟨rfl, HNE.out⟩⟩
    · have t0 : ((pre.length : Int) == (K : Int)) = false := by simp; omega
      have HLE : Hid (pre.length + 1 ≤ K) := Lib.hid (by omega)
      have p0 : (0 : Int) ≤ (pre.length : Int) := Int.natCast_nonneg _
      have p1 : (pre.length : Int) < 8192 := by omega
      clear bx bk bn hB hle hlt hk
      gi_wp2
      have HX := HBX.out
      refine ⟨(KeepsOthers.setCell _ _ _).from _, keepsG_set HBN.out (by decide), ⟨⟨?_, ?_, ?_⟩, ?_, ?_, ?_⟩, HBW.out.setCell (p := ⟨w6.heap.size + 1, 0, none⟩) (by simp; omega) _⟩
      · exact (Below.heap_setCell W _ _ _ (by simp; omega)).trans HX.sb
      · exact (Below.heap_setCell W _ _ _ (by simp; omega)).trans HX.pb
      · exact (Below.heap_setCell W _ _ _ (by simp; omega)).trans HX.rb
      · exact (Below.heap_setCell W _ _ _ (by simp)).trans HBK.out
      · have := HBN.out.set (.int .i64 ((pre.length : Int) + 1))
        rw [List.length_append, List.length_singleton, show (((pre.length + 1 : Nat)) : Int) = (pre.length : Int) + 1 by omega]
        exact this
      · rw [List.length_append, List.length_singleton]
        exact HLE.out
  case done =>
    rintro D ys W hD rfl ⟨⟨_, _, _, hle⟩, _⟩ hKD
    rw [List.length_range] at hle
    exact absurd HK.out (by omega)
  case stop =>
    rintro D c pre W hD hpre hX hKD
    rcases hX with ⟨_, hn⟩ | ⟨rfl, ⟨bx, bk, bn⟩, hB⟩
    · exact absurd (prefix_range hpre) hn
    · obtain ⟨x0, x1, x2, x3, x4⟩ := bx.cells
      have y0 := bk.cell
      have y1 := bn.cell
      haveI := in_of_cell x3
      haveI := in_of_cell y0
      haveI := in_of_cell y1
      have HB := Lib.hid hB
      have HKD := Lib.hid hKD
      have HDD := Lib.hid (Nat.le_trans hBr.size hD)
      have HRB := Lib.hid bx.rb
      haveI hbW : Nonempty (Below w.heap.size w W) := ⟨hB⟩
      clear bx bk bn hB hD hKD hpre
      gi_wp2
      refine ⟨trivial, (callsIn_wide.2 (lives10_any _)).mono ?_⟩
      rintro e w9 ⟨rfl, _t, hw⟩
      haveI hg9 := named_grown hw
      haveI hb9_w := named_below (w := w) hw
      have hc9 := named_cell hw
      have hz9 := named_frozen hw
      have hh9 := named_heap hw
      haveI hi9 := named_in hw
      have HG9 := Lib.hid (grown_now (w := W) (W := w9))
      have HR9 : Hid (Boxed w9 (w.heap.size + 1 + 1) 4 (.bool false)) := Lib.hid (kept_ext HRB.out (grown_of (w := W) (W := w9)))
      have HK9 : Hid (w9.heap[D]? = some (.deferred (some []))) := Lib.hid ((HG9.out.block D (Array.getElem?_eq_some_iff.1 HKD.out).1).trans HKD.out)
      clear hw
      gi_wp2
      have hne' : D ≠ w.heap.size + 1 + 1 := fun e => by
        have h1 := HK9.out
        rw [e, show w9.heap[w.heap.size + 1 + 1]? = _ from HR9.out] at h1
        cases h1
      have hK' := (Below.heap_setCell w9 ⟨w.heap.size + 1 + 1, 0, none⟩ (.bool true) D hne').trans HK9.out
      have hb' := HR9.out.set (.bool true)
      refine ⟨by simp, .inl ⟨_, _, rfl, run_takeDeferred hK', ?_⟩⟩
      have hc5 := cell_kept hb'.cell (grownBy_putObj' _ D (.deferred none)) (fun r e => by cases e; exact ⟨_, hK', rfl⟩)
      refine ⟨.bool true, ?_, rfl, ext_of (((HB.out.trans (HG9.out.mono HB.out.size)).setCell (p := ⟨w.heap.size + 1 + 1, 0, none⟩) (by simp; omega) _).trans (belowK_b (w := w) (Nat.le_refl _) _ D _ _ HDD.out hK' rfl rfl))⟩
      simp [results, Try.f4, go_sem, hc5]
set_option maxRecDepth 100000 in
theorem lifted (os : Os) (started : os.Started) (H : Type) (enc : TypeId × Value → H) :
    ReturnsInHanded {} Try.checked os 4 .any (Rows.genChunksSpec.pre6 enc Try.prog Try.f4 Rows.genChunksRow.domain false) (Rows.genChunksSpec.post enc Try.prog Try.f4 false true false false) := by
  refine returnsInHanded_of_change (C := Try.checked) own started (by kernel_rfl) Try.func4
    (ChangeSpec.witness6 (enc := enc) (C := Try.checked) false ⟨#[], #[.int .i64 0, .agg #[.int .i64 0, .int .i64 0], .int .i64 0], []⟩ 8 (by kernel_rfl) (by kernel_rfl) (by kernel_rfl) (by kernel_rfl)) ?_
  intro W base args ds gs before hval0 hW hcnd hsz
  have hval : ∀ (j : Nat) t v, Try.f4.params[j]? = some t → args[j]? = some v → Value.okWide Try.prog W .any base t v := hval0
  have hW' := hW
  obtain ⟨p, q, hA0, hV, rfl, hfz, hnd⟩ := hW
  have hA : DataW.TrodAll enc Try.prog W 0 (fun _ => true) true Try.f4.params.toList args.toList ds p := hA0
  rw [Try.params4] at hA hval
  obtain ⟨v0, vs0, d0, ds0, p0, q0, hargs, rfl, rfl, h0, r0⟩ := trodAll_cons hA
  obtain ⟨v1, vs1, d1, ds1, p1, q1, rfl, rfl, rfl, h1, r1⟩ := trodAll_cons r0
  obtain ⟨v2, vs2, d2, ds2, p2, q2, rfl, rfl, rfl, h2, r2⟩ := trodAll_cons r1
  obtain ⟨rfl, rfl, rfl⟩ := trodAll_nil r2
  obtain rfl : args = #[v0, v1, v2] := by cases args; simp_all
  obtain ⟨rfl, rfl⟩ := trodVars_none hV
  obtain ⟨a0, rfl, fa0⟩ := open_one Try.underlying3 (hval 0 3 v0 rfl rfl) h0
  obtain ⟨a1, b1, rfl, fa1, fb1⟩ := open_two Try.underlying3 Try.underlying30 (by kernel_rfl) (by kernel_rfl) rfl rfl (hval 1 30 v1 rfl rfl) h1
  obtain ⟨a2, rfl, fa2⟩ := open_one Try.underlying3 (hval 2 3 v2 rfl rfl) h2
  simp only [List.append_nil] at hW'
  refine (walk a0 a1 b1 a2 fa0 fa1 fb1 fa2 W).mono fun e W' ⟨he, g, hg⟩ => ?_
  subst he
  subst hg
  exact ⟨_, rfl, law_post laidOut rfl rfl (by kernel_rfl) Try.underlying4 (by rw [Try.params4]; decide +kernel) hW' (ext_below _ _)⟩

theorem over : Rows.genChunksRow.holds Try.pinned (OpenSpec.ofChange Rows.genChunksSpec) :=
  OpenClaim.holds_of_wide 4 Try.f4 rfl rfl rfl rfl rfl rfl rfl ⟨rfl, rfl, rfl, rfl, rfl⟩ rfl rfl rfl rfl rfl (by kernel_rfl) Try.func4 (by kernel_rfl)
    (of_decide_eq_true (by kernel_rfl)) (by unfold Func.isWrapper; first | (rw [if_pos (by decide +kernel)]; kernel_rfl) | (rw [if_neg (by decide +kernel)]; exact ⟨rfl, rfl⟩))
    (fun os started H enc _ => lifted os started H enc)

theorem proved : Rows.GenChunksSaid := over
#print axioms proved
end genChunks
end Go.Proofs.Ytgnlechegenjpaa
