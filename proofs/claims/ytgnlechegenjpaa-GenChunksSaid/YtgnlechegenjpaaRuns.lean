/-
  Runs: of blocks in a row; the Go function that pushes one more.
-/
import Derived.Test.YtgnlechegenjpaaRefBlock
import Derived.Test.YtgnlechegenjpaaArr
import Derived.Test.YtgnlechegenjpaaSlice
import Derived.Laws.OwnMore
import Derived.LoopTactic
namespace Go.Proofs.Ytgnlechegenjpaa
open Go.RowKit
attribute [local go_sem] ext_ext drew_ext ext_drew ext_cell ext_frozen in_lt in_le in_ne in_en in_ne1 in_en1 in_le1 in_ltn in_len in_nen in_enn size_le ite_max ite_min
set_option linter.unusedVariables false
set_option linter.unusedSimpArgs false

theorem in_of_cell {w : World} {b o : Nat} {v : Value} (h : w.cell? ⟨b, o, none⟩ = some v) : Nonempty (In b w) := ⟨World.block_lt_of_cell? w _ h⟩
theorem named_grown {w W : World} {f : World → World} (h : W = ext w f) : Nonempty (Below w.heap.size w W) := ⟨by rw [h]; exact ext_below w f⟩
theorem below_thru (a b c : World) [h1 : Nonempty (Below a.heap.size a b)] [h2 : Nonempty (Below b.heap.size b c)] : Nonempty (Below a.heap.size a c) := ⟨by obtain ⟨h1⟩ := h1; obtain ⟨h2⟩ := h2; exact h1.trans (h2.mono h1.size)⟩
theorem intInfo : (Try.prog.info? 3).map (fun i => (i.zero, i.size, i.bytes)) = some (some (.int .i64 0), 1, 8) := by kernel_rfl
theorem runInfo : (Try.prog.info? 48).map (fun i => (i.zero, i.size, i.bytes)) = some (some (.agg #[.int .i64 0, .int .i64 0]), 2, 16) := by kernel_rfl

/-- A run: how long, of which block. -/
abbrev Rn := Int × Int
def rV (l : List Rn) : List Value := l.flatMap fun r => [.int .i64 r.1, .int .i64 r.2]
theorem rV_length (l : List Rn) : (rV l).length = l.length * 2 := by
  induction l with
  | nil => rfl
  | cons c l ih =>
    unfold rV at ih ⊢
    rw [List.flatMap_cons, List.length_append, ih]
    simp only [List.length_cons, List.length_nil]
    omega
theorem rV_snoc (l : List Rn) (n b : Int) : rV (l ++ [(n, b)]) = rV l ++ [.int .i64 n, .int .i64 b] := by simp [rV]
theorem rV_at (l : List Rn) (k : Nat) (hk : k < l.length) : (rV l)[k * 2]? = some (.int .i64 l[k].1) ∧ (rV l)[k * 2 + 1]? = some (.int .i64 l[k].2) := by
  induction l generalizing k with
  | nil => simp at hk
  | cons c l ih =>
    cases k with
    | zero => exact ⟨rfl, rfl⟩
    | succ k =>
      have := ih k (by simpa using hk)
      simp only [List.getElem_cons_succ]
      have e : rV (c :: l) = .int .i64 c.1 :: .int .i64 c.2 :: rV l := rfl
      rw [e, show (k + 1) * 2 = k * 2 + 1 + 1 by omega]
      simpa [Nat.add_assoc] using this
/-- A block more behind runs. -/
def pushR (rs : List Rn) (b : Int) : List Rn :=
  match rs.getLast? with
  | some r => if r.2 = b then rs.dropLast ++ [(r.1 + 1, b)] else rs ++ [(1, b)]
  | none => rs ++ [(1, b)]
theorem pushR_nil (b : Int) : pushR [] b = [(1, b)] := rfl
theorem pushR_same (rs : List Rn) (n b : Int) : pushR (rs ++ [(n, b)]) b = rs ++ [(n + 1, b)] := by simp [pushR]
theorem pushR_other (rs : List Rn) (n c b : Int) (h : ¬ c = b) : pushR (rs ++ [(n, c)]) b = (rs ++ [(n, c)]) ++ [(1, b)] := by simp [pushR, h]
/-- The runs of the first n blocks. -/
def rleN (f : Nat → Int) : Nat → List Rn
  | 0 => []
  | k + 1 => pushR (rleN f k) (f k)
theorem rleN_form (f : Nat → Int) (k : Nat) : ∃ rs n, rleN f (k + 1) = rs ++ [(n, f k)] ∧ 1 ≤ n ∧ n ≤ (k : Int) + 1 ∧ rs.length ≤ k := by
  induction k with
  | zero => exact ⟨[], 1, rfl, by omega, by omega, by simp⟩
  | succ k ih =>
    obtain ⟨rs, n, h, h1, h2, h3⟩ := ih
    have e : rleN f (k + 1 + 1) = pushR (rleN f (k + 1)) (f (k + 1)) := rfl
    rw [e, h]
    by_cases hb : f k = f (k + 1)
    · rw [hb, pushR_same]
      exact ⟨rs, n + 1, rfl, by omega, by omega, by omega⟩
    · rw [pushR_other _ _ _ _ hb]
      exact ⟨rs ++ [(n, f k)], 1, rfl, by omega, by omega, by simp; omega⟩
theorem rleN_len (f : Nat → Int) (k : Nat) : (rleN f k).length ≤ k := by
  cases k with
  | zero => exact Nat.le_refl _
  | succ k =>
    obtain ⟨rs, n, h, _, _, h3⟩ := rleN_form f k
    rw [h, List.length_append]
    simp
    exact h3

/-- What a push hands back. -/
def Pushed (base : Nat) (rs : List Rn) (w : World) (e : Ending) (w' : World) : Prop := ∃ v, e = .returned v ∧ w'.ownsRow base 48 2 v rs.length (rV rs) ∧ Below base w w'

theorem rV_set (rs : List Rn) (n b m : Int) : (rV (rs ++ [(n, b)])).set (rs.length * 2) (.int .i64 m) = rV (rs ++ [(m, b)]) := by
  rw [rV_snoc, rV_snoc, ← rV_length, List.set_append_right _ _ (Nat.le_refl _), Nat.sub_self]
  rfl
theorem own_last {w : World} {base g cap j : Nat} {rs : List Rn} {n b : Int} (h : w.ownsRow base 48 2 (.slice (some ⟨g, 0, none⟩) (j + 1) cap) (j + 1) (rV (rs ++ [(n, b)]))) (hj : rs.length = j) :
    w.cell? ⟨g, j * 2, none⟩ = some (.int .i64 n) ∧ w.cell? ⟨g, j * 2 + 1, none⟩ = some (.int .i64 b) ∧ w.frozen? ⟨g, j * 2, none⟩ = false ∧
    ∀ m : Int, (w.setCell ⟨g, j * 2, none⟩ (.int .i64 m)).ownsRow base 48 2 (.slice (some ⟨g, 0, none⟩) (j + 1) cap) (j + 1) (rV (rs ++ [(m, b)])) := by
  subst hj
  obtain ⟨a1, a2⟩ := rV_at (rs ++ [(n, b)]) rs.length (by simp)
  refine ⟨?_, ?_, h.frozenAt _, fun m => ?_⟩
  · rw [h.cellAt _ (by omega), a1]; simp
  · rw [h.cellAt _ (by omega), a2]; simp
  · have := (h.stored (rs.length * 2) (.int .i64 m)).1
    rwa [rV_set] at this

theorem push_below {w w1 w2 : World} {base : Nat} {o : Obj} {row : Option Nat} (hb : base ≤ w.heap.size) (h1 : Below w.heap.size w w1) (hg : (w1.alloc o).grownBy w2 row) (hr : ∀ q, row = some q → base ≤ q) : Below base w w2 :=
  ((h1.mono hb).alloc (Nat.le_trans hb h1.size) o).grown hg (by have := h1.size; simp; omega) hr

set_option maxHeartbeats 2000000 in
theorem push_first (b : Int) (base : Nat) (lv : Value) (w : World) (h : w.ownsRow base 48 2 lv 0 []) (hb : base ≤ w.heap.size) :
    Calls Try.prog 28 #[lv, .agg #[.int .i64 1, .int .i64 b]] w (Pushed base [(1, b)] w) := by
  obtain ⟨i0, iz0, iz1, iz2, iz3⟩ := info_parts runInfo
  obtain ⟨og, cap, rfl⟩ := owns_form h
  have HO := Lib.hid h
  have HB := Lib.hid hb
  clear h hb
  go_enter Try.func28, Try.ntmps28
  go_wp2_with fail
  refine wp_region_ext ?_ ?_ ?_
  · kernel_rfl
  · kernel_rfl
  repeat (go_big_quiet_step (first | fail))
  refine wpQuiet_nil ?_
  rintro w1 ⟨_t, hw⟩
  have hc1 := named_cell hw
  have hz1 := named_frozen hw
  have hh1 := named_heap hw
  haveI hi1 := named_in hw
  haveI hb1 := named_below (w := w) hw
  clear hw
  have HO1 := Lib.hid (owns_grown HO.out (grown_of (w := w) (W := w1)))
  have H1 := Lib.hid (grown_now (w := w) (W := w1))
  go_wp2_with (at_builtin; refine wpList_append_own _ rfl (.tmp 38) (.tmp 40) 32 rfl base 48 i0 _ 2 16 Try.underlying32 iz0 iz1 iz2 iz3 rfl (by omega) _ _ _ rfl (HO1.out.alloc _) _ 1 1 [.int .i64 1, .int .i64 b] rfl rfl (World.news_of_block (heap_alloc_new w1 _)) (by simp [Value.oneCell']) (by unfold maxLen; omega) (by omega) (by have := HB.out; have := H1.out.size; simp; omega) ?_; intro v' w1' hown1 hgrow _)
  go_ret
  exact ⟨_, rfl, hown1, push_below HB.out H1.out hgrow (fun q hq => (HO1.out.lt q hq).1)⟩

set_option maxHeartbeats 2000000 in
theorem push_other (rs : List Rn) (n c b : Int) (base : Nat) (lv : Value) (w : World) (h : w.ownsRow base 48 2 lv (rs.length + 1) (rV (rs ++ [(n, c)]))) (hb : base ≤ w.heap.size) (hne : ¬ c = b) (hl : rs.length ≤ 10000) :
    Calls Try.prog 28 #[lv, .agg #[.int .i64 1, .int .i64 b]] w (Pushed base ((rs ++ [(n, c)]) ++ [(1, b)]) w) := by
  obtain ⟨i0, iz0, iz1, iz2, iz3⟩ := info_parts runInfo
  obtain ⟨g, cap, rfl, _, _, _, _⟩ := owns_some h (by omega)
  obtain ⟨c0, c1, _, _⟩ := own_last h rfl
  have HO := Lib.hid h
  have HB := Lib.hid hb
  have hcb : (c == b) = false := by simp [hne]
  have HL := Lib.hid (show (rV ((rs ++ [(n, c)]) ++ [(1, b)])) = rV (rs ++ [(n, c)]) ++ [.int .i64 1, .int .i64 b] from rV_snoc _ _ _)
  have HN := Lib.hid (show ((rs ++ [(n, c)]) ++ [(1, b)]).length = rs.length + 1 + 1 by simp)
  generalize hj : rs.length = j at *
  have j0 : (0 : Int) ≤ (j : Int) := Int.natCast_nonneg _
  have HJ := Lib.hid hl
  have j1 : (j : Int) ≤ 10000 := by omega
  haveI := in_of_cell c0
  clear h hb hne hj hl
  go_enter Try.func28, Try.ntmps28
  go_wp2_with fail
  refine wp_region_ext ?_ ?_ ?_
  · kernel_rfl
  · kernel_rfl
  repeat (go_big_quiet_step (first | fail))
  refine wpQuiet_nil ?_
  rintro w1 ⟨_t, hw⟩
  have hc1 := named_cell hw
  have hz1 := named_frozen hw
  have hh1 := named_heap hw
  haveI hi1 := named_in hw
  haveI hb1 := named_below (w := w) hw
  clear hw
  have HO1 := Lib.hid (owns_grown HO.out (grown_of (w := w) (W := w1)))
  have H1 := Lib.hid (grown_now (w := w) (W := w1))
  go_wp2_with (at_builtin; refine wpList_append_own _ rfl (.tmp 38) (.tmp 40) 32 rfl base 48 i0 _ 2 16 Try.underlying32 iz0 iz1 iz2 iz3 rfl (by omega) _ _ _ rfl (HO1.out.alloc _) _ 1 1 [.int .i64 1, .int .i64 b] rfl rfl (World.news_of_block (heap_alloc_new w1 _)) (by simp [Value.oneCell']) (by have := HJ.out; unfold maxLen; omega) (by have := HJ.out; omega) (by have := HB.out; have := H1.out.size; simp; omega) ?_; intro v' w1' hown1 hgrow _)
  go_ret
  refine ⟨_, rfl, ?_, push_below HB.out H1.out hgrow (fun q hq => (HO1.out.lt q hq).1)⟩
  rw [HL.out, HN.out]
  exact hown1

set_option maxHeartbeats 2000000 in
theorem push_same (rs : List Rn) (n b : Int) (base : Nat) (lv : Value) (w : World) (h : w.ownsRow base 48 2 lv (rs.length + 1) (rV (rs ++ [(n, b)]))) (hb : base ≤ w.heap.size) (n1 : 0 ≤ n) (n2 : n ≤ 10000) (hl : rs.length ≤ 10000) :
    Calls Try.prog 28 #[lv, .agg #[.int .i64 1, .int .i64 b]] w (Pushed base (rs ++ [(n + 1, b)]) w) := by
  obtain ⟨g, cap, rfl, hg, _, _, _⟩ := owns_some h (by omega)
  obtain ⟨c0, c1, f0, _⟩ := own_last h rfl
  have HO := Lib.hid h
  have HB := Lib.hid hb
  have HG := Lib.hid hg
  have HN := Lib.hid (show (rs ++ [(n + 1, b)]).length = rs.length + 1 by simp)
  have HR := Lib.hid (show rs.length = rs.length from rfl)
  generalize hj : rs.length = j at *
  have HJ := Lib.hid hj
  have j0 : (0 : Int) ≤ (j : Int) := Int.natCast_nonneg _
  have j1 : (j : Int) ≤ 10000 := by omega
  haveI := in_of_cell c0
  clear h hb hj hl hg HR
  go_enter Try.func28, Try.ntmps28
  go_wp2_with fail
  refine wp_region_ext ?_ ?_ ?_
  · kernel_rfl
  · kernel_rfl
  repeat (go_big_quiet_step (first | fail))
  refine wpQuiet_nil ?_
  rintro w1 ⟨_t, hw⟩
  have hc1 := named_cell hw
  have hz1 := named_frozen hw
  have hh1 := named_heap hw
  haveI hi1 := named_in hw
  haveI hb1 := named_below (w := w) hw
  clear hw
  go_wp2_with fail
  refine wp_region_ext_tail 10 ?_ ?_ ?_
  · kernel_rfl
  · kernel_rfl
  simp only [List.take_succ_cons, List.take_zero, List.drop_succ_cons, List.drop_zero]
  repeat (go_big_quiet_step (first | fail))
  refine wpQuiet_nil ?_
  rintro w2 ⟨_t, hw⟩
  have hc2 := named_cell hw
  have hz2 := named_frozen hw
  have hh2 := named_heap hw
  haveI hi2 := named_in hw
  haveI hb2 := named_below (w := w) hw
  clear hw
  have HO2 := Lib.hid (owns_grown HO.out (grown_of (w := w) (W := w2)))
  have H2 := Lib.hid (grown_now (w := w) (W := w2))
  go_wp2_with fail
  go_ret
  refine ⟨_, rfl, ?_, (H2.out.mono HB.out).setCell HG.out _⟩
  rw [HN.out]
  exact (own_last HO2.out HJ.out).2.2.2 (n + 1)
end Go.Proofs.Ytgnlechegenjpaa
