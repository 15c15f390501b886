/-
  The document's block of a cell; a chunk's blocks, number by number.
  Runs: of blocks in a row; the Go function that pushes one more.
  No Go in sight. Runs and the cells that they stand for; canonical runs are one for each row of cells.
-/
import Derived.Test.YtnogfelfgclajaaGreatDoorMa03
import Derived.Test.YtnogfelfgclajaaGreatDoorMa02
import Derived.Test.YtnogfelfgclajaaGreatDoorMa01
import Derived.Laws.OwnMore
import Derived.LoopTactic
section
namespace Go.Proofs.YtnogfelfgclajaaGreatDoor
open Go.RowKit
attribute [local go_sem] ext_ext drew_ext ext_drew ext_cell ext_frozen in_lt in_le in_ne in_en in_ne1 in_en1 in_le1 in_ltn in_len in_nen in_enn size_le ite_max ite_min
set_option linter.unusedVariables false
set_option linter.unusedSimpArgs false

theorem refblock_any (s x y z : Int) (w : World) (hx : Fit x) (hz : Fit z) (y1 : 0 ≤ y) (y2 : y < 32) :
    Calls Tryz.prog 34 #[.int .i64 s, .agg #[.int .i64 x, .int .i64 y, .int .i64 z]] w fun e w' => e = .returned (.int .i64 (ofS y (groundS s x z))) ∧ ∃ f, w' = ext w f := by
  obtain ⟨g1, g2⟩ := groundS_bd s x z
  have GR := fun w => refground_any s x z w hx hz
  generalize groundS s x z = g at *
  by_cases c3 : y = 0
  · have H : Hid (ofS y g = 1) := by subst c3; unfold ofS; rw [if_neg (by omega), if_pos (.inl rfl)]; exact rfl
    have d3 : (y == 0) = true := by simp [c3]
    clear c3
    go_enter Tryz.func34, Tryz.ntmps34
    go_wp2_with (first | (go_at_call 71; refine (GR _).mono ?_; rintro e w1 ⟨rfl, rfl⟩))
    go_ret
    exact ⟨ret_int H.out.symm, grown_of⟩
  have d3 : (y == 0) = false := by simp [c3]
  by_cases c4 : y < g - 3
  · have H : Hid (ofS y g = 1) := by unfold ofS; rw [if_neg (by omega), if_pos (.inr c4)]; exact rfl
    clear c3
    go_enter Tryz.func34, Tryz.ntmps34
    go_wp2_with (first | (go_at_call 71; refine (GR _).mono ?_; rintro e w1 ⟨rfl, rfl⟩))
    go_ret
    exact ⟨ret_int H.out.symm, grown_of⟩
  by_cases c5 : y < g - 1
  · have H : Hid (ofS y g = 2) := by unfold ofS; rw [if_neg (by omega), if_neg (by omega), if_pos (.inl c5)]; exact rfl
    clear c3
    go_enter Tryz.func34, Tryz.ntmps34
    go_wp2_with (first | (go_at_call 71; refine (GR _).mono ?_; rintro e w1 ⟨rfl, rfl⟩))
    go_ret
    exact ⟨ret_int H.out.symm, grown_of⟩
  by_cases c6 : y = g - 1
  · have d6 : (y == g - 1) = true := by simp [c6]
    by_cases c7 : 9 < g
    · have H : Hid (ofS y g = 2) := by unfold ofS; rw [if_neg (by omega), if_neg (by omega), if_pos (.inr ⟨c6, c7⟩)]; exact rfl
      clear c6 c3
      go_enter Tryz.func34, Tryz.ntmps34
      go_wp2_with (first | (go_at_call 71; refine (GR _).mono ?_; rintro e w1 ⟨rfl, rfl⟩))
      go_ret
      exact ⟨ret_int H.out.symm, grown_of⟩
    · have H : Hid (ofS y g = 3) := by unfold ofS; rw [if_neg (by omega), if_neg (by omega), if_neg (by omega), if_pos c6]; exact rfl
      clear c6 c3
      go_enter Tryz.func34, Tryz.ntmps34
      go_wp2_with (first | (go_at_call 71; refine (GR _).mono ?_; rintro e w1 ⟨rfl, rfl⟩))
      go_ret
      exact ⟨ret_int H.out.symm, grown_of⟩
  have d6 : (y == g - 1) = false := by simp [c6]
  by_cases c8 : y < 9
  · have H : Hid (ofS y g = 8) := by unfold ofS; rw [if_neg (by omega), if_neg (by omega), if_neg (by omega), if_neg (by omega), if_pos c8]; exact rfl
    clear c6 c3
    go_enter Tryz.func34, Tryz.ntmps34
    go_wp2_with (first | (go_at_call 71; refine (GR _).mono ?_; rintro e w1 ⟨rfl, rfl⟩))
    go_ret
    exact ⟨ret_int H.out.symm, grown_of⟩
  · have H : Hid (ofS y g = 0) := by unfold ofS; rw [if_neg (by omega), if_neg (by omega), if_neg (by omega), if_neg (by omega), if_neg (by omega)]; exact rfl
    clear c6 c3
    go_enter Tryz.func34, Tryz.ntmps34
    go_wp2_with (first | (go_at_call 71; refine (GR _).mono ?_; rintro e w1 ⟨rfl, rfl⟩))
    go_ret
    exact ⟨ret_int H.out.symm, grown_of⟩

/-- A chunk's block, by its number. -/
def blkS (s px pz : Int) (i : Nat) : Int := ofS ((i : Int) / 256) (groundS s (px * 16 + (i : Int) % 16) (pz * 16 + (i : Int) / 16 % 16))
/-- A chunk's place is not too far. -/
structure Pl (px pz : Int) : Prop where
  p1 : -134217728 ≤ px
  p2 : px ≤ 134217728
  q1 : -134217728 ≤ pz
  q2 : pz ≤ 134217728
theorem pl_fit {px pz : Int} (h : Pl px pz) (i j : Int) (i1 : 0 ≤ i) (i2 : i < 16) (j1 : 0 ≤ j) (j2 : j < 16) : Fit (px * 16 + i) ∧ Fit (pz * 16 + j) := by
  obtain ⟨p1, p2, q1, q2⟩ := h
  exact ⟨⟨by omega, by omega⟩, ⟨by omega, by omega⟩⟩
end Go.Proofs.YtnogfelfgclajaaGreatDoor
end

section
namespace Go.Proofs.YtnogfelfgclajaaGreatDoor
open Go.RowKit
attribute [local go_sem] ext_ext drew_ext ext_drew ext_cell ext_frozen in_lt in_le in_ne in_en in_ne1 in_en1 in_le1 in_ltn in_len in_nen in_enn size_le ite_max ite_min
set_option linter.unusedVariables false
set_option linter.unusedSimpArgs false

theorem in_of_cell {w : World} {b o : Nat} {v : Value} (h : w.cell? ⟨b, o, none⟩ = some v) : Nonempty (In b w) := ⟨World.block_lt_of_cell? w _ h⟩
theorem named_grown {w W : World} {f : World → World} (h : W = ext w f) : Nonempty (Below w.heap.size w W) := ⟨by rw [h]; exact ext_below w f⟩
theorem below_thru (a b c : World) [h1 : Nonempty (Below a.heap.size a b)] [h2 : Nonempty (Below b.heap.size b c)] : Nonempty (Below a.heap.size a c) := ⟨by obtain ⟨h1⟩ := h1; obtain ⟨h2⟩ := h2; exact h1.trans (h2.mono h1.size)⟩
theorem intInfo : (Tryz.prog.info? 3).map (fun i => (i.zero, i.size, i.bytes)) = some (some (.int .i64 0), 1, 8) := by kernel_rfl
theorem runInfo : (Tryz.prog.info? 235).map (fun i => (i.zero, i.size, i.bytes)) = some (some (.agg #[.int .i64 0, .int .i64 0]), 2, 16) := by kernel_rfl

/-- A run: how long, of which block. -/
abbrev Rn := Int × Int
def rV (l : List Rn) : List Value := l.flatMap fun r => [.int .i64 r.1, .int .i64 r.2]
theorem rV_length (l : List Rn) : (rV l).length = l.length * 2 := by
  induction l with
  | nil => rfl
  | cons c l ih =>
    unfold rV at ih ⊢
    rw [List.flatMap_cons, List.length_append, ih]
    simp only [List.length_cons, List.length_nil]
    omega
theorem rV_snoc (l : List Rn) (n b : Int) : rV (l ++ [(n, b)]) = rV l ++ [.int .i64 n, .int .i64 b] := by simp [rV]
theorem rV_at (l : List Rn) (k : Nat) (hk : k < l.length) : (rV l)[k * 2]? = some (.int .i64 l[k].1) ∧ (rV l)[k * 2 + 1]? = some (.int .i64 l[k].2) := by
  induction l generalizing k with
  | nil => simp at hk
  | cons c l ih =>
    cases k with
    | zero => exact ⟨rfl, rfl⟩
    | succ k =>
      have := ih k (by simpa using hk)
      simp only [List.getElem_cons_succ]
      have e : rV (c :: l) = .int .i64 c.1 :: .int .i64 c.2 :: rV l := rfl
      rw [e, show (k + 1) * 2 = k * 2 + 1 + 1 by omega]
      simpa [Nat.add_assoc] using this
/-- A block more behind runs. -/
def pushR (rs : List Rn) (b : Int) : List Rn :=
  match rs.getLast? with
  | some r => if r.2 = b then rs.dropLast ++ [(r.1 + 1, b)] else rs ++ [(1, b)]
  | none => rs ++ [(1, b)]
theorem pushR_nil (b : Int) : pushR [] b = [(1, b)] := rfl
theorem pushR_same (rs : List Rn) (n b : Int) : pushR (rs ++ [(n, b)]) b = rs ++ [(n + 1, b)] := by simp [pushR]
theorem pushR_other (rs : List Rn) (n c b : Int) (h : ¬ c = b) : pushR (rs ++ [(n, c)]) b = (rs ++ [(n, c)]) ++ [(1, b)] := by simp [pushR, h]
/-- The runs of the first n blocks. -/
def rleN (f : Nat → Int) : Nat → List Rn
  | 0 => []
  | k + 1 => pushR (rleN f k) (f k)
theorem rleN_form (f : Nat → Int) (k : Nat) : ∃ rs n, rleN f (k + 1) = rs ++ [(n, f k)] ∧ 1 ≤ n ∧ n ≤ (k : Int) + 1 ∧ rs.length ≤ k := by
  induction k with
  | zero => exact ⟨[], 1, rfl, by omega, by omega, by simp⟩
  | succ k ih =>
    obtain ⟨rs, n, h, h1, h2, h3⟩ := ih
    have e : rleN f (k + 1 + 1) = pushR (rleN f (k + 1)) (f (k + 1)) := rfl
    rw [e, h]
    by_cases hb : f k = f (k + 1)
    · rw [hb, pushR_same]
      exact ⟨rs, n + 1, rfl, by omega, by omega, by omega⟩
    · rw [pushR_other _ _ _ _ hb]
      exact ⟨rs ++ [(n, f k)], 1, rfl, by omega, by omega, by simp; omega⟩
theorem rleN_len (f : Nat → Int) (k : Nat) : (rleN f k).length ≤ k := by
  cases k with
  | zero => exact Nat.le_refl _
  | succ k =>
    obtain ⟨rs, n, h, _, _, h3⟩ := rleN_form f k
    rw [h, List.length_append]
    simp
    exact h3

/-- What a push hands back. -/
def Pushed (base : Nat) (rs : List Rn) (w : World) (e : Ending) (w' : World) : Prop := ∃ v, e = .returned v ∧ w'.ownsRow base 235 2 v rs.length (rV rs) ∧ Below base w w'

theorem rV_set (rs : List Rn) (n b m : Int) : (rV (rs ++ [(n, b)])).set (rs.length * 2) (.int .i64 m) = rV (rs ++ [(m, b)]) := by
  rw [rV_snoc, rV_snoc, ← rV_length, List.set_append_right _ _ (Nat.le_refl _), Nat.sub_self]
  rfl
theorem own_last {w : World} {base g cap j : Nat} {rs : List Rn} {n b : Int} (h : w.ownsRow base 235 2 (.slice (some ⟨g, 0, none⟩) (j + 1) cap) (j + 1) (rV (rs ++ [(n, b)]))) (hj : rs.length = j) :
    w.cell? ⟨g, j * 2, none⟩ = some (.int .i64 n) ∧ w.cell? ⟨g, j * 2 + 1, none⟩ = some (.int .i64 b) ∧ w.frozen? ⟨g, j * 2, none⟩ = false ∧
    ∀ m : Int, (w.setCell ⟨g, j * 2, none⟩ (.int .i64 m)).ownsRow base 235 2 (.slice (some ⟨g, 0, none⟩) (j + 1) cap) (j + 1) (rV (rs ++ [(m, b)])) := by
  subst hj
  obtain ⟨a1, a2⟩ := rV_at (rs ++ [(n, b)]) rs.length (by simp)
  refine ⟨?_, ?_, h.frozenAt _, fun m => ?_⟩
  · rw [h.cellAt _ (by omega), a1]; simp
  · rw [h.cellAt _ (by omega), a2]; simp
  · have := (h.stored (rs.length * 2) (.int .i64 m)).1
    rwa [rV_set] at this

theorem push_below {w w1 w2 : World} {base : Nat} {o : Obj} {row : Option Nat} (hb : base ≤ w.heap.size) (h1 : Below w.heap.size w w1) (hg : (w1.alloc o).grownBy w2 row) (hr : ∀ q, row = some q → base ≤ q) : Below base w w2 :=
  ((h1.mono hb).alloc (Nat.le_trans hb h1.size) o).grown hg (by have := h1.size; simp; omega) hr

set_option maxHeartbeats 2000000 in
theorem push_first (b : Int) (base : Nat) (lv : Value) (w : World) (h : w.ownsRow base 235 2 lv 0 []) (hb : base ≤ w.heap.size) :
    Calls Tryz.prog 235 #[lv, .agg #[.int .i64 1, .int .i64 b]] w (Pushed base [(1, b)] w) := by
  obtain ⟨i0, iz0, iz1, iz2, iz3⟩ := info_parts runInfo
  obtain ⟨og, cap, rfl⟩ := owns_form h
  have HO := Lib.hid h
  have HB := Lib.hid hb
  clear h hb
  go_enter Tryz.func235, Tryz.ntmps235
  go_wp2_with fail
  refine wp_region_ext ?_ ?_ ?_
  · kernel_rfl
  · kernel_rfl
  repeat (go_big_quiet_step (first | fail))
  refine wpQuiet_nil ?_
  rintro w1 ⟨_t, hw⟩
  have hc1 := named_cell hw
  have hz1 := named_frozen hw
  have hh1 := named_heap hw
  haveI hi1 := named_in hw
  haveI hb1 := named_below (w := w) hw
  clear hw
  have HO1 := Lib.hid (owns_grown HO.out (grown_of (w := w) (W := w1)))
  have H1 := Lib.hid (grown_now (w := w) (W := w1))
  go_wp2_with (at_builtin; refine wpList_append_own _ rfl (.tmp 38) (.tmp 40) 185 rfl base 235 i0 _ 2 16 Tryz.underlying185 iz0 iz1 iz2 iz3 rfl (by omega) _ _ _ rfl (HO1.out.alloc _) _ 1 1 [.int .i64 1, .int .i64 b] rfl rfl (World.news_of_block (heap_alloc_new w1 _)) (by simp [Value.oneCell']) (by unfold maxLen; omega) (by omega) (by have := HB.out; have := H1.out.size; simp; omega) ?_; intro v' w1' hown1 hgrow _)
  go_ret
  exact ⟨_, rfl, hown1, push_below HB.out H1.out hgrow (fun q hq => (HO1.out.lt q hq).1)⟩

set_option maxHeartbeats 2000000 in
theorem push_other (rs : List Rn) (n c b : Int) (base : Nat) (lv : Value) (w : World) (h : w.ownsRow base 235 2 lv (rs.length + 1) (rV (rs ++ [(n, c)]))) (hb : base ≤ w.heap.size) (hne : ¬ c = b) (hl : rs.length ≤ 10000) :
    Calls Tryz.prog 235 #[lv, .agg #[.int .i64 1, .int .i64 b]] w (Pushed base ((rs ++ [(n, c)]) ++ [(1, b)]) w) := by
  obtain ⟨i0, iz0, iz1, iz2, iz3⟩ := info_parts runInfo
  obtain ⟨g, cap, rfl, _, _, _, _⟩ := owns_some h (by omega)
  obtain ⟨c0, c1, _, _⟩ := own_last h rfl
  have HO := Lib.hid h
  have HB := Lib.hid hb
  have hcb : (c == b) = false := by simp [hne]
  have HL := Lib.hid (show (rV ((rs ++ [(n, c)]) ++ [(1, b)])) = rV (rs ++ [(n, c)]) ++ [.int .i64 1, .int .i64 b] from rV_snoc _ _ _)
  have HN := Lib.hid (show ((rs ++ [(n, c)]) ++ [(1, b)]).length = rs.length + 1 + 1 by simp)
  generalize hj : rs.length = j at *
  have j0 : (0 : Int) ≤ (j : Int) := Int.natCast_nonneg _
  have HJ := Lib.hid hl
  have j1 : (j : Int) ≤ 10000 := by omega
  haveI := in_of_cell c0
  clear h hb hne hj hl
  go_enter Tryz.func235, Tryz.ntmps235
  go_wp2_with fail
  refine wp_region_ext ?_ ?_ ?_
  · kernel_rfl
  · kernel_rfl
  repeat (go_big_quiet_step (first | fail))
  refine wpQuiet_nil ?_
  rintro w1 ⟨_t, hw⟩
  have hc1 := named_cell hw
  have hz1 := named_frozen hw
  have hh1 := named_heap hw
  haveI hi1 := named_in hw
  haveI hb1 := named_below (w := w) hw
  clear hw
  have HO1 := Lib.hid (owns_grown HO.out (grown_of (w := w) (W := w1)))
  have H1 := Lib.hid (grown_now (w := w) (W := w1))
  go_wp2_with (at_builtin; refine wpList_append_own _ rfl (.tmp 38) (.tmp 40) 185 rfl base 235 i0 _ 2 16 Tryz.underlying185 iz0 iz1 iz2 iz3 rfl (by omega) _ _ _ rfl (HO1.out.alloc _) _ 1 1 [.int .i64 1, .int .i64 b] rfl rfl (World.news_of_block (heap_alloc_new w1 _)) (by simp [Value.oneCell']) (by have := HJ.out; unfold maxLen; omega) (by have := HJ.out; omega) (by have := HB.out; have := H1.out.size; simp; omega) ?_; intro v' w1' hown1 hgrow _)
  go_ret
  refine ⟨_, rfl, ?_, push_below HB.out H1.out hgrow (fun q hq => (HO1.out.lt q hq).1)⟩
  rw [HL.out, HN.out]
  exact hown1

set_option maxHeartbeats 2000000 in
theorem push_same (rs : List Rn) (n b : Int) (base : Nat) (lv : Value) (w : World) (h : w.ownsRow base 235 2 lv (rs.length + 1) (rV (rs ++ [(n, b)]))) (hb : base ≤ w.heap.size) (n1 : 0 ≤ n) (n2 : n ≤ 10000) (hl : rs.length ≤ 10000) :
    Calls Tryz.prog 235 #[lv, .agg #[.int .i64 1, .int .i64 b]] w (Pushed base (rs ++ [(n + 1, b)]) w) := by
  obtain ⟨g, cap, rfl, hg, _, _, _⟩ := owns_some h (by omega)
  obtain ⟨c0, c1, f0, _⟩ := own_last h rfl
  have HO := Lib.hid h
  have HB := Lib.hid hb
  have HG := Lib.hid hg
  have HN := Lib.hid (show (rs ++ [(n + 1, b)]).length = rs.length + 1 by simp)
  have HR := Lib.hid (show rs.length = rs.length from rfl)
  generalize hj : rs.length = j at *
  have HJ := Lib.hid hj
  have j0 : (0 : Int) ≤ (j : Int) := Int.natCast_nonneg _
  have j1 : (j : Int) ≤ 10000 := by omega
  haveI := in_of_cell c0
  clear h hb hj hl hg HR
  go_enter Tryz.func235, Tryz.ntmps235
  go_wp2_with fail
  refine wp_region_ext ?_ ?_ ?_
  · kernel_rfl
  · kernel_rfl
  repeat (go_big_quiet_step (first | fail))
  refine wpQuiet_nil ?_
  rintro w1 ⟨_t, hw⟩
  have hc1 := named_cell hw
  have hz1 := named_frozen hw
  have hh1 := named_heap hw
  haveI hi1 := named_in hw
  haveI hb1 := named_below (w := w) hw
  clear hw
  go_wp2_with fail
  refine wp_region_ext_tail 10 ?_ ?_ ?_
  · kernel_rfl
  · kernel_rfl
  simp only [List.take_succ_cons, List.take_zero, List.drop_succ_cons, List.drop_zero]
  repeat (go_big_quiet_step (first | fail))
  refine wpQuiet_nil ?_
  rintro w2 ⟨_t, hw⟩
  have hc2 := named_cell hw
  have hz2 := named_frozen hw
  have hh2 := named_heap hw
  haveI hi2 := named_in hw
  haveI hb2 := named_below (w := w) hw
  clear hw
  have HO2 := Lib.hid (owns_grown HO.out (grown_of (w := w) (W := w2)))
  have H2 := Lib.hid (grown_now (w := w) (W := w2))
  go_wp2_with fail
  go_ret
  refine ⟨_, rfl, ?_, (H2.out.mono HB.out).setCell HG.out _⟩
  rw [HN.out]
  exact (own_last HO2.out HJ.out).2.2.2 (n + 1)
end Go.Proofs.YtnogfelfgclajaaGreatDoor
end

section
namespace Go.Proofs.YtnogfelfgclajaaGreatDoor
set_option linter.unusedVariables false

/-- The cells of runs. -/
def cellsR (l : List (Int × Int)) : List Int := l.flatMap fun r => List.replicate r.1.toNat r.2
theorem cellsR_nil : cellsR [] = [] := rfl
theorem cellsR_cons (n b : Int) (l : List (Int × Int)) : cellsR ((n, b) :: l) = List.replicate n.toNat b ++ cellsR l := rfl
theorem cellsR_append (l m : List (Int × Int)) : cellsR (l ++ m) = cellsR l ++ cellsR m := by simp [cellsR]
theorem cellsR_one (n b : Int) : cellsR [(n, b)] = List.replicate n.toNat b := by simp [cellsR]

/-- Runs that are as they are written: none is empty, no two neighbours are of one block. -/
inductive Canon : List (Int × Int) → Prop where
  | nil : Canon []
  | one (n b : Int) (h : 1 ≤ n) : Canon [(n, b)]
  | cons (n b m c : Int) (l : List (Int × Int)) (h : 1 ≤ n) (hne : b ≠ c) (hl : Canon ((m, c) :: l)) : Canon ((n, b) :: (m, c) :: l)
theorem Canon.tail {r : Int × Int} {l : List (Int × Int)} (h : Canon (r :: l)) : Canon l := by
  cases h with
  | one => exact .nil
  | cons n b m c l h hne hl => exact hl
theorem Canon.pos {r : Int × Int} {l : List (Int × Int)} (h : Canon (r :: l)) : 1 ≤ r.1 := by
  cases h with
  | one n b h => exact h
  | cons n b m c l h hne hl => exact h
theorem Canon.all {l : List (Int × Int)} (h : Canon l) : ∀ r ∈ l, 1 ≤ r.1 := by
  induction l with
  | nil => intro r hr; cases hr
  | cons a l ih =>
    intro r hr
    rcases List.mem_cons.1 hr with rfl | hr
    · exact h.pos
    · exact ih h.tail r hr

/-- The head of canonical runs, read off the cells. -/
theorem canon_head {n b : Int} {l : List (Int × Int)} (h : Canon ((n, b) :: l)) : ∀ c, (cellsR l)[0]? = some c → c ≠ b := by
  intro c hc
  cases h with
  | one => cases hc
  | cons n b m d l h hne hl =>
    have hm := hl.pos
    rw [cellsR_cons] at hc
    obtain ⟨k, hk⟩ : ∃ k, m.toNat = k + 1 := ⟨m.toNat - 1, by simp only at hm; omega⟩
    rw [hk, List.replicate_succ] at hc
    simp at hc
    omega

theorem replicate_cut {b c : Int} {n m : Nat} {s t : List Int} (h : List.replicate n b ++ s = List.replicate m c ++ t) (hn : 0 < n) (hm : 0 < m) (hs : ∀ x, s[0]? = some x → x ≠ b) (ht : ∀ x, t[0]? = some x → x ≠ c) : b = c ∧ n = m ∧ s = t := by
  have hbc : b = c := by
    have h0 := congrArg (·[0]?) h
    simp only [List.getElem?_append_left (show 0 < (List.replicate n b).length by simpa using hn), List.getElem?_append_left (show 0 < (List.replicate m c).length by simpa using hm), List.getElem?_replicate, if_pos hn, if_pos hm, Option.some.injEq] at h0
    exact h0
  subst hbc
  rcases Nat.lt_trichotomy n m with hlt | rfl | hlt
  · have h1 := congrArg (·[n]?) h
    have e1 : (List.replicate n b ++ s)[n]? = s[0]? := by rw [List.getElem?_append_right (by simp)]; simp
    have e2 : (List.replicate m b ++ t)[n]? = some b := by rw [List.getElem?_append_left (by simpa using hlt)]; simp [hlt]
    simp only [e1, e2] at h1
    exact absurd rfl (hs b h1)
  · exact ⟨rfl, rfl, List.append_cancel_left h⟩
  · have h1 := congrArg (·[m]?) h
    have e1 : (List.replicate n b ++ s)[m]? = some b := by rw [List.getElem?_append_left (by simpa using hlt)]; simp [hlt]
    have e2 : (List.replicate m b ++ t)[m]? = t[0]? := by rw [List.getElem?_append_right (by simp)]; simp
    simp only [e1, e2] at h1
    exact absurd rfl (ht b h1.symm)

/-- Canonical runs of the same cells are the same. -/
theorem canon_unique : ∀ {l m : List (Int × Int)}, Canon l → Canon m → cellsR l = cellsR m → l = m
  | [], [], _, _, _ => rfl
  | [], (n, b) :: m, _, hm, h => by
    have := hm.pos
    rw [cellsR_cons, cellsR_nil] at h
    have h2 := congrArg List.length h
    simp only [List.length_nil, List.length_append, List.length_replicate] at h2
    simp only at this
    omega
  | (n, b) :: l, [], hl, _, h => by
    have := hl.pos
    rw [cellsR_cons, cellsR_nil] at h
    have h2 := congrArg List.length h
    simp only [List.length_nil, List.length_append, List.length_replicate] at h2
    simp only at this
    omega
  | (n, b) :: l, (m, c) :: k, hl, hk, h => by
    have p1 := hl.pos
    have p2 := hk.pos
    simp only at p1 p2
    rw [cellsR_cons, cellsR_cons] at h
    obtain ⟨rfl, e, h2⟩ := replicate_cut h (by omega) (by omega) (canon_head hl) (canon_head hk)
    obtain rfl : n = m := by omega
    rw [canon_unique hl.tail hk.tail h2]

/-- A run more behind runs. -/
def pushG (rs : List (Int × Int)) (n b : Int) : List (Int × Int) :=
  if n < 1 then rs else match rs.getLast? with
    | some r => if r.2 = b then rs.dropLast ++ [(r.1 + n, b)] else rs ++ [(n, b)]
    | none => rs ++ [(n, b)]
theorem pushG_none (rs : List (Int × Int)) (n b : Int) (h : n < 1) : pushG rs n b = rs := by unfold pushG; rw [if_pos h]
theorem pushG_nil (n b : Int) (h : 1 ≤ n) : pushG [] n b = [(n, b)] := by unfold pushG; rw [if_neg (by omega)]; rfl
theorem pushG_same (rs : List (Int × Int)) (m n b : Int) (h : 1 ≤ n) : pushG (rs ++ [(m, b)]) n b = rs ++ [(m + n, b)] := by unfold pushG; rw [if_neg (by omega)]; simp
theorem pushG_other (rs : List (Int × Int)) (m c n b : Int) (h : 1 ≤ n) (hne : ¬ c = b) : pushG (rs ++ [(m, c)]) n b = (rs ++ [(m, c)]) ++ [(n, b)] := by unfold pushG; rw [if_neg (by omega)]; simp [hne]

theorem canon_snoc {rs : List (Int × Int)} {m c n b : Int} (h : Canon (rs ++ [(m, c)])) (hn : 1 ≤ n) (hne : c ≠ b) : Canon ((rs ++ [(m, c)]) ++ [(n, b)]) := by
  induction rs with
  | nil => exact .cons m c n b [] h.pos hne (.one n b hn)
  | cons a rs ih =>
    obtain ⟨x, y⟩ := a
    cases rs with
    | nil =>
      cases h with
      | cons _ _ _ _ _ h1 h2 h3 => exact .cons x y m c _ h1 h2 (ih h3)
    | cons d rs =>
      obtain ⟨x2, y2⟩ := d
      cases h with
      | cons _ _ _ _ _ h1 h2 h3 => exact .cons x y x2 y2 _ h1 h2 (ih h3)
theorem canon_grow {rs : List (Int × Int)} {m n b : Int} (h : Canon (rs ++ [(m, b)])) (hn : 0 ≤ n) : Canon (rs ++ [(m + n, b)]) := by
  induction rs with
  | nil =>
    have := h.pos
    exact .one _ _ (by simp only at this; omega)
  | cons a rs ih =>
    obtain ⟨x, y⟩ := a
    cases rs with
    | nil =>
      cases h with
      | cons _ _ _ _ _ h1 h2 h3 => exact .cons x y _ b _ h1 h2 (ih h3)
    | cons d rs =>
      obtain ⟨x2, y2⟩ := d
      cases h with
      | cons _ _ _ _ _ h1 h2 h3 => exact .cons x y x2 y2 _ h1 h2 (ih h3)
theorem last_form (rs : List (Int × Int)) : rs = [] ∨ ∃ l m c, rs = l ++ [(m, c)] := by
  rcases List.eq_nil_or_concat rs with h | ⟨l, ⟨m, c⟩, h⟩
  · exact .inl h
  · exact .inr ⟨l, m, c, by simpa using h⟩
theorem pushG_canon {rs : List (Int × Int)} (n b : Int) (h : Canon rs) : Canon (pushG rs n b) := by
  by_cases hn : n < 1
  · rw [pushG_none _ _ _ hn]; exact h
  · rcases last_form rs with rfl | ⟨l, m, c, rfl⟩
    · rw [pushG_nil _ _ (by omega)]; exact .one _ _ (by omega)
    · by_cases hc : c = b
      · subst hc
        rw [pushG_same _ _ _ _ (by omega)]
        exact canon_grow h (by omega)
      · rw [pushG_other _ _ _ _ _ (by omega) hc]
        exact canon_snoc h (by omega) hc
theorem pushG_cells {rs : List (Int × Int)} (n b : Int) (h : Canon rs) : cellsR (pushG rs n b) = cellsR rs ++ List.replicate n.toNat b := by
  by_cases hn : n < 1
  · rw [pushG_none _ _ _ hn, show n.toNat = 0 by omega]; simp
  · rcases last_form rs with rfl | ⟨l, m, c, rfl⟩
    · rw [pushG_nil _ _ (by omega), cellsR_one, cellsR_nil]; simp
    · by_cases hc : c = b
      · subst hc
        have hm := h.all (m, c) (by simp)
        simp only at hm
        rw [pushG_same _ _ _ _ (by omega), cellsR_append, cellsR_append, cellsR_one, cellsR_one, List.append_assoc, List.replicate_append_replicate, show (m + n).toNat = m.toNat + n.toNat by omega]
      · rw [pushG_other _ _ _ _ _ (by omega) hc, cellsR_append, cellsR_one]
/-- Runs, one behind the other. -/
def joinG (a b : List (Int × Int)) : List (Int × Int) := b.foldl (fun l r => pushG l r.1 r.2) a
theorem joinG_canon {a : List (Int × Int)} (b : List (Int × Int)) (h : Canon a) : Canon (joinG a b) := by
  induction b generalizing a with
  | nil => exact h
  | cons r b ih => exact ih (pushG_canon _ _ h)
theorem joinG_cells {a : List (Int × Int)} (b : List (Int × Int)) (h : Canon a) : cellsR (joinG a b) = cellsR a ++ cellsR b := by
  induction b generalizing a with
  | nil => simp [joinG, cellsR_nil]
  | cons r b ih =>
    show cellsR (joinG (pushG a r.1 r.2) b) = _
    rw [ih (pushG_canon _ _ h), pushG_cells _ _ h, List.append_assoc]
    rfl

/-- How many cells runs have. -/
def lenR (l : List (Int × Int)) : Int := (l.map (·.1)).sum
theorem lenR_cells {l : List (Int × Int)} (h : ∀ r ∈ l, 0 ≤ r.1) : lenR l = (cellsR l).length := by
  induction l with
  | nil => rfl
  | cons r l ih =>
    obtain ⟨n, b⟩ := r
    have h1 := h (n, b) (by simp)
    have h2 := ih (fun r hr => h r (by simp [hr]))
    unfold lenR at h2 ⊢
    rw [List.map_cons, List.sum_cons, h2, cellsR_cons, List.length_append, List.length_replicate]
    simp only at h1 ⊢
    omega

/-- The runs of some places: at: where the runs begin. -/
def cutG (out : List (Int × Int)) (start stop : Int) : List (Int × Int) → Int → List (Int × Int)
  | [], _ => out
  | (n, b) :: l, at_ => cutG (pushG out (min stop (at_ + n) - max start at_) b) start stop l (at_ + n)
theorem cutG_canon {out : List (Int × Int)} {start stop : Int} (l : List (Int × Int)) (at_ : Int) (h : Canon out) : Canon (cutG out start stop l at_) := by
  induction l generalizing out at_ with
  | nil => exact h
  | cons r l ih => exact ih _ (pushG_canon _ _ h)
theorem rep_cut {n : Nat} {b : Int} (i j : Nat) : ((List.replicate n b).drop i).take j = List.replicate (min j (n - i)) b := by simp
theorem cutG_cells {start stop : Int} (l : List (Int × Int)) (hl : ∀ r ∈ l, 0 ≤ r.1) (at_ : Int) (out : List (Int × Int)) (h : Canon out) (h0 : 0 ≤ at_) :
    cellsR (cutG out start stop l at_) = cellsR out ++ (((cellsR l).take (stop - at_).toNat).drop (start - at_).toNat) := by
  induction l generalizing out at_ with
  | nil => simp [cutG, cellsR_nil]
  | cons r l ih =>
    obtain ⟨n, b⟩ := r
    have hn := hl (n, b) (by simp)
    simp only at hn
    show cellsR (cutG (pushG out (min stop (at_ + n) - max start at_) b) start stop l (at_ + n)) = _
    rw [ih (fun r hr => hl r (by simp [hr])) _ _ (pushG_canon _ _ h) (by omega), pushG_cells _ _ h, cellsR_cons, List.append_assoc]
    congr 1
    rw [List.take_append, List.drop_append, List.length_take, List.length_replicate, List.take_replicate, List.drop_replicate]
    congr 1
    · congr 1
      omega
    · rw [show (stop - at_).toNat - n.toNat = (stop - (at_ + n)).toNat by omega]
      by_cases hx : start - (at_ + n) ≤ 0
      · rw [show (start - (at_ + n)).toNat = 0 by omega, show (start - at_).toNat - min (stop - at_).toNat n.toNat = (start - at_).toNat - min (stop - at_).toNat n.toNat from rfl]
        by_cases hy : (stop - (at_ + n)).toNat = 0
        · rw [hy]; simp
        · rw [show (start - at_).toNat - min (stop - at_).toNat n.toNat = 0 by omega]
      · by_cases hy : (stop - (at_ + n)).toNat = 0
        · rw [hy]; simp
        · rw [show (start - at_).toNat - min (stop - at_).toNat n.toNat = (start - (at_ + n)).toNat by omega]
/-- Runs of which some places are a block; within bounds. -/
def fillG (l : List (Int × Int)) (start stop b : Int) : List (Int × Int) :=
  joinG (joinG (joinG [] (cutG [] 0 start l 0)) (pushG [] (stop - start) b)) (cutG [] stop (lenR l) l 0)
theorem fillG_canon (l : List (Int × Int)) (start stop b : Int) : Canon (fillG l start stop b) := joinG_canon _ (joinG_canon _ (joinG_canon _ .nil))
theorem fillG_cells (l : List (Int × Int)) (hl : ∀ r ∈ l, 0 ≤ r.1) (start stop b : Int) (h0 : 0 ≤ start) (h1 : start ≤ stop) (h2 : stop ≤ lenR l) :
    cellsR (fillG l start stop b) = (cellsR l).take start.toNat ++ List.replicate (stop - start).toNat b ++ (cellsR l).drop stop.toNat := by
  have hc := lenR_cells hl
  unfold fillG
  rw [joinG_cells _ (joinG_canon _ (joinG_canon _ .nil)), joinG_cells _ (joinG_canon _ .nil), joinG_cells _ .nil, cutG_cells l hl 0 [] .nil (by omega), cutG_cells l hl 0 [] .nil (by omega), pushG_cells _ _ .nil, cellsR_nil]
  simp only [List.nil_append, Int.sub_zero, Int.toNat_zero, List.drop_zero]
  congr 1
  rw [List.take_of_length_le (by omega)]
theorem setG_cells (l : List (Int × Int)) (hl : ∀ r ∈ l, 0 ≤ r.1) (i : Nat) (b : Int) (hi : (i : Int) < lenR l) : cellsR (fillG l i (i + 1) b) = (cellsR l).set i b := by
  have hc := lenR_cells hl
  rw [fillG_cells l hl i (i + 1) b (by omega) (by omega) (by omega), List.set_eq_take_append_cons_drop, if_pos (by omega), show ((i : Int)).toNat = i by omega, show ((i : Int) + 1 - (i : Int)).toNat = 1 by omega, show ((i : Int) + 1).toNat = i + 1 by omega]
  simp
/-- A place's block. -/
def atG : List (Int × Int) → Int → Int
  | [], _ => -1
  | (n, b) :: l, i => if 0 ≤ i ∧ i < n then b else atG l (i - n)
theorem atG_cells (l : List (Int × Int)) (hl : ∀ r ∈ l, 0 ≤ r.1) (i : Int) (h0 : 0 ≤ i) : atG l i = ((cellsR l)[i.toNat]?).getD (-1) := by
  induction l generalizing i with
  | nil => rfl
  | cons r l ih =>
    obtain ⟨n, b⟩ := r
    have hn := hl (n, b) (by simp)
    simp only at hn
    unfold atG
    rw [cellsR_cons]
    by_cases h : i < n
    · rw [if_pos ⟨h0, h⟩, List.getElem?_append_left (by simp; omega), List.getElem?_replicate, if_pos (by omega)]
      rfl
    · rw [if_neg (by omega), ih (fun r hr => hl r (by simp [hr])) _ (by omega), List.getElem?_append_right (by simp; omega), List.length_replicate, show i.toNat - n.toNat = (i - n).toNat by omega]
end Go.Proofs.YtnogfelfgclajaaGreatDoor
end
