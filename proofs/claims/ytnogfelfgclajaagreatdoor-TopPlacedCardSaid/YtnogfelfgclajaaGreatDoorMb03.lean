/-
  Runs: of blocks in a row; the Go function that pushes one more.
  No Go in sight. Runs and the cells that they stand for; canonical runs are one for each row of cells.
  A run pushed behind others, of any length.
  The runs of blocks: the Go function, and the document's; runs that are the same.
  Runs: how many cells, a place's block.
-/
import Derived.Test.YtnogfelfgclajaaGreatDoorMb02
import Derived.Test.YtnogfelfgclajaaGreatDoorMb01
import Derived.Laws.OwnMore
import Derived.LoopTactic
section
namespace Go.Proofs.YtnogfelfgclajaaGreatDoor
open Go.RowKit
attribute [local go_sem] ext_ext drew_ext ext_drew ext_cell ext_frozen in_lt in_le in_ne in_en in_ne1 in_en1 in_le1 in_ltn in_len in_nen in_enn size_le ite_max ite_min
set_option linter.unusedVariables false
set_option linter.unusedSimpArgs false

theorem in_of_cell {w : World} {b o : Nat} {v : Value} (h : w.cell? ⟨b, o, none⟩ = some v) : Nonempty (In b w) := ⟨World.block_lt_of_cell? w _ h⟩
theorem named_grown {w W : World} {f : World → World} (h : W = ext w f) : Nonempty (Below w.heap.size w W) := ⟨by rw [h]; exact ext_below w f⟩
theorem below_thru (a b c : World) [h1 : Nonempty (Below a.heap.size a b)] [h2 : Nonempty (Below b.heap.size b c)] : Nonempty (Below a.heap.size a c) := ⟨by obtain ⟨h1⟩ := h1; obtain ⟨h2⟩ := h2; exact h1.trans (h2.mono h1.size)⟩
theorem intInfo : (Tryz.prog.info? 3).map (fun i => (i.zero, i.size, i.bytes)) = some (some (.int .i64 0), 1, 8) := by kernel_rfl
theorem runInfo : (Tryz.prog.info? 235).map (fun i => (i.zero, i.size, i.bytes)) = some (some (.agg #[.int .i64 0, .int .i64 0]), 2, 16) := by kernel_rfl

/-- A run: how long, of which block. -/
abbrev Rn := Int × Int
def rV (l : List Rn) : List Value := l.flatMap fun r => [.int .i64 r.1, .int .i64 r.2]
theorem rV_length (l : List Rn) : (rV l).length = l.length * 2 := by
  induction l with
  | nil => rfl
  | cons c l ih =>
    unfold rV at ih ⊢
    rw [List.flatMap_cons, List.length_append, ih]
    simp only [List.length_cons, List.length_nil]
    omega
theorem rV_snoc (l : List Rn) (n b : Int) : rV (l ++ [(n, b)]) = rV l ++ [.int .i64 n, .int .i64 b] := by simp [rV]
theorem rV_at (l : List Rn) (k : Nat) (hk : k < l.length) : (rV l)[k * 2]? = some (.int .i64 l[k].1) ∧ (rV l)[k * 2 + 1]? = some (.int .i64 l[k].2) := by
  induction l generalizing k with
  | nil => simp at hk
  | cons c l ih =>
    cases k with
    | zero => exact ⟨rfl, rfl⟩
    | succ k =>
      have := ih k (by simpa using hk)
      simp only [List.getElem_cons_succ]
      have e : rV (c :: l) = .int .i64 c.1 :: .int .i64 c.2 :: rV l := rfl
      rw [e, show (k + 1) * 2 = k * 2 + 1 + 1 by omega]
      simpa [Nat.add_assoc] using this
/-- A block more behind runs. -/
def pushR (rs : List Rn) (b : Int) : List Rn :=
  match rs.getLast? with
  | some r => if r.2 = b then rs.dropLast ++ [(r.1 + 1, b)] else rs ++ [(1, b)]
  | none => rs ++ [(1, b)]
theorem pushR_nil (b : Int) : pushR [] b = [(1, b)] := rfl
theorem pushR_same (rs : List Rn) (n b : Int) : pushR (rs ++ [(n, b)]) b = rs ++ [(n + 1, b)] := by simp [pushR]
theorem pushR_other (rs : List Rn) (n c b : Int) (h : ¬ c = b) : pushR (rs ++ [(n, c)]) b = (rs ++ [(n, c)]) ++ [(1, b)] := by simp [pushR, h]
/-- The runs of the first n blocks. -/
def rleN (f : Nat → Int) : Nat → List Rn
  | 0 => []
  | k + 1 => pushR (rleN f k) (f k)
theorem rleN_form (f : Nat → Int) (k : Nat) : ∃ rs n, rleN f (k + 1) = rs ++ [(n, f k)] ∧ 1 ≤ n ∧ n ≤ (k : Int) + 1 ∧ rs.length ≤ k := by
  induction k with
  | zero => exact ⟨[], 1, rfl, by omega, by omega, by simp⟩
  | succ k ih =>
    obtain ⟨rs, n, h, h1, h2, h3⟩ := ih
    have e : rleN f (k + 1 + 1) = pushR (rleN f (k + 1)) (f (k + 1)) := rfl
    rw [e, h]
    by_cases hb : f k = f (k + 1)
    · rw [hb, pushR_same]
      exact ⟨rs, n + 1, rfl, by omega, by omega, by omega⟩
    · rw [pushR_other _ _ _ _ hb]
      exact ⟨rs ++ [(n, f k)], 1, rfl, by omega, by omega, by simp; omega⟩
theorem rleN_len (f : Nat → Int) (k : Nat) : (rleN f k).length ≤ k := by
  cases k with
  | zero => exact Nat.le_refl _
  | succ k =>
    obtain ⟨rs, n, h, _, _, h3⟩ := rleN_form f k
    rw [h, List.length_append]
    simp
    exact h3

/-- What a push hands back. -/
def Pushed (base : Nat) (rs : List Rn) (w : World) (e : Ending) (w' : World) : Prop := ∃ v, e = .returned v ∧ w'.ownsRow base 235 2 v rs.length (rV rs) ∧ Below base w w'

theorem rV_set (rs : List Rn) (n b m : Int) : (rV (rs ++ [(n, b)])).set (rs.length * 2) (.int .i64 m) = rV (rs ++ [(m, b)]) := by
  rw [rV_snoc, rV_snoc, ← rV_length, List.set_append_right _ _ (Nat.le_refl _), Nat.sub_self]
  rfl
theorem own_last {w : World} {base g cap j : Nat} {rs : List Rn} {n b : Int} (h : w.ownsRow base 235 2 (.slice (some ⟨g, 0, none⟩) (j + 1) cap) (j + 1) (rV (rs ++ [(n, b)]))) (hj : rs.length = j) :
    w.cell? ⟨g, j * 2, none⟩ = some (.int .i64 n) ∧ w.cell? ⟨g, j * 2 + 1, none⟩ = some (.int .i64 b) ∧ w.frozen? ⟨g, j * 2, none⟩ = false ∧
    ∀ m : Int, (w.setCell ⟨g, j * 2, none⟩ (.int .i64 m)).ownsRow base 235 2 (.slice (some ⟨g, 0, none⟩) (j + 1) cap) (j + 1) (rV (rs ++ [(m, b)])) := by
  subst hj
  obtain ⟨a1, a2⟩ := rV_at (rs ++ [(n, b)]) rs.length (by simp)
  refine ⟨?_, ?_, h.frozenAt _, fun m => ?_⟩
  · rw [h.cellAt _ (by omega), a1]; simp
  · rw [h.cellAt _ (by omega), a2]; simp
  · have := (h.stored (rs.length * 2) (.int .i64 m)).1
    rwa [rV_set] at this

theorem push_below {w w1 w2 : World} {base : Nat} {o : Obj} {row : Option Nat} (hb : base ≤ w.heap.size) (h1 : Below w.heap.size w w1) (hg : (w1.alloc o).grownBy w2 row) (hr : ∀ q, row = some q → base ≤ q) : Below base w w2 :=
  ((h1.mono hb).alloc (Nat.le_trans hb h1.size) o).grown hg (by have := h1.size; simp; omega) hr

set_option maxHeartbeats 2000000 in
theorem push_first (b : Int) (base : Nat) (lv : Value) (w : World) (h : w.ownsRow base 235 2 lv 0 []) (hb : base ≤ w.heap.size) :
    Calls Tryz.prog 235 #[lv, .agg #[.int .i64 1, .int .i64 b]] w (Pushed base [(1, b)] w) := by
  obtain ⟨i0, iz0, iz1, iz2, iz3⟩ := info_parts runInfo
  obtain ⟨og, cap, rfl⟩ := owns_form h
  have HO := Lib.hid h
  have HB := Lib.hid hb
  clear h hb
  go_enter Tryz.func235, Tryz.ntmps235
  go_wp2_with fail
  refine wp_region_ext ?_ ?_ ?_
  · kernel_rfl
  · kernel_rfl
  repeat (go_big_quiet_step (first | fail))
  refine wpQuiet_nil ?_
  rintro w1 ⟨_t, hw⟩
  have hc1 := named_cell hw
  have hz1 := named_frozen hw
  have hh1 := named_heap hw
  haveI hi1 := named_in hw
  haveI hb1 := named_below (w := w) hw
  clear hw
  have HO1 := Lib.hid (owns_grown HO.out (grown_of (w := w) (W := w1)))
  have H1 := Lib.hid (grown_now (w := w) (W := w1))
  go_wp2_with (at_builtin; refine wpList_append_own _ rfl (.tmp 38) (.tmp 40) 185 rfl base 235 i0 _ 2 16 Tryz.underlying185 iz0 iz1 iz2 iz3 rfl (by omega) _ _ _ rfl (HO1.out.alloc _) _ 1 1 [.int .i64 1, .int .i64 b] rfl rfl (World.news_of_block (heap_alloc_new w1 _)) (by simp [Value.oneCell']) (by unfold maxLen; omega) (by omega) (by have := HB.out; have := H1.out.size; simp; omega) ?_; intro v' w1' hown1 hgrow _)
  go_ret
  exact ⟨_, rfl, hown1, push_below HB.out H1.out hgrow (fun q hq => (HO1.out.lt q hq).1)⟩

set_option maxHeartbeats 2000000 in
theorem push_other (rs : List Rn) (n c b : Int) (base : Nat) (lv : Value) (w : World) (h : w.ownsRow base 235 2 lv (rs.length + 1) (rV (rs ++ [(n, c)]))) (hb : base ≤ w.heap.size) (hne : ¬ c = b) (hl : rs.length ≤ 10000) :
    Calls Tryz.prog 235 #[lv, .agg #[.int .i64 1, .int .i64 b]] w (Pushed base ((rs ++ [(n, c)]) ++ [(1, b)]) w) := by
  obtain ⟨i0, iz0, iz1, iz2, iz3⟩ := info_parts runInfo
  obtain ⟨g, cap, rfl, _, _, _, _⟩ := owns_some h (by omega)
  obtain ⟨c0, c1, _, _⟩ := own_last h rfl
  have HO := Lib.hid h
  have HB := Lib.hid hb
  have hcb : (c == b) = false := by simp [hne]
  have HL := Lib.hid (show (rV ((rs ++ [(n, c)]) ++ [(1, b)])) = rV (rs ++ [(n, c)]) ++ [.int .i64 1, .int .i64 b] from rV_snoc _ _ _)
  have HN := Lib.hid (show ((rs ++ [(n, c)]) ++ [(1, b)]).length = rs.length + 1 + 1 by simp)
  generalize hj : rs.length = j at *
  have j0 : (0 : Int) ≤ (j : Int) := Int.natCast_nonneg _
  have HJ := Lib.hid hl
  have j1 : (j : Int) ≤ 10000 := by omega
  haveI := in_of_cell c0
  clear h hb hne hj hl
  go_enter Tryz.func235, Tryz.ntmps235
  go_wp2_with fail
  refine wp_region_ext ?_ ?_ ?_
  · kernel_rfl
  · kernel_rfl
  repeat (go_big_quiet_step (first | fail))
  refine wpQuiet_nil ?_
  rintro w1 ⟨_t, hw⟩
  have hc1 := named_cell hw
  have hz1 := named_frozen hw
  have hh1 := named_heap hw
  haveI hi1 := named_in hw
  haveI hb1 := named_below (w := w) hw
  clear hw
  have HO1 := Lib.hid (owns_grown HO.out (grown_of (w := w) (W := w1)))
  have H1 := Lib.hid (grown_now (w := w) (W := w1))
  go_wp2_with (at_builtin; refine wpList_append_own _ rfl (.tmp 38) (.tmp 40) 185 rfl base 235 i0 _ 2 16 Tryz.underlying185 iz0 iz1 iz2 iz3 rfl (by omega) _ _ _ rfl (HO1.out.alloc _) _ 1 1 [.int .i64 1, .int .i64 b] rfl rfl (World.news_of_block (heap_alloc_new w1 _)) (by simp [Value.oneCell']) (by have := HJ.out; unfold maxLen; omega) (by have := HJ.out; omega) (by have := HB.out; have := H1.out.size; simp; omega) ?_; intro v' w1' hown1 hgrow _)
  go_ret
  refine ⟨_, rfl, ?_, push_below HB.out H1.out hgrow (fun q hq => (HO1.out.lt q hq).1)⟩
  rw [HL.out, HN.out]
  exact hown1

set_option maxHeartbeats 2000000 in
theorem push_same (rs : List Rn) (n b : Int) (base : Nat) (lv : Value) (w : World) (h : w.ownsRow base 235 2 lv (rs.length + 1) (rV (rs ++ [(n, b)]))) (hb : base ≤ w.heap.size) (n1 : 0 ≤ n) (n2 : n ≤ 10000) (hl : rs.length ≤ 10000) :
    Calls Tryz.prog 235 #[lv, .agg #[.int .i64 1, .int .i64 b]] w (Pushed base (rs ++ [(n + 1, b)]) w) := by
  obtain ⟨g, cap, rfl, hg, _, _, _⟩ := owns_some h (by omega)
  obtain ⟨c0, c1, f0, _⟩ := own_last h rfl
  have HO := Lib.hid h
  have HB := Lib.hid hb
  have HG := Lib.hid hg
  have HN := Lib.hid (show (rs ++ [(n + 1, b)]).length = rs.length + 1 by simp)
  have HR := Lib.hid (show rs.length = rs.length from rfl)
  generalize hj : rs.length = j at *
  have HJ := Lib.hid hj
  have j0 : (0 : Int) ≤ (j : Int) := Int.natCast_nonneg _
  have j1 : (j : Int) ≤ 10000 := by omega
  haveI := in_of_cell c0
  clear h hb hj hl hg HR
  go_enter Tryz.func235, Tryz.ntmps235
  go_wp2_with fail
  refine wp_region_ext ?_ ?_ ?_
  · kernel_rfl
  · kernel_rfl
  repeat (go_big_quiet_step (first | fail))
  refine wpQuiet_nil ?_
  rintro w1 ⟨_t, hw⟩
  have hc1 := named_cell hw
  have hz1 := named_frozen hw
  have hh1 := named_heap hw
  haveI hi1 := named_in hw
  haveI hb1 := named_below (w := w) hw
  clear hw
  go_wp2_with fail
  refine wp_region_ext_tail 10 ?_ ?_ ?_
  · kernel_rfl
  · kernel_rfl
  simp only [List.take_succ_cons, List.take_zero, List.drop_succ_cons, List.drop_zero]
  repeat (go_big_quiet_step (first | fail))
  refine wpQuiet_nil ?_
  rintro w2 ⟨_t, hw⟩
  have hc2 := named_cell hw
  have hz2 := named_frozen hw
  have hh2 := named_heap hw
  haveI hi2 := named_in hw
  haveI hb2 := named_below (w := w) hw
  clear hw
  have HO2 := Lib.hid (owns_grown HO.out (grown_of (w := w) (W := w2)))
  have H2 := Lib.hid (grown_now (w := w) (W := w2))
  go_wp2_with fail
  go_ret
  refine ⟨_, rfl, ?_, (H2.out.mono HB.out).setCell HG.out _⟩
  rw [HN.out]
  exact (own_last HO2.out HJ.out).2.2.2 (n + 1)
end Go.Proofs.YtnogfelfgclajaaGreatDoor
end

section
namespace Go.Proofs.YtnogfelfgclajaaGreatDoor
set_option linter.unusedVariables false

/-- The cells of runs. -/
def cellsR (l : List (Int × Int)) : List Int := l.flatMap fun r => List.replicate r.1.toNat r.2
theorem cellsR_nil : cellsR [] = [] := rfl
theorem cellsR_cons (n b : Int) (l : List (Int × Int)) : cellsR ((n, b) :: l) = List.replicate n.toNat b ++ cellsR l := rfl
theorem cellsR_append (l m : List (Int × Int)) : cellsR (l ++ m) = cellsR l ++ cellsR m := by simp [cellsR]
theorem cellsR_one (n b : Int) : cellsR [(n, b)] = List.replicate n.toNat b := by simp [cellsR]

/-- Runs that are as they are written: none is empty, no two neighbours are of one block. -/
inductive Canon : List (Int × Int) → Prop where
  | nil : Canon []
  | one (n b : Int) (h : 1 ≤ n) : Canon [(n, b)]
  | cons (n b m c : Int) (l : List (Int × Int)) (h : 1 ≤ n) (hne : b ≠ c) (hl : Canon ((m, c) :: l)) : Canon ((n, b) :: (m, c) :: l)
theorem Canon.tail {r : Int × Int} {l : List (Int × Int)} (h : Canon (r :: l)) : Canon l := by
  cases h with
  | one => exact .nil
  | cons n b m c l h hne hl => exact hl
theorem Canon.pos {r : Int × Int} {l : List (Int × Int)} (h : Canon (r :: l)) : 1 ≤ r.1 := by
  cases h with
  | one n b h => exact h
  | cons n b m c l h hne hl => exact h
theorem Canon.all {l : List (Int × Int)} (h : Canon l) : ∀ r ∈ l, 1 ≤ r.1 := by
  induction l with
  | nil => intro r hr; cases hr
  | cons a l ih =>
    intro r hr
    rcases List.mem_cons.1 hr with rfl | hr
    · exact h.pos
    · exact ih h.tail r hr

/-- The head of canonical runs, read off the cells. -/
theorem canon_head {n b : Int} {l : List (Int × Int)} (h : Canon ((n, b) :: l)) : ∀ c, (cellsR l)[0]? = some c → c ≠ b := by
  intro c hc
  cases h with
  | one => cases hc
  | cons n b m d l h hne hl =>
    have hm := hl.pos
    rw [cellsR_cons] at hc
    obtain ⟨k, hk⟩ : ∃ k, m.toNat = k + 1 := ⟨m.toNat - 1, by simp only at hm; omega⟩
    rw [hk, List.replicate_succ] at hc
    simp at hc
    omega

theorem replicate_cut {b c : Int} {n m : Nat} {s t : List Int} (h : List.replicate n b ++ s = List.replicate m c ++ t) (hn : 0 < n) (hm : 0 < m) (hs : ∀ x, s[0]? = some x → x ≠ b) (ht : ∀ x, t[0]? = some x → x ≠ c) : b = c ∧ n = m ∧ s = t := by
  have hbc : b = c := by
    have h0 := congrArg (·[0]?) h
    simp only [List.getElem?_append_left (show 0 < (List.replicate n b).length by simpa using hn), List.getElem?_append_left (show 0 < (List.replicate m c).length by simpa using hm), List.getElem?_replicate, if_pos hn, if_pos hm, Option.some.injEq] at h0
    exact h0
  subst hbc
  rcases Nat.lt_trichotomy n m with hlt | rfl | hlt
  · have h1 := congrArg (·[n]?) h
    have e1 : (List.replicate n b ++ s)[n]? = s[0]? := by rw [List.getElem?_append_right (by simp)]; simp
    have e2 : (List.replicate m b ++ t)[n]? = some b := by rw [List.getElem?_append_left (by simpa using hlt)]; simp [hlt]
    simp only [e1, e2] at h1
    exact absurd rfl (hs b h1)
  · exact ⟨rfl, rfl, List.append_cancel_left h⟩
  · have h1 := congrArg (·[m]?) h
    have e1 : (List.replicate n b ++ s)[m]? = some b := by rw [List.getElem?_append_left (by simpa using hlt)]; simp [hlt]
    have e2 : (List.replicate m b ++ t)[m]? = t[0]? := by rw [List.getElem?_append_right (by simp)]; simp
    simp only [e1, e2] at h1
    exact absurd rfl (ht b h1.symm)

/-- Canonical runs of the same cells are the same. -/
theorem canon_unique : ∀ {l m : List (Int × Int)}, Canon l → Canon m → cellsR l = cellsR m → l = m
  | [], [], _, _, _ => rfl
  | [], (n, b) :: m, _, hm, h => by
    have := hm.pos
    rw [cellsR_cons, cellsR_nil] at h
    have h2 := congrArg List.length h
    simp only [List.length_nil, List.length_append, List.length_replicate] at h2
    simp only at this
    omega
  | (n, b) :: l, [], hl, _, h => by
    have := hl.pos
    rw [cellsR_cons, cellsR_nil] at h
    have h2 := congrArg List.length h
    simp only [List.length_nil, List.length_append, List.length_replicate] at h2
    simp only at this
    omega
  | (n, b) :: l, (m, c) :: k, hl, hk, h => by
    have p1 := hl.pos
    have p2 := hk.pos
    simp only at p1 p2
    rw [cellsR_cons, cellsR_cons] at h
    obtain ⟨rfl, e, h2⟩ := replicate_cut h (by omega) (by omega) (canon_head hl) (canon_head hk)
    obtain rfl : n = m := by omega
    rw [canon_unique hl.tail hk.tail h2]

/-- A run more behind runs. -/
def pushG (rs : List (Int × Int)) (n b : Int) : List (Int × Int) :=
  if n < 1 then rs else match rs.getLast? with
    | some r => if r.2 = b then rs.dropLast ++ [(r.1 + n, b)] else rs ++ [(n, b)]
    | none => rs ++ [(n, b)]
theorem pushG_none (rs : List (Int × Int)) (n b : Int) (h : n < 1) : pushG rs n b = rs := by unfold pushG; rw [if_pos h]
theorem pushG_nil (n b : Int) (h : 1 ≤ n) : pushG [] n b = [(n, b)] := by unfold pushG; rw [if_neg (by omega)]; rfl
theorem pushG_same (rs : List (Int × Int)) (m n b : Int) (h : 1 ≤ n) : pushG (rs ++ [(m, b)]) n b = rs ++ [(m + n, b)] := by unfold pushG; rw [if_neg (by omega)]; simp
theorem pushG_other (rs : List (Int × Int)) (m c n b : Int) (h : 1 ≤ n) (hne : ¬ c = b) : pushG (rs ++ [(m, c)]) n b = (rs ++ [(m, c)]) ++ [(n, b)] := by unfold pushG; rw [if_neg (by omega)]; simp [hne]

theorem canon_snoc {rs : List (Int × Int)} {m c n b : Int} (h : Canon (rs ++ [(m, c)])) (hn : 1 ≤ n) (hne : c ≠ b) : Canon ((rs ++ [(m, c)]) ++ [(n, b)]) := by
  induction rs with
  | nil => exact .cons m c n b [] h.pos hne (.one n b hn)
  | cons a rs ih =>
    obtain ⟨x, y⟩ := a
    cases rs with
    | nil =>
      cases h with
      | cons _ _ _ _ _ h1 h2 h3 => exact .cons x y m c _ h1 h2 (ih h3)
    | cons d rs =>
      obtain ⟨x2, y2⟩ := d
      cases h with
      | cons _ _ _ _ _ h1 h2 h3 => exact .cons x y x2 y2 _ h1 h2 (ih h3)
theorem canon_grow {rs : List (Int × Int)} {m n b : Int} (h : Canon (rs ++ [(m, b)])) (hn : 0 ≤ n) : Canon (rs ++ [(m + n, b)]) := by
  induction rs with
  | nil =>
    have := h.pos
    exact .one _ _ (by simp only at this; omega)
  | cons a rs ih =>
    obtain ⟨x, y⟩ := a
    cases rs with
    | nil =>
      cases h with
      | cons _ _ _ _ _ h1 h2 h3 => exact .cons x y _ b _ h1 h2 (ih h3)
    | cons d rs =>
      obtain ⟨x2, y2⟩ := d
      cases h with
      | cons _ _ _ _ _ h1 h2 h3 => exact .cons x y x2 y2 _ h1 h2 (ih h3)
theorem last_form (rs : List (Int × Int)) : rs = [] ∨ ∃ l m c, rs = l ++ [(m, c)] := by
  rcases List.eq_nil_or_concat rs with h | ⟨l, ⟨m, c⟩, h⟩
  · exact .inl h
  · exact .inr ⟨l, m, c, by simpa using h⟩
theorem pushG_canon {rs : List (Int × Int)} (n b : Int) (h : Canon rs) : Canon (pushG rs n b) := by
  by_cases hn : n < 1
  · rw [pushG_none _ _ _ hn]; exact h
  · rcases last_form rs with rfl | ⟨l, m, c, rfl⟩
    · rw [pushG_nil _ _ (by omega)]; exact .one _ _ (by omega)
    · by_cases hc : c = b
      · subst hc
        rw [pushG_same _ _ _ _ (by omega)]
        exact canon_grow h (by omega)
      · rw [pushG_other _ _ _ _ _ (by omega) hc]
        exact canon_snoc h (by omega) hc
theorem pushG_cells {rs : List (Int × Int)} (n b : Int) (h : Canon rs) : cellsR (pushG rs n b) = cellsR rs ++ List.replicate n.toNat b := by
  by_cases hn : n < 1
  · rw [pushG_none _ _ _ hn, show n.toNat = 0 by omega]; simp
  · rcases last_form rs with rfl | ⟨l, m, c, rfl⟩
    · rw [pushG_nil _ _ (by omega), cellsR_one, cellsR_nil]; simp
    · by_cases hc : c = b
      · subst hc
        have hm := h.all (m, c) (by simp)
        simp only at hm
        rw [pushG_same _ _ _ _ (by omega), cellsR_append, cellsR_append, cellsR_one, cellsR_one, List.append_assoc, List.replicate_append_replicate, show (m + n).toNat = m.toNat + n.toNat by omega]
      · rw [pushG_other _ _ _ _ _ (by omega) hc, cellsR_append, cellsR_one]
/-- Runs, one behind the other. -/
def joinG (a b : List (Int × Int)) : List (Int × Int) := b.foldl (fun l r => pushG l r.1 r.2) a
theorem joinG_canon {a : List (Int × Int)} (b : List (Int × Int)) (h : Canon a) : Canon (joinG a b) := by
  induction b generalizing a with
  | nil => exact h
  | cons r b ih => exact ih (pushG_canon _ _ h)
theorem joinG_cells {a : List (Int × Int)} (b : List (Int × Int)) (h : Canon a) : cellsR (joinG a b) = cellsR a ++ cellsR b := by
  induction b generalizing a with
  | nil => simp [joinG, cellsR_nil]
  | cons r b ih =>
    show cellsR (joinG (pushG a r.1 r.2) b) = _
    rw [ih (pushG_canon _ _ h), pushG_cells _ _ h, List.append_assoc]
    rfl

/-- How many cells runs have. -/
def lenR (l : List (Int × Int)) : Int := (l.map (·.1)).sum
theorem lenR_cells {l : List (Int × Int)} (h : ∀ r ∈ l, 0 ≤ r.1) : lenR l = (cellsR l).length := by
  induction l with
  | nil => rfl
  | cons r l ih =>
    obtain ⟨n, b⟩ := r
    have h1 := h (n, b) (by simp)
    have h2 := ih (fun r hr => h r (by simp [hr]))
    unfold lenR at h2 ⊢
    rw [List.map_cons, List.sum_cons, h2, cellsR_cons, List.length_append, List.length_replicate]
    simp only at h1 ⊢
    omega

/-- The runs of some places: at: where the runs begin. -/
def cutG (out : List (Int × Int)) (start stop : Int) : List (Int × Int) → Int → List (Int × Int)
  | [], _ => out
  | (n, b) :: l, at_ => cutG (pushG out (min stop (at_ + n) - max start at_) b) start stop l (at_ + n)
theorem cutG_canon {out : List (Int × Int)} {start stop : Int} (l : List (Int × Int)) (at_ : Int) (h : Canon out) : Canon (cutG out start stop l at_) := by
  induction l generalizing out at_ with
  | nil => exact h
  | cons r l ih => exact ih _ (pushG_canon _ _ h)
theorem rep_cut {n : Nat} {b : Int} (i j : Nat) : ((List.replicate n b).drop i).take j = List.replicate (min j (n - i)) b := by simp
theorem cutG_cells {start stop : Int} (l : List (Int × Int)) (hl : ∀ r ∈ l, 0 ≤ r.1) (at_ : Int) (out : List (Int × Int)) (h : Canon out) (h0 : 0 ≤ at_) :
    cellsR (cutG out start stop l at_) = cellsR out ++ (((cellsR l).take (stop - at_).toNat).drop (start - at_).toNat) := by
  induction l generalizing out at_ with
  | nil => simp [cutG, cellsR_nil]
  | cons r l ih =>
    obtain ⟨n, b⟩ := r
    have hn := hl (n, b) (by simp)
    simp only at hn
    show cellsR (cutG (pushG out (min stop (at_ + n) - max start at_) b) start stop l (at_ + n)) = _
    rw [ih (fun r hr => hl r (by simp [hr])) _ _ (pushG_canon _ _ h) (by omega), pushG_cells _ _ h, cellsR_cons, List.append_assoc]
    congr 1
    rw [List.take_append, List.drop_append, List.length_take, List.length_replicate, List.take_replicate, List.drop_replicate]
    congr 1
    · congr 1
      omega
    · rw [show (stop - at_).toNat - n.toNat = (stop - (at_ + n)).toNat by omega]
      by_cases hx : start - (at_ + n) ≤ 0
      · rw [show (start - (at_ + n)).toNat = 0 by omega, show (start - at_).toNat - min (stop - at_).toNat n.toNat = (start - at_).toNat - min (stop - at_).toNat n.toNat from rfl]
        by_cases hy : (stop - (at_ + n)).toNat = 0
        · rw [hy]; simp
        · rw [show (start - at_).toNat - min (stop - at_).toNat n.toNat = 0 by omega]
      · by_cases hy : (stop - (at_ + n)).toNat = 0
        · rw [hy]; simp
        · rw [show (start - at_).toNat - min (stop - at_).toNat n.toNat = (start - (at_ + n)).toNat by omega]
/-- Runs of which some places are a block; within bounds. -/
def fillG (l : List (Int × Int)) (start stop b : Int) : List (Int × Int) :=
  joinG (joinG (joinG [] (cutG [] 0 start l 0)) (pushG [] (stop - start) b)) (cutG [] stop (lenR l) l 0)
theorem fillG_canon (l : List (Int × Int)) (start stop b : Int) : Canon (fillG l start stop b) := joinG_canon _ (joinG_canon _ (joinG_canon _ .nil))
theorem fillG_cells (l : List (Int × Int)) (hl : ∀ r ∈ l, 0 ≤ r.1) (start stop b : Int) (h0 : 0 ≤ start) (h1 : start ≤ stop) (h2 : stop ≤ lenR l) :
    cellsR (fillG l start stop b) = (cellsR l).take start.toNat ++ List.replicate (stop - start).toNat b ++ (cellsR l).drop stop.toNat := by
  have hc := lenR_cells hl
  unfold fillG
  rw [joinG_cells _ (joinG_canon _ (joinG_canon _ .nil)), joinG_cells _ (joinG_canon _ .nil), joinG_cells _ .nil, cutG_cells l hl 0 [] .nil (by omega), cutG_cells l hl 0 [] .nil (by omega), pushG_cells _ _ .nil, cellsR_nil]
  simp only [List.nil_append, Int.sub_zero, Int.toNat_zero, List.drop_zero]
  congr 1
  rw [List.take_of_length_le (by omega)]
theorem setG_cells (l : List (Int × Int)) (hl : ∀ r ∈ l, 0 ≤ r.1) (i : Nat) (b : Int) (hi : (i : Int) < lenR l) : cellsR (fillG l i (i + 1) b) = (cellsR l).set i b := by
  have hc := lenR_cells hl
  rw [fillG_cells l hl i (i + 1) b (by omega) (by omega) (by omega), List.set_eq_take_append_cons_drop, if_pos (by omega), show ((i : Int)).toNat = i by omega, show ((i : Int) + 1 - (i : Int)).toNat = 1 by omega, show ((i : Int) + 1).toNat = i + 1 by omega]
  simp
/-- A place's block. -/
def atG : List (Int × Int) → Int → Int
  | [], _ => -1
  | (n, b) :: l, i => if 0 ≤ i ∧ i < n then b else atG l (i - n)
theorem atG_cells (l : List (Int × Int)) (hl : ∀ r ∈ l, 0 ≤ r.1) (i : Int) (h0 : 0 ≤ i) : atG l i = ((cellsR l)[i.toNat]?).getD (-1) := by
  induction l generalizing i with
  | nil => rfl
  | cons r l ih =>
    obtain ⟨n, b⟩ := r
    have hn := hl (n, b) (by simp)
    simp only at hn
    unfold atG
    rw [cellsR_cons]
    by_cases h : i < n
    · rw [if_pos ⟨h0, h⟩, List.getElem?_append_left (by simp; omega), List.getElem?_replicate, if_pos (by omega)]
      rfl
    · rw [if_neg (by omega), ih (fun r hr => hl r (by simp [hr])) _ (by omega), List.getElem?_append_right (by simp; omega), List.length_replicate, show i.toNat - n.toNat = (i - n).toNat by omega]
end Go.Proofs.YtnogfelfgclajaaGreatDoor
end

section
namespace Go.Proofs.YtnogfelfgclajaaGreatDoor
open Go.RowKit
attribute [local go_sem] ext_ext drew_ext ext_drew ext_cell ext_frozen in_lt in_le in_ne in_en in_ne1 in_en1 in_le1 in_ltn in_len in_nen in_enn size_le ite_max ite_min
set_option linter.unusedVariables false
set_option linter.unusedSimpArgs false

/-- What a push hands back; of the older blocks only the row's own may have turned. -/
def PushedT (base : Nat) (rs : List Rn) (lv : Value) (w : World) (e : Ending) (w' : World) : Prop := ∃ v, e = .returned v ∧ w'.ownsRow base 235 2 v rs.length (rV rs) ∧ Turn (fun k => lv.ownBlock = some k) w w'

set_option maxRecDepth 100000 in
set_option maxHeartbeats 2000000 in
theorem pushg_first (l b : Int) (hl1 : 1 ≤ l) (base : Nat) (lv : Value) (w : World) (h : w.ownsRow base 235 2 lv 0 []) (hb : base ≤ w.heap.size) :
    Calls Tryz.prog 235 #[lv, .agg #[.int .i64 l, .int .i64 b]] w (PushedT base [(l, b)] lv w) := by
  obtain ⟨i0, iz0, iz1, iz2, iz3⟩ := info_parts runInfo
  obtain ⟨og, cap, rfl⟩ := owns_form h
  have HO := Lib.hid h
  have HB := Lib.hid hb
  clear h hb
  go_enter Tryz.func235, Tryz.ntmps235
  go_wp2_with fail
  refine wp_region_ext ?_ ?_ ?_
  · kernel_rfl
  · kernel_rfl
  repeat (go_big_quiet_step (first | fail))
  refine wpQuiet_nil ?_
  rintro w1 ⟨_t, hw⟩
  have hc1 := named_cell hw
  have hz1 := named_frozen hw
  have hh1 := named_heap hw
  haveI hi1 := named_in hw
  haveI hb1 := named_below (w := w) hw
  clear hw
  have HO1 := Lib.hid (owns_grown HO.out (grown_of (w := w) (W := w1)))
  have H1 := Lib.hid (grown_now (w := w) (W := w1))
  go_wp2_with (at_builtin; refine wpList_append_own _ rfl (.tmp 38) (.tmp 40) 185 rfl base 235 i0 _ 2 16 Tryz.underlying185 iz0 iz1 iz2 iz3 rfl (by omega) _ _ _ rfl (HO1.out.alloc _) _ 1 1 [.int .i64 l, .int .i64 b] rfl rfl (World.news_of_block (heap_alloc_new w1 _)) (by simp [Value.oneCell']) (by unfold maxLen; omega) (by omega) (by have := HB.out; have := H1.out.size; simp; omega) ?_; intro v' w1' hown1 hgrow _)
  go_ret
  exact ⟨_, rfl, hown1, turn_append H1.out hgrow⟩

set_option maxRecDepth 100000 in
set_option maxHeartbeats 2000000 in
theorem pushg_other (l : Int) (hl1 : 1 ≤ l) (rs : List Rn) (n c b : Int) (base : Nat) (lv : Value) (w : World) (h : w.ownsRow base 235 2 lv (rs.length + 1) (rV (rs ++ [(n, c)]))) (hb : base ≤ w.heap.size) (hne : ¬ c = b) (hl : rs.length ≤ 10000) :
    Calls Tryz.prog 235 #[lv, .agg #[.int .i64 l, .int .i64 b]] w (PushedT base ((rs ++ [(n, c)]) ++ [(l, b)]) lv w) := by
  obtain ⟨i0, iz0, iz1, iz2, iz3⟩ := info_parts runInfo
  obtain ⟨g, cap, rfl, _, _, _, _⟩ := owns_some h (by omega)
  obtain ⟨c0, c1, _, _⟩ := own_last h rfl
  have HO := Lib.hid h
  have HB := Lib.hid hb
  have hcb : (c == b) = false := by simp [hne]
  have HL := Lib.hid (show (rV ((rs ++ [(n, c)]) ++ [(l, b)])) = rV (rs ++ [(n, c)]) ++ [.int .i64 l, .int .i64 b] from rV_snoc _ _ _)
  have HN := Lib.hid (show ((rs ++ [(n, c)]) ++ [(l, b)]).length = rs.length + 1 + 1 by simp)
  generalize hj : rs.length = j at *
  have j0 : (0 : Int) ≤ (j : Int) := Int.natCast_nonneg _
  have HJ := Lib.hid hl
  have j1 : (j : Int) ≤ 10000 := by omega
  haveI := in_of_cell c0
  clear h hb hne hj hl
  go_enter Tryz.func235, Tryz.ntmps235
  go_wp2_with fail
  refine wp_region_ext ?_ ?_ ?_
  · kernel_rfl
  · kernel_rfl
  repeat (go_big_quiet_step (first | fail))
  refine wpQuiet_nil ?_
  rintro w1 ⟨_t, hw⟩
  have hc1 := named_cell hw
  have hz1 := named_frozen hw
  have hh1 := named_heap hw
  haveI hi1 := named_in hw
  haveI hb1 := named_below (w := w) hw
  clear hw
  have HO1 := Lib.hid (owns_grown HO.out (grown_of (w := w) (W := w1)))
  have H1 := Lib.hid (grown_now (w := w) (W := w1))
  go_wp2_with (at_builtin; refine wpList_append_own _ rfl (.tmp 38) (.tmp 40) 185 rfl base 235 i0 _ 2 16 Tryz.underlying185 iz0 iz1 iz2 iz3 rfl (by omega) _ _ _ rfl (HO1.out.alloc _) _ 1 1 [.int .i64 l, .int .i64 b] rfl rfl (World.news_of_block (heap_alloc_new w1 _)) (by simp [Value.oneCell']) (by have := HJ.out; unfold maxLen; omega) (by have := HJ.out; omega) (by have := HB.out; have := H1.out.size; simp; omega) ?_; intro v' w1' hown1 hgrow _)
  go_ret
  refine ⟨_, rfl, ?_, turn_append H1.out hgrow⟩
  rw [HL.out, HN.out]
  exact hown1

set_option maxRecDepth 100000 in
set_option maxHeartbeats 2000000 in
theorem pushg_same (l : Int) (hl1 : 1 ≤ l) (hl2 : l ≤ 10000) (rs : List Rn) (n b : Int) (base : Nat) (lv : Value) (w : World) (h : w.ownsRow base 235 2 lv (rs.length + 1) (rV (rs ++ [(n, b)]))) (hb : base ≤ w.heap.size) (n1 : 0 ≤ n) (n2 : n ≤ 10000) (hl : rs.length ≤ 10000) :
    Calls Tryz.prog 235 #[lv, .agg #[.int .i64 l, .int .i64 b]] w (PushedT base (rs ++ [(n + l, b)]) lv w) := by
  obtain ⟨g, cap, rfl, hg, _, _, _⟩ := owns_some h (by omega)
  obtain ⟨c0, c1, f0, _⟩ := own_last h rfl
  have HO := Lib.hid h
  have HB := Lib.hid hb
  have HG := Lib.hid hg
  have HN := Lib.hid (show (rs ++ [(n + l, b)]).length = rs.length + 1 by simp)
  have HR := Lib.hid (show rs.length = rs.length from rfl)
  generalize hj : rs.length = j at *
  have HJ := Lib.hid hj
  have j0 : (0 : Int) ≤ (j : Int) := Int.natCast_nonneg _
  have j1 : (j : Int) ≤ 10000 := by omega
  haveI := in_of_cell c0
  clear h hb hj hl hg HR
  go_enter Tryz.func235, Tryz.ntmps235
  go_wp2_with fail
  refine wp_region_ext ?_ ?_ ?_
  · kernel_rfl
  · kernel_rfl
  repeat (go_big_quiet_step (first | fail))
  refine wpQuiet_nil ?_
  rintro w1 ⟨_t, hw⟩
  have hc1 := named_cell hw
  have hz1 := named_frozen hw
  have hh1 := named_heap hw
  haveI hi1 := named_in hw
  haveI hb1 := named_below (w := w) hw
  clear hw
  go_wp2_with fail
  refine wp_region_ext_tail 10 ?_ ?_ ?_
  · kernel_rfl
  · kernel_rfl
  simp only [List.take_succ_cons, List.take_zero, List.drop_succ_cons, List.drop_zero]
  repeat (go_big_quiet_step (first | fail))
  refine wpQuiet_nil ?_
  rintro w2 ⟨_t, hw⟩
  have hc2 := named_cell hw
  have hz2 := named_frozen hw
  have hh2 := named_heap hw
  haveI hi2 := named_in hw
  haveI hb2 := named_below (w := w) hw
  clear hw
  have HO2 := Lib.hid (owns_grown HO.out (grown_of (w := w) (W := w2)))
  have H2 := Lib.hid (grown_now (w := w) (W := w2))
  go_wp2_with fail
  go_ret
  refine ⟨_, rfl, ?_, (turn_below H2.out).trans (turn_set (F := fun k => some g = some k) _ _ _ rfl) (fun _ _ h => h)⟩
  rw [HN.out]
  exact (own_last HO2.out HJ.out).2.2.2 (n + l)

theorem pushg_none (l b : Int) (hl : l < 1) (rs : List Rn) (base : Nat) (lv : Value) (w : World) (h : w.ownsRow base 235 2 lv rs.length (rV rs)) (hb : base ≤ w.heap.size) (hr : rs.length ≤ 10000) :
    Calls Tryz.prog 235 #[lv, .agg #[.int .i64 l, .int .i64 b]] w (PushedT base rs lv w) := by
  obtain ⟨og, cap, rfl⟩ := owns_form h
  have HO := Lib.hid h
  have HB := Lib.hid hb
  generalize hj : rs.length = j at *
  have HJ := Lib.hid hj
  have j1 : (j : Int) ≤ 10000 := by omega
  have j0 : (0 : Int) ≤ (j : Int) := Int.natCast_nonneg _
  clear h hb hr hj
  go_enter Tryz.func235, Tryz.ntmps235
  go_wp2_with fail
  go_ret
  refine ⟨_, rfl, ?_, turn_below grown_now⟩
  rw [HJ.out]
  exact owns_grown HO.out grown_of

theorem pushG_any (rs : List Rn) (n b : Int) (base : Nat) (lv : Value) (w : World) (h : w.ownsRow base 235 2 lv rs.length (rV rs)) (hb : base ≤ w.heap.size) (hn : n ≤ 10000) (hr : rs.length ≤ 10000) (hrs : ∀ r ∈ rs, 0 ≤ r.1 ∧ r.1 ≤ 10000) :
    Calls Tryz.prog 235 #[lv, .agg #[.int .i64 n, .int .i64 b]] w (PushedT base (pushG rs n b) lv w) := by
  by_cases hn1 : n < 1
  · rw [pushG_none _ _ _ hn1]
    exact pushg_none n b hn1 rs base lv w h hb hr
  · rcases last_form rs with rfl | ⟨l, m, c, rfl⟩
    · rw [pushG_nil _ _ (by omega)]
      exact pushg_first n b (by omega) base lv w h hb
    · have hm := hrs (m, c) (by simp)
      simp only at hm
      rw [List.length_append, List.length_singleton] at h hr
      by_cases hc : c = b
      · subst hc
        rw [pushG_same _ _ _ _ (by omega)]
        exact pushg_same n (by omega) hn l m c base lv w h hb hm.1 hm.2 (by omega)
      · rw [pushG_other _ _ _ _ _ (by omega) hc]
        exact pushg_other n (by omega) l m c b base lv w h hb hc (by omega)
end Go.Proofs.YtnogfelfgclajaaGreatDoor
end

section
namespace Go.Proofs.YtnogfelfgclajaaGreatDoor
open Go.RowKit
attribute [local go_sem] ext_ext drew_ext ext_drew ext_cell ext_frozen in_lt in_le in_ne in_en in_ne1 in_en1 in_le1 in_ltn in_len in_nen in_enn size_le ite_max ite_min
set_option linter.unusedVariables false
set_option linter.unusedSimpArgs false

theorem push_any (f : Nat → Int) (k : Nat) (base : Nat) (lv : Value) (w : World) (h : w.ownsRow base 235 2 lv (rleN f k).length (rV (rleN f k))) (hb : base ≤ w.heap.size) (hk : k ≤ 9000) :
    Calls Tryz.prog 235 #[lv, .agg #[.int .i64 1, .int .i64 (f k)]] w (Pushed base (rleN f (k + 1)) w) := by
  cases k with
  | zero => exact push_first (f 0) base lv w h hb
  | succ m =>
    obtain ⟨rs, n, e, h1, h2, h3⟩ := rleN_form f m
    have e2 : rleN f (m + 1 + 1) = pushR (rleN f (m + 1)) (f (m + 1)) := rfl
    rw [e] at h e2
    have h' : w.ownsRow base 235 2 lv (rs.length + 1) (rV (rs ++ [(n, f m)])) := by simpa using h
    by_cases hf : f m = f (m + 1)
    · rw [hf, pushR_same] at e2
      rw [e2]
      rw [hf] at h'
      exact push_same rs n (f (m + 1)) base lv w h' hb (by omega) (by omega) (by omega)
    · rw [pushR_other _ _ _ _ hf] at e2
      rw [e2]
      exact push_other rs n (f m) (f (m + 1)) base lv w h' hb hf (by omega)

set_option maxHeartbeats 2000000 in
theorem of_runs (f : Nat → Int) (N g cap : Nat) (w : World) (hN : 0 < N) (hN2 : N ≤ 9000) (hc : ∀ k, k < N → w.cell? ⟨g, k, none⟩ = some (.int .i64 (f k))) :
    Calls Tryz.prog 184 #[.slice (some ⟨g, 0, none⟩) N cap] w (MadeRow 235 2 (rleN f N).length (rV (rleN f N)) w) := by
  have HC := Lib.hid hc
  have HN := Lib.hid hN2
  haveI := in_of_cell (hc 0 hN)
  clear hc hN
  go_enter Tryz.func184, Tryz.ntmps184
  go_wp2_with fail
  go_loopw [3, 8] (fun o i wr => ∃ k : Nat, k ≤ N ∧ i = .int .i64 k ∧ wr.ownsRow w.heap.size 235 2 o (rleN f k).length (rV (rleN f k)) ∧ ∃ F, wr = ext w F) (fun _ i _ => N - (intOf i).toNat)
  case atStart => exact ⟨0, by omega, rfl, World.ownsRow_nil .., grown_of⟩
  case round =>
    obtain ⟨k, hk, rfl, ow, _, hw⟩ := hrel
    rename World => w1
    have hB := named_grown hw
    have hc1 := named_cell hw
    have hz1 := named_frozen hw
    have hh1 := named_heap hw
    haveI hi1 := named_in hw
    haveI hb1 := named_below (w := w) hw
    clear hw
    have OW := Lib.hid ow
    have HB := Lib.hid (grown_now (w := w) (W := w1))
    by_cases hlt : k < N
    · have d0 := HC.out k hlt
      haveI := in_of_cell d0
      have PU := fun W (h : W = w1) => push_any f k w.heap.size _ W (h ▸ ow) (by rw [h]; exact HB.out.size) (by omega)
      have HK := Lib.hid hlt
      have k1 : (k : Int) < 9000 := by omega
      have k2 : (k : Int) < (N : Int) := by omega
      clear ow hN2
      generalize f k = b at *
      go_wp2_with fail
      refine (PU _ rfl).mono ?_
      rintro e w2 ⟨v2, rfl, ow2, hB2⟩
      have OW2 := Lib.hid ow2
      have HB2 := Lib.hid hB2
      clear ow2 hB2 PU
      go_wp2_with fail
      go_roundw
      case rel => exact ⟨k + 1, HK.out, by go_num, OW2.out, ext_of (HB.out.trans HB2.out)⟩
      case measure => have := HK.out; simp [intOf]; omega
    · obtain rfl : k = N := by omega
      clear ow
      go_wp2_with fail
      go_ret
      exact ⟨_, rfl, OW.out, grown_of⟩

end Go.Proofs.YtnogfelfgclajaaGreatDoor
end

section
namespace Go.Proofs.YtnogfelfgclajaaGreatDoor
open Go.RowKit
attribute [local go_sem] ext_ext drew_ext ext_drew ext_cell ext_frozen in_lt in_le in_ne in_en in_ne1 in_en1 in_le1 in_ltn in_len in_nen in_enn size_le ite_max ite_min
set_option linter.unusedVariables false
set_option linter.unusedSimpArgs false

/-- Runs that are not too many, nor too long. -/
structure RB (l : List Rn) : Prop where
  len : l.length ≤ 10000
  each : ∀ r ∈ l, 0 ≤ r.1 ∧ r.1 ≤ 10000
def RunsAt (w : World) (g : Nat) (l : List Rn) : Prop := ∀ j u, (rV l)[j]? = some u → w.cell? ⟨g, j, none⟩ = some u
theorem RunsAt.grown {w W : World} {g : Nat} {l : List Rn} (h : RunsAt w g l) (hW : ∃ f, W = ext w f) : RunsAt W g l := fun j u hu => by
  obtain ⟨f, rfl⟩ := hW
  have h1 := h j u hu
  exact ((ext_below w f).cell (p := ⟨g, j, none⟩) (World.block_lt_of_cell? w _ h1)).trans h1
theorem lenR_take (l : List Rn) (k : Nat) (hk : k < l.length) : lenR (l.take (k + 1)) = lenR (l.take k) + l[k].1 := by
  unfold lenR
  rw [List.take_succ_eq_append_getElem hk, List.map_append, List.sum_append]
  simp
theorem lenR_bd {l : List Rn} (h : RB l) (k : Nat) : 0 ≤ lenR (l.take k) ∧ lenR (l.take k) ≤ 100000000 := by
  have key : ∀ m : List Rn, (∀ r ∈ m, 0 ≤ r.1 ∧ r.1 ≤ 10000) → 0 ≤ lenR m ∧ lenR m ≤ 10000 * (m.length : Int) := by
    intro m
    induction m with
    | nil => intro _; simp [lenR]
    | cons r m ih =>
      intro hm
      have h1 := hm r (by simp)
      have h2 := ih (fun x hx => hm x (by simp [hx]))
      unfold lenR at h2 ⊢
      simp only [List.map_cons, List.sum_cons, List.length_cons]
      omega
  have h1 := key (l.take k) (fun r hr => h.each r (List.mem_of_mem_take hr))
  have h2 : (l.take k).length ≤ 10000 := by have := h.len; simp; omega
  omega

set_option maxRecDepth 100000 in
set_option maxHeartbeats 2000000 in
theorem len_any (l : List Rn) (g cap : Nat) (w : World) (hl : RB l) (h0 : 0 < l.length) (hc : RunsAt w g l) :
    Calls Tryz.prog 241 #[.slice (some ⟨g, 0, none⟩) l.length cap] w fun e w' => e = .returned (.int .i64 (lenR l)) ∧ ∃ f, w' = ext w f := by
  have HC := Lib.hid hc
  have HL := Lib.hid hl
  haveI := in_of_cell (hc 0 _ (rV_at l 0 h0).1)
  clear hc hl h0
  go_enter Tryz.func241, Tryz.ntmps241
  go_wp2_with fail
  go_loopw [3, 8] (fun n i wr => ∃ k : Nat, k ≤ l.length ∧ i = .int .i64 k ∧ n = .int .i64 (lenR (l.take k)) ∧ ∃ f, wr = ext w f) (fun _ i _ => l.length - (intOf i).toNat)
  case atStart => exact ⟨0, by omega, rfl, rfl, grown_of⟩
  case round =>
    obtain ⟨k, hk, rfl, rfl, _, hw⟩ := hrel
    rename World => w1
    haveI hg1 := named_grown hw
    have hc1 := named_cell hw
    have hz1 := named_frozen hw
    have hh1 := named_heap hw
    haveI hi1 := named_in hw
    haveI hb1 := named_below (w := w) hw
    clear hw
    by_cases hlt : k < l.length
    · obtain ⟨t0, t1⟩ := rV_at l k hlt
      have d0 := HC.out _ _ t0
      have d1 := HC.out _ _ t1
      haveI := in_of_cell d0
      have HT := Lib.hid (lenR_take l k hlt)
      have HK := Lib.hid hlt
      obtain ⟨b1, b2⟩ := lenR_bd HL.out k
      obtain ⟨e1, e2⟩ := HL.out.each l[k] (List.getElem_mem hlt)
      have k1 : (k : Int) < (l.length : Int) := by omega
      have k2 : (l.length : Int) ≤ 10000 := by have := HL.out.len; omega
      clear t0 t1
      generalize lenR (l.take k) = s at *
      generalize l[k].1 = a at *
      generalize l[k].2 = b at *
      go_wp2_with fail
      go_roundw
      case rel => exact ⟨k + 1, HK.out, by go_num, by rw [HT.out], grown_of⟩
      case measure => have := HK.out; simp [intOf]; omega
    · have k1 : ¬ (k : Int) < (l.length : Int) := by omega
      have HE : Hid (lenR (l.take k) = lenR l) := Lib.hid (by rw [List.take_of_length_le (by omega)])
      go_wp2_with fail
      go_ret
      exact ⟨ret_int HE.out, grown_of⟩

set_option maxRecDepth 100000 in
set_option maxHeartbeats 2000000 in
theorem runsat_any (l : List Rn) (i : Int) (g cap : Nat) (w : World) (hl : RB l) (h0 : 0 < l.length) (hc : RunsAt w g l) (i0 : 0 ≤ i) (i1 : i ≤ 100000000) :
    Calls Tryz.prog 129 #[.slice (some ⟨g, 0, none⟩) l.length cap, .int .i64 i] w fun e w' => e = .returned (.int .i64 (atG l i)) ∧ ∃ f, w' = ext w f := by
  have HC := Lib.hid hc
  have HL := Lib.hid hl
  haveI := in_of_cell (hc 0 _ (rV_at l 0 h0).1)
  clear hc hl h0
  go_enter Tryz.func129, Tryz.ntmps129
  go_wp2_with fail
  go_loopw [1, 9] (fun n j wr => ∃ (k : Nat) (m : Int), k ≤ l.length ∧ j = .int .i64 k ∧ n = .int .i64 m ∧ 0 ≤ m ∧ m ≤ 100000000 ∧ Hid (atG l i = atG (l.drop k) m) ∧ ∃ f, wr = ext w f) (fun _ j _ => l.length - (intOf j).toNat)
  case atStart => exact ⟨0, i, by omega, rfl, rfl, i0, i1, Lib.hid rfl, grown_of⟩
  case round =>
    obtain ⟨k, m, hk, rfl, rfl, m0, m1, HM, _, hw⟩ := hrel
    rename World => w1
    haveI hg1 := named_grown hw
    have hc1 := named_cell hw
    have hz1 := named_frozen hw
    have hh1 := named_heap hw
    haveI hi1 := named_in hw
    haveI hb1 := named_below (w := w) hw
    clear hw
    by_cases hlt : k < l.length
    · obtain ⟨t0, t1⟩ := rV_at l k hlt
      have d0 := HC.out _ _ t0
      have d1 := HC.out _ _ t1
      haveI := in_of_cell d0
      have HK := Lib.hid hlt
      obtain ⟨e1, e2⟩ := HL.out.each l[k] (List.getElem_mem hlt)
      have k1 : (k : Int) < (l.length : Int) := by omega
      have k2 : (l.length : Int) ≤ 10000 := by have := HL.out.len; omega
      have HD : Hid (atG (l.drop k) m = if 0 ≤ m ∧ m < l[k].1 then l[k].2 else atG (l.drop (k + 1)) (m - l[k].1)) := Lib.hid (by rw [List.drop_eq_getElem_cons hlt]; rfl)
      clear t0 t1
      generalize l[k].1 = a at *
      generalize l[k].2 = b at *
      by_cases hm : m < a
      · have HR : Hid (atG l i = b) := Lib.hid (by rw [HM.out, HD.out, if_pos ⟨m0, hm⟩])
        clear HD HM
        go_wp2_with fail
        go_ret
        exact ⟨ret_int HR.out.symm, grown_of⟩
      · have HR : Hid (atG l i = atG (l.drop (k + 1)) (m - a)) := Lib.hid (by rw [HM.out, HD.out, if_neg (by omega)])
        clear HD HM
        go_wp2_with fail
        go_roundw
        case rel => exact ⟨k + 1, m - a, HK.out, by go_num, rfl, by omega, by omega, HR, grown_of⟩
        case measure => have := HK.out; simp [intOf]; omega
    · have k1 : ¬ (k : Int) < (l.length : Int) := by omega
      have HR : Hid (atG l i = -1) := Lib.hid (by rw [HM.out, List.drop_of_length_le (by omega)]; rfl)
      go_wp2_with fail
      go_ret
      exact ⟨ret_int HR.out.symm, grown_of⟩
end Go.Proofs.YtnogfelfgclajaaGreatDoor
end
