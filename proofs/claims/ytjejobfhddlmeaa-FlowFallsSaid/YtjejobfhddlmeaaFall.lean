/-
  No Go in sight. A column of six blocks, sand on top; what falls.
-/
import Derived.Test.YtjejobfhddlmeaaKept
namespace Go.Proofs.Ytjejobfhddlmeaa
open Go.RowKit

/-- The column's blocks. -/
def colF (cs : List Int) (y : Nat) : Int := if y = 5 then 3 else if y < cs.length then gdS (cs.getD y 0) else 0
theorem colF_bd (cs : List Int) (y : Nat) : 0 ≤ colF cs y ∧ colF cs y ≤ 15 := by
  have := gd_bd (cs.getD y 0)
  unfold colF
  split
  · omega
  split <;> omega
/-- The first n blocks of the box. -/
def boxF (cs : List Int) (n : Nat) : List Int := (List.range n).map fun m => if m % 36 = 0 then colF cs (m / 36) else 0
theorem boxF_len (cs : List Int) (n : Nat) : (boxF cs n).length = n := by simp [boxF]
def boxV (cs : List Int) (n : Nat) : List Value := (boxF cs n).map (Value.int .i64)
theorem boxV_snoc (cs : List Int) (y i : Nat) (hi : i < 36) : boxV cs (36 * y + (i + 1)) = boxV cs (36 * y + i) ++ [.int .i64 (if i = 0 then colF cs y else 0)] := by
  have e1 : (36 * y + i) % 36 = i := by omega
  have e2 : (36 * y + i) / 36 = y := by omega
  unfold boxV boxF
  rw [show 36 * y + (i + 1) = 36 * y + i + 1 by omega, List.range_succ]
  simp only [List.map_append, List.map_cons, List.map_nil, e1, e2]
theorem boxV_first (cs : List Int) (y i : Nat) (hi : i < 36) (h : i = 0) : boxV cs (36 * y + (i + 1)) = boxV cs (36 * y + i) ++ [.int .i64 (colF cs y)] := by rw [boxV_snoc cs y i hi, if_pos h]
theorem boxV_next (cs : List Int) (y i : Nat) (hi : i < 36) (h : ¬ i = 0) : boxV cs (36 * y + (i + 1)) = boxV cs (36 * y + i) ++ [.int .i64 0] := by rw [boxV_snoc cs y i hi, if_neg h]
theorem boxF_at (cs : List Int) (y : Nat) (hy : y < 6) : (boxF cs 216).getD (36 * y) 0 = colF cs y := by
  have e1 : (36 * y) % 36 = 0 := by omega
  have e2 : (36 * y) / 36 = y := by omega
  unfold boxF
  rw [List.getD_eq_getElem?_getD, List.getElem?_map, List.getElem?_range (by omega)]
  simp [e2]
theorem box_at (cs : List Int) (y : Int) (h0 : 0 ≤ y) (h5 : y ≤ 5) : atS (boxF cs 216) 1 0 y 0 = (boxF cs 216).getD (36 * y).toNat 0 := by
  unfold atS
  rw [if_neg (by omega), if_pos (by omega)]
  rw [show ((y * 6 + 0) * 6 + 0).toNat = (36 * y).toNat by omega]
theorem box_top (cs : List Int) : atS (boxF cs 216) 1 0 5 0 = 3 := by
  rw [box_at cs 5 (by omega) (by omega)]
  have := boxF_at cs 5 (by omega)
  exact this
theorem box_floor (el : Int) (bs : List Int) : atS bs el 0 (-1) 0 = 1 := by unfold atS; rw [if_pos (by omega)]

theorem box_bd (cs : List Int) (n : Nat) : ∀ b ∈ boxF cs n, 0 ≤ b ∧ b ≤ 15 := by
  intro b hb
  obtain ⟨m, _, rfl⟩ := List.mem_map.1 hb
  have := colF_bd cs (m / 36)
  split <;> omega
theorem col_cells {cs : List Int} {w1 : World} {gB : Nat} (hcB : ∀ j u, (boxV cs 216)[j]? = some u → w1.cell? ⟨gB, j, none⟩ = some u) (y : Int) (h0 : 0 ≤ y) (h5 : y ≤ 5) :
    w1.cell? ⟨gB, (36 * y).toNat, none⟩ = some (.int .i64 (atS (boxF cs 216) 1 0 y 0)) := by
  rw [box_at cs y h0 h5]
  refine hcB _ _ ?_
  have hlt : (36 * y).toNat < (boxF cs 216).length := by rw [boxF_len]; omega
  unfold boxV
  rw [List.getElem?_map, List.getD_eq_getElem?_getD, List.getElem?_eq_getElem hlt]
  rfl
theorem row_news {w : World} {g : Nat} {xs : List Value} (h : ∀ j u, xs[j]? = some u → w.cell? ⟨g, j, none⟩ = some u) : ∀ j u, xs[j]? = some u → w.cell? ((⟨g, 0, none⟩ : Addr).add j) = some u := by
  intro j u hu
  have e : (⟨g, 0, none⟩ : Addr).add j = ⟨g, j, none⟩ := by unfold Addr.add; split <;> simp_all
  rw [e]
  exact h j u hu

/-- What has been laid behind t falls. -/
def fallL (V : Int → Int → Int → Int) : Nat → List Ch
  | 0 => []
  | t + 1 => fallL V t ++ [(0, 5 - (t : Int), 0, V 0 (5 - (t : Int) + -1) 0), (0, 5 - (t : Int) + -1, 0, 3)]
theorem fallL_len (V : Int → Int → Int → Int) (t : Nat) : (fallL V t).length = 2 * t := by
  induction t with
  | zero => rfl
  | succ t ih => unfold fallL; rw [List.length_append, ih]; simp; omega
theorem fallL_next (V : Int → Int → Int → Int) (t : Nat) (s : Int) (hs : s + t = 5) : fallL V (t + 1) = fallL V t ++ [(0, s, 0, V 0 (s + -1) 0), (0, s + -1, 0, 3)] := by
  obtain rfl : s = 5 - (t : Int) := by omega
  rfl
theorem layS_append (V : Int → Int → Int → Int) (l m : List Ch) : layS V (l ++ m) = layS (layS V l) m := by unfold layS; rw [List.foldl_append]
theorem fall_at (V : Int → Int → Int → Int) (h5 : V 0 5 0 = 3) (t : Nat) (y : Int) : layS V (fallL V t) 0 y 0 = if y = 5 - (t : Int) then 3 else if 5 - (t : Int) < y ∧ y ≤ 5 then V 0 (y + -1) 0 else V 0 y 0 := by
  induction t generalizing y with
  | zero =>
    show V 0 y 0 = _
    by_cases h : y = 5
    · subst h
      rw [if_pos (by omega)]
      exact h5
    · rw [if_neg (by omega), if_neg (by omega)]
  | succ t ih =>
    have e : fallL V (t + 1) = fallL V t ++ [(0, 5 - (t : Int), 0, V 0 (5 - (t : Int) + -1) 0), (0, 5 - (t : Int) + -1, 0, 3)] := rfl
    rw [e, layS_append]
    show putS (putS (layS V (fallL V t)) (0, 5 - (t : Int), 0, V 0 (5 - (t : Int) + -1) 0)) (0, 5 - (t : Int) + -1, 0, 3) 0 y 0 = _
    unfold putS
    simp only [true_and, and_true]
    by_cases h1 : y = 5 - (t : Int) + -1
    · rw [if_pos h1, if_pos (by omega)]
    · have hR : (if y = 5 - ((t + 1 : Nat) : Int) then (3 : Int) else if 5 - ((t + 1 : Nat) : Int) < y ∧ y ≤ 5 then V 0 (y + -1) 0 else V 0 y 0) = if 5 - ((t + 1 : Nat) : Int) < y ∧ y ≤ 5 then V 0 (y + -1) 0 else V 0 y 0 := if_neg (by omega)
      rw [if_neg h1, hR]
      by_cases h2 : y = 5 - (t : Int)
      · have hQ : (if 5 - ((t + 1 : Nat) : Int) < y ∧ y ≤ 5 then V 0 (y + -1) 0 else V 0 y 0) = V 0 (y + -1) 0 := if_pos (by omega)
        rw [if_pos h2, hQ, h2]
      · rw [if_neg h2, ih y, if_neg h2]
        by_cases h3 : 5 - (t : Int) < y ∧ y ≤ 5
        · have hQ : (if 5 - ((t + 1 : Nat) : Int) < y ∧ y ≤ 5 then V 0 (y + -1) 0 else V 0 y 0) = V 0 (y + -1) 0 := if_pos (by omega)
          rw [if_pos h3, hQ]
        · have hQ : (if 5 - ((t + 1 : Nat) : Int) < y ∧ y ≤ 5 then V 0 (y + -1) 0 else V 0 y 0) = V 0 y 0 := if_neg (by omega)
          rw [if_neg h3, hQ]
theorem fall_here (V : Int → Int → Int → Int) (h5 : V 0 5 0 = 3) (t : Nat) (s : Int) (hs : s + t = 5) : layS V (fallL V t) 0 s 0 = 3 := by rw [fall_at V h5, if_pos (by omega)]
theorem fall_under (V : Int → Int → Int → Int) (h5 : V 0 5 0 = 3) (t : Nat) (s : Int) (hs : s + t = 5) : layS V (fallL V t) 0 (s + -1) 0 = V 0 (s + -1) 0 := by rw [fall_at V h5, if_neg (by omega), if_neg (by omega)]
theorem fall_over (V : Int → Int → Int → Int) (h5 : V 0 5 0 = 3) (t : Nat) (s y : Int) (hs : s + t = 5) (h1 : s ≤ y) (h2 : y < 5) : layS V (fallL V t) 0 (y + 1) 0 = V 0 y 0 := by
  rw [fall_at V h5, if_neg (by omega), if_pos (by omega), show y + 1 + -1 = y by omega]
theorem fall_go (V : Int → Int → Int → Int) (h5 : V 0 5 0 = 3) (t : Nat) (s : Int) (hs : s + t = 5) (hy : yldB (V 0 (s + -1) 0) = true) :
    nextS (layS V (fallL V t)) 0 s 0 = [(0, s, 0, V 0 (s + -1) 0), (0, s + -1, 0, 3)] := by
  unfold nextS sandS
  rw [if_pos (fall_here V h5 t s hs), fall_under V h5 t s hs, hy]
  rfl
theorem fall_end (V : Int → Int → Int → Int) (h5 : V 0 5 0 = 3) (t : Nat) (s : Int) (hs : s + t = 5) (hy : yldB (V 0 (s + -1) 0) = false) :
    nextS (layS V (fallL V t)) 0 s 0 = [] := by
  unfold nextS sandS
  rw [if_pos (fall_here V h5 t s hs), fall_under V h5 t s hs, hy]
  rfl
theorem fall_near (V : Int → Int → Int → Int) (t : Nat) (ht : t ≤ 5) : Near3 (fallL V t) := by
  induction t with
  | zero => intro c hc; cases hc
  | succ t ih =>
    intro c hc
    have e : fallL V (t + 1) = fallL V t ++ [(0, 5 - (t : Int), 0, V 0 (5 - (t : Int) + -1) 0), (0, 5 - (t : Int) + -1, 0, 3)] := rfl
    rw [e] at hc
    rcases List.mem_append.1 hc with h | h
    · exact ih (by omega) c h
    · simp only [List.mem_cons, List.not_mem_nil, or_false] at h
      rcases h with rfl | rfl
      · exact ⟨⟨by simp, by simp⟩, ⟨by simp only; omega, by simp only; omega⟩, ⟨by simp, by simp⟩⟩
      · exact ⟨⟨by simp, by simp⟩, ⟨by simp only; omega, by simp only; omega⟩, ⟨by simp, by simp⟩⟩
theorem fall_wf (V : Int → Int → Int → Int) (hV : ∀ y, -1 ≤ V 0 y 0 ∧ V 0 y 0 ≤ 15) (t : Nat) : ∀ c ∈ fallL V t, (Lit.int .i64 c.2.2.2).wf = true := by
  have hmin : IntKind.i64.min = -9223372036854775808 := rfl
  have hmax : IntKind.i64.max = 9223372036854775807 := rfl
  induction t with
  | zero => intro c hc; cases hc
  | succ t ih =>
    intro c hc
    have e : fallL V (t + 1) = fallL V t ++ [(0, 5 - (t : Int), 0, V 0 (5 - (t : Int) + -1) 0), (0, 5 - (t : Int) + -1, 0, 3)] := rfl
    rw [e] at hc
    rcases List.mem_append.1 hc with h | h
    · exact ih c h
    · simp only [List.mem_cons, List.not_mem_nil, or_false] at h
      have hb := hV (5 - (t : Int) + -1)
      rcases h with rfl | rfl
      · simp only [Lit.wf, Bool.and_eq_true, decide_eq_true_eq, hmin, hmax]; omega
      · rfl
theorem chV_append (l m : List Ch) : chV (l ++ m) = chV l ++ chV m := by simp [chV]

/-- Behind t falls: the cell's own variable, and what has been laid. -/
structure FallIn (V : Int → Int → Int → Int) (w5 : World) (t : Nat) (s : Int) (lv : Value) (wr : World) : Prop where
  out : ∃ f, wr = ext w5 f
  size : w5.heap.size + 1 ≤ wr.heap.size
  c0 : wr.cell? ⟨w5.heap.size, 0, none⟩ = some (.int .i64 0)
  c1 : wr.cell? ⟨w5.heap.size, 1, none⟩ = some (.int .i64 s)
  c2 : wr.cell? ⟨w5.heap.size, 2, none⟩ = some (.int .i64 0)
  cf : ∀ j, wr.frozen? ⟨w5.heap.size, j, none⟩ = false
  own : wr.ownsRow (w5.heap.size + 1) 36 4 lv (fallL V t).length (chV (fallL V t))

theorem frozenFar {w : World} {b o n i : Nat} {v : Value} : (w.setCell ⟨b, o, none⟩ v).frozen? ⟨n, i, none⟩ = w.frozen? ⟨n, i, none⟩ := World.frozen?_setCell ..
theorem fall_step {V : Int → Int → Int → Int} {w5 wr W w1 : World} {t : Nat} {s : Int} {lv lv' : Value} (hs : s + t = 5) (hF : FallIn V w5 t s lv wr) (hW : ∃ f, W = ext wr f)
    (hown : w1.ownsRow (w5.heap.size + 1) 36 4 lv' ((fallL V t).length + 2) (chV (fallL V t) ++ chV [(0, s, 0, V 0 (s + -1) 0), (0, s + -1, 0, 3)])) (hgrow : W.grownBy w1 lv.ownBlock) :
    (w1.cell? ⟨w5.heap.size, 0, none⟩ = some (.int .i64 0) ∧ w1.cell? ⟨w5.heap.size, 1, none⟩ = some (.int .i64 s) ∧ w1.cell? ⟨w5.heap.size, 2, none⟩ = some (.int .i64 0) ∧ ∀ j, w1.frozen? ⟨w5.heap.size, j, none⟩ = false) ∧
    FallIn V w5 (t + 1) (s + -1) lv' (((w1.setCell ⟨w5.heap.size, 0, none⟩ (.int .i64 0)).setCell ⟨w5.heap.size, 1, none⟩ (.int .i64 (s + -1))).setCell ⟨w5.heap.size, 2, none⟩ (.int .i64 0)) := by
  obtain ⟨hout, hsz, c0, c1, c2, cf, own⟩ := hF
  have hWr : Below wr.heap.size wr W := by obtain ⟨f, rfl⟩ := hW; exact ext_below wr f
  have hwr5 : Below w5.heap.size w5 wr := by obtain ⟨f, rfl⟩ := hout; exact ext_below w5 f
  have ne : some w5.heap.size ≠ lv.ownBlock := fun e => by have := (own.lt _ e.symm).1; omega
  have hlt : w5.heap.size < wr.heap.size := by omega
  have hsW := hWr.size
  have old : ∀ j u, wr.cell? ⟨w5.heap.size, j, none⟩ = some u → w1.cell? ⟨w5.heap.size, j, none⟩ = some u := fun j u h => by
    rw [hgrow.cell_far ⟨w5.heap.size, j, none⟩ (by simp; omega) ne, hWr.cell (p := ⟨w5.heap.size, j, none⟩) hlt]
    exact h
  have oldf : ∀ j, w1.frozen? ⟨w5.heap.size, j, none⟩ = false := fun j => by
    rw [hgrow.frozen_far ⟨w5.heap.size, j, none⟩ (by simp; omega) ne, hWr.frozen (p := ⟨w5.heap.size, j, none⟩) hlt]
    exact cf j
  have k0 := old _ _ c0
  have k1 := old _ _ c1
  have k2 := old _ _ c2
  have hs1 := hgrow.size
  have hout1 : Below w5.heap.size w5 w1 := (hwr5.trans (hWr.mono (by omega))).grown hgrow (by omega) (fun q hq => by have := (own.lt q hq).1; omega)
  refine ⟨⟨k0, k1, k2, oldf⟩, ?_, ?_, ?_, ?_, ?_, fun j => ?_, ?_⟩
  · exact ext_of (((hout1.setCell (Nat.le_refl _) _).setCell (Nat.le_refl _) _).setCell (Nat.le_refl _) _)
  · simp; omega
  · rw [cellNear (by omega), cellNear (by omega)]
    exact World.cell?_setCell_same _ _ _ k0
  · rw [cellNear (by omega)]
    exact World.cell?_setCell_same _ _ _ (by rw [cellNear (by omega)]; exact k1)
  · exact World.cell?_setCell_same _ _ _ (by rw [cellNear (by omega), cellNear (by omega)]; exact k2)
  · rw [frozenFar, frozenFar, frozenFar]
    exact oldf j
  · have e : fallL V (t + 1) = fallL V t ++ [(0, s, 0, V 0 (s + -1) 0), (0, s + -1, 0, 3)] := fallL_next V t s hs
    rw [e, List.length_append, chV_append]
    exact owns_set (owns_set (owns_set hown (by omega)) (by omega)) (by omega)
end Go.Proofs.Ytjejobfhddlmeaa
