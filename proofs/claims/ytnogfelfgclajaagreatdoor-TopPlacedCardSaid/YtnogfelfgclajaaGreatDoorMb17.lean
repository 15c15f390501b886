/-
  What a change wakes: the Go function; lists of cells that are the same.
  Updates that wait: their row; where one belongs.
-/
import Derived.Test.YtnogfelfgclajaaGreatDoorMb16
import Derived.Test.YtnogfelfgclajaaGreatDoorMb07
import Derived.Handy
import Derived.Deep.RegionHeld3
import Derived.Test.YtnogfelfgclajaaGreatDoorMb02
import Derived.LoopTactic
section
namespace Go.Proofs.YtnogfelfgclajaaGreatDoor
open Go.RowKit
attribute [local go_sem] ext_ext drew_ext ext_drew ext_cell ext_frozen in_lt in_le in_ne in_en in_ne1 in_en1 in_le1 in_ltn in_len in_nen in_enn size_le ite_max ite_min
set_option linter.unusedVariables false
set_option linter.unusedSimpArgs false
attribute [local go_sem] nb_under nb_over

def near7L (x y z : Int) : List Value := [.int .i64 x, .int .i64 y, .int .i64 z, .int .i64 (x + -1), .int .i64 y, .int .i64 z, .int .i64 (x + 1), .int .i64 y, .int .i64 z, .int .i64 x, .int .i64 (y + -1), .int .i64 z, .int .i64 x, .int .i64 (y + 1), .int .i64 z, .int .i64 x, .int .i64 y, .int .i64 (z + -1), .int .i64 x, .int .i64 y, .int .i64 (z + 1)]
/-- A cell and its neighbours, by their number. -/
def n7X (x : Int) (k : Nat) : Int := if k = 1 then x + -1 else if k = 2 then x + 1 else x
def n7Y (y : Int) (k : Nat) : Int := if k = 3 then y + -1 else if k = 4 then y + 1 else y
def n7Z (z : Int) (k : Nat) : Int := if k = 5 then z + -1 else if k = 6 then z + 1 else z
theorem near7_at (x y z : Int) (k : Nat) (hk : k < 7) : (near7L x y z)[k * 3]? = some (.int .i64 (n7X x k)) ∧ (near7L x y z)[k * 3 + 1]? = some (.int .i64 (n7Y y k)) ∧ (near7L x y z)[k * 3 + 2]? = some (.int .i64 (n7Z z k)) := by
  rcases k with _ | _ | _ | _ | _ | _ | _ | k
  · exact ⟨rfl, rfl, rfl⟩
  · exact ⟨rfl, rfl, rfl⟩
  · exact ⟨rfl, rfl, rfl⟩
  · exact ⟨rfl, rfl, rfl⟩
  · exact ⟨rfl, rfl, rfl⟩
  · exact ⟨rfl, rfl, rfl⟩
  · exact ⟨rfl, rfl, rfl⟩
  · omega
theorem n7_wid {x y z : Int} (hx : Mid x) (hy : Mid y) (hz : Mid z) (k : Nat) : Wid (n7X x k) ∧ Wid (n7Y y k) ∧ Wid (n7Z z k) := by
  refine ⟨?_, ?_, ?_⟩
  · unfold n7X; split; exact hx.down; split; exact hx.up; exact hx.wid
  · unfold n7Y; split; exact hy.down; split; exact hy.up; exact hy.wid
  · unfold n7Z; split; exact hz.down; split; exact hz.up; exact hz.wid

/-- A cell; cells, number by number. -/
abbrev Cl := Int × Int × Int
def cV (l : List Cl) : List Value := l.flatMap fun c => [.int .i64 c.1, .int .i64 c.2.1, .int .i64 c.2.2]
theorem cV_snoc (l : List Cl) (x y z : Int) : cV (l ++ [(x, y, z)]) = cV l ++ [.int .i64 x, .int .i64 y, .int .i64 z] := by simp [cV]
theorem cV_at (l : List Cl) (k : Nat) (hk : k < l.length) : (cV l)[k * 3]? = some (.int .i64 l[k].1) ∧ (cV l)[k * 3 + 1]? = some (.int .i64 l[k].2.1) ∧ (cV l)[k * 3 + 2]? = some (.int .i64 l[k].2.2) := by
  induction l generalizing k with
  | nil => simp at hk
  | cons c l ih =>
    cases k with
    | zero => exact ⟨rfl, rfl, rfl⟩
    | succ k =>
      have := ih k (by simpa using hk)
      simp only [List.getElem_cons_succ]
      have e : cV (c :: l) = .int .i64 c.1 :: .int .i64 c.2.1 :: .int .i64 c.2.2 :: cV l := rfl
      rw [e, show (k + 1) * 3 = k * 3 + 1 + 1 + 1 by omega]
      simpa [Nat.add_assoc] using this

/-- Behind k cells: those that are woken. -/
def wkL (V : Int → Int → Int → Int) (x y z : Int) : Nat → List Cl
  | 0 => []
  | k + 1 => if 0 < dlyS (V (n7X x k) (n7Y y k) (n7Z z k)) then wkL V x y z k ++ [(n7X x k, n7Y y k, n7Z z k)] else wkL V x y z k
theorem wkL_in {V : Int → Int → Int → Int} {x y z : Int} {k : Nat} (h : 0 < dlyS (V (n7X x k) (n7Y y k) (n7Z z k))) : wkL V x y z (k + 1) = wkL V x y z k ++ [(n7X x k, n7Y y k, n7Z z k)] := by
  show (if _ then _ else _) = _
  rw [if_pos h]
theorem wkL_out {V : Int → Int → Int → Int} {x y z : Int} {k : Nat} (h : ¬ 0 < dlyS (V (n7X x k) (n7Y y k) (n7Z z k))) : wkL V x y z (k + 1) = wkL V x y z k := by
  show (if _ then _ else _) = _
  rw [if_neg h]
theorem wkL_len (V : Int → Int → Int → Int) (x y z : Int) (k : Nat) : (wkL V x y z k).length ≤ k := by
  induction k with
  | zero => exact Nat.le_refl _
  | succ k ih =>
    by_cases h : 0 < dlyS (V (n7X x k) (n7Y y k) (n7Z z k))
    · rw [wkL_in h, List.length_append]; simp; exact ih
    · rw [wkL_out h]; omega

set_option maxRecDepth 100000 in
set_option maxHeartbeats 4000000 in
theorem wakes_any (v : Value) (V : Int → Int → Int → Int) (x y z : Int) (w : World) (hv : ViewVal Tryz.prog v V w) (hx : Mid x) (hy : Mid y) (hz : Mid z) :
    Calls Tryz.prog 265 #[v, .agg #[.int .i64 x, .int .i64 y, .int .i64 z]] w (MadeRow 30 3 (wkL V x y z 7).length (cV (wkL V x y z 7)) w) := by
  obtain ⟨i0, iz0, iz1, iz2, iz3⟩ := info_parts cellInfo
  obtain ⟨f, first, caps, rfl, hv⟩ := hv
  have hvf := hv.enters
  go_enter Tryz.func265, Tryz.ntmps265
  go_wp2_with fail
  refine (nb_any _ _ _ _ hx hy hz).mono ?_
  rintro e w1 ⟨rfl, _t, hw⟩
  have hc1 := named_cell hw
  have hz1 := named_frozen hw
  have hh1 := named_heap hw
  haveI hi1 := named_in hw
  haveI hb1 := named_below (w := w) hw
  clear hw
  go_wp2_with (refine wpList_store_new rfl 269 (.tmp 6) (.tmp 10) rfl _ rfl _ (nbS x y z) rfl rfl nb_size (by simp [nbS]) (nb_one x y z) rfl ?_)
  refine wp_region_noPanic ?_
  refine wp_region_mix 4 [2, 5] [0] [1, 3, 4] (by kernel_rfl) (by kernel_rfl) (by kernel_rfl) (fun _ _ _ _ _ h => h) ?_
  simp only [pick, List.getElem?_cons_zero, List.getElem?_cons_succ]
  repeat (refine wpPure_step (fun K hK => ?_); go_simp; refine hK _ ?_; clear hK K)
  refine wpPure_nil ?_
  repeat (go_big_quiet_step (first | fail))
  refine wpQuiet_nil ?_
  rintro w2 ⟨_t, hw⟩
  have hc2 := named_cell hw
  have hz2 := named_frozen hw
  have hh2 := named_heap hw
  haveI hi2 := named_in hw
  haveI hb2 := named_below (w := w) hw
  clear hw
  have hcell0 : ∀ j u, (nbS x y z)[j]? = some u → w2.cell? ⟨w1.heap.size, j, none⟩ = some u := by
    intro j u hu
    rw [hc2]
    exact (cell_of_row _ _ j _ _ _ (heap_alloc_new w1 _)).trans hu
  have hlt0 : w1.heap.size < w2.heap.size := World.block_lt_of_cell? w2 _ (hcell0 0 _ rfl)
  have hcell1 : ∀ (o : Obj) j u, (nbS x y z)[j]? = some u → (w2.alloc o).cell? ⟨w1.heap.size, j, none⟩ = some u := fun o j u hu =>
    (((Below.refl w2.heap.size w2).alloc (Nat.le_refl _) o).cell (p := ⟨w1.heap.size, j, none⟩) hlt0).trans (hcell0 j u hu)
  have HC1 := Lib.hid hcell1
  have HSZ := Lib.hid (grown_now (w := w) (W := w2)).size
  clear hcell0 hcell1
  go_wp2_with (at_builtin; refine wpList_append_fresh rfl (.tmp 12) (.tmp 13) 54 rfl w.heap.size 30 i0 _ 3 24 Tryz.underlying54 iz0 iz1 iz2 iz3 rfl ⟨w2.heap.size, 0, none⟩ 1 1 [.int .i64 x, .int .i64 y, .int .i64 z] rfl rfl (World.news_of_block (heap_alloc_new w2 _)) ⟨w1.heap.size, 0, none⟩ 6 6 (nbS x y z).toList rfl rfl (row_holds (r := []) (HC1.out _) rfl) (by omega) (by unfold maxLen; omega) (by omega) (by have := HSZ.out; simp; omega) ?_; intro v' w3 hown hext; obtain ⟨g, cap, rfl, _, _, _, hcells⟩ := owns_some (n := 7) hown (by omega))
  obtain ⟨_, hw⟩ := hext
  haveI hg3 := named_grown hw
  have hc3 := named_cell hw
  have hz3 := named_frozen hw
  have hh3 := named_heap hw
  haveI hi3 := named_in hw
  haveI hb3 := named_below (w := w) hw
  clear hw
  have HC := Lib.hid (show ∀ j u, (near7L x y z)[j]? = some u → w3.cell? ⟨g, j, none⟩ = some u from hcells)
  have ho3 : w3.ownsRow w.heap.size 30 3 (.slice (some ⟨g, 0, none⟩) 7 cap) 7 (near7L x y z) := hown
  have hg : g < w3.heap.size := (ho3.lt g rfl).2
  haveI : Nonempty (In g w3) := ⟨hg⟩
  clear hcells ho3 hown
  refine NoPanic.normal ?_
  go_wp2_with fail
  go_loopw [5, 16] (fun o i wr => ∃ k : Nat, k ≤ 7 ∧ i = .int .i64 k ∧ wr.ownsRow w3.heap.size 30 3 o (wkL V x y z k).length (cV (wkL V x y z k)) ∧ ∃ f, wr = ext w3 f) (fun _ i _ => 7 - (intOf i).toNat)
  case atStart => exact ⟨0, by omega, rfl, World.ownsRow_nil .., grown_of⟩
  case round =>
    obtain ⟨k, hk, rfl, ow, _, hw⟩ := hrel
    rename World => w4
    haveI hg4 := named_grown hw
    have hc4 := named_cell hw
    have hz4 := named_frozen hw
    have hh4 := named_heap hw
    haveI hi4 := named_in hw
    haveI hb4 := named_below (w := w) hw
    clear hw
    have OW := Lib.hid ow
    clear ow
    by_cases hlt : k < 7
    · obtain ⟨t0, t1, t2⟩ := near7_at x y z k hlt
      have d0 := HC.out _ _ t0
      have d1 := HC.out _ _ t1
      have d2 := HC.out _ _ t2
      obtain ⟨m1, m2, m3⟩ := n7_wid hx hy hz k
      have HIN := Lib.hid (fun h => wkL_in (V := V) (x := x) (y := y) (z := z) (k := k) h)
      have HOUT := Lib.hid (fun h => wkL_out (V := V) (x := x) (y := y) (z := z) (k := k) h)
      have HLn := Lib.hid (wkL_len V x y z k)
      clear t0 t1 t2
      generalize n7X x k = a at *
      generalize n7Y y k = b at *
      generalize n7Z z k = c at *
      by_cases h0 : 0 < dlyS (V a b c)
      · have HN2 : Hid (wkL V x y z (k + 1) = wkL V x y z k ++ [(a, b, c)]) := Lib.hid (HIN.out h0)
        clear HIN HOUT
        go_wp2_with fail
        refine (hv.tells _ (by exact grown_of) _ _ _ m1 m2 m3).mono ?_
        rintro e w6 ⟨rfl, _t, hw⟩
        haveI hb6_3 := named_below (w := w3) hw
        haveI hb6_4 := named_below (w := w4) hw
        have hc6 := named_cell hw
        have hz6 := named_frozen hw
        have hh6 := named_heap hw
        haveI hi6 := named_in hw
        haveI hb6 := named_below (w := w) hw
        clear hw
        have OW6 := Lib.hid (owns_grown OW.out (grown_of (w := w4) (W := w6)))
        have HB6 := Lib.hid (grown_now (w := w3) (W := w6))
        go_wp2_with (first | (go_at_call 266; refine (delay_any _ _).mono ?_; rintro e w1 ⟨rfl, rfl⟩) | (at_builtin; refine wpList_append_own _ rfl (.tmp 25) (.tmp 27) 54 rfl w3.heap.size 30 i0 _ 3 24 Tryz.underlying54 iz0 iz1 iz2 iz3 rfl (by omega) _ _ _ rfl (OW6.out.alloc _) _ 1 1 [.int .i64 a, .int .i64 b, .int .i64 c] rfl rfl (World.news_of_block (heap_alloc_new w6 _)) (by simp [Value.oneCell']) (by have := HLn.out; unfold maxLen; omega) (by have := HLn.out; omega) (by have := HB6.out.size; simp; omega) ?_; intro v' w1' hown1 hgrow _))
        go_roundw
        case rel =>
          refine ⟨k + 1, by omega, by go_num, ?_, ext_of ((HB6.out.alloc HB6.out.size _).grown hgrow (by have := HB6.out.size; simp; omega) (fun q hq => (OW6.out.lt q hq).1))⟩
          rw [HN2.out, List.length_append, cV_snoc]
          exact hown1
        case measure => simp [intOf]; omega
      · have HN2 : Hid (wkL V x y z (k + 1) = wkL V x y z k) := Lib.hid (HOUT.out h0)
        clear HIN HOUT
        go_wp2_with fail
        refine (hv.tells _ (by exact grown_of) _ _ _ m1 m2 m3).mono ?_
        rintro e w6 ⟨rfl, _t, hw⟩
        haveI hb6_3 := named_below (w := w3) hw
        haveI hb6_4 := named_below (w := w4) hw
        have hc6 := named_cell hw
        have hz6 := named_frozen hw
        have hh6 := named_heap hw
        haveI hi6 := named_in hw
        haveI hb6 := named_below (w := w) hw
        clear hw
        have OW6 := Lib.hid (owns_grown OW.out (grown_of (w := w4) (W := w6)))
        go_wp2_with (first | (go_at_call 266; refine (delay_any _ _).mono ?_; rintro e w1 ⟨rfl, rfl⟩))
        go_roundw
        case rel => exact ⟨k + 1, by omega, by go_num, by rw [HN2.out]; exact OW6.out, grown_of⟩
        case measure => simp [intOf]; omega
    · obtain rfl : k = 7 := by omega
      go_wp2_with fail
      go_ret
      exact ⟨_, rfl, owns_base OW.out (grown_now (w := w) (W := w3)).size, grown_of⟩

end Go.Proofs.YtnogfelfgclajaaGreatDoor
end

section
namespace Go.Proofs.YtnogfelfgclajaaGreatDoor
open Go.RowKit
attribute [local go_sem] ext_ext drew_ext ext_drew ext_cell ext_frozen in_lt in_le in_ne in_en in_ne1 in_en1 in_le1 in_ltn in_len in_nen in_enn size_le ite_max ite_min
set_option linter.unusedVariables false
set_option linter.unusedSimpArgs false

/-- Numbers. -/
def Nums (xs : List Value) : Prop := ∀ u ∈ xs, ∃ i : Int, u = .int .i64 i
/-- A row of n items that wait. -/
def QRow (B : Nat) (w : World) (v : Value) (n : Nat) : Prop := ∃ xs, w.ownsRow B 264 4 v n xs ∧ Nums xs
theorem QRow.grown {B : Nat} {w W : World} {v : Value} {n : Nat} (h : QRow B w v n) (hW : Below w.heap.size w W) : QRow B W v n := by
  obtain ⟨xs, h, hn⟩ := h
  exact ⟨xs, owns_grown h (ext_of hW), hn⟩
theorem QRow.form {B : Nat} {w : World} {v : Value} {n : Nat} (h : QRow B w v n) : ∃ og cap, v = .slice og n cap := by
  obtain ⟨xs, h, _⟩ := h
  exact owns_form h
theorem QRow.cells {B : Nat} {w : World} {v : Value} {n : Nat} (h : QRow B w v n) (h0 : 0 < n) : ∃ g cap, v = .slice (some ⟨g, 0, none⟩) n cap ∧ n ≤ cap ∧ B ≤ g ∧ (∃ cs, w.heap[g]? = some (.cells cs 264 (0, 0)) ∧ cs.size = cap * 4) ∧ ∀ j, j < n * 4 → ∃ i : Int, w.cell? ⟨g, j, none⟩ = some (.int .i64 i) := by
  obtain ⟨xs, h, hx⟩ := h
  obtain ⟨g, cap, rfl, hb, hn, _, hc⟩ := owns_some h h0
  rcases h.2 with ⟨_, h1⟩ | ⟨g', cap', cur, hv, _, hg, _, _, hs, _⟩
  · omega
  · injection hv with e1 e2 e3
    injection e1 with e1
    injection e1 with e1
    subst e1 e3
    refine ⟨g, cap, rfl, hn, hb, ⟨cur, hg, hs⟩, fun j hj => ?_⟩
    have hlt : j < xs.length := by rw [h.1]; exact hj
    obtain ⟨i, hi⟩ := hx xs[j] (List.getElem_mem hlt)
    exact ⟨i, by rw [hc j _ (List.getElem?_eq_getElem hlt), hi]⟩

theorem isnan_any (a : Int) (w : World) : Calls Tryz.prog 365 #[.int .i64 a] w fun e w' => e = .returned (.bool false) ∧ w = w' := by
  go_enter Tryz.func365, Tryz.ntmps365
  go_wp2
  go_ret
  exact ⟨rfl, rfl⟩
def cmpI (a b : Int) : Int := if a < b then -1 else if b < a then 1 else 0
theorem compare_any (a b : Int) (w : World) : Calls Tryz.prog 350 #[.int .i64 a, .int .i64 b] w fun e w' => e = .returned (.int .i64 (cmpI a b)) ∧ w = w' := by
  unfold cmpI
  rcases Int.lt_trichotomy a b with h | h | h
  · have h2 : ¬ b < a := by omega
    go_enter Tryz.func350, Tryz.ntmps350
    go_wp2_with (go_at_call 365; refine (isnan_any _ _).mono ?_; rintro e w1 ⟨rfl, rfl⟩)
    go_ret
    exact ⟨by simp [h], rfl⟩
  · subst h
    go_enter Tryz.func350, Tryz.ntmps350
    go_wp2_with (go_at_call 365; refine (isnan_any _ _).mono ?_; rintro e w1 ⟨rfl, rfl⟩)
    go_ret
    exact ⟨by simp, rfl⟩
  · have h2 : ¬ a < b := by omega
    go_enter Tryz.func350, Tryz.ntmps350
    go_wp2_with (go_at_call 365; refine (isnan_any _ _).mono ?_; rintro e w1 ⟨rfl, rfl⟩)
    go_ret
    exact ⟨by simp [h, h2], rfl⟩
def cmpS (a b : Int) : Int := if b < a then 1 else -1
theorem cmpI_cases (a b : Int) : (cmpI a b = 0 ∧ cmpS a b = -1) ∨ (cmpI a b = cmpS a b ∧ (cmpI a b = 1 ∨ cmpI a b = -1)) := by
  unfold cmpI cmpS
  split
  · right; rw [if_neg (by omega)]; simp
  · split
    · right; simp
    · left; simp
set_option maxRecDepth 100000 in
theorem cmpor_any (c r : Int) (g cap : Nat) (w : World) (h0 : w.cell? ⟨g, 0, none⟩ = some (.int .i64 c)) (h1 : w.cell? ⟨g, 1, none⟩ = some (.int .i64 (-1))) (hr : (c = 0 ∧ r = -1) ∨ (c = r ∧ (c = 1 ∨ c = -1))) :
    Calls Tryz.prog 349 #[.slice (some ⟨g, 0, none⟩) 2 cap] w fun e w' => e = .returned (.int .i64 r) ∧ w = w' := by
  rcases hr with ⟨rfl, rfl⟩ | ⟨rfl, rfl | rfl⟩
  all_goals
    go_enter Tryz.func349, Tryz.ntmps349
    go_wp2_with fail
    refine wp_loop_rounds 3 ?_
    rw [rounds_succ]
    go_wp2_with fail
    try rw [rounds_succ]
    try go_wp2_with fail
    (try simp only [Exit.inBlock, Exit.then])
    go_ret
    exact ⟨rfl, rfl⟩
set_option maxRecDepth 100000 in
theorem pushcmp_any (a b c d e f g h : Int) (w : World) :
    Calls Tryz.prog 348 #[.agg #[.int .i64 a, .int .i64 b, .int .i64 c, .int .i64 d], .agg #[.int .i64 e, .int .i64 f, .int .i64 g, .int .i64 h]] w fun en w' => en = .returned (.int .i64 (cmpS a e)) ∧ ∃ f, w' = ext w f := by
  have hr := cmpI_cases a e
  have CO := Lib.hid (fun (g cap : Nat) (W : World) h0 h1 => cmpor_any (cmpI a e) (cmpS a e) g cap W h0 h1 hr)
  clear hr
  go_enter Tryz.func348, Tryz.ntmps348
  go_wp2_with (go_at_call 350; refine (compare_any _ _ _).mono ?_; rintro e w1 ⟨rfl, rfl⟩)
  refine (CO.out _ _ _ (by go_simp) (by go_simp)).mono ?_
  rintro e1 w1 ⟨rfl, rfl⟩
  go_wp2_with fail
  go_ret
  exact ⟨rfl, grown_of⟩
/-- A place in the row. -/
def SomeIx (n : Nat) (w : World) (e : Ending) (w' : World) : Prop := ∃ (i : Nat) (b : Bool), i ≤ n ∧ e = .returned (.tuple #[.int .i64 (i : Int), .bool b]) ∧ ∃ f, w' = ext w f
set_option maxRecDepth 100000 in
set_option maxHeartbeats 4000000 in
theorem search_any (B : Nat) (v : Value) (n : Nat) (a b c d : Int) (w : World) (h : QRow B w v n) (hn : n ≤ 10000) :
    Calls Tryz.prog 347 #[v, .agg #[.int .i64 a, .int .i64 b, .int .i64 c, .int .i64 d], .func (.func 348) #[] #[]] w (SomeIx n w) := by
  have eg : ∀ args W, (callFunc 348 args).run Tryz.prog W = .ok (.enter 348 args) W := fun args W => by kernel_rfl
  have n1 : (n : Int) ≤ 10000 := by omega
  have n0 : (0 : Int) ≤ (n : Int) := Int.natCast_nonneg _
  obtain ⟨og, cap, rfl⟩ := h.form
  have HC := Lib.hid (show ∀ k, k < n → ∃ g, og = some ⟨g, 0, none⟩ ∧ ∃ i0 i1 i2 i3 : Int, w.cell? ⟨g, k * 4, none⟩ = some (.int .i64 i0) ∧ w.cell? ⟨g, k * 4 + 1, none⟩ = some (.int .i64 i1) ∧ w.cell? ⟨g, k * 4 + 2, none⟩ = some (.int .i64 i2) ∧ w.cell? ⟨g, k * 4 + 3, none⟩ = some (.int .i64 i3) from fun k hk => by
    obtain ⟨g, cap', hv, _, _, _, hc⟩ := h.cells (by omega)
    injection hv with e1 e2 e3
    obtain ⟨i0, h0⟩ := hc (k * 4) (by omega)
    obtain ⟨i1, h1⟩ := hc (k * 4 + 1) (by omega)
    obtain ⟨i2, h2⟩ := hc (k * 4 + 2) (by omega)
    obtain ⟨i3, h3⟩ := hc (k * 4 + 3) (by omega)
    exact ⟨g, e1, i0, i1, i2, i3, h0, h1, h2, h3⟩)
  clear h hn
  go_enter Tryz.func347, Tryz.ntmps347
  go_wp2_with fail
  go_loopw [9, 10, 11] (fun s9 s10 _ wr => ∃ lo hi : Nat, s9 = .int .i64 (lo : Int) ∧ s10 = .int .i64 (hi : Int) ∧ lo ≤ hi ∧ hi ≤ n ∧ ∃ f, wr = ext (w.alloc (.cells #[.int .i64 a, .int .i64 b, .int .i64 c, .int .i64 d] 264)) f) (fun s9 s10 _ _ => (intOf s10).toNat - (intOf s9).toNat)
  case atStart => exact ⟨0, n, rfl, rfl, by omega, by omega, grown_of⟩
  case round =>
    obtain ⟨lo, hi, rfl, rfl, h1, h2, _, hw⟩ := hrel
    rename World => w1
    have P0 : w1.cell? ⟨w.heap.size, 0, none⟩ = some (.int .i64 a) := by rw [hw]; go_simp
    have P1 : w1.cell? ⟨w.heap.size, 1, none⟩ = some (.int .i64 b) := by rw [hw]; go_simp
    have P2 : w1.cell? ⟨w.heap.size, 2, none⟩ = some (.int .i64 c) := by rw [hw]; go_simp
    have P3 : w1.cell? ⟨w.heap.size, 3, none⟩ = some (.int .i64 d) := by rw [hw]; go_simp
    haveI := in_of_cell P0
    haveI hg1 := named_grown hw
    haveI hb1 := named_below (w := w) hw
    have hc1 := named_cell hw
    haveI hi1 := named_in hw
    clear hw
    have l0 : (0 : Int) ≤ (lo : Int) := Int.natCast_nonneg _
    have l1 : (lo : Int) ≤ 10000 := by omega
    have l2 : (0 : Int) ≤ (hi : Int) := Int.natCast_nonneg _
    have l3 : (hi : Int) ≤ 10000 := by omega
    by_cases hlt : lo < hi
    · obtain ⟨m, hm⟩ : ∃ m, (lo + hi) / 2 = m := ⟨_, rfl⟩
      have hm1 : m < n := by omega
      have hh : ((lo : Int) + (hi : Int)) / 2 = (m : Int) := by omega
      obtain ⟨g, rfl, i0, i1, i2, i3, d0, d1, d2, d3⟩ := HC.out m hm1
      haveI := in_of_cell d0
      have k1 : (lo : Int) < (hi : Int) := by omega
      have k2 : (m : Int) < (n : Int) := by omega
      have HM := Lib.hid (show lo ≤ m ∧ m < hi ∧ hi ≤ n by omega)
      clear hm hm1 hlt h1 h2
      obtain ⟨r, hr⟩ : ∃ r, cmpS i0 a = r := ⟨_, rfl⟩
      have PC := Lib.hid (fun W => hr ▸ pushcmp_any i0 i1 i2 i3 a b c d W)
      clear hr
      by_cases hneg : r < 0
      · go_wp2_with fail
        refine wp_region_ext ?_ ?_ ?_
        · kernel_rfl
        · kernel_rfl
        repeat (go_big_quiet_step (first | (exact ext_call (PC.out _))))
        refine wpQuiet_nil ?_
        rintro w2 ⟨_t, hw⟩
        haveI hg2 := named_grown hw
        haveI hb2_1 := named_below (w := w1) hw
        have hc2 := named_cell hw
        have hz2 := named_frozen hw
        have hh2 := named_heap hw
        haveI hi2 := named_in hw
        haveI hb2 := named_below (w := w) hw
        clear hw
        haveI hx2 : Nonempty (Below _ (w.alloc (.cells #[.int .i64 a, .int .i64 b, .int .i64 c, .int .i64 d] 264)) w2) := below_thru _ w1 w2
        go_wp2_with fail
        go_roundw
        case rel => exact ⟨m + 1, hi, by go_num, rfl, by have := HM.out; omega, by have := HM.out; omega, grown_of⟩
        case measure => have := HM.out; simp [intOf]; omega
      · have hneg2 : ¬ r < 0 := hneg
        go_wp2_with fail
        refine wp_region_ext ?_ ?_ ?_
        · kernel_rfl
        · kernel_rfl
        repeat (go_big_quiet_step (first | (exact ext_call (PC.out _))))
        refine wpQuiet_nil ?_
        rintro w2 ⟨_t, hw⟩
        haveI hg2 := named_grown hw
        haveI hb2_1 := named_below (w := w1) hw
        have hc2 := named_cell hw
        have hz2 := named_frozen hw
        have hh2 := named_heap hw
        haveI hi2 := named_in hw
        haveI hb2 := named_below (w := w) hw
        clear hw
        haveI hx2 : Nonempty (Below _ (w.alloc (.cells #[.int .i64 a, .int .i64 b, .int .i64 c, .int .i64 d] 264)) w2) := below_thru _ w1 w2
        go_wp2_with fail
        go_roundw
        case rel => exact ⟨lo, m, rfl, rfl, by have := HM.out; omega, by have := HM.out; omega, grown_of⟩
        case measure => have := HM.out; simp [intOf]; omega
    · have k1 : ¬ (lo : Int) < (hi : Int) := by omega
      have HL := Lib.hid (show lo ≤ n by omega)
      by_cases hln : lo < n
      · obtain ⟨g, rfl, i0, i1, i2, i3, d0, d1, d2, d3⟩ := HC.out lo hln
        haveI := in_of_cell d0
        have k2 : (lo : Int) < (n : Int) := by omega
        obtain ⟨r, hr⟩ : ∃ r, cmpS i0 a = r := ⟨_, rfl⟩
        have PC := Lib.hid (fun W => hr ▸ pushcmp_any i0 i1 i2 i3 a b c d W)
        clear hr hlt h1 h2 hln
        go_wp2_with fail
        refine wp_region_ext ?_ ?_ ?_
        · kernel_rfl
        · kernel_rfl
        repeat (go_big_quiet_step (first | (exact ext_call (PC.out _))))
        refine wpQuiet_nil ?_
        rintro w2 ⟨_t, hw⟩
        haveI hg2 := named_grown hw
        haveI hb2_1 := named_below (w := w1) hw
        have hc2 := named_cell hw
        have hz2 := named_frozen hw
        have hh2 := named_heap hw
        haveI hi2 := named_in hw
        haveI hb2 := named_below (w := w) hw
        clear hw
        go_wp2_with fail
        go_ret2
        exact ⟨lo, _, HL.out, rfl, grown_of⟩
      · have k2 : ¬ (lo : Int) < (n : Int) := by omega
        clear hlt h1 h2
        go_wp2_with fail
        refine wp_region_ext ?_ ?_ ?_
        · kernel_rfl
        · kernel_rfl
        repeat (go_big_quiet_step (first | fail))
        refine wpQuiet_nil ?_
        rintro w2 ⟨_t, hw⟩
        haveI hg2 := named_grown hw
        haveI hb2_1 := named_below (w := w1) hw
        have hc2 := named_cell hw
        have hz2 := named_frozen hw
        have hh2 := named_heap hw
        haveI hi2 := named_in hw
        haveI hb2 := named_below (w := w) hw
        clear hw
        go_wp2_with fail
        go_ret2
        exact ⟨lo, _, HL.out, rfl, grown_of⟩
#print axioms search_any
end Go.Proofs.YtnogfelfgclajaaGreatDoor
end
