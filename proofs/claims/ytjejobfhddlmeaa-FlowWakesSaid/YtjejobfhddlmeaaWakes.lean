/-
  What a change wakes: the Go function; lists of cells that are the same.
-/
import Derived.Test.YtjejobfhddlmeaaKept
namespace Go.Proofs.Ytjejobfhddlmeaa
open Go.RowKit
attribute [local go_sem] ext_ext drew_ext ext_drew ext_cell ext_frozen in_lt in_le in_ne in_en in_ne1 in_en1 in_le1 in_ltn in_len in_nen in_enn size_le ite_max ite_min
set_option linter.unusedVariables false
set_option linter.unusedSimpArgs false
attribute [local go_sem] nb_under nb_over

/-- A cell and its neighbours, by their number. -/
def n7X (x : Int) (k : Nat) : Int := if k = 1 then x + -1 else if k = 2 then x + 1 else x
def n7Y (y : Int) (k : Nat) : Int := if k = 3 then y + -1 else if k = 4 then y + 1 else y
def n7Z (z : Int) (k : Nat) : Int := if k = 5 then z + -1 else if k = 6 then z + 1 else z
theorem near7_at (x y z : Int) (k : Nat) (hk : k < 7) : (near7L x y z)[k * 3]? = some (.int .i64 (n7X x k)) ∧ (near7L x y z)[k * 3 + 1]? = some (.int .i64 (n7Y y k)) ∧ (near7L x y z)[k * 3 + 2]? = some (.int .i64 (n7Z z k)) := by
  rcases k with _ | _ | _ | _ | _ | _ | _ | k
  · exact ⟨rfl, rfl, rfl⟩
  · exact ⟨rfl, rfl, rfl⟩
  · exact ⟨rfl, rfl, rfl⟩
  · exact ⟨rfl, rfl, rfl⟩
  · exact ⟨rfl, rfl, rfl⟩
  · exact ⟨rfl, rfl, rfl⟩
  · exact ⟨rfl, rfl, rfl⟩
  · omega
theorem n7_wid {x y z : Int} (hx : Mid x) (hy : Mid y) (hz : Mid z) (k : Nat) : Wid (n7X x k) ∧ Wid (n7Y y k) ∧ Wid (n7Z z k) := by
  refine ⟨?_, ?_, ?_⟩
  · unfold n7X; split; exact hx.down; split; exact hx.up; exact hx.wid
  · unfold n7Y; split; exact hy.down; split; exact hy.up; exact hy.wid
  · unfold n7Z; split; exact hz.down; split; exact hz.up; exact hz.wid

/-- A cell; cells, number by number. -/
abbrev Cl := Int × Int × Int
def cV (l : List Cl) : List Value := l.flatMap fun c => [.int .i64 c.1, .int .i64 c.2.1, .int .i64 c.2.2]
theorem cV_snoc (l : List Cl) (x y z : Int) : cV (l ++ [(x, y, z)]) = cV l ++ [.int .i64 x, .int .i64 y, .int .i64 z] := by simp [cV]
theorem cV_at (l : List Cl) (k : Nat) (hk : k < l.length) : (cV l)[k * 3]? = some (.int .i64 l[k].1) ∧ (cV l)[k * 3 + 1]? = some (.int .i64 l[k].2.1) ∧ (cV l)[k * 3 + 2]? = some (.int .i64 l[k].2.2) := by
  induction l generalizing k with
  | nil => simp at hk
  | cons c l ih =>
    cases k with
    | zero => exact ⟨rfl, rfl, rfl⟩
    | succ k =>
      have := ih k (by simpa using hk)
      simp only [List.getElem_cons_succ]
      have e : cV (c :: l) = .int .i64 c.1 :: .int .i64 c.2.1 :: .int .i64 c.2.2 :: cV l := rfl
      rw [e, show (k + 1) * 3 = k * 3 + 1 + 1 + 1 by omega]
      simpa [Nat.add_assoc] using this

/-- Behind k cells: those that are woken. -/
def wkL (V : Int → Int → Int → Int) (x y z : Int) : Nat → List Cl
  | 0 => []
  | k + 1 => if 0 < dlyS (V (n7X x k) (n7Y y k) (n7Z z k)) then wkL V x y z k ++ [(n7X x k, n7Y y k, n7Z z k)] else wkL V x y z k
theorem wkL_in {V : Int → Int → Int → Int} {x y z : Int} {k : Nat} (h : 0 < dlyS (V (n7X x k) (n7Y y k) (n7Z z k))) : wkL V x y z (k + 1) = wkL V x y z k ++ [(n7X x k, n7Y y k, n7Z z k)] := by
  show (if _ then _ else _) = _
  rw [if_pos h]
theorem wkL_out {V : Int → Int → Int → Int} {x y z : Int} {k : Nat} (h : ¬ 0 < dlyS (V (n7X x k) (n7Y y k) (n7Z z k))) : wkL V x y z (k + 1) = wkL V x y z k := by
  show (if _ then _ else _) = _
  rw [if_neg h]
theorem wkL_len (V : Int → Int → Int → Int) (x y z : Int) (k : Nat) : (wkL V x y z k).length ≤ k := by
  induction k with
  | zero => exact Nat.le_refl _
  | succ k ih =>
    by_cases h : 0 < dlyS (V (n7X x k) (n7Y y k) (n7Z z k))
    · rw [wkL_in h, List.length_append]; simp; exact ih
    · rw [wkL_out h]; omega

set_option maxRecDepth 100000 in
set_option maxHeartbeats 4000000 in
theorem wakes_any (v : Value) (V : Int → Int → Int → Int) (x y z : Int) (w : World) (hv : ViewVal Try.prog v V w) (hx : Mid x) (hy : Mid y) (hz : Mid z) :
    Calls Try.prog 29 #[v, .agg #[.int .i64 x, .int .i64 y, .int .i64 z]] w (MadeRow 26 3 (wkL V x y z 7).length (cV (wkL V x y z 7)) w) := by
  obtain ⟨i0, iz0, iz1, iz2, iz3⟩ := info_parts cellInfo
  obtain ⟨f, caps, rfl, hv⟩ := hv
  have hvf := hv.enters
  go_enter Try.func29, Try.ntmps29
  go_wp2_with fail
  refine (nb_any _ _ _ _ hx hy hz).mono ?_
  rintro e w1 ⟨rfl, _t, hw⟩
  have hc1 := named_cell hw
  have hz1 := named_frozen hw
  have hh1 := named_heap hw
  haveI hi1 := named_in hw
  haveI hb1 := named_below (w := w) hw
  clear hw
  go_wp2_with (refine wpList_store_new rfl 59 (.tmp 6) (.tmp 10) rfl _ rfl _ (nbS x y z) rfl rfl nb_size (by simp [nbS]) (nb_one x y z) rfl ?_)
  refine wp_region_noPanic ?_
  refine wp_region_mix 4 [2, 5] [0] [1, 3, 4] (by kernel_rfl) (by kernel_rfl) (by kernel_rfl) (fun _ _ _ _ _ h => h) ?_
  simp only [pick, List.getElem?_cons_zero, List.getElem?_cons_succ]
  repeat (refine wpPure_step (fun K hK => ?_); go_simp; refine hK _ ?_; clear hK K)
  refine wpPure_nil ?_
  repeat (go_big_quiet_step (first | fail))
  refine wpQuiet_nil ?_
  rintro w2 ⟨_t, hw⟩
  have hc2 := named_cell hw
  have hz2 := named_frozen hw
  have hh2 := named_heap hw
  haveI hi2 := named_in hw
  haveI hb2 := named_below (w := w) hw
  clear hw
  have hcell0 : ∀ j u, (nbS x y z)[j]? = some u → w2.cell? ⟨w1.heap.size, j, none⟩ = some u := by
    intro j u hu
    rw [hc2]
    exact (cell_of_row _ _ j _ _ _ (heap_alloc_new w1 _)).trans hu
  have hlt0 : w1.heap.size < w2.heap.size := World.block_lt_of_cell? w2 _ (hcell0 0 _ rfl)
  have hcell1 : ∀ (o : Obj) j u, (nbS x y z)[j]? = some u → (w2.alloc o).cell? ⟨w1.heap.size, j, none⟩ = some u := fun o j u hu =>
    (((Below.refl w2.heap.size w2).alloc (Nat.le_refl _) o).cell (p := ⟨w1.heap.size, j, none⟩) hlt0).trans (hcell0 j u hu)
  have HC1 := Lib.hid hcell1
  have HSZ := Lib.hid (grown_now (w := w) (W := w2)).size
  clear hcell0 hcell1
  go_wp2_with (at_builtin; refine wpList_append_fresh rfl (.tmp 12) (.tmp 13) 50 rfl w.heap.size 26 i0 _ 3 24 Try.underlying50 iz0 iz1 iz2 iz3 rfl ⟨w2.heap.size, 0, none⟩ 1 1 [.int .i64 x, .int .i64 y, .int .i64 z] rfl rfl (World.news_of_block (heap_alloc_new w2 _)) ⟨w1.heap.size, 0, none⟩ 6 6 (nbS x y z).toList rfl rfl (row_holds (r := []) (HC1.out _) rfl) (by omega) (by unfold maxLen; omega) (by omega) (by have := HSZ.out; simp; omega) ?_; intro v' w3 hown hext; obtain ⟨g, cap, rfl, _, _, _, hcells⟩ := owns_some (n := 7) hown (by omega))
  obtain ⟨_, hw⟩ := hext
  haveI hg3 := named_grown hw
  have hc3 := named_cell hw
  have hz3 := named_frozen hw
  have hh3 := named_heap hw
  haveI hi3 := named_in hw
  haveI hb3 := named_below (w := w) hw
  clear hw
  have HC := Lib.hid (show ∀ j u, (near7L x y z)[j]? = some u → w3.cell? ⟨g, j, none⟩ = some u from hcells)
  have ho3 : w3.ownsRow w.heap.size 26 3 (.slice (some ⟨g, 0, none⟩) 7 cap) 7 (near7L x y z) := hown
  have hg : g < w3.heap.size := (ho3.lt g rfl).2
  haveI : Nonempty (In g w3) := ⟨hg⟩
  clear hcells ho3 hown
  refine NoPanic.normal ?_
  go_wp2_with fail
  go_loopw [5, 16] (fun o i wr => ∃ k : Nat, k ≤ 7 ∧ i = .int .i64 k ∧ wr.ownsRow w3.heap.size 26 3 o (wkL V x y z k).length (cV (wkL V x y z k)) ∧ ∃ f, wr = ext w3 f) (fun _ i _ => 7 - (intOf i).toNat)
  case atStart => exact ⟨0, by omega, rfl, World.ownsRow_nil .., grown_of⟩
  case round =>
    obtain ⟨k, hk, rfl, ow, _, hw⟩ := hrel
    rename World => w4
    haveI hg4 := named_grown hw
    have hc4 := named_cell hw
    have hz4 := named_frozen hw
    have hh4 := named_heap hw
    haveI hi4 := named_in hw
    haveI hb4 := named_below (w := w) hw
    clear hw
    have OW := Lib.hid ow
    clear ow
    by_cases hlt : k < 7
    · obtain ⟨t0, t1, t2⟩ := near7_at x y z k hlt
      have d0 := HC.out _ _ t0
      have d1 := HC.out _ _ t1
      have d2 := HC.out _ _ t2
      obtain ⟨m1, m2, m3⟩ := n7_wid hx hy hz k
      have HIN := Lib.hid (fun h => wkL_in (V := V) (x := x) (y := y) (z := z) (k := k) h)
      have HOUT := Lib.hid (fun h => wkL_out (V := V) (x := x) (y := y) (z := z) (k := k) h)
      have HLn := Lib.hid (wkL_len V x y z k)
      clear t0 t1 t2
      generalize n7X x k = a at *
      generalize n7Y y k = b at *
      generalize n7Z z k = c at *
      by_cases h0 : 0 < dlyS (V a b c)
      · have HN2 : Hid (wkL V x y z (k + 1) = wkL V x y z k ++ [(a, b, c)]) := Lib.hid (HIN.out h0)
        clear HIN HOUT
        go_wp2_with fail
        refine (hv.tells _ (by exact grown_of) _ _ _ m1 m2 m3).mono ?_
        rintro e w6 ⟨rfl, _t, hw⟩
        haveI hb6_3 := named_below (w := w3) hw
        haveI hb6_4 := named_below (w := w4) hw
        have hc6 := named_cell hw
        have hz6 := named_frozen hw
        have hh6 := named_heap hw
        haveI hi6 := named_in hw
        haveI hb6 := named_below (w := w) hw
        clear hw
        have OW6 := Lib.hid (owns_grown OW.out (grown_of (w := w4) (W := w6)))
        have HB6 := Lib.hid (grown_now (w := w3) (W := w6))
        go_wp2_with (first | (go_at_call 27; refine (delay_any _ _).mono ?_; rintro e w1 ⟨rfl, rfl⟩) | (at_builtin; refine wpList_append_own _ rfl (.tmp 25) (.tmp 27) 50 rfl w3.heap.size 26 i0 _ 3 24 Try.underlying50 iz0 iz1 iz2 iz3 rfl (by omega) _ _ _ rfl (OW6.out.alloc _) _ 1 1 [.int .i64 a, .int .i64 b, .int .i64 c] rfl rfl (World.news_of_block (heap_alloc_new w6 _)) (by simp [Value.oneCell']) (by have := HLn.out; unfold maxLen; omega) (by have := HLn.out; omega) (by have := HB6.out.size; simp; omega) ?_; intro v' w1' hown1 hgrow _))
        go_roundw
        case rel =>
          refine ⟨k + 1, by omega, by go_num, ?_, ext_of ((HB6.out.alloc HB6.out.size _).grown hgrow (by have := HB6.out.size; simp; omega) (fun q hq => (OW6.out.lt q hq).1))⟩
          rw [HN2.out, List.length_append, cV_snoc]
          exact hown1
        case measure => simp [intOf]; omega
      · have HN2 : Hid (wkL V x y z (k + 1) = wkL V x y z k) := Lib.hid (HOUT.out h0)
        clear HIN HOUT
        go_wp2_with fail
        refine (hv.tells _ (by exact grown_of) _ _ _ m1 m2 m3).mono ?_
        rintro e w6 ⟨rfl, _t, hw⟩
        haveI hb6_3 := named_below (w := w3) hw
        haveI hb6_4 := named_below (w := w4) hw
        have hc6 := named_cell hw
        have hz6 := named_frozen hw
        have hh6 := named_heap hw
        haveI hi6 := named_in hw
        haveI hb6 := named_below (w := w) hw
        clear hw
        have OW6 := Lib.hid (owns_grown OW.out (grown_of (w := w4) (W := w6)))
        go_wp2_with (first | (go_at_call 27; refine (delay_any _ _).mono ?_; rintro e w1 ⟨rfl, rfl⟩))
        go_roundw
        case rel => exact ⟨k + 1, by omega, by go_num, by rw [HN2.out]; exact OW6.out, grown_of⟩
        case measure => simp [intOf]; omega
    · obtain rfl : k = 7 := by omega
      go_wp2_with fail
      go_ret
      exact ⟨_, rfl, owns_base OW.out (grown_now (w := w) (W := w3)).size, grown_of⟩

set_option maxHeartbeats 2000000 in
attribute [local go_sem ↓] eqc_any in
attribute [local go_sem] eqc_self in
theorem samecells_any (l : List Cl) (s t : Value) (b1 b2 : Nat) (w : World) (hs : w.ownsRow b1 26 3 s l.length (cV l)) (ht : w.ownsRow b2 26 3 t l.length (cV l)) (hl : l.length ≤ 1000) :
    Calls Try.prog 28 #[s, t] w fun e w' => e = .returned (.bool true) ∧ ∃ f, w' = ext w f := by
  by_cases h0 : 0 < l.length
  · obtain ⟨g, cap, rfl, _, _, _, hc⟩ := owns_some hs h0
    obtain ⟨g', cap', rfl, _, _, _, hc'⟩ := owns_some ht h0
    have HC := Lib.hid hc
    have HC' := Lib.hid hc'
    have hg : g < w.heap.size := (hs.lt g rfl).2
    have hg' : g' < w.heap.size := (ht.lt g' rfl).2
    clear hc hc' hs ht
    go_enter Try.func28, Try.ntmps28
    go_wp2_with fail
    go_loopw [5] (fun i wr => ∃ k : Nat, k ≤ l.length ∧ i = .int .i64 k ∧ ∃ f, wr = ext w f) (fun i _ => l.length - (intOf i).toNat)
    case atStart => exact ⟨0, Nat.zero_le _, rfl, grown_of⟩
    case round =>
      obtain ⟨k, hk, rfl, f, rfl⟩ := hrel
      by_cases hlt : k < l.length
      · obtain ⟨c0, c1, c2⟩ := cV_at l k hlt
        have d0 := HC.out _ _ c0
        have d1 := HC.out _ _ c1
        have d2 := HC.out _ _ c2
        have e0 := HC'.out _ _ c0
        have e1 := HC'.out _ _ c1
        have e2 := HC'.out _ _ c2
        haveI := in_of_cell d0
        haveI := in_of_cell e0
        have k0 : (0 : Int) ≤ (k : Int) := Int.natCast_nonneg _
        have k1 : (k : Int) < (l.length : Int) := by omega
        clear c0 c1 c2
        generalize l[k].1 = a at *
        generalize l[k].2.1 = b at *
        generalize l[k].2.2 = c at *
        go_wp2_with fail
        first | (with_reducible refine wp_region_ext_on ?_ ?_ ?_) | refine wp_region_ext ?_ ?_ ?_
        · kernel_rfl
        · kernel_rfl
        repeat (go_big_quiet_step (first | fail))
        refine wpQuiet_nil ?_
        rintro _ ⟨t, rfl⟩
        go_wp2_with fail
        go_roundw
        case rel => exact ⟨k + 1, by omega, by go_num, grown_of⟩
        case measure => simp [intOf]; omega
      · go_wp2_with fail
        go_ret
        exact ⟨rfl, grown_of⟩
  · obtain rfl : l = [] := List.eq_nil_of_length_eq_zero (by omega)
    obtain ⟨o1, c1, rfl⟩ := owns_form hs
    obtain ⟨o2, c2, rfl⟩ := owns_form ht
    clear hs ht
    go_enter Try.func28, Try.ntmps28
    go_wp2_with fail
    refine wp_loop_rounds 1 ?_
    rw [rounds_succ]
    go_wp2_with fail
    go_ret
    exact ⟨rfl, grown_of⟩
end Go.Proofs.Ytjejobfhddlmeaa
