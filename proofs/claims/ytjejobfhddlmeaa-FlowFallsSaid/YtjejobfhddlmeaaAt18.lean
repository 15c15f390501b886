/-
  What a small world tells, with changes laid over it.
-/
import Derived.Test.YtjejobfhddlmeaaRef18
import Derived.Test.YtjejobfhddlmeaaLayOf
namespace Go.Proofs.Ytjejobfhddlmeaa
open Go.RowKit
attribute [local go_sem] ext_ext drew_ext ext_drew ext_cell ext_frozen in_lt in_le in_ne in_en in_ne1 in_en1 in_le1 in_ltn in_len in_nen in_enn size_le ite_max ite_min
set_option linter.unusedVariables false
set_option linter.unusedSimpArgs false

theorem named_grown {w W : World} {f : World → World} (h : W = ext w f) : Nonempty (Below w.heap.size w W) := ⟨by rw [h]; exact ext_below w f⟩
theorem below_thru (a b c : World) [h1 : Nonempty (Below a.heap.size a b)] [h2 : Nonempty (Below b.heap.size b c)] : Nonempty (Below a.heap.size a c) := ⟨by obtain ⟨h1⟩ := h1; obtain ⟨h2⟩ := h2; exact h1.trans (h2.mono h1.size)⟩

def eqcS (x y z a b c : Int) : Bool := decide (x = a ∧ y = b ∧ z = c)
theorem eqc_any (x y z a b c : Int) (w : World) : (Op.equalIn 10000 26 (.agg #[.int .i64 x, .int .i64 y, .int .i64 z]) (.agg #[.int .i64 a, .int .i64 b, .int .i64 c])).run Try.prog w = .ok (eqcS x y z a b c) w := by
  simp [go_sem]
  unfold eqcS
  by_cases h1 : x = a <;> by_cases h2 : y = b <;> by_cases h3 : z = c <;> simp [h1, h2, h3]
theorem eqc_self (x y z : Int) : eqcS x y z x y z = true := by simp [eqcS]
attribute [local go_sem ↓] eqc_any

theorem layS_take (V : Int → Int → Int → Int) (l : List Ch) (k : Nat) (x y z : Int) (hk : k < l.length) :
    layS V (l.take (k + 1)) x y z = if eqcS l[k].1 l[k].2.1 l[k].2.2.1 x y z = true then l[k].2.2.2 else layS V (l.take k) x y z := by
  rw [List.take_succ_eq_append_getElem hk, layS_snoc]
  unfold putS eqcS
  by_cases h : x = l[k].1 ∧ y = l[k].2.1 ∧ z = l[k].2.2.1
  · rw [if_pos h, if_pos (by rw [decide_eq_true_eq]; exact ⟨h.1.symm, h.2.1.symm, h.2.2.symm⟩)]
  · rw [if_neg h, if_neg (by rw [decide_eq_true_eq]; exact fun e => h ⟨e.1.symm, e.2.1.symm, e.2.2.symm⟩)]

/-- In a round: the world's own boxes. -/
structure AtIn (sv : Value) (el x y z : Int) (w wr : World) : Prop where
  out : ∃ f, wr = ext w f
  p0 : wr.cell? ⟨w.heap.size, 0, none⟩ = some sv
  p1 : wr.cell? ⟨w.heap.size, 1, none⟩ = some (.int .i64 el)
  c0 : wr.cell? ⟨w.heap.size + 1, 0, none⟩ = some (.int .i64 x)
  c1 : wr.cell? ⟨w.heap.size + 1, 1, none⟩ = some (.int .i64 y)
  c2 : wr.cell? ⟨w.heap.size + 1, 2, none⟩ = some (.int .i64 z)

theorem at_nil (bs : List Int) (sv : Value) (el x y z : Int) (w : World) (h : Blocks w sv bs) (og : Option Addr) (cap0 : Nat) :
    Calls Try.prog 19 #[.agg #[sv, .int .i64 el], .slice og 0 cap0, .agg #[.int .i64 x, .int .i64 y, .int .i64 z]] w fun e w' => e = .returned (.int .i64 (atS bs el x y z)) ∧ ∃ f, w' = ext w f := by
  have HB := Lib.hid h
  obtain ⟨og1, cap, rfl⟩ := owns_form h.1
  clear h
  go_enter Try.func19, Try.ntmps19
  go_wp2_with fail
  refine wp_loop_rounds 1 ?_
  rw [rounds_succ]
  go_wp2_with fail
  refine (refat_any _ _ _ _ _ _ _ (Blocks.grown HB.out (by exact grown_of))).mono ?_
  rintro e w1 ⟨rfl, _t, hw⟩
  have hc1 := named_cell hw
  have hz1 := named_frozen hw
  have hh1 := named_heap hw
  haveI hi1 := named_in hw
  haveI hb1 := named_below (w := w) hw
  clear hw
  go_wp2_with fail
  go_ret
  exact ⟨rfl, grown_of⟩

set_option maxHeartbeats 2000000 in
theorem atl_any (bs : List Int) (sv lv : Value) (l : List Ch) (b1 : Nat) (el x y z : Int) (w : World) (h : Blocks w sv bs) (hs : w.ownsRow b1 36 4 lv l.length (chV l)) (hl : l.length ≤ 1000) :
    Calls Try.prog 19 #[.agg #[sv, .int .i64 el], lv, .agg #[.int .i64 x, .int .i64 y, .int .i64 z]] w fun e w' => e = .returned (.int .i64 (layS (atS bs el) l x y z)) ∧ ∃ f, w' = ext w f := by
  by_cases h0 : 0 < l.length
  · obtain ⟨g, cap, rfl, _, _, _, hc⟩ := owns_some hs h0
    have hg : g < w.heap.size := (hs.lt g rfl).2
    have HC := Lib.hid hc
    have HB := Lib.hid h
    obtain ⟨og, cp, rfl⟩ := owns_form h.1
    have HT := Lib.hid (layS_take (atS bs el) l)
    obtain ⟨V, hV⟩ : ∃ V, V = atS bs el := ⟨_, rfl⟩
    rw [← hV] at HT
    have HV := Lib.hid hV
    have h00 : Hid (layS V l x y z = layS V (l.take ((((l.length : Int) - 1) + 1).toNat)) x y z) := Lib.hid (by rw [List.take_of_length_le (by omega)])
    clear hc hs h
    rw [← hV]
    clear hV
    go_enter Try.func19, Try.ntmps19
    go_wp2_with fail
    go_loopw [7] (fun i wr => ∃ j : Int, -1 ≤ j ∧ j < l.length ∧ i = .int .i64 j ∧ AtIn (.slice og bs.length cp) el x y z w wr ∧ Hid (layS V l x y z = layS V (l.take (j + 1).toNat) x y z)) (fun i _ => (intOf i + 1).toNat)
    case atStart =>
      refine ⟨(l.length : Int) - 1, by omega, by omega, rfl, ⟨grown_of, by go_simp, by go_simp, by go_simp, by go_simp, by go_simp⟩, h00⟩
    case round =>
      obtain ⟨j, j1, j2, rfl, hA, HL⟩ := hrel
      obtain ⟨hout, p0, p1, c0, c1, c2⟩ := hA
      haveI hb0 : Nonempty (Below w.heap.size w wr) := ⟨by obtain ⟨f, hf⟩ := hout; rw [hf]; exact ext_below w f⟩
      haveI := in_of_cell p0
      haveI := in_of_cell c0
      by_cases hj : 0 ≤ j
      · obtain ⟨k, rfl⟩ := Int.eq_ofNat_of_zero_le hj
        have hlt : k < l.length := by omega
        have hT := HT.out k x y z hlt
        obtain ⟨t0, t1, t2, t3⟩ := chV_at l k hlt
        have hcw : ∀ j u, (chV l)[j]? = some u → wr.cell? ⟨g, j, none⟩ = some u := fun j u hu => by
          obtain ⟨f, hf⟩ := hout
          rw [hf, (ext_below w f).cell (p := ⟨g, j, none⟩) hg]
          exact HC.out j u hu
        have d0 := hcw _ _ t0
        have d1 := hcw _ _ t1
        have d2 := hcw _ _ t2
        have d3 := hcw _ _ t3
        haveI := in_of_cell d0
        clear hcw t0 t1 t2 t3
        have e1 : ((k : Int) + 1).toNat = k + 1 := by omega
        rw [e1] at HL
        clear e1
        generalize l[k].1 = a at *
        generalize l[k].2.1 = b at *
        generalize l[k].2.2.1 = c at *
        generalize l[k].2.2.2 = e at *
        rcases heq : eqcS a b c x y z with _ | _
        · have HL2 : Hid (layS V l x y z = layS V (l.take k) x y z) := Lib.hid (by rw [HL.out, hT, heq]; rfl)
          clear hT HL
          have HO := Lib.hid hout
          clear hout
          go_wp2_with fail
          refine wp_region_ext ?_ ?_ ?_
          · kernel_rfl
          · kernel_rfl
          repeat (go_big_quiet_step (first | fail))
          refine wpQuiet_nil ?_
          rintro w1 ⟨_t, hw⟩
          have hc1 := named_cell hw
          have hz1 := named_frozen hw
          have hh1 := named_heap hw
          haveI hi1 := named_in hw
          haveI hb1 := named_below (w := w) hw
          clear hw
          go_wp2_with fail
          go_roundw
          case rel =>
            refine ⟨(k : Int) - 1, by omega, by omega, rfl, ⟨grown_of, by go_simp, by go_simp, by go_simp, by go_simp, by go_simp⟩, ?_⟩
            rw [show ((k : Int) - 1 + 1).toNat = k by omega]
            exact HL2
          case measure => simp [intOf] <;> omega
        · have HL2 : Hid (layS V l x y z = e) := Lib.hid (by rw [HL.out, hT, heq]; rfl)
          clear hT HL
          have HO := Lib.hid hout
          clear hout
          go_wp2_with fail
          refine wp_region_ext ?_ ?_ ?_
          · kernel_rfl
          · kernel_rfl
          repeat (go_big_quiet_step (first | fail))
          refine wpQuiet_nil ?_
          rintro w1 ⟨_t, hw⟩
          have hc1 := named_cell hw
          have hz1 := named_frozen hw
          have hh1 := named_heap hw
          haveI hi1 := named_in hw
          haveI hb1 := named_below (w := w) hw
          clear hw
          go_wp2_with fail
          go_ret
          exact ⟨ret_int HL2.out.symm, grown_of⟩
      · obtain rfl : j = -1 := by omega
        have HL2 : Hid (layS V l x y z = V x y z) := HL
        have HO := Lib.hid hout
        have HBW := Lib.hid (Blocks.grown HB.out hout)
        clear hout
        go_wp2_with fail
        refine (refat_any _ _ _ _ _ _ _ HBW.out).mono ?_
        rintro e w1 ⟨rfl, _t, hw⟩
        have hc1 := named_cell hw
        have hz1 := named_frozen hw
        have hh1 := named_heap hw
        haveI hi1 := named_in hw
        haveI hb1 := named_below (w := w) hw
        clear hw
        go_wp2_with fail
        go_ret
        exact ⟨ret_int (by rw [HL2.out, HV.out]), grown_of⟩
  · obtain rfl : l = [] := List.eq_nil_of_length_eq_zero (by omega)
    obtain ⟨o1, c1, rfl⟩ := owns_form hs
    exact at_nil bs sv el x y z w h o1 c1
end Go.Proofs.Ytjejobfhddlmeaa
