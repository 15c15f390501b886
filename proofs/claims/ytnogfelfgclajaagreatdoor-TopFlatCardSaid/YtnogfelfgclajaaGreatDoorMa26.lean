/-
  Updates that wait: those of a cell struck out of their row.
  Updates that wait: those of a cell struck out of their row, all of them.
  Updates that wait: the queue.
-/
import Derived.Test.YtnogfelfgclajaaGreatDoorMa25
import Derived.Maps.OwnSet
import Derived.Carry
import Derived.DeepKeys4
section
namespace Go.Proofs.YtnogfelfgclajaaGreatDoor
open Go.RowKit
attribute [local go_sem] ext_ext drew_ext ext_drew ext_cell ext_frozen in_lt in_le in_ne in_en in_ne1 in_en1 in_le1 in_ltn in_len in_nen in_enn size_le ite_max ite_min
set_option linter.unusedVariables false
set_option linter.unusedSimpArgs false

def eqcS (x y z a b c : Int) : Bool := decide (x = a ∧ y = b ∧ z = c)
theorem eqc_any (x y z a b c : Int) (w : World) : (Op.equalIn 10000 30 (.agg #[.int .i64 x, .int .i64 y, .int .i64 z]) (.agg #[.int .i64 a, .int .i64 b, .int .i64 c])).run Tryz.prog w = .ok (eqcS x y z a b c) w := by
  simp [go_sem]
  unfold eqcS
  by_cases h1 : x = a <;> by_cases h2 : y = b <;> by_cases h3 : z = c <;> simp [h1, h2, h3]
attribute [local go_sem ↓] eqc_any
theorem drop1_any (a0 a1 a2 a3 x y z : Int) (cb : Nat) (w : World) (h0 : w.cell? ⟨cb, 0, none⟩ = some (.int .i64 x)) (h1 : w.cell? ⟨cb, 1, none⟩ = some (.int .i64 y)) (h2 : w.cell? ⟨cb, 2, none⟩ = some (.int .i64 z)) :
    Calls Tryz.prog 346 #[.agg #[.int .i64 a0, .int .i64 a1, .int .i64 a2, .int .i64 a3], .pointer (some ⟨cb, 0, none⟩)] w fun e w' => e = .returned (.bool (eqcS a1 a2 a3 x y z)) ∧ ∃ f, w' = ext w f := by
  haveI := in_of_cell h0
  go_enter Tryz.func346, Tryz.ntmps346
  go_wp2_with fail
  go_ret
  exact ⟨rfl, grown_of⟩
theorem clear_items {W : World} (ty : TypeId) {g d o m c : Nat} {cur : Array Value} (hg : W.heap[g]? = some (.cells cur 264 (0, 0))) (ho : o = d * 4) (hfit : (d + m) * 4 ≤ cur.size) :
    ∃ W', (Builtin.clear_ #[191] ty #[.slice (some ⟨g, o, none⟩) m c]).run Tryz.prog W = .ok (.tuple #[]) W' ∧
      (∃ cur', W'.heap[g]? = some (.cells cur' 264 (0, 0)) ∧ cur'.size = cur.size ∧ ∀ j, IsNum cur j → IsNum cur' j) ∧ Turn (fun k => k = g) W W' := by
  rcases m with _ | m
  · exact ⟨W, by simp [Builtin.clear_, run_underlying Tryz.underlying191], ⟨cur, hg, rfl, fun j h => h⟩, Turn.refl _ _⟩
  · have hz : ∀ w, (zeroValue 264).run Tryz.prog w = .ok (.agg #[.int .i64 0, .int .i64 0, .int .i64 0, .int .i64 0]) w := fun w => by kernel_rfl
    obtain ⟨vs, hvs⟩ : ∃ vs, (Builtin.zeroCells #[.int .i64 0, .int .i64 0, .int .i64 0, .int .i64 0] (m + 1)).toList = vs := ⟨_, rfl⟩
    have hl : vs.length = (m + 1) * 4 := by rw [← hvs, Array.length_toList, size_zeroCells]; rfl
    have hn : ∀ j, j < (m + 1) * 4 → vs[j]? = some (.int .i64 0) := fun j hj => by
      obtain ⟨i, hi⟩ := zero_nums (m + 1) j hj
      rw [← hvs]
      simp only [Array.getElem?_toList]
      rw [hi]
      have h4 : (Builtin.zeroCells #[Value.int .i64 0, .int .i64 0, .int .i64 0, .int .i64 0] (m + 1))[j]? = some (.int .i64 0) := by
        rw [Array.getElem?_eq_getElem (by rw [size_zeroCells]; exact hj)]
        simp only [Builtin.zeroCells, Array.getElem_ofFn]
        have h4 : j % 4 < 4 := Nat.mod_lt _ (by omega)
        simp
        rcases h : j % 4 with _ | _ | _ | _ | q
        all_goals first | rfl | (simp; done) | omega
      rw [← hi, h4]
    have h1 : ∀ v ∈ vs, v.oneCell' = true := fun v hv => by
      obtain ⟨j, hj, rfl⟩ := List.getElem_of_mem hv
      have := hn j (by omega)
      rw [List.getElem?_eq_getElem hj] at this
      rw [Option.some.inj this]
      rfl
    have hst := run_storeCells_at Tryz.prog g o 264 vs 0 cur W hg (by omega) h1
    simp only [Nat.add_zero] at hst
    refine ⟨W.setRow g (cur.toList.take o ++ vs ++ cur.toList.drop (o + vs.length)).toArray, ?_, ⟨_, setRow_heap W g cur _ _ _ hg, ?_, fun j hj => ?_⟩, ⟨rfl, rfl, rfl, by simp, fun k _ hk => setRow_other W g k _ (fun e => hk (by first | exact e | exact e.symm))⟩⟩
    · simp [Builtin.clear_, run_underlying Tryz.underlying191, hz, Value.cells, hvs, hst]
    · simp only [List.size_toArray, List.length_append, List.length_take, List.length_drop, Array.length_toList]
      omega
    · obtain ⟨x, hx⟩ := hj
      have hjs := (Array.getElem?_eq_some_iff.1 hx).1
      unfold IsNum
      simp only [List.getElem?_toArray]
      have ht : (cur.toList.take o).length = o := by simp; omega
      by_cases h2 : j < o
      · rw [List.append_assoc, List.getElem?_append_left (by omega), List.getElem?_take_of_lt h2]
        exact ⟨x, by simpa using hx⟩
      · by_cases h3 : j < o + vs.length
        · rw [List.append_assoc, List.getElem?_append_right (by omega), ht, List.getElem?_append_left (by omega)]
          exact ⟨0, hn _ (by omega)⟩
        · rw [List.getElem?_append_right (by rw [List.length_append, ht]; omega), List.length_append, ht, List.getElem?_drop]
          refine ⟨x, ?_⟩
          rw [show o + vs.length + (j - (o + vs.length)) = j by omega]
          simpa using hx
theorem wpList_clear_of {P : Program} {w : World} {R : World → Prop} {ops : Array Oper} {rest : List Oper} {o : Oper} {a : Act} {Q : Exit → Act → World → Prop} (hgd : o.guard = none) (d : Operand) (t : TypeId)
    (ho : o.op = .call { callee := .builtin .clear, args := #[d], argTypes := #[t] }) (u1 : Value) (e1 : a.eval d = u1)
    (hr : ∃ w', (Builtin.clear_ #[t] o.type #[u1]).run P w = .ok (.tuple #[]) w' ∧ R w')
    (h : ∀ w', R w' → wpList P ops Q rest (a.put o.dst (.tuple #[])) w') : wpList P ops Q (o :: rest) a w := by
  obtain ⟨w', hr, h2⟩ := hr
  refine wpList_plain hgd fun K hK => ?_
  unfold Oper.wp execOp
  simp only [ho, resolve, invoke, builtin, Sem.run_bind, Sem.run_pure, Result.andThen_ok, List.map_toArray, List.map_cons, List.map_nil, e1, hr]
  exact hK _ _ (h w' h2)
/-- Where the first such item stands, if anywhere. -/
def SomeOr (n : Nat) (w : World) (e : Ending) (w' : World) : Prop := ((e = .returned (.int .i64 (-1))) ∨ ∃ i : Nat, i < n ∧ e = .returned (.int .i64 (i : Int))) ∧ ∃ f, w' = ext w f
/-- What the walks read of a row. -/
def ItemsAt (w : World) (og : Option Addr) (n : Nat) : Prop := ∀ k, k < n → ∃ g, og = some ⟨g, 0, none⟩ ∧ ∃ i0 i1 i2 i3 : Int, w.cell? ⟨g, k * 4, none⟩ = some (.int .i64 i0) ∧ w.cell? ⟨g, k * 4 + 1, none⟩ = some (.int .i64 i1) ∧ w.cell? ⟨g, k * 4 + 2, none⟩ = some (.int .i64 i2) ∧ w.cell? ⟨g, k * 4 + 3, none⟩ = some (.int .i64 i3)
theorem QRow.items {B : Nat} {w : World} {og : Option Addr} {n m cap : Nat} (h : QRow B w (.slice og m cap) n) : ItemsAt w og n := fun k hk => by
  obtain ⟨g, cap', hv, _, _, _, hc⟩ := h.cells (by omega)
  injection hv with e1 e2 e3
  obtain ⟨i0, h0⟩ := hc (k * 4) (by omega)
  obtain ⟨i1, h1⟩ := hc (k * 4 + 1) (by omega)
  obtain ⟨i2, h2⟩ := hc (k * 4 + 2) (by omega)
  obtain ⟨i3, h3⟩ := hc (k * 4 + 3) (by omega)
  exact ⟨g, e1, i0, i1, i2, i3, h0, h1, h2, h3⟩
set_option maxRecDepth 100000 in
set_option maxHeartbeats 1000000 in
theorem itemix_any (og : Option Addr) (n cap : Nat) (x y z : Int) (cb : Nat) (w : World) (h : ItemsAt w og n) (hn : n ≤ 10000) (h0 : w.cell? ⟨cb, 0, none⟩ = some (.int .i64 x)) (h1 : w.cell? ⟨cb, 1, none⟩ = some (.int .i64 y)) (h2 : w.cell? ⟨cb, 2, none⟩ = some (.int .i64 z)) :
    Calls Tryz.prog 364 #[.slice og n cap, .func (.func 346) #[] #[.pointer (some ⟨cb, 0, none⟩)]] w (SomeOr n w) := by
  have eg : ∀ args W, (callFunc 346 args).run Tryz.prog W = .ok (.enter 346 args) W := fun args W => by kernel_rfl
  have HC := Lib.hid h
  have n1 : (n : Int) ≤ 10000 := by omega
  haveI := in_of_cell h0
  clear h
  go_enter Tryz.func364, Tryz.ntmps364
  go_wp2_with fail
  go_loopw [5, 8] (fun _ s8 wr => ∃ k : Nat, k ≤ n ∧ s8 = .int .i64 (k : Int) ∧ ∃ f, wr = ext w f) (fun _ s8 _ => n - (intOf s8).toNat)
  case atStart => exact ⟨0, by omega, rfl, ⟨id, by unfold ext; split <;> rfl⟩⟩
  case round =>
    obtain ⟨k, hk, rfl, _, hw⟩ := hrel
    rename World => w1
    haveI hg1 := named_grown hw
    haveI hb1 := named_below (w := w) hw
    have hc1 := named_cell hw
    haveI hi1 := named_in hw
    clear hw
    by_cases hlt : k < n
    · obtain ⟨g, rfl, i0, i1, i2, i3, d0, d1, d2, d3⟩ := HC.out k hlt
      haveI := in_of_cell d0
      have HK := Lib.hid hlt
      have k1 : (k : Int) < (n : Int) := by omega
      have DR := Lib.hid (drop1_any i0 i1 i2 i3 x y z cb w1 (by rw [hc1]; exact h0) (by rw [hc1]; exact h1) (by rw [hc1]; exact h2))
      clear hlt hk
      generalize eqcS i1 i2 i3 x y z = bb at DR
      cases bb
      · go_wp2_with fail
        refine DR.out.mono ?_
        rintro e w2 ⟨rfl, _t, hw⟩
        haveI hb2 := named_below (w := w) hw
        clear hw DR
        go_wp2_with fail
        go_roundw
        case rel => exact ⟨k + 1, by have := HK.out; omega, by go_num, grown_of⟩
        case measure => have := HK.out; simp [intOf]; omega
      · go_wp2_with fail
        refine DR.out.mono ?_
        rintro e w2 ⟨rfl, _t, hw⟩
        haveI hb2 := named_below (w := w) hw
        clear hw DR
        go_wp2_with fail
        go_ret
        exact ⟨.inr ⟨k, HK.out, rfl⟩, grown_of⟩
    · have k1 : ¬ (k : Int) < (n : Int) := by omega
      clear hlt hk
      go_wp2_with fail
      go_ret
      exact ⟨.inl rfl, grown_of⟩
#print axioms itemix_any
end Go.Proofs.YtnogfelfgclajaaGreatDoor
end

section
namespace Go.Proofs.YtnogfelfgclajaaGreatDoor
open Go.RowKit
attribute [local go_sem] ext_ext drew_ext ext_drew ext_cell ext_frozen in_lt in_le in_ne in_en in_ne1 in_en1 in_le1 in_ltn in_len in_nen in_enn size_le ite_max ite_min
set_option linter.unusedVariables false
set_option linter.unusedSimpArgs false

/-- The row's block: numbers, up to some place. -/
def NumBlk (w : World) (g cap n : Nat) : Prop := ∃ cur, w.heap[g]? = some (.cells cur 264 (0, 0)) ∧ cur.size = cap * 4 ∧ ∀ j, j < n * 4 → IsNum cur j
theorem NumBlk.ext {w W : World} {g cap n : Nat} (h : NumBlk w g cap n) (hW : Below w.heap.size w W) : NumBlk W g cap n := by
  obtain ⟨cur, h1, h2⟩ := h
  exact ⟨cur, (hW.block _ (lt_of_block h1)).trans h1, h2⟩
theorem NumBlk.at4 {w : World} {g cap n : Nat} (h : NumBlk w g cap n) (k : Nat) (hk : k < n) : ∃ i0 i1 i2 i3 : Int, w.cell? ⟨g, k * 4, none⟩ = some (.int .i64 i0) ∧ w.cell? ⟨g, k * 4 + 1, none⟩ = some (.int .i64 i1) ∧ w.cell? ⟨g, k * 4 + 2, none⟩ = some (.int .i64 i2) ∧ w.cell? ⟨g, k * 4 + 3, none⟩ = some (.int .i64 i3) := by
  obtain ⟨cur, h1, _, h2⟩ := h
  obtain ⟨i0, a0⟩ := h2 (k * 4) (by omega)
  obtain ⟨i1, a1⟩ := h2 (k * 4 + 1) (by omega)
  obtain ⟨i2, a2⟩ := h2 (k * 4 + 2) (by omega)
  obtain ⟨i3, a3⟩ := h2 (k * 4 + 3) (by omega)
  exact ⟨i0, i1, i2, i3, cell_of_block h1 a0, cell_of_block h1 a1, cell_of_block h1 a2, cell_of_block h1 a3⟩
theorem NumBlk.free {w : World} {g cap n : Nat} (h : NumBlk w g cap n) (k : Nat) : w.frozen? ⟨g, k, none⟩ = false := by
  obtain ⟨cur, h1, _, h2⟩ := h
  exact free_of_block k h1
theorem NumBlk.set {w : World} {g cap n : Nat} (h : NumBlk w g cap n) (k : Nat) (x : Int) (hk : k < n * 4) : NumBlk (w.setCell ⟨g, k, none⟩ (.int .i64 x)) g cap n := by
  obtain ⟨cur, h1, hs, h2⟩ := h
  have hks : k < cur.size := by obtain ⟨i, hi⟩ := h2 k hk; exact (Array.getElem?_eq_some_iff.1 hi).1
  refine ⟨_, block_set h1 _ hks, by simpa using hs, fun j hj => ?_⟩
  by_cases e : k = j
  · subst e
    exact ⟨x, by simp [hks]⟩
  · obtain ⟨i, hi⟩ := h2 j hj
    exact ⟨i, by rw [Array.getElem?_setIfInBounds_ne e]; exact hi⟩
/-- A row with no more items than before. -/
def QDel (B n : Nat) (lv : Value) (w : World) (e : Ending) (w' : World) : Prop := ∃ v m, e = .returned v ∧ m ≤ n ∧ QRow B w' v m ∧ Turn (fun k => lv.ownBlock = some k) w w'
set_option maxRecDepth 100000 in
set_option maxHeartbeats 1000000 in
theorem delete_any (B : Nat) (lv : Value) (n : Nat) (x y z : Int) (cb : Nat) (w : World) (h : QRow B w lv n) (hn : n ≤ 10000) (h0 : w.cell? ⟨cb, 0, none⟩ = some (.int .i64 x)) (h1 : w.cell? ⟨cb, 1, none⟩ = some (.int .i64 y)) (h2 : w.cell? ⟨cb, 2, none⟩ = some (.int .i64 z)) (hne : lv.ownBlock ≠ some cb) :
    Calls Tryz.prog 345 #[lv, .func (.func 346) #[] #[.pointer (some ⟨cb, 0, none⟩)]] w (QDel B n lv w) := by
  have eg : ∀ args W, (callFunc 346 args).run Tryz.prog W = .ok (.enter 346 args) W := fun args W => by kernel_rfl
  obtain ⟨og, cap, rfl⟩ := h.form
  have IX := itemix_any og n cap x y z cb w h.items hn h0 h1 h2
  have n0 : (0 : Int) ≤ (n : Int) := Int.natCast_nonneg _
  have n1 : (n : Int) ≤ 10000 := by omega
  have H := Lib.hid h
  have HQ := Lib.hid (And.intro h0 (And.intro h1 h2))
  have HNE := Lib.hid hne
  clear h h0 h1 h2 hne hn
  go_enter Tryz.func345, Tryz.ntmps345
  go_wp2_with fail
  refine IX.mono ?_
  rintro e w1 ⟨hr, _t, hw⟩
  have B1 := Lib.hid (show Below w.heap.size w w1 from by rw [hw]; exact ext_below w _)
  clear hw IX
  rcases hr with rfl | ⟨a, ha, rfl⟩
  · go_wp2_with fail
    go_ret
    exact ⟨_, n, rfl, Nat.le_refl _, H.out.grown B1.out, turn_below B1.out⟩
  · obtain ⟨g, cap', hv, hnc, hBg, ⟨cs, hcs, hsz⟩, hnum⟩ := (H.out.grown B1.out).cells (by omega)
    injection hv with e1 e2 e3
    subst e1 e3
    have hcm : cap ≤ maxLen := by
      obtain ⟨xs, h, _⟩ := H.out
      rcases h.2 with ⟨_, h0⟩ | ⟨g', cap', cur, hv, _, _, _, hm, _⟩
      · omega
      · injection hv with _ _ e3; omega
    have hcg : ¬ cb = g := fun e => HNE.out (by rw [e]; rfl)
    have N1 : Hid (NumBlk w1 g cap n) := Lib.hid ⟨cs, hcs, hsz, fun j hj => by
      obtain ⟨x, hx⟩ := hnum j hj
      refine ⟨x, ?_⟩
      simpa [World.cell?, hcs] using hx⟩
    have a0 : (0 : Int) ≤ (a : Int) := Int.natCast_nonneg _
    have a1 : (a : Int) < (n : Int) := by omega
    have HC := Lib.hid (And.intro hcg (And.intro hBg (And.intro hnc hcm)))
    have L1 := Lib.hid (lt_of_block hcs)
    have na : ¬ ((a : Int) = -1) := by omega
    have HA := Lib.hid ha
    have hlc : Hid (cb < w.heap.size) := Lib.hid (World.block_lt_of_cell? w _ HQ.out.1)
    clear hcs hsz hnum hcg hBg hnc hcm ha
    go_wp2_with fail
    go_loopw [5, 6, 7] (fun s5 s6 _ wr => ∃ i j : Nat, i < j ∧ j ≤ n ∧ s5 = .int .i64 (i : Int) ∧ s6 = .int .i64 (j : Int) ∧ Hid (NumBlk wr g cap n) ∧ Hid (Turn (fun k => k = g) w wr)) (fun _ s6 _ _ => n - (intOf s6).toNat)
    case atStart => exact ⟨a, a + 1, by omega, by have := HA.out; omega, rfl, by go_num, N1, Lib.hid (turn_below B1.out)⟩
    case round =>
      obtain ⟨i, j, hij, hjn, rfl, rfl, HN, HT⟩ := hrel
      rename World => w2
      have q0 : (0 : Int) ≤ (i : Int) := Int.natCast_nonneg _
      have q1 : (i : Int) < (n : Int) ∨ True := .inr trivial
      have q2 : (0 : Int) ≤ (j : Int) := Int.natCast_nonneg _
      by_cases hlt : j < n
      · obtain ⟨i0, i1, i2, i3, d0, d1, d2, d3⟩ := HN.out.at4 j hlt
        haveI := in_of_cell d0
        have HJ := Lib.hid (And.intro hij hlt)
        have r0 : (j : Int) < (n : Int) := by omega
        have r1 : (i : Int) < (n : Int) := by omega
        have cc : ∀ o, w2.cell? ⟨cb, o, none⟩ = w.cell? ⟨cb, o, none⟩ := fun o => HT.out.cell (p := ⟨cb, o, none⟩) hlc.out HC.out.1
        have DR := Lib.hid (fun (W : World) (hW : Below w2.heap.size w2 W) => drop1_any i0 i1 i2 i3 x y z cb W
          (by rw [hW.cell (p := ⟨cb, 0, none⟩) (Nat.lt_of_lt_of_le hlc.out HT.out.size), cc]; exact HQ.out.1)
          (by rw [hW.cell (p := ⟨cb, 1, none⟩) (Nat.lt_of_lt_of_le hlc.out HT.out.size), cc]; exact HQ.out.2.1)
          (by rw [hW.cell (p := ⟨cb, 2, none⟩) (Nat.lt_of_lt_of_le hlc.out HT.out.size), cc]; exact HQ.out.2.2))
        generalize eqcS i1 i2 i3 x y z = bb at DR
        clear cc hij hjn hlt q1
        cases bb
        · go_wp2_with fail
          refine (DR.out _ (by exact grown_now)).mono ?_
          rintro e w3 ⟨rfl, _t, hw⟩
          haveI hg3 := named_grown hw
          haveI hb32 := named_below (w := w2) hw
          have hc3 := named_cell hw
          have hz3 := named_frozen hw
          haveI hi3 := named_in hw
          clear hw DR
          have B3 := Lib.hid (grown_now (w := w2) (W := w3))
          have N3 := Lib.hid (HN.out.ext B3.out)
          obtain ⟨k0, k1, k2, k3, e0, e1, e2, e3⟩ := N3.out.at4 i (by have := HJ.out; omega)
          have f0 := N3.out.free (i * 4)
          have f1 := N3.out.free (i * 4 + 1)
          have f2 := N3.out.free (i * 4 + 2)
          have f3 := N3.out.free (i * 4 + 3)
          have NS := Lib.hid ((((N3.out.set (i * 4) i0 (by have := HJ.out; omega)).set (i * 4 + 1) i1 (by have := HJ.out; omega)).set (i * 4 + 2) i2 (by have := HJ.out; omega)).set (i * 4 + 3) i3 (by have := HJ.out; omega))
          have TS := Lib.hid (((((HT.out.trans (turn_below (F := fun _ => False) B3.out) (fun _ _ h => h.elim)).setIn (a := ⟨g, i * 4, none⟩) rfl (.int .i64 i0)).setIn (a := ⟨g, i * 4 + 1, none⟩) rfl (.int .i64 i1)).setIn (a := ⟨g, i * 4 + 2, none⟩) rfl (.int .i64 i2)).setIn (a := ⟨g, i * 4 + 3, none⟩) rfl (.int .i64 i3))
          haveI := in_of_cell e0
          have v0 : w3.cell? ⟨w2.heap.size, 0, none⟩ = some (.int .i64 i0) := (hc3 _ _).trans (by go_simp)
          have v1 : w3.cell? ⟨w2.heap.size, 1, none⟩ = some (.int .i64 i1) := (hc3 _ _).trans (by go_simp)
          have v2 : w3.cell? ⟨w2.heap.size, 2, none⟩ = some (.int .i64 i2) := (hc3 _ _).trans (by go_simp)
          have v3 : w3.cell? ⟨w2.heap.size, 3, none⟩ = some (.int .i64 i3) := (hc3 _ _).trans (by go_simp)
          clear hc3 hz3
          go_wp2_with fail
          go_roundw
          case rel =>
            (repeat apply Exists.intro)
            exact ⟨⟨i + 1, j + 1, by have := HJ.out; omega, by have := HJ.out; omega, by go_num, by go_num, NS, TS⟩, rfl⟩
          case measure => have := HJ.out; simp [intOf]; omega
        · go_wp2_with fail
          refine (DR.out _ (by exact grown_now)).mono ?_
          rintro e w3 ⟨rfl, _t, hw⟩
          haveI hg3 := named_grown hw
          haveI hb32 := named_below (w := w2) hw
          clear hw DR
          have B3 := Lib.hid (grown_now (w := w2) (W := w3))
          have N3 := Lib.hid (HN.out.ext B3.out)
          have T3 := Lib.hid (HT.out.trans (turn_below (F := fun _ => False) B3.out) (fun _ _ h => h.elim))
          go_wp2_with fail
          go_roundw
          case rel =>
            (repeat apply Exists.intro)
            exact ⟨⟨i, j + 1, by have := HJ.out; omega, by have := HJ.out; omega, rfl, by go_num, N3, T3⟩, rfl⟩
          case measure => have := HJ.out; simp [intOf]; omega
      · have hi : i < n := by omega
        have HI := Lib.hid hi
        have r0 : ¬ (j : Int) < (n : Int) := by omega
        have r1 : (i : Int) ≤ (n : Int) := by omega
        have r2 : (n : Int) ≤ (cap : Int) := by have := HC.out.2.2.1; omega
        have r3 : (i : Int) ≤ (cap : Int) := by omega
        have r4 : ¬ (cap = i) := by have := HC.out.2.2.1; omega
        obtain ⟨cur, hcur, hcs, hcn⟩ := HN.out
        have HCU := Lib.hid (And.intro hcur (And.intro hcs hcn))
        have CL := Lib.hid (show ∀ ty c, _ from fun ty c => clear_items (W := w2) ty (g := g) (d := i) (o := i * 4) (m := n - i) (c := c) hcur rfl (by rw [hcs]; have := HC.out.2.2.1; omega))
        clear hij hjn hlt q1 hi hcur hcs hcn
        go_wp2_with
          (refine wpList_clear_of rfl (.tmp 38) 191 rfl _ rfl (CL.out _ _) ?_; rintro w4 ⟨⟨cur4, h4, hs4, hn4⟩, hT4⟩
           have C4 := Lib.hid (And.intro h4 (And.intro hs4 hn4))
           have T4 := Lib.hid (HT.out.trans hT4 (fun _ _ h => h))
           clear h4 hs4 hn4 hT4)
        go_ret
        refine ⟨_, i, rfl, by have := HI.out; omega, qrow_of HC.out.2.1 C4.out.1 (by rw [C4.out.2.1, HCU.out.2.1]) (by have := HI.out; have := HC.out.2.2.1; omega) HC.out.2.2.2 (fun j hj => C4.out.2.2 j (HCU.out.2.2 j (by have := HI.out; omega))), T4.out.mono (fun k _ e => by rw [e]; rfl)⟩
#print axioms delete_any
end Go.Proofs.YtnogfelfgclajaaGreatDoor
end

section
namespace Go.Proofs.YtnogfelfgclajaaGreatDoor
open Go.RowKit
attribute [local go_sem] ext_ext drew_ext ext_drew ext_cell ext_frozen in_lt in_le in_ne in_en in_ne1 in_en1 in_le1 in_ltn in_len in_nen in_enn size_le ite_max ite_min
set_option linter.unusedVariables false
set_option linter.unusedSimpArgs false

set_option maxRecDepth 1000000
theorem laidOutF : laidOutB Tryz.prog = true := by kernel_rfl
theorem cellRow18 : (30 : TypeId) < Tryz.prog.types.size := of_decide_eq_true (by kernel_rfl)
theorem cellWide : (match Tryz.prog.underlying 30 with | some (.array _ _) | some (.struct _) => true | _ => false) = true := by rw [Tryz.underlying30]
theorem cellKey : Maps.Keyed Tryz.prog 30 := Maps.Keyed.of_law (deep_law_laid laidOutF (m := 2) (by omega) cellRow18 (by kernel_rfl) cellWide)
theorem cells3 : Tryz.prog.cellsOf 30 = 3 := by kernel_rfl
/-- A cell, as a key. -/
def ckey (x y z : Int) : Lit := .string (keyBytes [.int .i64 x, .int .i64 y, .int .i64 z])
theorem wid_wf {n : Int} (h : Wid n) : (Lit.int .i64 n).wf = true := by
  have h1 := h.1
  have h2 := h.2
  have hmin : IntKind.i64.min = -9223372036854775808 := rfl
  have hmax : IntKind.i64.max = 9223372036854775807 := rfl
  simp only [Lit.wf, Bool.and_eq_true, decide_eq_true_eq, hmin, hmax]
  omega
theorem ckey_of {x y z : Int} (hx : Wid x) (hy : Wid y) (hz : Wid z) : keyOf Tryz.prog 30 (.agg #[.int .i64 x, .int .i64 y, .int .i64 z]) = some (ckey x y z) := by
  obtain ⟨m, hm⟩ : ∃ m, Tryz.prog.types.size = m + 1 := ⟨Tryz.prog.types.size - 1, by have : 0 < Tryz.prog.types.size := Nat.lt_of_le_of_lt (Nat.zero_le _) cellRow18; omega⟩
  have hk : Tryz.prog.keyType 30 = true := by kernel_rfl
  have hf : (Value.agg #[.int .i64 x, .int .i64 y, .int .i64 z]).formed Tryz.prog 30 = true := by simp [Value.formed, Tryz.underlying30, cells3]
  have hi : ∀ n, Wid n → Tryz.prog.keyLits (m + 1) 3 [.int .i64 n] = some [.int .i64 n] := fun n h => by
    unfold Program.keyLits
    simp [Tryz.underlying3, wid_wf h]
  have c1 : Tryz.prog.cellsOf 3 = 1 := by kernel_rfl
  unfold keyOf
  rw [Tryz.underlying30]
  simp only [hk, hf, Bool.and_self, if_true]
  rw [hm]
  unfold Program.keyLits
  rw [Tryz.underlying30]
  simp [Value.cells, cells3, c1, hi x hx, hi y hy, hi z hz, ckey]
theorem zeroInt (w : World) : (zeroValue 3).run Tryz.prog w = .ok (.int .i64 0) w := by kernel_rfl
/-- A map of cells' ticks. -/
def QMap (w : World) (b k : Nat) : Prop := ∃ D : DataW Unit, w.ownsMap Tryz.prog 30 (Go.plainElem Tryz.prog 3) b k D
theorem QMap.keep {w W : World} {b k : Nat} (h : QMap w b k) (hb : W.heap[b]? = w.heap[b]?) : QMap W b k := by
  obtain ⟨D, es, clock, h1, rest⟩ := h
  exact ⟨D, es, clock, hb.trans h1, rest⟩
theorem QMap.lt {w : World} {b k : Nat} (h : QMap w b k) : b < w.heap.size := by
  obtain ⟨D, h⟩ := h; exact h.lt
theorem QMap.cells {w : World} {b k : Nat} (h : QMap w b k) {g : Nat} {c : Array Value} {T : TypeId} {fz : Nat × Nat} (hg : w.heap[g]? = some (.cells c T fz)) : ¬ g = b := by
  rintro rfl
  obtain ⟨D, es, clock, h1, _⟩ := h
  rw [hg] at h1
  cases h1
theorem QMap.look {w : World} {b k : Nat} (h : QMap w b k) {x y z : Int} (hx : Wid x) (hy : Wid y) (hz : Wid z) : ∃ (c : Int) (r : Bool), ∀ W, W.heap[b]? = w.heap[b]? →
    (Instr.lookup 190 (.map (some b)) (.agg #[.int .i64 x, .int .i64 y, .int .i64 z]) true).run Tryz.prog W = .ok (.tuple #[.int .i64 c, .bool r]) W := by
  obtain ⟨D, h⟩ := h
  have key : ∀ W, W.heap[b]? = w.heap[b]? → ∃ c : Int, D.atKey (ckey x y z) (.lit (.int .i64 0)) = .lit (.int .i64 c) ∧ (Instr.lookup 190 (.map (some b)) (.agg #[.int .i64 x, .int .i64 y, .int .i64 z]) true).run Tryz.prog W = .ok (.tuple #[.int .i64 c, .bool (Maps.has D (ckey x y z))]) W := fun W hW => by
    have h' : W.ownsMap Tryz.prog 30 (Go.plainElem Tryz.prog 3) b k D := by
      obtain ⟨es, clock, h1, rest⟩ := h
      exact ⟨es, clock, hW.trans h1, rest⟩
    obtain ⟨v, ps, hrun, hv⟩ := h'.look_ok cellKey Tryz.underlying190 (zeroInt W) (plainElem_int Tryz.underlying3 (by decide)) (ckey_of hx hy hz)
    obtain ⟨c, rfl, hc, _⟩ := plainElem_int_inv Tryz.underlying3 hv
    exact ⟨c, congrArg Prod.fst hc, hrun⟩
  obtain ⟨c, hc, _⟩ := key w rfl
  refine ⟨c, Maps.has D (ckey x y z), fun W hW => ?_⟩
  obtain ⟨c', hc', hr⟩ := key W hW
  rw [hc] at hc'
  injection hc' with hc'
  injection hc' with _ hc'
  rw [hc']
  exact hr
/-- The queue; c: how many cells were let wait at most. -/
structure QAt (B : Nat) (w : World) (qu mq c : Nat) (lv : Value) (n k : Nat) : Prop where
  blk : w.heap[qu]? = some (.cells #[.int .i64 4096, .int .i64 0, lv, .map (some mq)] 193 (0, 0))
  row : QRow B w lv n
  map : QMap w mq k
  lo : B ≤ qu
  mlo : B ≤ mq
  nc : n ≤ c
  kc : k ≤ c
def QOf (B : Nat) (w : World) (qu mq c : Nat) : Prop := ∃ lv n k, QAt B w qu mq c lv n k
/-- What turns where the queue does. -/
abbrev tyQueue : List TypeId := [193, 264]
def QF (B mq : Nat) (w : World) (k : Nat) : Prop := Ty B tyQueue w k ∨ k = mq
theorem Turn.qf {B mq : Nat} {a b c : World} (h : Turn (QF B mq a) a b) (k : Turn (QF B mq b) b c) : Turn (QF B mq a) a c :=
  h.trans k (fun i hi hb => by
    by_cases ha : QF B mq a i
    · exact ha
    · rcases hb with ⟨h1, c', T, fz, h2, h3⟩ | h1
      · exact .inl ⟨h1, c', T, fz, (h.block i hi ha).symm.trans h2, h3⟩
      · exact .inr h1)
theorem qf_no {B mq : Nat} {w : World} {b : Nat} {c : Array Value} {T : TypeId} {fz : Nat × Nat} {k : Nat} (hm : QMap w mq k) (h : w.heap[b]? = some (.cells c T fz)) (hT : T ∉ tyQueue) : ¬ QF B mq w b := by
  rintro (h1 | h1)
  · exact ty_no h hT h1
  · exact hm.cells h h1
theorem QAt.turn {F : Nat → Prop} {B : Nat} {w W : World} {qu mq c : Nat} {lv : Value} {n k : Nat} (h : QAt B w qu mq c lv n k) (hT : Turn F w W) (hm : ¬ F mq) (hF : ∀ g cs T fz, w.heap[g]? = some (.cells cs T fz) → T ∈ tyQueue → ¬ F g) : QAt B W qu mq c lv n k := by
  refine ⟨(hT.block _ (lt_of_block h.blk) (hF _ _ _ _ h.blk (by decide))).trans h.blk, ?_, h.map.keep (hT.block _ h.map.lt hm), h.lo, h.mlo, h.nc, h.kc⟩
  obtain ⟨xs, ho, hx⟩ := h.row
  refine ⟨xs, hT.owns ho (fun g hg => ?_), hx⟩
  rcases ho.2 with ⟨rfl, _⟩ | ⟨g', cap, cur, rfl, _, hgg, _⟩
  · cases hg
  · simp [Value.ownBlock] at hg
    subst hg
    exact hF _ _ _ _ hgg (by decide)
theorem QAt.grown {B : Nat} {w W : World} {qu mq c : Nat} {lv : Value} {n k : Nat} (h : QAt B w qu mq c lv n k) (hW : Below w.heap.size w W) : QAt B W qu mq c lv n k := h.turn (turn_below (F := fun _ => False) hW) id (fun _ _ _ _ _ _ => id)
theorem QAt.below {B : Nat} {w : World} {qu mq c : Nat} {lv : Value} {n k : Nat} (h : QAt B w qu mq c lv n k) : B ≤ w.heap.size := by have := h.lo; have := lt_of_block h.blk; omega
theorem QAt.own {B : Nat} {w : World} {qu mq c : Nat} {lv : Value} {n k : Nat} (h : QAt B w qu mq c lv n k) : ∀ j, lv.ownBlock = some j → Ty B tyQueue w j ∧ j < w.heap.size ∧ j ≠ qu ∧ j ≠ mq := fun j hj => by
  obtain ⟨xs, ho, hx⟩ := h.row
  rcases ho.2 with ⟨rfl, _⟩ | ⟨g', cap, cur, rfl, hB, hgg, _⟩
  · cases hj
  · simp [Value.ownBlock] at hj
    subst hj
    exact ⟨ty_yes hB hgg (by decide), lt_of_block hgg, fun e => by subst e; have := hgg.symm.trans h.blk; injection this with this; injection this with _ this; exact absurd this (by decide), fun e => h.map.cells hgg e⟩
/-- What is told of a cell. -/
def SomeTick (w : World) (e : Ending) (w' : World) : Prop := ∃ (c : Int) (r : Bool), e = .returned (.tuple #[.int .i64 c, .bool r]) ∧ ∃ f, w' = ext w f
set_option maxHeartbeats 1000000 in
theorem queueat_any {B : Nat} {w : World} {qu mq c : Nat} {lv : Value} {n k : Nat} (h : QAt B w qu mq c lv n k) {x y z : Int} (hx : Wid x) (hy : Wid y) (hz : Wid z) :
    Calls Tryz.prog 310 #[.pointer (some ⟨qu, 0, none⟩), .agg #[.int .i64 x, .int .i64 y, .int .i64 z]] w (SomeTick w) := by
  obtain ⟨t, r, hl⟩ := h.map.look hx hy hz
  have c3 := cell_of_block (i := 3) h.blk rfl
  haveI := in_of_block h.blk
  have LK : ∀ (o : Obj) t1, (Instr.lookup 190 (.map (some mq)) (.agg #[.int .i64 x, .int .i64 y, .int .i64 z]) true).run Tryz.prog (ext (w.alloc o) t1) = .ok (.tuple #[.int .i64 t, .bool r]) (ext (w.alloc o) t1) := fun o t1 =>
    hl _ (((ext_below (w.alloc o) t1).block mq (by have := h.map.lt; simp; omega)).trans (heap_alloc_old _ _ h.map.lt))
  clear hl h
  go_enter Tryz.func310, Tryz.ntmps310
  go_wp2_with fail
  refine wp_region_ext ?_ ?_ ?_
  · kernel_rfl
  · kernel_rfl
  repeat (go_big_quiet_step (first | fail))
  refine wpQuiet_nil ?_
  rintro w1 ⟨_t, hw⟩
  have hc1 := named_cell hw
  have hz1 := named_frozen hw
  have hh1 := named_heap hw
  haveI hi1 := named_in hw
  haveI hb1 := named_below (w := w) hw
  clear hw
  go_wp2_with fail
  go_ret2
  exact ⟨t, r, rfl, grown_of⟩
#print axioms queueat_any
end Go.Proofs.YtnogfelfgclajaaGreatDoor
end
