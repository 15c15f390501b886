/-
  Updates that wait: those of a cell struck out of their row, all of them.
  Updates that wait: the queue.
  Updates that wait: a cell put into the queue, struck out of it, let wait.
  Updates that wait: a cell struck out of the queue; a cell let wait; a new queue.
  A new disk, store, table, queue.
-/
import Derived.Test.YtnogfelfgclajaaGreatDoorMb18
import Derived.Maps.OwnSet
import Derived.Carry
import Derived.DeepKeys4
import Derived.Test.YtnogfelfgclajaaGreatDoorMb16
section
namespace Go.Proofs.YtnogfelfgclajaaGreatDoor
open Go.RowKit
attribute [local go_sem] ext_ext drew_ext ext_drew ext_cell ext_frozen in_lt in_le in_ne in_en in_ne1 in_en1 in_le1 in_ltn in_len in_nen in_enn size_le ite_max ite_min
set_option linter.unusedVariables false
set_option linter.unusedSimpArgs false

/-- The row's block: numbers, up to some place. -/
def NumBlk (w : World) (g cap n : Nat) : Prop := ∃ cur, w.heap[g]? = some (.cells cur 264 (0, 0)) ∧ cur.size = cap * 4 ∧ ∀ j, j < n * 4 → IsNum cur j
theorem NumBlk.ext {w W : World} {g cap n : Nat} (h : NumBlk w g cap n) (hW : Below w.heap.size w W) : NumBlk W g cap n := by
  obtain ⟨cur, h1, h2⟩ := h
  exact ⟨cur, (hW.block _ (lt_of_block h1)).trans h1, h2⟩
theorem NumBlk.at4 {w : World} {g cap n : Nat} (h : NumBlk w g cap n) (k : Nat) (hk : k < n) : ∃ i0 i1 i2 i3 : Int, w.cell? ⟨g, k * 4, none⟩ = some (.int .i64 i0) ∧ w.cell? ⟨g, k * 4 + 1, none⟩ = some (.int .i64 i1) ∧ w.cell? ⟨g, k * 4 + 2, none⟩ = some (.int .i64 i2) ∧ w.cell? ⟨g, k * 4 + 3, none⟩ = some (.int .i64 i3) := by
  obtain ⟨cur, h1, _, h2⟩ := h
  obtain ⟨i0, a0⟩ := h2 (k * 4) (by omega)
  obtain ⟨i1, a1⟩ := h2 (k * 4 + 1) (by omega)
  obtain ⟨i2, a2⟩ := h2 (k * 4 + 2) (by omega)
  obtain ⟨i3, a3⟩ := h2 (k * 4 + 3) (by omega)
  exact ⟨i0, i1, i2, i3, cell_of_block h1 a0, cell_of_block h1 a1, cell_of_block h1 a2, cell_of_block h1 a3⟩
theorem NumBlk.free {w : World} {g cap n : Nat} (h : NumBlk w g cap n) (k : Nat) : w.frozen? ⟨g, k, none⟩ = false := by
  obtain ⟨cur, h1, _, h2⟩ := h
  exact free_of_block k h1
theorem NumBlk.set {w : World} {g cap n : Nat} (h : NumBlk w g cap n) (k : Nat) (x : Int) (hk : k < n * 4) : NumBlk (w.setCell ⟨g, k, none⟩ (.int .i64 x)) g cap n := by
  obtain ⟨cur, h1, hs, h2⟩ := h
  have hks : k < cur.size := by obtain ⟨i, hi⟩ := h2 k hk; exact (Array.getElem?_eq_some_iff.1 hi).1
  refine ⟨_, block_set h1 _ hks, by simpa using hs, fun j hj => ?_⟩
  by_cases e : k = j
  · subst e
    exact ⟨x, by simp [hks]⟩
  · obtain ⟨i, hi⟩ := h2 j hj
    exact ⟨i, by rw [Array.getElem?_setIfInBounds_ne e]; exact hi⟩
/-- A row with no more items than before. -/
def QDel (B n : Nat) (lv : Value) (w : World) (e : Ending) (w' : World) : Prop := ∃ v m, e = .returned v ∧ m ≤ n ∧ QRow B w' v m ∧ Turn (fun k => lv.ownBlock = some k) w w'
set_option maxRecDepth 100000 in
set_option maxHeartbeats 1000000 in
theorem delete_any (B : Nat) (lv : Value) (n : Nat) (x y z : Int) (cb : Nat) (w : World) (h : QRow B w lv n) (hn : n ≤ 10000) (h0 : w.cell? ⟨cb, 0, none⟩ = some (.int .i64 x)) (h1 : w.cell? ⟨cb, 1, none⟩ = some (.int .i64 y)) (h2 : w.cell? ⟨cb, 2, none⟩ = some (.int .i64 z)) (hne : lv.ownBlock ≠ some cb) :
    Calls Tryz.prog 345 #[lv, .func (.func 346) #[] #[.pointer (some ⟨cb, 0, none⟩)]] w (QDel B n lv w) := by
  have eg : ∀ args W, (callFunc 346 args).run Tryz.prog W = .ok (.enter 346 args) W := fun args W => by kernel_rfl
  obtain ⟨og, cap, rfl⟩ := h.form
  have IX := itemix_any og n cap x y z cb w h.items hn h0 h1 h2
  have n0 : (0 : Int) ≤ (n : Int) := Int.natCast_nonneg _
  have n1 : (n : Int) ≤ 10000 := by omega
  have H := Lib.hid h
  have HQ := Lib.hid (And.intro h0 (And.intro h1 h2))
  have HNE := Lib.hid hne
  clear h h0 h1 h2 hne hn
  go_enter Tryz.func345, Tryz.ntmps345
  go_wp2_with fail
  refine IX.mono ?_
  rintro e w1 ⟨hr, _t, hw⟩
  have B1 := Lib.hid (show Below w.heap.size w w1 from by rw [hw]; exact ext_below w _)
  clear hw IX
  rcases hr with rfl | ⟨a, ha, rfl⟩
  · go_wp2_with fail
    go_ret
    exact ⟨_, n, rfl, Nat.le_refl _, H.out.grown B1.out, turn_below B1.out⟩
  · obtain ⟨g, cap', hv, hnc, hBg, ⟨cs, hcs, hsz⟩, hnum⟩ := (H.out.grown B1.out).cells (by omega)
    injection hv with e1 e2 e3
    subst e1 e3
    have hcm : cap ≤ maxLen := by
      obtain ⟨xs, h, _⟩ := H.out
      rcases h.2 with ⟨_, h0⟩ | ⟨g', cap', cur, hv, _, _, _, hm, _⟩
      · omega
      · injection hv with _ _ e3; omega
    have hcg : ¬ cb = g := fun e => HNE.out (by rw [e]; rfl)
    have N1 : Hid (NumBlk w1 g cap n) := Lib.hid ⟨cs, hcs, hsz, fun j hj => by
      obtain ⟨x, hx⟩ := hnum j hj
      refine ⟨x, ?_⟩
      simpa [World.cell?, hcs] using hx⟩
    have a0 : (0 : Int) ≤ (a : Int) := Int.natCast_nonneg _
    have a1 : (a : Int) < (n : Int) := by omega
    have HC := Lib.hid (And.intro hcg (And.intro hBg (And.intro hnc hcm)))
    have L1 := Lib.hid (lt_of_block hcs)
    have na : ¬ ((a : Int) = -1) := by omega
    have HA := Lib.hid ha
    have hlc : Hid (cb < w.heap.size) := Lib.hid (World.block_lt_of_cell? w _ HQ.out.1)
    clear hcs hsz hnum hcg hBg hnc hcm ha
    go_wp2_with fail
    go_loopw [5, 6, 7] (fun s5 s6 _ wr => ∃ i j : Nat, i < j ∧ j ≤ n ∧ s5 = .int .i64 (i : Int) ∧ s6 = .int .i64 (j : Int) ∧ Hid (NumBlk wr g cap n) ∧ Hid (Turn (fun k => k = g) w wr)) (fun _ s6 _ _ => n - (intOf s6).toNat)
    case atStart => exact ⟨a, a + 1, by omega, by have := HA.out; omega, rfl, by go_num, N1, Lib.hid (turn_below B1.out)⟩
    case round =>
      obtain ⟨i, j, hij, hjn, rfl, rfl, HN, HT⟩ := hrel
      rename World => w2
      have q0 : (0 : Int) ≤ (i : Int) := Int.natCast_nonneg _
      have q1 : (i : Int) < (n : Int) ∨ True := .inr trivial
      have q2 : (0 : Int) ≤ (j : Int) := Int.natCast_nonneg _
      by_cases hlt : j < n
      · obtain ⟨i0, i1, i2, i3, d0, d1, d2, d3⟩ := HN.out.at4 j hlt
        haveI := in_of_cell d0
        have HJ := Lib.hid (And.intro hij hlt)
        have r0 : (j : Int) < (n : Int) := by omega
        have r1 : (i : Int) < (n : Int) := by omega
        have cc : ∀ o, w2.cell? ⟨cb, o, none⟩ = w.cell? ⟨cb, o, none⟩ := fun o => HT.out.cell (p := ⟨cb, o, none⟩) hlc.out HC.out.1
        have DR := Lib.hid (fun (W : World) (hW : Below w2.heap.size w2 W) => drop1_any i0 i1 i2 i3 x y z cb W
          (by rw [hW.cell (p := ⟨cb, 0, none⟩) (Nat.lt_of_lt_of_le hlc.out HT.out.size), cc]; exact HQ.out.1)
          (by rw [hW.cell (p := ⟨cb, 1, none⟩) (Nat.lt_of_lt_of_le hlc.out HT.out.size), cc]; exact HQ.out.2.1)
          (by rw [hW.cell (p := ⟨cb, 2, none⟩) (Nat.lt_of_lt_of_le hlc.out HT.out.size), cc]; exact HQ.out.2.2))
        generalize eqcS i1 i2 i3 x y z = bb at DR
        clear cc hij hjn hlt q1
        cases bb
        · go_wp2_with fail
          refine (DR.out _ (by exact grown_now)).mono ?_
          rintro e w3 ⟨rfl, _t, hw⟩
          haveI hg3 := named_grown hw
          haveI hb32 := named_below (w := w2) hw
          have hc3 := named_cell hw
          have hz3 := named_frozen hw
          haveI hi3 := named_in hw
          clear hw DR
          have B3 := Lib.hid (grown_now (w := w2) (W := w3))
          have N3 := Lib.hid (HN.out.ext B3.out)
          obtain ⟨k0, k1, k2, k3, e0, e1, e2, e3⟩ := N3.out.at4 i (by have := HJ.out; omega)
          have f0 := N3.out.free (i * 4)
          have f1 := N3.out.free (i * 4 + 1)
          have f2 := N3.out.free (i * 4 + 2)
          have f3 := N3.out.free (i * 4 + 3)
          have NS := Lib.hid ((((N3.out.set (i * 4) i0 (by have := HJ.out; omega)).set (i * 4 + 1) i1 (by have := HJ.out; omega)).set (i * 4 + 2) i2 (by have := HJ.out; omega)).set (i * 4 + 3) i3 (by have := HJ.out; omega))
          have TS := Lib.hid (((((HT.out.trans (turn_below (F := fun _ => False) B3.out) (fun _ _ h => h.elim)).setIn (a := ⟨g, i * 4, none⟩) rfl (.int .i64 i0)).setIn (a := ⟨g, i * 4 + 1, none⟩) rfl (.int .i64 i1)).setIn (a := ⟨g, i * 4 + 2, none⟩) rfl (.int .i64 i2)).setIn (a := ⟨g, i * 4 + 3, none⟩) rfl (.int .i64 i3))
          haveI := in_of_cell e0
          have v0 : w3.cell? ⟨w2.heap.size, 0, none⟩ = some (.int .i64 i0) := (hc3 _ _).trans (by go_simp)
          have v1 : w3.cell? ⟨w2.heap.size, 1, none⟩ = some (.int .i64 i1) := (hc3 _ _).trans (by go_simp)
          have v2 : w3.cell? ⟨w2.heap.size, 2, none⟩ = some (.int .i64 i2) := (hc3 _ _).trans (by go_simp)
          have v3 : w3.cell? ⟨w2.heap.size, 3, none⟩ = some (.int .i64 i3) := (hc3 _ _).trans (by go_simp)
          clear hc3 hz3
          go_wp2_with fail
          go_roundw
          case rel =>
            (repeat apply Exists.intro)
            exact ⟨⟨i + 1, j + 1, by have := HJ.out; omega, by have := HJ.out; omega, by go_num, by go_num, NS, TS⟩, rfl⟩
          case measure => have := HJ.out; simp [intOf]; omega
        · go_wp2_with fail
          refine (DR.out _ (by exact grown_now)).mono ?_
          rintro e w3 ⟨rfl, _t, hw⟩
          haveI hg3 := named_grown hw
          haveI hb32 := named_below (w := w2) hw
          clear hw DR
          have B3 := Lib.hid (grown_now (w := w2) (W := w3))
          have N3 := Lib.hid (HN.out.ext B3.out)
          have T3 := Lib.hid (HT.out.trans (turn_below (F := fun _ => False) B3.out) (fun _ _ h => h.elim))
          go_wp2_with fail
          go_roundw
          case rel =>
            (repeat apply Exists.intro)
            exact ⟨⟨i, j + 1, by have := HJ.out; omega, by have := HJ.out; omega, rfl, by go_num, N3, T3⟩, rfl⟩
          case measure => have := HJ.out; simp [intOf]; omega
      · have hi : i < n := by omega
        have HI := Lib.hid hi
        have r0 : ¬ (j : Int) < (n : Int) := by omega
        have r1 : (i : Int) ≤ (n : Int) := by omega
        have r2 : (n : Int) ≤ (cap : Int) := by have := HC.out.2.2.1; omega
        have r3 : (i : Int) ≤ (cap : Int) := by omega
        have r4 : ¬ (cap = i) := by have := HC.out.2.2.1; omega
        obtain ⟨cur, hcur, hcs, hcn⟩ := HN.out
        have HCU := Lib.hid (And.intro hcur (And.intro hcs hcn))
        have CL := Lib.hid (show ∀ ty c, _ from fun ty c => clear_items (W := w2) ty (g := g) (d := i) (o := i * 4) (m := n - i) (c := c) hcur rfl (by rw [hcs]; have := HC.out.2.2.1; omega))
        clear hij hjn hlt q1 hi hcur hcs hcn
        go_wp2_with
          (refine wpList_clear_of rfl (.tmp 38) 191 rfl _ rfl (CL.out _ _) ?_; rintro w4 ⟨⟨cur4, h4, hs4, hn4⟩, hT4⟩
           have C4 := Lib.hid (And.intro h4 (And.intro hs4 hn4))
           have T4 := Lib.hid (HT.out.trans hT4 (fun _ _ h => h))
           clear h4 hs4 hn4 hT4)
        go_ret
        refine ⟨_, i, rfl, by have := HI.out; omega, qrow_of HC.out.2.1 C4.out.1 (by rw [C4.out.2.1, HCU.out.2.1]) (by have := HI.out; have := HC.out.2.2.1; omega) HC.out.2.2.2 (fun j hj => C4.out.2.2 j (HCU.out.2.2 j (by have := HI.out; omega))), T4.out.mono (fun k _ e => by rw [e]; rfl)⟩
#print axioms delete_any
end Go.Proofs.YtnogfelfgclajaaGreatDoor
end

section
namespace Go.Proofs.YtnogfelfgclajaaGreatDoor
open Go.RowKit
attribute [local go_sem] ext_ext drew_ext ext_drew ext_cell ext_frozen in_lt in_le in_ne in_en in_ne1 in_en1 in_le1 in_ltn in_len in_nen in_enn size_le ite_max ite_min
set_option linter.unusedVariables false
set_option linter.unusedSimpArgs false

set_option maxRecDepth 1000000
theorem laidOutF : laidOutB Tryz.prog = true := by kernel_rfl
theorem cellRow18 : (30 : TypeId) < Tryz.prog.types.size := of_decide_eq_true (by kernel_rfl)
theorem cellWide : (match Tryz.prog.underlying 30 with | some (.array _ _) | some (.struct _) => true | _ => false) = true := by rw [Tryz.underlying30]
theorem cellKey : Maps.Keyed Tryz.prog 30 := Maps.Keyed.of_law (deep_law_laid laidOutF (m := 2) (by omega) cellRow18 (by kernel_rfl) cellWide)
theorem cells3 : Tryz.prog.cellsOf 30 = 3 := by kernel_rfl
/-- A cell, as a key. -/
def ckey (x y z : Int) : Lit := .string (keyBytes [.int .i64 x, .int .i64 y, .int .i64 z])
theorem wid_wf {n : Int} (h : Wid n) : (Lit.int .i64 n).wf = true := by
  have h1 := h.1
  have h2 := h.2
  have hmin : IntKind.i64.min = -9223372036854775808 := rfl
  have hmax : IntKind.i64.max = 9223372036854775807 := rfl
  simp only [Lit.wf, Bool.and_eq_true, decide_eq_true_eq, hmin, hmax]
  omega
theorem ckey_of {x y z : Int} (hx : Wid x) (hy : Wid y) (hz : Wid z) : keyOf Tryz.prog 30 (.agg #[.int .i64 x, .int .i64 y, .int .i64 z]) = some (ckey x y z) := by
  obtain ⟨m, hm⟩ : ∃ m, Tryz.prog.types.size = m + 1 := ⟨Tryz.prog.types.size - 1, by have : 0 < Tryz.prog.types.size := Nat.lt_of_le_of_lt (Nat.zero_le _) cellRow18; omega⟩
  have hk : Tryz.prog.keyType 30 = true := by kernel_rfl
  have hf : (Value.agg #[.int .i64 x, .int .i64 y, .int .i64 z]).formed Tryz.prog 30 = true := by simp [Value.formed, Tryz.underlying30, cells3]
  have hi : ∀ n, Wid n → Tryz.prog.keyLits (m + 1) 3 [.int .i64 n] = some [.int .i64 n] := fun n h => by
    unfold Program.keyLits
    simp [Tryz.underlying3, wid_wf h]
  have c1 : Tryz.prog.cellsOf 3 = 1 := by kernel_rfl
  unfold keyOf
  rw [Tryz.underlying30]
  simp only [hk, hf, Bool.and_self, if_true]
  rw [hm]
  unfold Program.keyLits
  rw [Tryz.underlying30]
  simp [Value.cells, cells3, c1, hi x hx, hi y hy, hi z hz, ckey]
theorem zeroInt (w : World) : (zeroValue 3).run Tryz.prog w = .ok (.int .i64 0) w := by kernel_rfl
/-- A map of cells' ticks. -/
def QMap (w : World) (b k : Nat) : Prop := ∃ D : DataW Unit, w.ownsMap Tryz.prog 30 (Go.plainElem Tryz.prog 3) b k D
theorem QMap.keep {w W : World} {b k : Nat} (h : QMap w b k) (hb : W.heap[b]? = w.heap[b]?) : QMap W b k := by
  obtain ⟨D, es, clock, h1, rest⟩ := h
  exact ⟨D, es, clock, hb.trans h1, rest⟩
theorem QMap.lt {w : World} {b k : Nat} (h : QMap w b k) : b < w.heap.size := by
  obtain ⟨D, h⟩ := h; exact h.lt
theorem QMap.cells {w : World} {b k : Nat} (h : QMap w b k) {g : Nat} {c : Array Value} {T : TypeId} {fz : Nat × Nat} (hg : w.heap[g]? = some (.cells c T fz)) : ¬ g = b := by
  rintro rfl
  obtain ⟨D, es, clock, h1, _⟩ := h
  rw [hg] at h1
  cases h1
theorem QMap.look {w : World} {b k : Nat} (h : QMap w b k) {x y z : Int} (hx : Wid x) (hy : Wid y) (hz : Wid z) : ∃ (c : Int) (r : Bool), ∀ W, W.heap[b]? = w.heap[b]? →
    (Instr.lookup 190 (.map (some b)) (.agg #[.int .i64 x, .int .i64 y, .int .i64 z]) true).run Tryz.prog W = .ok (.tuple #[.int .i64 c, .bool r]) W := by
  obtain ⟨D, h⟩ := h
  have key : ∀ W, W.heap[b]? = w.heap[b]? → ∃ c : Int, D.atKey (ckey x y z) (.lit (.int .i64 0)) = .lit (.int .i64 c) ∧ (Instr.lookup 190 (.map (some b)) (.agg #[.int .i64 x, .int .i64 y, .int .i64 z]) true).run Tryz.prog W = .ok (.tuple #[.int .i64 c, .bool (Maps.has D (ckey x y z))]) W := fun W hW => by
    have h' : W.ownsMap Tryz.prog 30 (Go.plainElem Tryz.prog 3) b k D := by
      obtain ⟨es, clock, h1, rest⟩ := h
      exact ⟨es, clock, hW.trans h1, rest⟩
    obtain ⟨v, ps, hrun, hv⟩ := h'.look_ok cellKey Tryz.underlying190 (zeroInt W) (plainElem_int Tryz.underlying3 (by decide)) (ckey_of hx hy hz)
    obtain ⟨c, rfl, hc, _⟩ := plainElem_int_inv Tryz.underlying3 hv
    exact ⟨c, congrArg Prod.fst hc, hrun⟩
  obtain ⟨c, hc, _⟩ := key w rfl
  refine ⟨c, Maps.has D (ckey x y z), fun W hW => ?_⟩
  obtain ⟨c', hc', hr⟩ := key W hW
  rw [hc] at hc'
  injection hc' with hc'
  injection hc' with _ hc'
  rw [hc']
  exact hr
/-- The queue; c: how many cells were let wait at most. -/
structure QAt (B : Nat) (w : World) (qu mq c : Nat) (lv : Value) (n k : Nat) : Prop where
  blk : w.heap[qu]? = some (.cells #[.int .i64 4096, .int .i64 0, lv, .map (some mq)] 193 (0, 0))
  row : QRow B w lv n
  map : QMap w mq k
  lo : B ≤ qu
  mlo : B ≤ mq
  nc : n ≤ c
  kc : k ≤ c
def QOf (B : Nat) (w : World) (qu mq c : Nat) : Prop := ∃ lv n k, QAt B w qu mq c lv n k
/-- What turns where the queue does. -/
abbrev tyQueue : List TypeId := [193, 264]
def QF (B mq : Nat) (w : World) (k : Nat) : Prop := Ty B tyQueue w k ∨ k = mq
theorem Turn.qf {B mq : Nat} {a b c : World} (h : Turn (QF B mq a) a b) (k : Turn (QF B mq b) b c) : Turn (QF B mq a) a c :=
  h.trans k (fun i hi hb => by
    by_cases ha : QF B mq a i
    · exact ha
    · rcases hb with ⟨h1, c', T, fz, h2, h3⟩ | h1
      · exact .inl ⟨h1, c', T, fz, (h.block i hi ha).symm.trans h2, h3⟩
      · exact .inr h1)
theorem qf_no {B mq : Nat} {w : World} {b : Nat} {c : Array Value} {T : TypeId} {fz : Nat × Nat} {k : Nat} (hm : QMap w mq k) (h : w.heap[b]? = some (.cells c T fz)) (hT : T ∉ tyQueue) : ¬ QF B mq w b := by
  rintro (h1 | h1)
  · exact ty_no h hT h1
  · exact hm.cells h h1
theorem QAt.turn {F : Nat → Prop} {B : Nat} {w W : World} {qu mq c : Nat} {lv : Value} {n k : Nat} (h : QAt B w qu mq c lv n k) (hT : Turn F w W) (hm : ¬ F mq) (hF : ∀ g cs T fz, w.heap[g]? = some (.cells cs T fz) → T ∈ tyQueue → ¬ F g) : QAt B W qu mq c lv n k := by
  refine ⟨(hT.block _ (lt_of_block h.blk) (hF _ _ _ _ h.blk (by decide))).trans h.blk, ?_, h.map.keep (hT.block _ h.map.lt hm), h.lo, h.mlo, h.nc, h.kc⟩
  obtain ⟨xs, ho, hx⟩ := h.row
  refine ⟨xs, hT.owns ho (fun g hg => ?_), hx⟩
  rcases ho.2 with ⟨rfl, _⟩ | ⟨g', cap, cur, rfl, _, hgg, _⟩
  · cases hg
  · simp [Value.ownBlock] at hg
    subst hg
    exact hF _ _ _ _ hgg (by decide)
theorem QAt.grown {B : Nat} {w W : World} {qu mq c : Nat} {lv : Value} {n k : Nat} (h : QAt B w qu mq c lv n k) (hW : Below w.heap.size w W) : QAt B W qu mq c lv n k := h.turn (turn_below (F := fun _ => False) hW) id (fun _ _ _ _ _ _ => id)
theorem QAt.below {B : Nat} {w : World} {qu mq c : Nat} {lv : Value} {n k : Nat} (h : QAt B w qu mq c lv n k) : B ≤ w.heap.size := by have := h.lo; have := lt_of_block h.blk; omega
theorem QAt.own {B : Nat} {w : World} {qu mq c : Nat} {lv : Value} {n k : Nat} (h : QAt B w qu mq c lv n k) : ∀ j, lv.ownBlock = some j → Ty B tyQueue w j ∧ j < w.heap.size ∧ j ≠ qu ∧ j ≠ mq := fun j hj => by
  obtain ⟨xs, ho, hx⟩ := h.row
  rcases ho.2 with ⟨rfl, _⟩ | ⟨g', cap, cur, rfl, hB, hgg, _⟩
  · cases hj
  · simp [Value.ownBlock] at hj
    subst hj
    exact ⟨ty_yes hB hgg (by decide), lt_of_block hgg, fun e => by subst e; have := hgg.symm.trans h.blk; injection this with this; injection this with _ this; exact absurd this (by decide), fun e => h.map.cells hgg e⟩
/-- What is told of a cell. -/
def SomeTick (w : World) (e : Ending) (w' : World) : Prop := ∃ (c : Int) (r : Bool), e = .returned (.tuple #[.int .i64 c, .bool r]) ∧ ∃ f, w' = ext w f
set_option maxHeartbeats 1000000 in
theorem queueat_any {B : Nat} {w : World} {qu mq c : Nat} {lv : Value} {n k : Nat} (h : QAt B w qu mq c lv n k) {x y z : Int} (hx : Wid x) (hy : Wid y) (hz : Wid z) :
    Calls Tryz.prog 310 #[.pointer (some ⟨qu, 0, none⟩), .agg #[.int .i64 x, .int .i64 y, .int .i64 z]] w (SomeTick w) := by
  obtain ⟨t, r, hl⟩ := h.map.look hx hy hz
  have c3 := cell_of_block (i := 3) h.blk rfl
  haveI := in_of_block h.blk
  have LK : ∀ (o : Obj) t1, (Instr.lookup 190 (.map (some mq)) (.agg #[.int .i64 x, .int .i64 y, .int .i64 z]) true).run Tryz.prog (ext (w.alloc o) t1) = .ok (.tuple #[.int .i64 t, .bool r]) (ext (w.alloc o) t1) := fun o t1 =>
    hl _ (((ext_below (w.alloc o) t1).block mq (by have := h.map.lt; simp; omega)).trans (heap_alloc_old _ _ h.map.lt))
  clear hl h
  go_enter Tryz.func310, Tryz.ntmps310
  go_wp2_with fail
  refine wp_region_ext ?_ ?_ ?_
  · kernel_rfl
  · kernel_rfl
  repeat (go_big_quiet_step (first | fail))
  refine wpQuiet_nil ?_
  rintro w1 ⟨_t, hw⟩
  have hc1 := named_cell hw
  have hz1 := named_frozen hw
  have hh1 := named_heap hw
  haveI hi1 := named_in hw
  haveI hb1 := named_below (w := w) hw
  clear hw
  go_wp2_with fail
  go_ret2
  exact ⟨t, r, rfl, grown_of⟩
#print axioms queueat_any
end Go.Proofs.YtnogfelfgclajaaGreatDoor
end

section
namespace Go.Proofs.YtnogfelfgclajaaGreatDoor
open Go.RowKit
attribute [local go_sem] ext_ext drew_ext ext_drew ext_cell ext_frozen in_lt in_le in_ne in_en in_ne1 in_en1 in_le1 in_ltn in_len in_nen in_enn size_le ite_max ite_min
set_option linter.unusedVariables false
set_option linter.unusedSimpArgs false
set_option maxRecDepth 1000000

theorem ne_ty' {w : World} {b : Nat} {c : Array Value} {T : TypeId} {fz : Nat × Nat} (hb : w.heap[b]? = some (.cells c T fz)) {g : Nat} {c' : Array Value} {T' : TypeId} {fz' : Nat × Nat} (hg : w.heap[g]? = some (.cells c' T' fz')) (h : T' ≠ T) : ¬ g = b := by
  rintro rfl
  rw [hb] at hg
  injection hg with hg
  injection hg with _ hg
  exact h hg.symm
/-- The queue, turned. -/
def QDone (B qu mq c : Nat) (w : World) (w' : World) : Prop := QOf B w' qu mq c ∧ Turn (QF B mq w) w w'
set_option maxHeartbeats 2000000 in
theorem queuepush_any {B : Nat} {w : World} {qu mq c : Nat} {lv : Value} {n k : Nat} (h : QAt B w qu mq c lv n k) (hc : c ≤ 900) (t : Int) (ht : Wid t) {x y z : Int} (hx : Wid x) (hy : Wid y) (hz : Wid z) :
    Calls Tryz.prog 312 #[.pointer (some ⟨qu, 0, none⟩), .agg #[.int .i64 t, .int .i64 x, .int .i64 y, .int .i64 z]] w fun e w' => e = .returned (.tuple #[]) ∧ QDone B qu mq (c + 1) w w' := by
  obtain ⟨og, cap, rfl⟩ := h.row.form
  have c2 := cell_of_block (i := 2) h.blk rfl
  have c3 := cell_of_block (i := 3) h.blk rfl
  haveI := in_of_block h.blk
  have H := Lib.hid h
  have hnc := h.nc
  have n0 : (n : Int) ≤ 900 := by omega
  have HC := Lib.hid (And.intro hc hnc)
  have HW := Lib.hid (And.intro ht (And.intro hx (And.intro hy hz)))
  clear h hc hnc ht hx hy hz
  go_enter Tryz.func312, Tryz.ntmps312
  go_wp2_with fail
  go_region_law
    (first
      | (go_simp; go_at_call 347; refine (search_any B _ n t x y z _ (H.out.grown (by exact grown_now)).row (by have := HC.out; omega)).mono ?_; rintro e w1 ⟨i, bb, hi, rfl, _t, hw⟩
         haveI hg1 := named_grown hw
         haveI hb1 := named_below (w := w) hw
         have hc1 := named_cell hw
         have hz1 := named_frozen hw
         have hh1 := named_heap hw
         haveI hi1 := named_in hw
         have HI := Lib.hid hi
         clear hw hi))
  all_goals
    have B1 := Lib.hid (grown_now (w := w) (W := w1))
    have P1 : Hid (w1.heap[w.heap.size]? = some (.cells #[.int .i64 t, .int .i64 x, .int .i64 y, .int .i64 z] 264 (0, 0))) := Lib.hid ((hh1 _).trans (by first | exact heap_alloc_new _ _ | (simp; done)))
    have OWN := Lib.hid H.out.own
    go_wp2_with fail
    go_region_law
      (first
        | (go_simp; go_at_call 351; refine (insert_any B (.slice og n cap) n i _ t x y z _ (H.out.grown (by exact grown_now)).row (by exact Nat.le_trans H.out.below (grown_now (w := w)).size) (by have := HC.out; omega) HI.out (by exact heap_alloc_new _ _) (fun e => absurd (OWN.out _ e).2.1 (Nat.not_lt.2 (by exact (grown_now (w := w)).size)))).mono ?_; rintro e w2 ⟨v2, rfl, hq2, hT2⟩
           have qb := (hT2.block qu (Nat.lt_of_lt_of_le (lt_of_block H.out.blk) (by exact (grown_now (w := w)).size)) (fun e => (OWN.out _ e).2.2.1 rfl)).trans (((grown_now (w := w)).block qu (lt_of_block H.out.blk)).trans H.out.blk)
           have pb := (hT2.block w.heap.size (Nat.lt_of_lt_of_le (lt_of_block P1.out) (by exact (grown_now (w := w1)).size)) (fun e => Nat.lt_irrefl _ (OWN.out _ e).2.1)).trans (((grown_now (w := w1)).block w.heap.size (lt_of_block P1.out)).trans P1.out)
           have mb := (hT2.block mq (Nat.lt_of_lt_of_le H.out.map.lt (by exact (grown_now (w := w)).size)) (fun e => (OWN.out _ e).2.2.2 rfl)).trans ((grown_now (w := w)).block mq H.out.map.lt)
           have M2 := Lib.hid (H.out.map.keep mb)
           have T2 := Lib.hid ((turn_below (F := QF B mq w) (by exact grown_now (w := w))).trans hT2 (fun j _ e => .inl (OWN.out _ e).1))
           obtain ⟨og2, cp2, rfl⟩ := hq2.form
           have Q2 := Lib.hid hq2
           have QB := Lib.hid qb
           have PB := Lib.hid pb
           have d2 := cell_of_block (i := 2) qb rfl
           have f2 := free_of_block 2 qb
           haveI := in_of_cell d2
           clear hq2 hT2 qb pb mb))
    all_goals
      have hS : Turn (fun j => j = qu) w2 (w2.setCell ⟨qu, 2, none⟩ (.slice og2 (n + 1) cp2)) := (Turn.refl (fun j => j = qu) w2).setIn rfl _
      have qb3 := block_set QB.out (i := 2) (.slice og2 (n + 1) cp2) (by simp)
      have npb : ¬ w.heap.size = qu := fun e => by have := lt_of_block H.out.blk; omega
      have pb3 := (hS.block w.heap.size (lt_of_block PB.out) npb).trans PB.out
      have M3 := Lib.hid (M2.out.keep (hS.block mq M2.out.lt (fun e => M2.out.cells QB.out e.symm)))
      have T3 := Lib.hid (T2.out.setIn (a := ⟨qu, 2, none⟩) (.inl (ty_yes H.out.lo H.out.blk (by decide))) (.slice og2 (n + 1) cp2))
      have R3 : Hid (QRow B (w2.setCell ⟨qu, 2, none⟩ (.slice og2 (n + 1) cp2)) (.slice og2 (n + 1) cp2) (n + 1)) := Lib.hid (by
        obtain ⟨xs, ho, hx⟩ := Q2.out
        refine ⟨xs, hS.owns ho (fun g hg e => ?_), hx⟩
        rcases ho.2 with ⟨e', _⟩ | ⟨g', cap', cur, hv, _, hgg, _⟩
        · rw [e'] at hg; cases hg
        · rw [hv] at hg
          simp [Value.ownBlock] at hg
          subst hg
          exact ne_ty' QB.out hgg (by decide) e)
      have QB3 := Lib.hid qb3
      have s0 := cell_of_block (i := 0) pb3 rfl
      have s1 := cell_of_block (i := 1) pb3 rfl
      have s2 := cell_of_block (i := 2) pb3 rfl
      have s3 := cell_of_block (i := 3) pb3 rfl
      have s4 := cell_of_block (i := 3) qb3 rfl
      clear hS qb3 pb3 d2 f2
      go_wp2_with fail
      generalize w2.setCell ⟨qu, 2, none⟩ (.slice og2 (n + 1) cp2) = w3 at *
      haveI := in_of_cell s0
      haveI := in_of_cell s4
      refine wp_region_ext_tail 8 ?_ ?_ ?_
      · kernel_rfl
      · kernel_rfl
      simp only [List.take_succ_cons, List.take_zero, List.drop_succ_cons, List.drop_zero]
      repeat (go_big_quiet_step (first | fail))
      refine wpQuiet_nil ?_
      rintro w4 ⟨_t, hw⟩
      have hc4 := named_cell hw
      have hz4 := named_frozen hw
      have hh4 := named_heap hw
      haveI hi4 := named_in hw
      haveI hb4 := named_below (w := w3) hw
      clear hw
      have B4 := Lib.hid (grown_now (w := w3) (W := w4))
      obtain ⟨D, hD⟩ := M3.out.keep (B4.out.block mq M3.out.lt)
      have HD := Lib.hid hD
      clear hD
      go_wp2_with
        (refine wpList_mapUpdate_own _ rfl (.tmp 29) (.tmp 31) (.tmp 33) 190 rfl 30 3 cellKey Tryz.underlying190 (Go.plainElem Tryz.prog 3) mq k D rfl HD.out (by have := HC.out; have := H.out.kc; unfold maxLen; omega) _ _ (ckey x y z) rfl rfl (ckey_of HW.out.2.1 HW.out.2.2.1 HW.out.2.2.2) (.lit (.int .i64 t)) [] (plainElem_int Tryz.underlying3 (wid_wf HW.out.1)) ?_; intro w5 hown5 hgrow5)
      go_end0
      have hq4 : Turn (fun j => some mq = some j) w4 w5 := turn_by hgrow5
      have hne : ∀ j, j ≠ mq → ¬ (some mq = some j) := fun j hj e => hj (Option.some.inj e).symm
      have qb4 := (B4.out.block qu (lt_of_block QB3.out)).trans QB3.out
      have hqm : qu ≠ mq := fun e => M3.out.cells QB3.out e
      refine ⟨rfl, ⟨_, n + 1, k + 1, ⟨(hq4.block qu (lt_of_block qb4) (hne _ hqm)).trans qb4, ?_, ⟨_, hown5⟩, H.out.lo, H.out.mlo, by have := HC.out; omega, by have := H.out.kc; omega⟩⟩, ?_⟩
      · obtain ⟨xs, ho, hx⟩ := R3.out.grown B4.out
        refine ⟨xs, hq4.owns ho (fun g hg => hne _ (fun e => ?_)), hx⟩
        rcases ho.2 with ⟨e', _⟩ | ⟨g', cap', cur, hv, _, hgg, _⟩
        · rw [e'] at hg; cases hg
        · rw [hv] at hg
          simp [Value.ownBlock] at hg
          subst hg
          exact (M3.out.keep (B4.out.block mq M3.out.lt)).cells hgg e
      · exact (T3.out.trans (turn_below (F := fun _ => False) B4.out) (fun _ _ h => h.elim)).trans hq4 (fun j _ e => .inr (Option.some.inj e).symm)
end Go.Proofs.YtnogfelfgclajaaGreatDoor
end

section
namespace Go.Proofs.YtnogfelfgclajaaGreatDoor
open Go.RowKit
attribute [local go_sem] ext_ext drew_ext ext_drew ext_cell ext_frozen in_lt in_le in_ne in_en in_ne1 in_en1 in_le1 in_ltn in_len in_nen in_enn size_le ite_max ite_min
set_option linter.unusedVariables false
set_option linter.unusedSimpArgs false
set_option maxRecDepth 1000000

/-- A bool; the queue, turned. -/
def QBool (B qu mq c : Nat) (w : World) (e : Ending) (w' : World) : Prop := (∃ r, e = .returned (.bool r)) ∧ QDone B qu mq c w w'
set_option maxHeartbeats 2000000 in
theorem queuedrop_any {B : Nat} {w : World} {qu mq c : Nat} {lv : Value} {n k : Nat} (h : QAt B w qu mq c lv n k) (hc : c ≤ 900) {x y z : Int} (hx : Wid x) (hy : Wid y) (hz : Wid z) :
    Calls Tryz.prog 311 #[.pointer (some ⟨qu, 0, none⟩), .agg #[.int .i64 x, .int .i64 y, .int .i64 z]] w (QBool B qu mq c w) := by
  obtain ⟨t, r, hl⟩ := h.map.look hx hy hz
  obtain ⟨og, cap, rfl⟩ := h.row.form
  have c2 := cell_of_block (i := 2) h.blk rfl
  have c3 := cell_of_block (i := 3) h.blk rfl
  haveI := in_of_block h.blk
  have LK : ∀ (o : Obj) t1, (Instr.lookup 190 (.map (some mq)) (.agg #[.int .i64 x, .int .i64 y, .int .i64 z]) true).run Tryz.prog (ext (w.alloc o) t1) = .ok (.tuple #[.int .i64 t, .bool r]) (ext (w.alloc o) t1) := fun o t1 =>
    hl _ (((ext_below (w.alloc o) t1).block mq (by have := h.map.lt; simp; omega)).trans (heap_alloc_old _ _ h.map.lt))
  have H := Lib.hid h
  have HC := Lib.hid hc
  have HW := Lib.hid (And.intro hx (And.intro hy hz))
  clear hl h hc hx hy hz
  cases r
  · go_enter Tryz.func311, Tryz.ntmps311
    go_wp2_with fail
    refine wp_region_ext ?_ ?_ ?_
    · kernel_rfl
    · kernel_rfl
    repeat (go_big_quiet_step (first | fail))
    refine wpQuiet_nil ?_
    rintro w1 ⟨_t, hw⟩
    have hc1 := named_cell hw
    have hz1 := named_frozen hw
    have hh1 := named_heap hw
    haveI hi1 := named_in hw
    haveI hb1 := named_below (w := w) hw
    clear hw
    have B1 := Lib.hid (grown_now (w := w) (W := w1))
    go_wp2_with fail
    go_ret
    exact ⟨⟨_, rfl⟩, ⟨_, n, k, H.out.grown B1.out⟩, turn_below B1.out⟩
  · have hmf : ∀ (fn : Fn) (first cap : Array Value) (w : World), (Instr.makeFunc fn first cap).run Tryz.prog w = .ok (.func fn first cap) w := fun _ _ _ _ => rfl
    go_enter Tryz.func311, Tryz.ntmps311
    go_wp2_with fail
    refine wp_region_ext ?_ ?_ ?_
    · kernel_rfl
    · kernel_rfl
    repeat (go_big_quiet_step (first | fail))
    refine wpQuiet_nil ?_
    rintro w1 ⟨_t, hw⟩
    have hc1 := named_cell hw
    have hz1 := named_frozen hw
    have hh1 := named_heap hw
    haveI hi1 := named_in hw
    haveI hb1 := named_below (w := w) hw
    clear hw
    go_wp2_with fail
    refine wp_region_ext_tail 5 ?_ ?_ ?_
    · kernel_rfl
    · kernel_rfl
    simp only [List.take_succ_cons, List.take_zero, List.drop_succ_cons, List.drop_zero]
    repeat (go_big_quiet_step (first | fail))
    refine wpQuiet_nil ?_
    rintro w2 ⟨_t, hw⟩
    haveI hb2_1 := named_below (w := w1) hw
    have hc2 := named_cell hw
    have hz2 := named_frozen hw
    have hh2 := named_heap hw
    haveI hi2 := named_in hw
    haveI hb2 := named_below (w := w) hw
    clear hw
    have B2 := Lib.hid (grown_now (w := w) (W := w2))
    have p0 : w2.cell? ⟨w.heap.size, 0, none⟩ = some (.int .i64 x) := (hc2 _ _).trans ((hc1 _ _).trans (by go_simp))
    have p1 : w2.cell? ⟨w.heap.size, 1, none⟩ = some (.int .i64 y) := (hc2 _ _).trans ((hc1 _ _).trans (by go_simp))
    have p2 : w2.cell? ⟨w.heap.size, 2, none⟩ = some (.int .i64 z) := (hc2 _ _).trans ((hc1 _ _).trans (by go_simp))
    obtain ⟨D, hD⟩ := (H.out.grown B2.out).map
    have HD := Lib.hid hD
    have G2 := Lib.hid (H.out.grown B2.out)
    clear hD
    go_wp2_with
      (at_delete; refine wpList_delete_own _ rfl (.tmp 21) (.tmp 22) 190 30 rfl 3 cellKey Tryz.underlying190 (Go.plainElem Tryz.prog 3) mq k D rfl HD.out _ _ rfl (ckey_of HW.out.1 HW.out.2.1 HW.out.2.2) ?_; intro w3 hown3 hturn3
       have g3 := hturn3.grown
       have T3 := Lib.hid (turn_by g3)
       have O3 := Lib.hid hown3
       have hnm : ∀ j, j ≠ mq → ¬ (some mq = some j) := fun j hj e => hj (Option.some.inj e).symm
       have qb := (T3.out.block qu (lt_of_block G2.out.blk) (hnm _ (fun e => G2.out.map.cells G2.out.blk e))).trans G2.out.blk
       have l0 : w.heap.size < w2.heap.size := World.block_lt_of_cell? w2 _ p0
       have pm : w.heap.size ≠ mq := fun e => by have := H.out.map.lt; omega
       have q0 := (T3.out.cell (p := ⟨w.heap.size, 0, none⟩) l0 (hnm _ pm)).trans p0
       have q1 := (T3.out.cell (p := ⟨w.heap.size, 1, none⟩) l0 (hnm _ pm)).trans p1
       have q2 := (T3.out.cell (p := ⟨w.heap.size, 2, none⟩) l0 (hnm _ pm)).trans p2
       have QB := Lib.hid qb
       have d2 := cell_of_block (i := 2) qb rfl
       have f2 := free_of_block 2 qb
       haveI := in_of_cell d2
       haveI := in_of_cell q0
       clear hown3 hturn3 g3 hnm qb pm l0 c2 c3)
    have OWN := Lib.hid H.out.own
    have R3 : Hid (QRow B w3 (.slice og n cap) n) := Lib.hid (by
      obtain ⟨xs, ho, hx⟩ := G2.out.row
      exact ⟨xs, T3.out.owns ho (fun g hg e => (OWN.out _ hg).2.2.2 (Option.some.inj e).symm), hx⟩)
    have DE := Lib.hid (delete_any B (.slice og n cap) n x y z w.heap.size w3 R3.out (by have := HC.out; have := H.out.nc; omega) q0 q1 q2 (fun e => Nat.lt_irrefl _ (OWN.out _ e).2.1))
    go_wp2_with fail
    refine DE.out.mono ?_
    rintro e w4 ⟨v4, m, rfl, hm, hq4, hT4⟩
    have qb4 := (hT4.block qu (lt_of_block QB.out) (fun e => (OWN.out _ e).2.2.1 rfl)).trans QB.out
    have M4 := Lib.hid ((show QMap w3 mq k from ⟨_, O3.out⟩).keep (hT4.block mq O3.out.lt (fun e => (OWN.out _ e).2.2.2 rfl)))
    have T4 := Lib.hid (((turn_below (F := QF B mq w) B2.out).trans T3.out (fun j _ e => .inr (Option.some.inj e).symm)).trans hT4 (fun j _ e => .inl (OWN.out _ e).1))
    obtain ⟨og4, cp4, rfl⟩ := hq4.form
    have Q4 := Lib.hid hq4
    have QB4 := Lib.hid qb4
    have e2 := cell_of_block (i := 2) qb4 rfl
    have g2 := free_of_block 2 qb4
    haveI := in_of_cell e2
    have HM := Lib.hid hm
    clear hq4 hT4 qb4 hm DE
    go_wp2_with fail
    go_ret
    have hS : Turn (fun j => j = qu) w4 (w4.setCell ⟨qu, 2, none⟩ (.slice og4 m cp4)) := (Turn.refl (fun j => j = qu) w4).setIn rfl _
    refine ⟨⟨_, rfl⟩, ⟨_, m, k, ⟨block_set QB4.out _ (by simp), ?_, M4.out.keep (hS.block mq M4.out.lt (fun e => M4.out.cells QB4.out e.symm)), H.out.lo, H.out.mlo, by have := HM.out; have := H.out.nc; omega, H.out.kc⟩⟩, T4.out.setIn (a := ⟨qu, 2, none⟩) (.inl (ty_yes H.out.lo H.out.blk (by decide))) _⟩
    obtain ⟨xs, ho, hx⟩ := Q4.out
    refine ⟨xs, hS.owns ho (fun g hg e => ?_), hx⟩
    rcases ho.2 with ⟨e', _⟩ | ⟨g', cap', cur, hv, _, hgg, _⟩
    · rw [e'] at hg; cases hg
    · rw [hv] at hg
      simp [Value.ownBlock] at hg
      subst hg
      exact ne_ty' QB4.out hgg (by decide) e
set_option maxHeartbeats 2000000 in
theorem queueadd_any {B : Nat} {w : World} {qu mq c : Nat} {lv : Value} {n k : Nat} (h : QAt B w qu mq c lv n k) (hc : c ≤ 900) (t : Int) (ht : Wid t) {x y z : Int} (hx : Wid x) (hy : Wid y) (hz : Wid z) :
    Calls Tryz.prog 248 #[.pointer (some ⟨qu, 0, none⟩), .agg #[.int .i64 x, .int .i64 y, .int .i64 z], .int .i64 t] w (QBool B qu mq (c + 1) w) := by
  haveI := in_of_block h.blk
  have H := Lib.hid h
  have HC := Lib.hid hc
  have HW := Lib.hid (And.intro ht (And.intro hx (And.intro hy hz)))
  have AT := Lib.hid (fun W (hW : Below w.heap.size w W) => queueat_any (h.grown hW) hx hy hz)
  clear h hc ht hx hy hz
  go_enter Tryz.func248, Tryz.ntmps248
  go_wp2_with fail
  refine (AT.out _ (by exact grown_now)).mono ?_
  rintro e w1 ⟨i, r, rfl, _t, hw⟩
  haveI hg1 := named_grown hw
  haveI hb1 := named_below (w := w) hw
  have hc1 := named_cell hw
  have hz1 := named_frozen hw
  have hh1 := named_heap hw
  haveI hi1 := named_in hw
  clear hw AT
  have B1 := Lib.hid (grown_now (w := w) (W := w1))
  have P1 : Hid (w1.heap[w.heap.size]? = some (.cells #[.int .i64 x, .int .i64 y, .int .i64 z] 30 (0, 0))) := Lib.hid ((hh1 _).trans (heap_alloc_new w _))
  have H1 := Lib.hid (H.out.grown B1.out)
  cases r
  · -- it does not wait
    have a0 := cell_of_block (i := 0) H1.out.blk rfl
    have a2 := cell_of_block (i := 2) H1.out.blk rfl
    obtain ⟨og, cap, rfl⟩ := H1.out.row.form
    have hn : n ≤ 900 := by have := HC.out; have := H1.out.nc; omega
    have hn1 : ((n : Int) == 4096) = false := by simp; omega
    have hn2 : ¬ ((n : Int) = 4096) := by omega
    have PU := Lib.hid (fun W (hW : Below w1.heap.size w1 W) => queuepush_any (H1.out.grown hW) HC.out t HW.out.1 HW.out.2.1 HW.out.2.2.1 HW.out.2.2.2)
    have p0 := cell_of_block (i := 0) P1.out rfl
    have p1 := cell_of_block (i := 1) P1.out rfl
    have p2 := cell_of_block (i := 2) P1.out rfl
    haveI := in_of_cell a0
    haveI := in_of_cell p0
    clear hn hc1 hz1 hh1
    go_wp2_with fail
    refine wp_region_ext ?_ ?_ ?_
    · kernel_rfl
    · kernel_rfl
    repeat (go_big_quiet_step (first | fail))
    refine wpQuiet_nil ?_
    rintro w2 ⟨_t, hw⟩
    haveI hb2_1 := named_below (w := w1) hw
    have hc2 := named_cell hw
    have hz2 := named_frozen hw
    have hh2 := named_heap hw
    haveI hi2 := named_in hw
    haveI hb2 := named_below (w := w) hw
    clear hw
    have B2 := Lib.hid (grown_now (w := w1) (W := w2))
    go_wp2_with fail
    refine (PU.out w2 B2.out).mono ?_
    rintro e w3 ⟨rfl, hd, hT⟩
    have D3 := Lib.hid (And.intro hd hT)
    clear hd hT PU
    go_wp2_with fail
    go_ret
    exact ⟨⟨_, rfl⟩, D3.out.1, (turn_below (F := QF B mq w) (B1.out.trans (B2.out.mono B1.out.size))).qf D3.out.2⟩
  · by_cases hle : i ≤ t
    · go_wp2_with fail
      go_ret
      obtain ⟨h1, h2, h3, h4, h5, h6, h7⟩ := H1.out
      exact ⟨⟨_, rfl⟩, ⟨_, n, k, ⟨h1, h2, h3, h4, h5, by omega, by omega⟩⟩, turn_below B1.out⟩
    · have DR := Lib.hid (queuedrop_any H1.out HC.out HW.out.2.1 HW.out.2.2.1 HW.out.2.2.2)
      go_wp2_with fail
      refine DR.out.mono ?_
      rintro e w2 ⟨⟨r2, rfl⟩, ⟨lv2, n2, k2, h2⟩, hT2⟩
      have pb := (hT2.block w.heap.size (lt_of_block P1.out) (qf_no H1.out.map P1.out (by decide))).trans P1.out
      have p0 := cell_of_block (i := 0) pb rfl
      have p1 := cell_of_block (i := 1) pb rfl
      have p2 := cell_of_block (i := 2) pb rfl
      have PU := Lib.hid (queuepush_any h2 HC.out t HW.out.1 HW.out.2.1 HW.out.2.2.1 HW.out.2.2.2)
      have T2 := Lib.hid ((turn_below (F := QF B mq w) B1.out).qf hT2)
      clear h2 hT2 pb DR hc1 hz1 hh1
      go_wp2_with fail
      refine PU.out.mono ?_
      rintro e w3 ⟨rfl, hd, hT⟩
      have D3 := Lib.hid (And.intro hd hT)
      clear hd hT PU
      go_wp2_with fail
      go_ret
      exact ⟨⟨_, rfl⟩, D3.out.1, T2.out.qf D3.out.2⟩
#print axioms queueadd_any
end Go.Proofs.YtnogfelfgclajaaGreatDoor
end

section
namespace Go.Proofs.YtnogfelfgclajaaGreatDoor
open Go.RowKit
attribute [local go_sem] ext_ext drew_ext ext_drew ext_cell ext_frozen in_lt in_le in_ne in_en in_ne1 in_en1 in_le1 in_ltn in_len in_nen in_enn size_le ite_max ite_min
set_option linter.unusedVariables false
set_option linter.unusedSimpArgs false
set_option maxRecDepth 1000000

theorem mapb_new (B : Nat) (w : World) {b : Nat} (hb : w.heap[b]? = some (.map #[] 0)) : MapB B w b (fun _ => none) 0 :=
  ⟨[], ⟨#[], 0, hb, by simp [Go.MapKept.Stamped]⟩, by simp, fun k => .inl ⟨rfl, rfl⟩, fun p hp => by cases hp⟩
theorem heap_new1 (w : World) (o o1 : Obj) : ((w.alloc o).alloc o1).heap[w.heap.size + 1]? = some o1 := by
  have h := heap_alloc_new (w.alloc o) o1
  rw [World.size_alloc] at h
  exact h
/-- A new disk. -/
def NewDisk (B : Nat) (w : World) (e : Ending) (w' : World) : Prop := ∃ d mb, e = .returned (.pointer (some ⟨d, 0, none⟩)) ∧ DiskAt B w' d mb (fun _ => none) 0 ∧ ∃ f, w' = ext w f
theorem disknew_any (B : Nat) (w : World) (hB : B ≤ w.heap.size) : Calls Tryz.prog 174 #[.int .i64 200000] w (NewDisk B w) := by
  have hmm := @run_makeMap Tryz.prog
  have HB := Lib.hid hB
  clear hB
  go_enter Tryz.func174, Tryz.ntmps174
  go_wp2_with fail
  go_ret
  refine ⟨_, _, rfl, ⟨heap_new1 _ _ _, by have := HB.out; omega, HB.out, mapb_new _ _ ?_⟩, grown_of⟩
  · rw [heap_alloc_old _ _ (by simp)]
    exact heap_alloc_new _ _
def NewStore (B : Nat) (w : World) (e : Ending) (w' : World) : Prop := ∃ st d mb, e = .returned (.pointer (some ⟨st, 0, none⟩)) ∧ w'.heap[st]? = some (.cells #[.pointer (some ⟨d, 0, none⟩)] 160 (0, 0)) ∧ B ≤ st ∧ DiskAt B w' d mb (fun _ => none) 0 ∧ ∃ f, w' = ext w f
theorem storenew_any (B : Nat) (w : World) (hB : B ≤ w.heap.size) : Calls Tryz.prog 130 #[.int .i64 200000] w (NewStore B w) := by
  have HB := Lib.hid hB
  clear hB
  go_enter Tryz.func130, Tryz.ntmps130
  go_wp2_with fail
  refine (disknew_any B w HB.out).mono ?_
  rintro e w1 ⟨d, mb, rfl, hd, _t, hw⟩
  haveI hb1 := named_below (w := w) hw
  have D1 := Lib.hid hd
  clear hw hd
  go_wp2_with fail
  go_ret
  exact ⟨_, _, _, rfl, heap_alloc_new _ _, Nat.le_trans HB.out (grown_now (w := w) (W := w1)).size, D1.out.grown ((Below.refl _ w1).alloc (Nat.le_refl _) _), grown_of⟩
theorem TabAt.requeue {B : Nat} {w : World} {t q q' e st d mb N : Nat} {s lim : Int} {G : Ps → List Int} {T : List (Ps × Bool)} {lv : Value} {its : List Nat} {D : Int → Option (List Nat)} (h : TabAt B w t s lim q e G T st d mb lv its D N) (hm : mb ≠ q') (hq : q' < w.heap.size) : TabAt B w t s lim q' e G T st d mb lv its D N :=
  ⟨h.tab, h.sto, h.dsk, h.row, h.items, h.hold, h.tlo, h.slo, h.lim1, h.lim2, h.full, hm, hq⟩
def NewTab (B : Nat) (s lim : Int) (w : World) (e : Ending) (w' : World) : Prop := ∃ t st d mb, e = .returned (.pointer (some ⟨t, 0, none⟩)) ∧ TabAt B w' t s lim t 0 (GrAt s) [] st d mb (.slice none 0 0) [] (fun _ => none) 0 ∧ ∃ f, w' = ext w f
theorem tabnew_any (B : Nat) (s l lim : Int) (hl : min 16 (max l 1) = lim) (w : World) (hB : B ≤ w.heap.size) : Calls Tryz.prog 85 #[.int .i64 s, .int .i64 l, .int .i64 200000] w (NewTab B s lim w) := by
  have HL := Lib.hid hl
  have HB := Lib.hid hB
  clear hl hB
  go_enter Tryz.func85, Tryz.ntmps85
  go_wp2_with fail
  refine (storenew_any B w HB.out).mono ?_
  rintro e w1 ⟨st, d, mb, rfl, hs, hst, hd, _t, hw⟩
  haveI hb1 := named_below (w := w) hw
  have D1 := Lib.hid (And.intro hs (And.intro hst hd))
  clear hw hd hs hst
  go_wp2_with fail
  go_ret
  obtain ⟨hs, hst, hd⟩ := D1.out
  have hB1 := fun o => (Below.refl w1.heap.size w1).alloc (Nat.le_refl _) o
  have hlim := HL.out
  refine ⟨w1.heap.size, st, d, mb, rfl, ⟨by rw [← hlim]; exact heap_alloc_new _ _, ((hB1 _).block _ (lt_of_block hs)).trans hs, hd.grown (hB1 _), srow_nil .., .nil, hold_new s, Nat.le_trans HB.out (grown_now (w := w) (W := w1)).size, hst, by omega, by omega, by simp; omega, ?_, by simp⟩, grown_of⟩
  have := hd.map.lt
  omega
/-- A new queue. -/
def NewQueue (B : Nat) (w : World) (e : Ending) (w' : World) : Prop := ∃ qu mq, e = .returned (.pointer (some ⟨qu, 0, none⟩)) ∧ QOf B w' qu mq 0 ∧ w.heap.size ≤ mq ∧ ∃ f, w' = ext w f
theorem queuenew_any (B : Nat) (w : World) (hB : B ≤ w.heap.size) : Calls Tryz.prog 83 #[.int .i64 4096] w (NewQueue B w) := by
  have hmm := @run_makeMap Tryz.prog
  have HB := Lib.hid hB
  clear hB
  go_enter Tryz.func83, Tryz.ntmps83
  go_wp2_with fail
  go_ret
  refine ⟨_, _, rfl, ⟨_, 0, 0, ⟨heap_new1 _ _ _, ⟨[], World.ownsRow_nil .., fun u hu => by cases hu⟩, ⟨.map [], ?_⟩, by have := HB.out; omega, HB.out, Nat.le_refl _, Nat.le_refl _⟩⟩, Nat.le_refl _, grown_of⟩
  exact (World.ownsMap_made w _ _ _).alloc _
#print axioms queuenew_any
end Go.Proofs.YtnogfelfgclajaaGreatDoor
end
