/-
  The Go iterator over a chunk's blocks: its contract.
-/
import Derived.Test.YtgnlechegenjpaaRefChunk
import Derived.RangeFuncNested
import Derived.RangeFuncBound
import Derived.RangeFuncCalls
import Derived.RangeFuncLeaves
import Derived.Shelf.Abstract
import Derived.Shelf.RegionOpen
import Derived.WalkKit
import Derived.OwnWalkIn
import Derived.TacticsInMore
import Derived.LoopNIn
import Derived.LoopIn
namespace Go.Proofs.Ytgnlechegenjpaa
open Go.RowKit Go.Shelf
attribute [local go_sem] ext_ext drew_ext ext_drew ext_cell ext_frozen in_lt in_le in_ne in_en in_ne1 in_en1 in_le1 in_ltn in_len in_nen in_enn size_le ite_max ite_min
set_option linter.unusedVariables false
set_option linter.unusedSimpArgs false
attribute [local go_sem] Oper.semAt_some

/-- What a round keeps: blocks of the ground's type. -/
def KeepsG (W W' : World) : Prop := ∀ (b : Nat) (cs : Array Value) (fr : Nat × Nat), W.heap[b]? = some (.cells cs 50 fr) → W'.heap[b]? = some (.cells cs 50 fr)
theorem KeepsG.trans' {A B C : World} (h : KeepsG A B) (k : KeepsG B C) : KeepsG A C := fun b cs fr hb => k b cs fr (h b cs fr hb)
theorem keepsG_b {w : World} (W : World) (l : Nat) (o o' : Obj) (_ : w.heap.size ≤ l) (h : W.heap[l]? = some o) (ho : o.isCells = false) (_ : o.isWalk = false) : KeepsG W (W.putObj l o') := fun b cs fr hb => by
  by_cases e : b = l
  · subst e
    rw [hb] at h
    cases h
    cases ho
  · exact (World.putObj_heap_other e).trans hb
theorem grownBy_ext' {W W' : World} (h : ∃ f, W' = ext W f) : W.grownBy W' none := by
  obtain ⟨f, rfl⟩ := h
  have hb := ext_below W f
  exact ⟨hb.os, hb.tape, hb.output, hb.size, fun k hk _ => hb.block k hk⟩

/-- The ground's height, by a column's number. -/
def grS (s px pz : Int) (j : Nat) : Int := groundS s (px * 16 + (j : Int) % 16) (pz * 16 + (j : Int) / 16 % 16)
theorem blk_gr (s px pz : Int) (i : Nat) : blkS s px pz i = ofS ((i : Int) / 256) (grS s px pz (i % 256)) := by
  unfold blkS grS
  rw [show (((i % 256 : Nat) : Int)) % 16 = (i : Int) % 16 by omega, show (((i % 256 : Nat) : Int)) / 16 % 16 = (i : Int) / 16 % 16 by omega]
/-- Behind k columns: the ground lies in block B. -/
def GrIn (s px pz : Int) (B k : Nat) (W : World) : Prop := ∃ cs, W.heap[B]? = some (.cells cs 50 (0, 0)) ∧ cs.size = 256 ∧ ∀ j, j < k → cs[j]? = some (.int .i64 (grS s px pz j))

set_option maxRecDepth 100000 in
set_option maxHeartbeats 4000000 in
theorem cells1_in (s px pz : Int) (n : Nat) (hn : 1 ≤ n) (hp : Pl px pz) (bp bs l : Nat) (J Jx : List Nat → World → Prop) (W : World) (hJ : AbidesFrom W.heap.size J)
    (hY : ∀ pre x W1, J pre W1 → pre.length < 8192 → YieldAt Fence.wide (n - 1) Try.prog l #[.int .i64 (blkS s px pz x)] W1 fun e W' =>
      (e = .returned (.bool true) ∧ J (pre ++ [x]) W' ∧ KeepsG W1 W') ∨ (e = .returned (.bool false) ∧ Jx (pre ++ [x]) W'))
    (c0 : W.cell? ⟨bp, 0, none⟩ = some (.int .i64 px)) (c1 : W.cell? ⟨bp, 1, none⟩ = some (.int .i64 pz)) (c2 : W.cell? ⟨bs, 0, none⟩ = some (.int .i64 s)) (h0 : J [] W) :
    CallsIn Fence.wide n Try.prog 25 #[.func (.yield l) #[] #[], .pointer (some ⟨bp, 0, none⟩), .pointer (some ⟨bs, 0, none⟩)] W fun e W' => (∃ v, e = .returned v) ∧
      ((∃ ys, ys = List.range 8192 ∧ J ys W') ∨ (∃ pre, pre <+: List.range 8192 ∧ Jx pre W')) := by
  haveI := in_of_cell c0
  haveI := in_of_cell c2
  refine callsIn_of_wp Try.func25 rfl trivial ?_ rfl
  simp only [Try.ntmps25, List.size_toArray, List.length_cons, List.length_nil, Nat.reduceAdd, Nat.reduceSub, Array.replicate_succ, Array.replicate_zero, List.push_toArray, List.append_toArray, List.nil_append, List.cons_append]
  obtain ⟨Z, hZ, hz50⟩ : ∃ Z : Array Value, Z.size = 256 ∧ ∀ W : World, (zeroValue 50).run Try.prog W = .ok (.agg Z) W := ⟨Array.replicate 256 (.int .i64 0), by simp, fun _ => by kernel_rfl⟩
  have HZ := Lib.hid hZ
  have HJ := Lib.hid hJ
  have HY := Lib.hid hY
  have H0 := Lib.hid h0
  have HP := Lib.hid hp
  clear hZ hJ hY h0 hp
  gi_wp2
  gi_loopw [9] (fun i wr => ∃ k : Nat, k ≤ 256 ∧ i = .int .i64 k ∧ GrIn s px pz W.heap.size k wr ∧ ∃ f, wr = ext W f) (fun i _ => 256 - (intOf i).toNat)
  case atStart => exact ⟨0, by omega, rfl, ⟨Z, heap_alloc_new W _, HZ.out, fun j hj => by omega⟩, grown_of⟩
  case round =>
    obtain ⟨k, hk, rfl, hG, _, hw⟩ := hrel
    rename World => w1
    haveI hg1 := named_grown hw
    have hc1 := named_cell hw
    have hz1 := named_frozen hw
    have hh1 := named_heap hw
    haveI hi1 := named_in hw
    clear hw
    have HG := Lib.hid hG
    by_cases hlt : k < 256
    · have HK := Lib.hid hlt
      have k0 : (0 : Int) ≤ (k : Int) := Int.natCast_nonneg _
      have k1 : (k : Int) < 256 := by omega
      clear hG
      obtain ⟨cs, hcs, hsz, hval⟩ := HG.out
      obtain ⟨u, d0⟩ : ∃ u, w1.cell? ⟨W.heap.size, k, none⟩ = some u := ⟨_, (cell_of_row w1 _ k cs _ _ hcs).trans (Array.getElem?_eq_getElem (by omega))⟩
      have d1 : w1.frozen? ⟨W.heap.size, k, none⟩ = false := frozen_of_row w1 _ k cs _ hcs
      haveI := in_of_cell d0
      obtain ⟨q1, q2⟩ := pl_fit HP.out ((k : Int) % 16) ((k : Int) / 16 % 16) (by omega) (by omega) (by omega) (by omega)
      have HC := Lib.hid (And.intro hcs (And.intro hsz hval))
      clear hcs hsz hval
      gi_wp2
      refine ⟨trivial, (callsIn_wide.2 (from_any px pz k _ HP.out.p1 HP.out.p2 HP.out.q1 HP.out.q2 k0 (by omega))).mono ?_⟩
      rintro e w2 ⟨rfl, _t, hw⟩
      haveI hg2 := named_grown hw
      haveI hb2_1 := named_below (w := w1) hw
      haveI hb2_W := named_below (w := W) hw
      have hc2 := named_cell hw
      have hz2 := named_frozen hw
      have hh2 := named_heap hw
      haveI hi2 := named_in hw
      clear hw
      gi_wp2
      refine ⟨trivial, (callsIn_wide.2 (ground_any s _ _ _ q1 q2)).mono ?_⟩
      rintro e w3 ⟨rfl, _t, hw⟩
      haveI hg3 := named_grown hw
      haveI hb3_1 := named_below (w := w1) hw
      haveI hb3_2 := named_below (w := w2) hw
      haveI hb3_W := named_below (w := W) hw
      have hc3 := named_cell hw
      have hz3 := named_frozen hw
      have hh3 := named_heap hw
      haveI hi3 := named_in hw
      clear hw
      have HH : Hid (w3.heap[W.heap.size]? = w1.heap[W.heap.size]?) := Lib.hid ((grown_now (w := w1) (W := w3)).block _ (World.block_lt_of_cell? w1 _ d0))
      have HB3 := Lib.hid (grown_now (w := w1) (W := w3))
      gi_wp2
      go_roundw
      case rel =>
        refine ⟨k + 1, HK.out, by go_num, ?_, ext_of (((grown_now (w := W) (W := w1)).trans (HB3.out.mono (grown_now (w := W) (W := w1)).size)).setCell (Nat.le_refl _) _)⟩
        obtain ⟨hcs, hsz, hval⟩ := HC.out
        have hlk := HK.out
        refine ⟨cs.setIfInBounds k (.int .i64 (grS s px pz k)), heap_setCell_same w3 _ k cs _ _ (HH.out.trans hcs), by simp [hsz], fun j hj => ?_⟩
        by_cases e : k = j
        · subst e
          simp [hsz, hlk]
        · rw [Array.getElem?_setIfInBounds_ne e]
          exact hval j (by omega)
      case measure => have := HK.out; simp [intOf]; omega
    · have HG2 : Hid (GrIn s px pz W.heap.size 256 w1) := Lib.hid (by
        have hG2 := HG.out
        have e : k = 256 := by omega
        rw [e] at hG2
        exact hG2)
      have k1 : ¬ (k : Int) < 256 := by omega
      have J1 := Lib.hid (HJ.out [] W w1 none H0.out (grownBy_ext' (grown_of (w := W) (W := w1))) (fun r e => by cases e))
      clear hG HG hlt hk
      gi_wp2
      gi_loopw [27] (fun i wr => ∃ k : Nat, k ≤ 8192 ∧ i = .int .i64 k ∧ GrIn s px pz W.heap.size 256 wr ∧ J (List.range k) wr ∧ W.heap.size ≤ wr.heap.size) (fun i _ => 8192 - (intOf i).toNat)
      case atStart => exact ⟨0, by omega, rfl, HG2.out, J1.out, (grown_now (w := W) (W := w1)).size⟩
      case round =>
        obtain ⟨i, hi, rfl, hG, hJi, hsW⟩ := hrel
        rename World => w4
        by_cases hi2 : i < 8192
        · obtain ⟨cs, hcs, hsz, hval⟩ := hG
          have i0 : (0 : Int) ≤ (i : Int) := Int.natCast_nonneg _
          have i1 : (i : Int) < 8192 := by omega
          have HI := Lib.hid hi2
          obtain ⟨fn, tmps, assign, body, hy, hR⟩ := HY.out _ i w4 hJi (by simpa using hi2)
          rw [blk_gr s px pz i] at hy
          have hval2 := hval (i % 256) (by omega)
          have d0 : w4.cell? ⟨W.heap.size, i % 256, none⟩ = some (.int .i64 (grS s px pz (i % 256))) := by
            rw [cell_of_row w4 _ _ cs _ _ hcs]
            exact hval2
          haveI := in_of_cell d0
          obtain ⟨g1, g2⟩ : 6 ≤ grS s px pz (i % 256) ∧ grS s px pz (i % 256) ≤ 14 := groundS_bd ..
          have HCS := Lib.hid hcs
          have HSV := Lib.hid (And.intro hsz hval)
          have HSW := Lib.hid hsW
          have HR := Lib.hid (show List.range (i + 1) = List.range i ++ [i] from List.range_succ)
          have HJI := Lib.hid hJi
          clear hcs hsz hval hval2 hJi hsW hi2 hi
          generalize grS s px pz (i % 256) = g at *
          gi_wp2
          refine ⟨trivial, (callsIn_wide.2 (of_any ((i : Int) / 256) g _ g1 g2)).mono ?_⟩
          rintro e w5 ⟨rfl, rfl⟩
          gi_wp2
          refine hR.mono ?_
          rintro e w6 (⟨rfl, hJ6, hK6⟩ | ⟨rfl, hJx6⟩)
          · have HJ6 := Lib.hid hJ6
            have HK6 := Lib.hid hK6
            clear hJ6 hK6
            gi_wp2
            go_roundw
            case rel => exact ⟨i + 1, HI.out, by go_num, ⟨cs, HK6.out _ _ _ HCS.out, HSV.out.1, HSV.out.2⟩, by rw [HR.out]; exact HJ6.out, Nat.le_of_lt (Array.getElem?_eq_some_iff.1 (HK6.out _ _ _ HCS.out)).1⟩
            case measure => have := HI.out; simp [intOf]; omega
          · have HJX := Lib.hid hJx6
            clear hJx6
            gi_wp2
            refine bodyPost_ret (results_none rfl _ _ _) rfl ?_
            refine ⟨⟨_, rfl⟩, .inr ⟨List.range i ++ [i], ?_, HJX.out⟩⟩
            rw [← HR.out]
            have := HI.out
            exact ⟨(List.range 8192).drop (i + 1), by
              have e : List.range (i + 1) = (List.range 8192).take (i + 1) := by rw [List.take_range, Nat.min_eq_left (by omega)]
              rw [e, List.take_append_drop]⟩
        · have e8 : i = 8192 := by omega
          have J8 : Hid (J (List.range 8192) w4) := Lib.hid (by rw [e8] at hJi; exact hJi)
          have i1 : ¬ (i : Int) < 8192 := by omega
          clear hG hJi e8 hi hi2
          gi_wp2
          go_end0
          exact ⟨⟨_, rfl⟩, .inl ⟨_, rfl, J8.out⟩⟩

theorem cells_stops (s px pz : Int) (n : Nat) (hn : 1 ≤ n) (hp : Pl px pz) (bp bs : Nat) (w : World) (c0 : w.cell? ⟨bp, 0, none⟩ = some (.int .i64 px)) (c1 : w.cell? ⟨bp, 1, none⟩ = some (.int .i64 pz)) (c2 : w.cell? ⟨bs, 0, none⟩ = some (.int .i64 s)) :
    SeqStopsK Fence.wide n Try.prog 25 #[.pointer (some ⟨bp, 0, none⟩), .pointer (some ⟨bs, 0, none⟩)] (fun i : Nat => #[Value.int .i64 (blkS s px pz i)]) KeepsG (fun ys => ys = List.range 8192) (fun pre => pre <+: List.range 8192) 8192 w := fun l J Jx W hW hJ _ hY h0 =>
  cells1_in s px pz n hn hp bp bs l J Jx W hJ hY ((hW.cell (p := ⟨bp, 0, none⟩) (World.block_lt_of_cell? w _ c0)).trans c0) ((hW.cell (p := ⟨bp, 1, none⟩) (World.block_lt_of_cell? w _ c1)).trans c1) ((hW.cell (p := ⟨bs, 0, none⟩) (World.block_lt_of_cell? w _ c2)).trans c2) h0

theorem gencells_any (s px pz : Int) (w : World) :
    Calls Try.prog 13 #[.int .i64 s, .agg #[.int .i64 px, .int .i64 pz]] w fun e w' => e = .returned (.func (.func 25) #[] #[.pointer (some ⟨w.heap.size + 1, 0, none⟩), .pointer (some ⟨w.heap.size, 0, none⟩)]) ∧
      w' = (w.alloc (.cells #[.int .i64 s] 3)).alloc (.cells #[.int .i64 px, .int .i64 pz] 30) := by
  have hmf : ∀ (fn : Fn) (first cap : Array Value) (w : World), (Instr.makeFunc fn first cap).run Try.prog w = .ok (.func fn first cap) w := fun _ _ _ _ => rfl
  go_enter Try.func13, Try.ntmps13
  go_wp2
  go_ret
  exact ⟨rfl, rfl⟩
end Go.Proofs.Ytgnlechegenjpaa
