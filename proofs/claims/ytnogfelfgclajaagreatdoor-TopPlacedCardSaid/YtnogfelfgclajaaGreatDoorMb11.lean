/-
  No Go in sight. The two slots of an id: the record that they hold; what a record that is saved makes of them.
  A chunk's blocks, in a row.
  The Go iterator over a chunk's blocks: its contract.
  The Go function's runs of a chunk.
  Cells and chunks (the Top seat).
-/
import Derived.Test.YtnogfelfgclajaaGreatDoorMb10
import Derived.Test.YtnogfelfgclajaaGreatDoorMb03
import Derived.RangeFuncNested
import Derived.RangeFuncBound
import Derived.RangeFuncCalls
import Derived.RangeFuncLeaves
import Derived.Shelf.Abstract
import Derived.Shelf.RegionOpen
import Derived.WalkKit
import Derived.OwnWalkIn
import Derived.TacticsInMore
import Derived.LoopNIn
import Derived.LoopIn
import Derived.RangeFuncWrites
import Derived.RangeFuncBox
import Derived.Maps.AppendAt
import Derived.Test.YtnogfelfgclajaaGreatDoorMb02
section
namespace Go.Proofs.YtnogfelfgclajaaGreatDoor
open Go.RowKit
set_option linter.unusedVariables false

theorem nat_xor_one (n : Nat) : (2 * n) ^^^ 1 = 2 * n + 1 ∧ (2 * n + 1) ^^^ 1 = 2 * n := by
  have a1 : ((2 * n) ^^^ 1) / 2 = n := by rw [Nat.xor_div_two]; simp
  have a2 : ((2 * n) ^^^ 1) % 2 = 1 := by simp
  have b1 : ((2 * n + 1) ^^^ 1) / 2 = n := by rw [Nat.xor_div_two]; simp; omega
  have b2 : ((2 * n + 1) ^^^ 1) % 2 = 0 := by
    have := Nat.xor_mod_two_pow (a := 2 * n + 1) (b := 1) (n := 1)
    simpa using this
  omega
theorem xor_even (a : Int) (h0 : 0 ≤ a) (h1 : a ≤ 1099511627776) : bits BinOp.xor IntKind.i64 (2 * a) 1 = 2 * a + 1 := by
  obtain ⟨n, rfl⟩ := Int.eq_ofNat_of_zero_le h0
  show IntKind.i64.wrap ((BitVec.ofInt 64 (2 * (n : Int)) ^^^ BitVec.ofInt 64 1).toNat : Nat) = _
  have e1 : (BitVec.ofInt 64 (2 * (n : Int))).toNat = 2 * n := by rw [BitVec.toNat_ofInt]; omega
  have e2 : (BitVec.ofInt 64 (1 : Int)).toNat = 1 := by decide
  rw [BitVec.toNat_xor, e1, e2, (nat_xor_one n).1, IntKind.wrap_i64]
  omega
theorem xor_odd (a : Int) (h0 : 0 ≤ a) (h1 : a ≤ 1099511627776) : bits BinOp.xor IntKind.i64 (2 * a + 1) 1 = 2 * a := by
  obtain ⟨n, rfl⟩ := Int.eq_ofNat_of_zero_le h0
  show IntKind.i64.wrap ((BitVec.ofInt 64 (2 * (n : Int) + 1) ^^^ BitVec.ofInt 64 1).toNat : Nat) = _
  have e1 : (BitVec.ofInt 64 (2 * (n : Int) + 1)).toNat = 2 * n + 1 := by rw [BitVec.toNat_ofInt]; omega
  have e2 : (BitVec.ofInt 64 (1 : Int)).toNat = 1 := by decide
  rw [BitVec.toNat_xor, e1, e2, (nat_xor_one n).2, IntKind.wrap_i64]
  omega

/-- The slots of an id hold its record: version v (0: there is none), body x. -/
structure RecAt (D : Int → Option (List Nat)) (id : Int) (r0 r1 : Option (Nat × List Nat)) : Prop where
  k0 : D (2 * id) = blobOf r0
  k1 : D (2 * id + 1) = blobOf r1
  o0 : ∀ v x, r0 = some (v, x) → RecOk v x
  o1 : ∀ v x, r1 = some (v, x) → RecOk v x
  ne : ∀ a x b y, r0 = some (a, x) → r1 = some (b, y) → a ≠ b
def HasRec (D : Int → Option (List Nat)) (id : Int) (v : Nat) (x : List Nat) : Prop := ∃ r0 r1, RecAt D id r0 r1 ∧ (later id r0 r1).2 = (v, x)
theorem HasRec.ok {D : Int → Option (List Nat)} {id : Int} {v : Nat} {x : List Nat} (h : HasRec D id v x) : (v = 0 ∧ x = []) ∨ RecOk v x := by
  obtain ⟨r0, r1, h, e⟩ := h
  rcases r0 with _ | ⟨a, u⟩ <;> rcases r1 with _ | ⟨b, y⟩ <;> simp only [later] at e
  · injection e with e1 e2; exact .inl ⟨e1.symm, e2.symm⟩
  · injection e with e1 e2; subst e1 e2; exact .inr (h.o1 _ _ rfl)
  · injection e with e1 e2; subst e1 e2; exact .inr (h.o0 _ _ rfl)
  · split at e <;> (injection e with e1 e2; subst e1 e2)
    · exact .inr (h.o1 _ _ rfl)
    · exact .inr (h.o0 _ _ rfl)
/-- The slot that the later record is not in. -/
def otherSlot (id : Int) (r0 r1 : Option (Nat × List Nat)) : Int := if (later id r0 r1).1 = 2 * id then 2 * id + 1 else 2 * id
theorem later_slot (id : Int) (r0 r1 : Option (Nat × List Nat)) : (later id r0 r1).1 = 2 * id ∨ (later id r0 r1).1 = 2 * id + 1 := by
  rcases r0 with _ | ⟨a, u⟩ <;> rcases r1 with _ | ⟨b, y⟩
  · exact .inr rfl
  · exact .inr rfl
  · exact .inl rfl
  · show (if a < b then ((2 * id + 1 : Int), b, y) else (2 * id, a, u)).1 = 2 * id ∨ (if a < b then ((2 * id + 1 : Int), b, y) else (2 * id, a, u)).1 = 2 * id + 1
    split
    · exact .inr rfl
    · exact .inl rfl
theorem other_xor (id : Int) (r0 r1 : Option (Nat × List Nat)) (h0 : 0 ≤ id) (h1 : id ≤ 1099511627776) : bits BinOp.xor IntKind.i64 (later id r0 r1).1 1 = otherSlot id r0 r1 := by
  unfold otherSlot
  rcases later_slot id r0 r1 with h | h
  · rw [if_pos h, h, xor_even id h0 h1]
  · rw [if_neg (by omega), h, xor_odd id h0 h1]
theorem HasRec.put {D : Int → Option (List Nat)} {id : Int} {r0 r1 : Option (Nat × List Nat)} (h : RecAt D id r0 r1) {y : List Nat} (hy : RecOk ((later id r0 r1).2.1 + 1) y) :
    HasRec (dput D (otherSlot id r0 r1) (blobW ((later id r0 r1).2.1 + 1) y)) id ((later id r0 r1).2.1 + 1) y := by
  have n1 : ¬ (2 * id + 1 = 2 * id) := by omega
  have n2 : ¬ (2 * id = 2 * id + 1) := by omega
  rcases r0 with _ | ⟨a, u⟩ <;> rcases r1 with _ | ⟨b, z⟩
  · refine ⟨some (1, y), none, ⟨?_, ?_, ?_, ?_, ?_⟩, rfl⟩
    · simp [dput, otherSlot, later, blobOf, n1]
    · simp [dput, otherSlot, later, n1]; exact h.k1
    · intro v x e; injection e with e; injection e with e1 e2; subst e1 e2; exact hy
    · intro v x e; cases e
    · intro _ _ _ _ _ e; cases e
  · refine ⟨some (b + 1, y), some (b, z), ⟨?_, ?_, ?_, ?_, ?_⟩, ?_⟩
    · simp [dput, otherSlot, later, blobOf, n1]
    · simp [dput, otherSlot, later, n1]; exact h.k1
    · intro v x e; injection e with e; injection e with e1 e2; subst e1 e2; exact hy
    · exact h.o1
    · intro _ _ _ _ e e'; injection e with e; injection e with e1 e2; injection e' with e'; injection e' with e3 e4; omega
    · simp only [later]; rw [if_neg (by omega)]
  · refine ⟨some (a, u), some (a + 1, y), ⟨?_, ?_, ?_, ?_, ?_⟩, ?_⟩
    · simp [dput, otherSlot, later, n2]; exact h.k0
    · simp [dput, otherSlot, later, blobOf]
    · exact h.o0
    · intro v x e; injection e with e; injection e with e1 e2; subst e1 e2; exact hy
    · intro _ _ _ _ e e'; injection e with e; injection e with e1 e2; injection e' with e'; injection e' with e3 e4; omega
    · simp only [later]; rw [if_pos (by omega)]
  · have hne := h.ne _ _ _ _ rfl rfl
    by_cases hab : a < b
    · have e1 : later id (some (a, u)) (some (b, z)) = (2 * id + 1, b, z) := by simp [later, hab]
      have e2 : otherSlot id (some (a, u)) (some (b, z)) = 2 * id := by unfold otherSlot; rw [e1]; exact if_neg n1
      rw [e1] at hy ⊢
      rw [e2]
      refine ⟨some (b + 1, y), some (b, z), ⟨?_, ?_, ?_, ?_, ?_⟩, ?_⟩
      · simp [dput, blobOf]
      · simp [dput, n1]; exact h.k1
      · intro v x e; injection e with e; injection e with e1 e2; subst e1 e2; exact hy
      · exact h.o1
      · intro _ _ _ _ e e'; injection e with e; injection e with e1 e2; injection e' with e'; injection e' with e3 e4; omega
      · simp only [later]; rw [if_neg (by omega)]
    · have e1 : later id (some (a, u)) (some (b, z)) = (2 * id, a, u) := by simp [later, hab]
      have e2 : otherSlot id (some (a, u)) (some (b, z)) = 2 * id + 1 := by unfold otherSlot; rw [e1]; exact if_pos rfl
      rw [e1] at hy ⊢
      rw [e2]
      refine ⟨some (a, u), some (a + 1, y), ⟨?_, ?_, ?_, ?_, ?_⟩, ?_⟩
      · simp [dput, n2]; exact h.k0
      · simp [dput, blobOf]
      · exact h.o0
      · intro v x e; injection e with e; injection e with e1 e2; subst e1 e2; exact hy
      · intro _ _ _ _ e e'; injection e with e; injection e with e1 e2; injection e' with e'; injection e' with e3 e4; omega
      · simp only [later]; rw [if_pos (by omega)]
theorem HasRec.far {D : Int → Option (List Nat)} {id id' : Int} {v : Nat} {x : List Nat} (h : HasRec D id' v x) (hne : id' ≠ id) (r0 r1 : Option (Nat × List Nat)) (l : List Nat) : HasRec (dput D (otherSlot id r0 r1) l) id' v x := by
  obtain ⟨q0, q1, h, e⟩ := h
  have h0 : otherSlot id r0 r1 = 2 * id ∨ otherSlot id r0 r1 = 2 * id + 1 := by unfold otherSlot; split <;> simp
  refine ⟨q0, q1, ⟨?_, ?_, h.o0, h.o1, h.ne⟩, e⟩
  · unfold dput; rw [if_neg (by omega)]; exact h.k0
  · unfold dput; rw [if_neg (by omega)]; exact h.k1
theorem HasRec.empty (id : Int) : HasRec (fun _ => none) id 0 [] := ⟨none, none, ⟨rfl, rfl, (fun _ _ e => by cases e), (fun _ _ e => by cases e), (fun _ _ _ _ e => by cases e)⟩, rfl⟩
#print axioms HasRec.put
end Go.Proofs.YtnogfelfgclajaaGreatDoor
end

section
namespace Go.Proofs.YtnogfelfgclajaaGreatDoor
open Go.RowKit
attribute [local go_sem] ext_ext drew_ext ext_drew ext_cell ext_frozen in_lt in_le in_ne in_en in_ne1 in_en1 in_le1 in_ltn in_len in_nen in_enn size_le ite_max ite_min
set_option linter.unusedVariables false
set_option linter.unusedSimpArgs false

def iV (f : Nat → Int) (k : Nat) : List Value := (List.range k).map fun i => .int .i64 (f i)
theorem iV_snoc (f : Nat → Int) (k : Nat) : iV f (k + 1) = iV f k ++ [.int .i64 (f k)] := by simp [iV, List.range_succ]
theorem iV_at (f : Nat → Int) (k i : Nat) (h : i < k) : (iV f k)[i]? = some (.int .i64 (f i)) := by simp [iV, h]

end Go.Proofs.YtnogfelfgclajaaGreatDoor
end

section
namespace Go.Proofs.YtnogfelfgclajaaGreatDoor
open Go.RowKit Go.Shelf
attribute [local go_sem] ext_ext drew_ext ext_drew ext_cell ext_frozen in_lt in_le in_ne in_en in_ne1 in_en1 in_le1 in_ltn in_len in_nen in_enn size_le ite_max ite_min
set_option linter.unusedVariables false
set_option linter.unusedSimpArgs false
attribute [local go_sem] Oper.semAt_some

/-- What a round keeps: blocks of the ground's type. -/
def KeepsG (W W' : World) : Prop := ∀ (b : Nat) (cs : Array Value) (fr : Nat × Nat), W.heap[b]? = some (.cells cs 296 fr) → W'.heap[b]? = some (.cells cs 296 fr)
theorem KeepsG.trans' {A B C : World} (h : KeepsG A B) (k : KeepsG B C) : KeepsG A C := fun b cs fr hb => k b cs fr (h b cs fr hb)
theorem keepsG_b {w : World} (W : World) (l : Nat) (o o' : Obj) (_ : w.heap.size ≤ l) (h : W.heap[l]? = some o) (ho : o.isCells = false) (_ : o.isWalk = false) : KeepsG W (W.putObj l o') := fun b cs fr hb => by
  by_cases e : b = l
  · subst e
    rw [hb] at h
    cases h
    cases ho
  · exact (World.putObj_heap_other e).trans hb
theorem grownBy_ext' {W W' : World} (h : ∃ f, W' = ext W f) : W.grownBy W' none := by
  obtain ⟨f, rfl⟩ := h
  have hb := ext_below W f
  exact ⟨hb.os, hb.tape, hb.output, hb.size, fun k hk _ => hb.block k hk⟩

/-- The ground's height, by a column's number. -/
def grS (s px pz : Int) (j : Nat) : Int := groundS s (px * 16 + (j : Int) % 16) (pz * 16 + (j : Int) / 16 % 16)
theorem blk_gr (s px pz : Int) (i : Nat) : blkS s px pz i = ofS ((i : Int) / 256) (grS s px pz (i % 256)) := by
  unfold blkS grS
  rw [show (((i % 256 : Nat) : Int)) % 16 = (i : Int) % 16 by omega, show (((i % 256 : Nat) : Int)) / 16 % 16 = (i : Int) / 16 % 16 by omega]
/-- Behind k columns: the ground lies in block B. -/
def GrIn (s px pz : Int) (B k : Nat) (W : World) : Prop := ∃ cs, W.heap[B]? = some (.cells cs 296 (0, 0)) ∧ cs.size = 256 ∧ ∀ j, j < k → cs[j]? = some (.int .i64 (grS s px pz j))

set_option maxRecDepth 100000 in
set_option maxHeartbeats 4000000 in
theorem cells1_in (s px pz : Int) (n : Nat) (hn : 1 ≤ n) (hp : Pl px pz) (bp bs l : Nat) (J Jx : List Nat → World → Prop) (W : World) (hJ : AbidesFrom W.heap.size J)
    (hY : ∀ pre x W1, J pre W1 → pre.length < 8192 → YieldAt Fence.wide (n - 1) Tryz.prog l #[.int .i64 (blkS s px pz x)] W1 fun e W' =>
      (e = .returned (.bool true) ∧ J (pre ++ [x]) W' ∧ KeepsG W1 W') ∨ (e = .returned (.bool false) ∧ Jx (pre ++ [x]) W'))
    (c0 : W.cell? ⟨bp, 0, none⟩ = some (.int .i64 px)) (c1 : W.cell? ⟨bp, 1, none⟩ = some (.int .i64 pz)) (c2 : W.cell? ⟨bs, 0, none⟩ = some (.int .i64 s)) (h0 : J [] W) :
    CallsIn Fence.wide n Tryz.prog 231 #[.func (.yield l) #[] #[], .pointer (some ⟨bp, 0, none⟩), .pointer (some ⟨bs, 0, none⟩)] W fun e W' => (∃ v, e = .returned v) ∧
      ((∃ ys, ys = List.range 8192 ∧ J ys W') ∨ (∃ pre, pre <+: List.range 8192 ∧ Jx pre W')) := by
  haveI := in_of_cell c0
  haveI := in_of_cell c2
  refine callsIn_of_wp Tryz.func231 rfl trivial ?_ rfl
  simp only [Tryz.ntmps231, List.size_toArray, List.length_cons, List.length_nil, Nat.reduceAdd, Nat.reduceSub, Array.replicate_succ, Array.replicate_zero, List.push_toArray, List.append_toArray, List.nil_append, List.cons_append]
  obtain ⟨Z, hZ, hz50⟩ : ∃ Z : Array Value, Z.size = 256 ∧ ∀ W : World, (zeroValue 296).run Tryz.prog W = .ok (.agg Z) W := ⟨Array.replicate 256 (.int .i64 0), by simp, fun _ => by kernel_rfl⟩
  have HZ := Lib.hid hZ
  have HJ := Lib.hid hJ
  have HY := Lib.hid hY
  have H0 := Lib.hid h0
  have HP := Lib.hid hp
  clear hZ hJ hY h0 hp
  gi_wp2
  gi_loopw [9] (fun i wr => ∃ k : Nat, k ≤ 256 ∧ i = .int .i64 k ∧ GrIn s px pz W.heap.size k wr ∧ ∃ f, wr = ext W f) (fun i _ => 256 - (intOf i).toNat)
  case atStart => exact ⟨0, by omega, rfl, ⟨Z, heap_alloc_new W _, HZ.out, fun j hj => by omega⟩, grown_of⟩
  case round =>
    obtain ⟨k, hk, rfl, hG, _, hw⟩ := hrel
    rename World => w1
    haveI hg1 := named_grown hw
    have hc1 := named_cell hw
    have hz1 := named_frozen hw
    have hh1 := named_heap hw
    haveI hi1 := named_in hw
    clear hw
    have HG := Lib.hid hG
    by_cases hlt : k < 256
    · have HK := Lib.hid hlt
      have k0 : (0 : Int) ≤ (k : Int) := Int.natCast_nonneg _
      have k1 : (k : Int) < 256 := by omega
      clear hG
      obtain ⟨cs, hcs, hsz, hval⟩ := HG.out
      obtain ⟨u, d0⟩ : ∃ u, w1.cell? ⟨W.heap.size, k, none⟩ = some u := ⟨_, (cell_of_row w1 _ k cs _ _ hcs).trans (Array.getElem?_eq_getElem (by omega))⟩
      have d1 : w1.frozen? ⟨W.heap.size, k, none⟩ = false := frozen_of_row w1 _ k cs _ hcs
      haveI := in_of_cell d0
      obtain ⟨q1, q2⟩ := pl_fit HP.out ((k : Int) % 16) ((k : Int) / 16 % 16) (by omega) (by omega) (by omega) (by omega)
      have HC := Lib.hid (And.intro hcs (And.intro hsz hval))
      clear hcs hsz hval
      gi_wp2
      refine ⟨trivial, (callsIn_wide.2 (from_any px pz k _ HP.out.p1 HP.out.p2 HP.out.q1 HP.out.q2 k0 (by omega))).mono ?_⟩
      rintro e w2 ⟨rfl, _t, hw⟩
      haveI hg2 := named_grown hw
      haveI hb2_1 := named_below (w := w1) hw
      haveI hb2_W := named_below (w := W) hw
      have hc2 := named_cell hw
      have hz2 := named_frozen hw
      have hh2 := named_heap hw
      haveI hi2 := named_in hw
      clear hw
      gi_wp2
      refine ⟨trivial, (callsIn_wide.2 (ground_any s _ _ _ q1 q2)).mono ?_⟩
      rintro e w3 ⟨rfl, _t, hw⟩
      haveI hg3 := named_grown hw
      haveI hb3_1 := named_below (w := w1) hw
      haveI hb3_2 := named_below (w := w2) hw
      haveI hb3_W := named_below (w := W) hw
      have hc3 := named_cell hw
      have hz3 := named_frozen hw
      have hh3 := named_heap hw
      haveI hi3 := named_in hw
      clear hw
      have HH : Hid (w3.heap[W.heap.size]? = w1.heap[W.heap.size]?) := Lib.hid ((grown_now (w := w1) (W := w3)).block _ (World.block_lt_of_cell? w1 _ d0))
      have HB3 := Lib.hid (grown_now (w := w1) (W := w3))
      gi_wp2
      go_roundw
      case rel =>
        refine ⟨k + 1, HK.out, by go_num, ?_, ext_of (((grown_now (w := W) (W := w1)).trans (HB3.out.mono (grown_now (w := W) (W := w1)).size)).setCell (Nat.le_refl _) _)⟩
        obtain ⟨hcs, hsz, hval⟩ := HC.out
        have hlk := HK.out
        refine ⟨cs.setIfInBounds k (.int .i64 (grS s px pz k)), heap_setCell_same w3 _ k cs _ _ (HH.out.trans hcs), by simp [hsz], fun j hj => ?_⟩
        by_cases e : k = j
        · subst e
          simp [hsz, hlk]
        · rw [Array.getElem?_setIfInBounds_ne e]
          exact hval j (by omega)
      case measure => have := HK.out; simp [intOf]; omega
    · have HG2 : Hid (GrIn s px pz W.heap.size 256 w1) := Lib.hid (by
        have hG2 := HG.out
        have e : k = 256 := by omega
        rw [e] at hG2
        exact hG2)
      have k1 : ¬ (k : Int) < 256 := by omega
      have J1 := Lib.hid (HJ.out [] W w1 none H0.out (grownBy_ext' (grown_of (w := W) (W := w1))) (fun r e => by cases e))
      clear hG HG hlt hk
      gi_wp2
      gi_loopw [27] (fun i wr => ∃ k : Nat, k ≤ 8192 ∧ i = .int .i64 k ∧ GrIn s px pz W.heap.size 256 wr ∧ J (List.range k) wr ∧ W.heap.size ≤ wr.heap.size) (fun i _ => 8192 - (intOf i).toNat)
      case atStart => exact ⟨0, by omega, rfl, HG2.out, J1.out, (grown_now (w := W) (W := w1)).size⟩
      case round =>
        obtain ⟨i, hi, rfl, hG, hJi, hsW⟩ := hrel
        rename World => w4
        by_cases hi2 : i < 8192
        · obtain ⟨cs, hcs, hsz, hval⟩ := hG
          have i0 : (0 : Int) ≤ (i : Int) := Int.natCast_nonneg _
          have i1 : (i : Int) < 8192 := by omega
          have HI := Lib.hid hi2
          obtain ⟨fn, tmps, assign, body, hy, hR⟩ := HY.out _ i w4 hJi (by simpa using hi2)
          rw [blk_gr s px pz i] at hy
          have hval2 := hval (i % 256) (by omega)
          have d0 : w4.cell? ⟨W.heap.size, i % 256, none⟩ = some (.int .i64 (grS s px pz (i % 256))) := by
            rw [cell_of_row w4 _ _ cs _ _ hcs]
            exact hval2
          haveI := in_of_cell d0
          obtain ⟨g1, g2⟩ : 6 ≤ grS s px pz (i % 256) ∧ grS s px pz (i % 256) ≤ 14 := groundS_bd ..
          have HCS := Lib.hid hcs
          have HSV := Lib.hid (And.intro hsz hval)
          have HSW := Lib.hid hsW
          have HR := Lib.hid (show List.range (i + 1) = List.range i ++ [i] from List.range_succ)
          have HJI := Lib.hid hJi
          clear hcs hsz hval hval2 hJi hsW hi2 hi
          generalize grS s px pz (i % 256) = g at *
          gi_wp2
          refine ⟨trivial, (callsIn_wide.2 (of_any ((i : Int) / 256) g _ g1 g2)).mono ?_⟩
          rintro e w5 ⟨rfl, rfl⟩
          gi_wp2
          refine hR.mono ?_
          rintro e w6 (⟨rfl, hJ6, hK6⟩ | ⟨rfl, hJx6⟩)
          · have HJ6 := Lib.hid hJ6
            have HK6 := Lib.hid hK6
            clear hJ6 hK6
            gi_wp2
            go_roundw
            case rel => exact ⟨i + 1, HI.out, by go_num, ⟨cs, HK6.out _ _ _ HCS.out, HSV.out.1, HSV.out.2⟩, by rw [HR.out]; exact HJ6.out, Nat.le_of_lt (Array.getElem?_eq_some_iff.1 (HK6.out _ _ _ HCS.out)).1⟩
            case measure => have := HI.out; simp [intOf]; omega
          · have HJX := Lib.hid hJx6
            clear hJx6
            gi_wp2
            refine bodyPost_ret (results_none rfl _ _ _) rfl ?_
            refine ⟨⟨_, rfl⟩, .inr ⟨List.range i ++ [i], ?_, HJX.out⟩⟩
            rw [← HR.out]
            have := HI.out
            exact ⟨(List.range 8192).drop (i + 1), by
              have e : List.range (i + 1) = (List.range 8192).take (i + 1) := by rw [List.take_range, Nat.min_eq_left (by omega)]
              rw [e, List.take_append_drop]⟩
        · have e8 : i = 8192 := by omega
          have J8 : Hid (J (List.range 8192) w4) := Lib.hid (by rw [e8] at hJi; exact hJi)
          have i1 : ¬ (i : Int) < 8192 := by omega
          clear hG hJi e8 hi hi2
          gi_wp2
          go_end0
          exact ⟨⟨_, rfl⟩, .inl ⟨_, rfl, J8.out⟩⟩

theorem cells_stops (s px pz : Int) (n : Nat) (hn : 1 ≤ n) (hp : Pl px pz) (bp bs : Nat) (w : World) (c0 : w.cell? ⟨bp, 0, none⟩ = some (.int .i64 px)) (c1 : w.cell? ⟨bp, 1, none⟩ = some (.int .i64 pz)) (c2 : w.cell? ⟨bs, 0, none⟩ = some (.int .i64 s)) :
    SeqStopsK Fence.wide n Tryz.prog 231 #[.pointer (some ⟨bp, 0, none⟩), .pointer (some ⟨bs, 0, none⟩)] (fun i : Nat => #[Value.int .i64 (blkS s px pz i)]) KeepsG (fun ys => ys = List.range 8192) (fun pre => pre <+: List.range 8192) 8192 w := fun l J Jx W hW hJ _ hY h0 =>
  cells1_in s px pz n hn hp bp bs l J Jx W hJ hY ((hW.cell (p := ⟨bp, 0, none⟩) (World.block_lt_of_cell? w _ c0)).trans c0) ((hW.cell (p := ⟨bp, 1, none⟩) (World.block_lt_of_cell? w _ c1)).trans c1) ((hW.cell (p := ⟨bs, 0, none⟩) (World.block_lt_of_cell? w _ c2)).trans c2) h0

theorem gencells_any (s px pz : Int) (w : World) :
    Calls Tryz.prog 183 #[.int .i64 s, .agg #[.int .i64 px, .int .i64 pz]] w fun e w' => e = .returned (.func (.func 231) #[] #[.pointer (some ⟨w.heap.size + 1, 0, none⟩), .pointer (some ⟨w.heap.size, 0, none⟩)]) ∧
      w' = (w.alloc (.cells #[.int .i64 s] 3)).alloc (.cells #[.int .i64 px, .int .i64 pz] 35) := by
  have hmf : ∀ (fn : Fn) (first cap : Array Value) (w : World), (Instr.makeFunc fn first cap).run Tryz.prog w = .ok (.func fn first cap) w := fun _ _ _ _ => rfl
  go_enter Tryz.func183, Tryz.ntmps183
  go_wp2
  go_ret
  exact ⟨rfl, rfl⟩
end Go.Proofs.YtnogfelfgclajaaGreatDoor
end

section
namespace Go.Proofs.YtnogfelfgclajaaGreatDoor
open Go.RowKit Go.Shelf
attribute [local go_sem] ext_ext drew_ext ext_drew ext_cell ext_frozen in_lt in_le in_ne in_en in_ne1 in_en1 in_le1 in_ltn in_len in_nen in_enn size_le ite_max ite_min
set_option linter.unusedVariables false
set_option linter.unusedSimpArgs false
attribute [local go_sem] Oper.semAt_some

theorem clip_any (g n cap : Nat) (w : World) (hn : n ≤ cap) (hc : cap ≤ 9223372036854775807) :
    Calls Tryz.prog 185 #[.slice (some ⟨g, 0, none⟩) n cap] w fun e w' => e = .returned (.slice (some ⟨g, 0, none⟩) n n) ∧ w = w' := by
  have h1 : (n : Int) ≤ (cap : Int) := by omega
  have h2 : (cap : Int) ≤ 9223372036854775807 := by omega
  go_enter Tryz.func185, Tryz.ntmps185
  go_wp2
  go_ret
  exact ⟨rfl, rfl⟩

theorem keepsG_append {W w1 : World} {B n₀ : Nat} {v v' : Value} {k : Nat} {xs : List Value} {tmp : Obj} (hv : Boxed W B 23 v) (hrow : W.ownsRow n₀ 3 1 v k xs) (hgrow : (W.alloc tmp).grownBy w1 v.ownBlock) :
    KeepsG W (w1.setCell ⟨B, 0, none⟩ v') := fun b cs fr hb => by
  have hlt : b < W.heap.size := (Array.getElem?_eq_some_iff.1 hb).1
  have h1 : (W.alloc tmp).heap[b]? = some (.cells cs 296 fr) := (Below.heap_alloc W tmp b hlt).trans hb
  have hne : some b ≠ v.ownBlock := fun e => by
    rcases hrow.2 with ⟨rfl, _⟩ | ⟨g, cap, cur, rfl, _, hgb, _⟩
    · simp [Value.ownBlock] at e
    · obtain rfl : b = g := by simpa [Value.ownBlock] using e
      rw [hgb] at hb
      simp at hb
  have h2 : w1.heap[b]? = some (.cells cs 296 fr) := (hgrow.block b (by simp; omega) hne).trans h1
  have hB : b ≠ B := fun e => by
    subst e
    have := (show W.heap[b]? = _ from hv).symm.trans hb
    simp at this
  exact (Below.heap_setCell w1 _ _ b hB).trans h2

set_option maxRecDepth 100000 in
set_option maxHeartbeats 4000000 in
theorem genchunk_any (s px pz : Int) (w : World) (hp : Pl px pz) :
    Calls Tryz.prog 140 #[.int .i64 s, .agg #[.int .i64 px, .int .i64 pz]] w (MadeRow 235 2 (rleN (blkS s px pz) 8192).length (rV (rleN (blkS s px pz) 8192)) w) := by
  obtain ⟨i0, hi, hz0, hz1, hz2⟩ := info_parts intInfo
  refine (callsIn_wide (n := 5)).1 ?_
  refine callsIn_of_wp_marks Tryz.func140 rfl trivial ?_ rfl
  simp only [Tryz.ntmps140, List.size_toArray, List.length_cons, List.length_nil, Nat.reduceAdd, Nat.reduceSub, Array.replicate_succ, Array.replicate_zero, List.push_toArray, List.append_toArray, List.nil_append, List.cons_append]
  gi_wp2
  refine ⟨trivial, (callsIn_wide.2 (gencells_any s px pz _)).mono ?_⟩
  rintro e w' ⟨rfl, rfl⟩
  gi_wp2
  have hB0 : Below w.heap.size w ((((w.alloc (.cells #[.int .i64 px, .int .i64 pz] 35)).alloc (.cells #[.slice none 0 0] 23)).alloc (.cells #[.int .i64 s] 3)).alloc (.cells #[.int .i64 px, .int .i64 pz] 35)) := grown_now
  have c0 : ((((w.alloc (.cells #[.int .i64 px, .int .i64 pz] 35)).alloc (.cells #[.slice none 0 0] 23)).alloc (.cells #[.int .i64 s] 3)).alloc (.cells #[.int .i64 px, .int .i64 pz] 35)).cell? ⟨w.heap.size + 1 + 1 + 1, 0, none⟩ = some (.int .i64 px) := by go_simp
  have c1 : ((((w.alloc (.cells #[.int .i64 px, .int .i64 pz] 35)).alloc (.cells #[.slice none 0 0] 23)).alloc (.cells #[.int .i64 s] 3)).alloc (.cells #[.int .i64 px, .int .i64 pz] 35)).cell? ⟨w.heap.size + 1 + 1 + 1, 1, none⟩ = some (.int .i64 pz) := by go_simp
  have c2 : ((((w.alloc (.cells #[.int .i64 px, .int .i64 pz] 35)).alloc (.cells #[.slice none 0 0] 23)).alloc (.cells #[.int .i64 s] 3)).alloc (.cells #[.int .i64 px, .int .i64 pz] 35)).cell? ⟨w.heap.size + 1 + 1, 0, none⟩ = some (.int .i64 s) := by go_simp
  have bO := ((Boxed.new (w.alloc (.cells #[.int .i64 px, .int .i64 pz] 35)) 23 (.slice none 0 0)).alloc (.cells #[.int .i64 s] 3)).alloc (.cells #[.int .i64 px, .int .i64 pz] 35)
  rw [World.size_alloc] at bO
  generalize (((w.alloc (.cells #[.int .i64 px, .int .i64 pz] 35)).alloc (.cells #[.slice none 0 0] 23)).alloc (.cells #[.int .i64 s] 3)).alloc (.cells #[.int .i64 px, .int .i64 pz] 35) = W0 at *
  refine wpIn_rangeFunc_ownG rfl (by omega) (gf := 231) (lb := #[.pointer (some ⟨w.heap.size + 1 + 1 + 1, 0, none⟩), .pointer (some ⟨w.heap.size + 1 + 1, 0, none⟩)]) rfl trivial (enters_of Tryz.func231 (by kernel_rfl) rfl)
    (cells_stops s px pz _ (by omega) hp (w.heap.size + 1 + 1 + 1) (w.heap.size + 1 + 1) W0 c0 c1 c2) KeepsG.trans' keepsG_b (Below.refl _ _) (fun _ => rfl)
    (fun pre W => (∃ v, Boxed W (w.heap.size + 1) 23 v ∧ W.ownsRow w.heap.size 3 1 v pre.length (pre.map fun i => .int .i64 (blkS s px pz i)) ∧ True) ∧ Below w.heap.size w W)
    (fun _ _ _ => False)
    (OwnFrom.and (Own.from (holdsRow_own w.heap.size (w.heap.size + 1) 23 3 1 (fun pre : List Nat => pre.length) (fun pre => pre.map fun i => .int .i64 (blkS s px pz i)) (fun _ _ => True)) _) (ownFrom_below (Nat.le_refl _) hB0.size))
    (fun _ _ _ _ _ hs _ _ => hs)
    ⟨⟨_, bO, World.ownsRow_nil _ _ _ _, trivial⟩, hB0⟩
    (fun x => { tmps := #[.int .i64 s, .agg #[.int .i64 px, .int .i64 pz], undef, .pointer (some ⟨w.heap.size, 0, none⟩), .slice none 0 0, .pointer (some ⟨w.heap.size + 1, 0, none⟩), .int .i64 (blkS s px pz x), .int .i64 s, .agg #[.int .i64 px, .int .i64 pz], .func (.func 231) #[] #[.pointer (some ⟨w.heap.size + 1 + 1 + 1, 0, none⟩), .pointer (some ⟨w.heap.size + 1 + 1, 0, none⟩)], .int .i64 (blkS s px pz x), undef, undef, undef, undef, undef, undef, undef], defers := [] }) ?assign ?body ?done ?stop
  case assign =>
    intro l x W K hK
    gi_wp2
    exact hK
  case body =>
    rintro l pre x W ⟨⟨v, hv, hrow, _⟩, hB⟩ hlt
    have hc := hv.cell
    have HV := Lib.hid hv
    have HR := Lib.hid hrow
    gi_wp2_with (gi_at_builtin; refine wpListIn_append_own _ rfl _ _ 23 rfl w.heap.size 3 i0 (.int .i64 0) 1 8 Tryz.underlying23 hi hz0 hz1 hz2 rfl (by decide) _ _ _ rfl (HR.out.alloc _) ⟨W.heap.size, 0, none⟩ 1 1 [.int .i64 (blkS s px pz x)] rfl rfl (cell_one_new _ _ _) (by simp [Value.oneCell']) (by unfold maxLen; omega) (by omega) (by have := hB.size; simp; omega) ?_; intro v' w1 hown' hgrow _; obtain ⟨g', cap', rfl⟩ := ownsRow_succ hown'; obtain ⟨hv1, hv2, hr2, hk2, hb2⟩ := HV.out.appended (by decide) HR.out hB.size (by omega) hown' hgrow; have hc1 := hv1.cell; have hf1 := hv1.frozen)
    refine ⟨hk2.from _, keepsG_append HV.out HR.out hgrow, ⟨⟨_, hv2, ?_, trivial⟩, hB.trans hb2⟩⟩
    rw [List.length_append, List.map_append]
    exact hr2
  case done =>
    rintro D ys W hD rfl ⟨⟨v, hv, hrow, _⟩, hB⟩ hK
    rw [List.length_range] at hrow
    obtain ⟨g, cap, rfl, _, hcp, hcm, hcells⟩ := owns_some hrow (by omega)
    have hc := hv.cell
    have HC := Lib.hid (show ∀ i, i < 8192 → W.cell? ⟨g, i, none⟩ = some (.int .i64 (blkS s px pz i)) from fun i hi => hcells i _ (iV_at (blkS s px pz) 8192 i hi))
    have HB := Lib.hid hB
    have HK := Lib.hid hK
    have HD := Lib.hid hD
    haveI hbW : Nonempty (Below w.heap.size w W) := ⟨hB⟩
    clear hcells hrow hv hB hK hD
    gi_wp2
    refine ⟨trivial, (callsIn_wide.2 (clip_any g 8192 cap _ hcp hcm)).mono ?_⟩
    rintro e w2 ⟨rfl, rfl⟩
    gi_wp2
    refine ⟨trivial, (callsIn_wide.2 (of_runs (blkS s px pz) 8192 g 8192 _ (by omega) (by omega) HC.out)).mono ?_⟩
    rintro e w3 ⟨v3, rfl, ho3, _t, hw⟩
    haveI hg3 := named_grown hw
    have hc3 := named_cell hw
    have hz3 := named_frozen hw
    have hh3 := named_heap hw
    haveI hi3 := named_in hw
    clear hw
    have HO := Lib.hid ho3
    have HG3 := Lib.hid (grown_now (w := W) (W := w3))
    have HK3 : Hid (w3.heap[D]? = some (.deferred (some []))) := Lib.hid ((HG3.out.block D (Array.getElem?_eq_some_iff.1 HK.out).1).trans HK.out)
    clear ho3
    gi_wp2
    refine ⟨by simp, .inl ⟨_, _, rfl, run_takeDeferred HK3.out, ?_⟩⟩
    have hf : Below w.heap.size w (w3.putObj D (.deferred none)) := (HB.out.trans (HG3.out.mono HB.out.size)).trans (belowK_b (w := w) (Nat.le_refl _) w3 D _ _ (Nat.le_trans hB0.size HD.out) HK3.out rfl rfl)
    exact ⟨_, results_tmp rfl _ _ _, _, rfl, ownsRow_putObj (owns_base HO.out HB.out.size) _ HK3.out rfl, ext_of hf⟩
  case stop =>
    rintro D c pre W _ _ h _
    exact h.elim
end Go.Proofs.YtnogfelfgclajaaGreatDoor
end

section
namespace Go.Proofs.YtnogfelfgclajaaGreatDoor
open Go.RowKit
attribute [local go_sem] ext_ext drew_ext ext_drew ext_cell ext_frozen in_lt in_le in_ne in_en in_ne1 in_en1 in_le1 in_ltn in_len in_nen in_enn size_le ite_max ite_min
set_option linter.unusedVariables false
set_option linter.unusedSimpArgs false

theorem chunk_any (x y z : Int) (w : World) (hx : Fit x) (hz : Fit z) :
    Calls Tryz.prog 81 #[.agg #[.int .i64 x, .int .i64 y, .int .i64 z]] w fun e w' => e = .returned (.agg #[.int .i64 (divS x 16), .int .i64 (divS z 16)]) ∧ ∃ f, w' = ext w f := by
  go_enter Tryz.func81, Tryz.ntmps81
  go_wp2_with fail
  first | (with_reducible refine wp_region_ext_tail_on 7 ?_ ?_ ?_) | refine wp_region_ext_tail 7 ?_ ?_ ?_
  · kernel_rfl
  · kernel_rfl
  simp only [List.take_succ_cons, List.take_zero, List.drop_succ_cons, List.drop_zero]
  repeat (go_big_quiet_step (first | (go_at_call 127; exact ext_same (div_any _ _ _ (by assumption) fit16))))
  refine wpQuiet_nil ?_
  rintro _ ⟨t, rfl⟩
  go_wp2
  go_returns
  exact ⟨rfl, grown_of⟩

theorem refchunk_any (x y z : Int) (w : World) (hx : Fit x) (hz : Fit z) :
    Calls Tryz.prog 10 #[.agg #[.int .i64 x, .int .i64 y, .int .i64 z]] w fun e w' => e = .returned (.agg #[.int .i64 (divS x 16), .int .i64 (divS z 16)]) ∧ ∃ f, w' = ext w f := by
  go_enter Tryz.func10, Tryz.ntmps10
  go_wp2_with fail
  first | (with_reducible refine wp_region_ext_tail_on 7 ?_ ?_ ?_) | refine wp_region_ext_tail 7 ?_ ?_ ?_
  · kernel_rfl
  · kernel_rfl
  simp only [List.take_succ_cons, List.take_zero, List.drop_succ_cons, List.drop_zero]
  repeat (go_big_quiet_step (first | (go_at_call 32; exact ext_same (ref03div_any _ _ _ (by assumption) fit16))))
  refine wpQuiet_nil ?_
  rintro _ ⟨t, rfl⟩
  go_wp2
  go_returns
  exact ⟨rfl, grown_of⟩

theorem index_out (x y z : Int) (w : World) (hy : y < 0 ∨ 31 < y) :
    Calls Tryz.prog 173 #[.agg #[.int .i64 x, .int .i64 y, .int .i64 z]] w fun e w' => e = .returned (.tuple #[.int .i64 0, .bool false]) ∧ ∃ f, w' = ext w f := by
  rcases hy with hy | hy
  · go_enter Tryz.func173, Tryz.ntmps173
    go_wp2
    go_ret2
    exact ⟨rfl, grown_of⟩
  · have h1 : ¬ y < 0 := by omega
    have h2 : 32 ≤ y := by omega
    go_enter Tryz.func173, Tryz.ntmps173
    go_wp2
    go_ret2
    exact ⟨rfl, grown_of⟩

theorem index_in (x y z : Int) (w : World) (hx : Fit x) (hz : Fit z) (h1 : 0 ≤ y) (h2 : y ≤ 31) :
    Calls Tryz.prog 173 #[.agg #[.int .i64 x, .int .i64 y, .int .i64 z]] w fun e w' => e = .returned (.tuple #[.int .i64 (idxS x y z), .bool true]) ∧ ∃ f, w' = ext w f := by
  obtain ⟨a1, a2⟩ := mod16 x
  obtain ⟨b1, b2⟩ := mod16 z
  have g : ¬ 32 ≤ y := by omega
  go_enter Tryz.func173, Tryz.ntmps173
  go_wp2_with fail
  first | (with_reducible refine wp_region_ext_on ?_ ?_ ?_) | refine wp_region_ext ?_ ?_ ?_
  · kernel_rfl
  · kernel_rfl
  repeat (go_big_quiet_step (first | (go_at_call 223; exact ext_same (mod_any _ _ _ (by assumption) fit16))))
  refine wpQuiet_nil ?_
  rintro _ ⟨t, rfl⟩
  go_wp2
  go_ret2
  exact ⟨ret_ib (by unfold idxS; omega), grown_of⟩

theorem cut_any (n : Int) (w : World) :
    Calls Tryz.prog 258 #[.int .i64 n] w fun e w' => e = .returned (.int .i64 (cutS n)) ∧ w = w' := by
  go_enter Tryz.func258, Tryz.ntmps258
  go_wp2
  go_ret
  exact ⟨rfl, rfl⟩

theorem cutcell_any (x y z : Int) (w : World) :
    Calls Tryz.prog 247 #[.agg #[.int .i64 x, .int .i64 y, .int .i64 z]] w fun e w' => e = .returned (.agg #[.int .i64 (cutS x), .int .i64 (cutS y), .int .i64 (cutS z)]) ∧ ∃ f, w' = ext w f := by
  go_enter Tryz.func247, Tryz.ntmps247
  go_wp2_with fail
  first | (with_reducible refine wp_region_ext_tail_on 10 ?_ ?_ ?_) | refine wp_region_ext_tail 10 ?_ ?_ ?_
  · kernel_rfl
  · kernel_rfl
  simp only [List.take_succ_cons, List.take_zero, List.drop_succ_cons, List.drop_zero]
  repeat (go_big_quiet_step (first | (go_at_call 258; exact ext_same (cut_any _ _))))
  refine wpQuiet_nil ?_
  rintro _ ⟨t, rfl⟩
  go_wp2
  go_returns
  exact ⟨rfl, grown_of⟩

/-- A chunk's id. -/
def idS (x z : Int) : Int := (x + 524288) * 1048576 + z + 524289
theorem id_any (x z : Int) (hx : -1000 ≤ x) (hx2 : x ≤ 1000) (hz : -1000 ≤ z) (hz2 : z ≤ 1000) (w : World) :
    Calls Tryz.prog 91 #[.agg #[.int .i64 x, .int .i64 z]] w fun e w' => e = .returned (.tuple #[.int .i64 (idS x z), .bool true]) ∧ ∃ f, w' = ext w f := by
  have H := Lib.hid (show (x + 524288) * 2 * 524288 + z + 524288 + 1 = idS x z by unfold idS; omega)
  go_enter Tryz.func91, Tryz.ntmps91
  go_wp2
  go_ret2
  exact ⟨ret_ib H.out, grown_of⟩
end Go.Proofs.YtnogfelfgclajaaGreatDoor
end
