/-
  What a ray sees, one by one: the iterator's contract: every hit's cell is near the first one.
-/
import Derived.Test.YtnogfelfgclajaaGreatDoorMb31
import Derived.Test.YtnogfelfgclajaaGreatDoorMb22
import Derived.Test.YtnogfelfgclajaaGreatDoorMb32
import Derived.Test.YtnogfelfgclajaaGreatDoorMb16
section
namespace Go.Proofs.YtnogfelfgclajaaGreatDoor
open Go.RowKit Go.Shelf
attribute [local go_sem] ext_ext drew_ext ext_drew ext_cell ext_frozen in_lt in_le in_ne in_en in_ne1 in_en1 in_le1 in_ltn in_len in_nen in_enn size_le ite_max ite_min
set_option linter.unusedVariables false
set_option linter.unusedSimpArgs false
attribute [local go_sem] Oper.semAt_some
set_option maxRecDepth 1000000

/-- What a round keeps: all blocks of cells. -/
def KeepsX (W W' : World) : Prop := ∀ (b : Nat) (cs : Array Value) (T : TypeId) (fr : Nat × Nat), W.heap[b]? = some (.cells cs T fr) → W'.heap[b]? = some (.cells cs T fr)
theorem KeepsX.trans' {A B C : World} (h : KeepsX A B) (k : KeepsX B C) : KeepsX A C := fun b cs T fr hb => k b cs T fr (h b cs T fr hb)
theorem keepsX_b {w : World} (W : World) (l : Nat) (o o' : Obj) (_ : w.heap.size ≤ l) (h : W.heap[l]? = some o) (ho : o.isCells = false) (_ : o.isWalk = false) : KeepsX W (W.putObj l o') := fun b cs T fr hb => by
  by_cases e : b = l
  · subst e
    rw [hb] at h
    cases h
    cases ho
  · exact (World.putObj_heap_other e).trans hb
theorem keepsX_below {W W' : World} (h : Below W.heap.size W W') : KeepsX W W' := fun b cs T fr hb => (h.block b (lt_of_block hb)).trans hb
/-- A hit near (x, y, z). -/
structure HitB (x y z : Int) where
  cx : Int
  cy : Int
  cz : Int
  face : Int
  time : Int
  hx : x - 5 ≤ cx ∧ cx ≤ x + 5
  hy : y - 5 ≤ cy ∧ cy ≤ y + 5
  hz : z - 5 ≤ cz ∧ cz ≤ z + 5
  hf : -1 ≤ face ∧ face ≤ 5
/-- As a value. -/
def HitB.enc {x y z : Int} (h : HitB x y z) : Array Value := #[.int .i64 h.cx, .int .i64 h.cy, .int .i64 h.cz, .int .i64 0, .int .i64 h.face, .int .i64 h.time]
/-- Where an axis has come to behind t steps. -/
def goS (x p : Int) (t : Nat) : Int := if 0 < p then x + t else x - t
theorem goS_zero (x p : Int) : goS x p 0 = x := by unfold goS; split <;> simp
theorem goS_bd (x p : Int) (t : Nat) : x - t ≤ goS x p t ∧ goS x p t ≤ x + t := by unfold goS; split <;> omega
theorem goS_near {x p : Int} {t : Nat} (h : nearB x (goS x p t) 5 = true) : t ≤ 5 := by
  rw [nearB_iff] at h
  unfold goS at h
  split at h <;> omega
theorem goS_pos {x p : Int} (t : Nat) (h : 0 < p) : goS x p (t + 1) = goS x p t + 1 := by unfold goS; rw [if_pos h, if_pos h]; omega
theorem goS_neg {x p : Int} (t : Nat) (h : ¬ 0 < p) : goS x p (t + 1) = goS x p t + -1 := by unfold goS; rw [if_neg h, if_neg h]; omega
/-- The sum of what is left along the axes. -/
def sumL (w : World) (b : Nat) : Int := match w.heap[b]? with
  | some (.cells cs _ _) => intOf (cs.getD 0 undef) + intOf (cs.getD 2 undef) + intOf (cs.getD 4 undef)
  | _ => 0
theorem sumL_of {w : World} {b : Nat} {l0 s0 l1 s1 l2 s2 : Int} {T : TypeId} (h : w.heap[b]? = some (.cells #[.int .i64 l0, .int .i64 s0, .int .i64 l1, .int .i64 s1, .int .i64 l2, .int .i64 s2] T (0, 0))) : sumL w b = l0 + l1 + l2 := by
  unfold sumL; rw [h]; rfl
theorem speedS_bd {p : Int} (h : -1000000 ≤ p ∧ p ≤ 1000000) : 0 ≤ speedS p ∧ speedS p ≤ 1000000 := by unfold speedS; split <;> omega
theorem goS_mid {x p : Int} {t : Nat} (h : -900 ≤ x ∧ x ≤ 900) (ht : t ≤ 6) : Mid (goS x p t) := by have := goS_bd x p t; exact ⟨by omega, by omega⟩
theorem rprod_bd {a t : Int} (ha : 0 ≤ a ∧ a ≤ 1000000) (ht : 0 ≤ t ∧ t ≤ 1000000) : -4000000000000000000 ≤ a * t ∧ a * t ≤ 4000000000000000000 := by
  have h1 := Int.mul_nonneg ha.1 ht.1
  have h2 := Int.mul_le_mul ha.2 ht.2 ht.1 (show (0 : Int) ≤ 1000000 by omega)
  omega
theorem nb_ix0 (x y z : Int) (w : World) : (Instr.index 269 (.agg (nbS x y z)) (.int .i64 0)).run Tryz.prog w = .ok (.agg #[.int .i64 (x + -1), .int .i64 y, .int .i64 z]) w := by kernel_rfl
theorem nb_ix1 (x y z : Int) (w : World) : (Instr.index 269 (.agg (nbS x y z)) (.int .i64 1)).run Tryz.prog w = .ok (.agg #[.int .i64 (x + 1), .int .i64 y, .int .i64 z]) w := by kernel_rfl
theorem nb_ix2 (x y z : Int) (w : World) : (Instr.index 269 (.agg (nbS x y z)) (.int .i64 2)).run Tryz.prog w = .ok (.agg #[.int .i64 x, .int .i64 (y + -1), .int .i64 z]) w := by kernel_rfl
theorem nb_ix3 (x y z : Int) (w : World) : (Instr.index 269 (.agg (nbS x y z)) (.int .i64 3)).run Tryz.prog w = .ok (.agg #[.int .i64 x, .int .i64 (y + 1), .int .i64 z]) w := by kernel_rfl
theorem nb_ix4 (x y z : Int) (w : World) : (Instr.index 269 (.agg (nbS x y z)) (.int .i64 4)).run Tryz.prog w = .ok (.agg #[.int .i64 x, .int .i64 y, .int .i64 (z + -1)]) w := by kernel_rfl
theorem nb_ix5 (x y z : Int) (w : World) : (Instr.index 269 (.agg (nbS x y z)) (.int .i64 5)).run Tryz.prog w = .ok (.agg #[.int .i64 x, .int .i64 y, .int .i64 (z + 1)]) w := by kernel_rfl
attribute [local go_sem] nb_ix0 nb_ix1 nb_ix2 nb_ix3 nb_ix4 nb_ix5
set_option maxHeartbeats 16000000 in
theorem trace1_in (a b c p q r : Int) (ha : 0 ≤ a ∧ a ≤ 100000000) (hb : 0 ≤ b ∧ b ≤ 100000000) (hc : 0 ≤ c ∧ c ≤ 100000000) (hp : -1000000 ≤ p ∧ p ≤ 1000000) (hq : -1000000 ≤ q ∧ q ≤ 1000000) (hr : -1000000 ≤ r ∧ r ≤ 1000000) (n : Nat) (hn : 1 ≤ n) (g0 g1 g2 l : Nat)
    (J Jx : List (HitB (flS a) (flS b) (flS c)) → World → Prop) (W : World) (hm : (-900 ≤ flS a ∧ flS a ≤ 900) ∧ (-900 ≤ flS b ∧ flS b ≤ 900) ∧ -900 ≤ flS c ∧ flS c ≤ 900) (hJ : Low W.heap.size J)
    (hY : ∀ pre (h : HitB (flS a) (flS b) (flS c)) W1, J pre W1 → pre.length < 17 → YieldAt Fence.wide (n - 1) Tryz.prog l #[.agg h.enc] W1 fun e W' =>
      (e = .returned (.bool true) ∧ J (pre ++ [h]) W' ∧ KeepsX W1 W') ∨ (e = .returned (.bool false) ∧ Jx (pre ++ [h]) W'))
    (c0 : W.heap[g0]? = some (.cells #[.int .i64 a, .int .i64 b, .int .i64 c] 46 (0, 0))) (c1 : W.heap[g1]? = some (.cells #[.int .i64 p, .int .i64 q, .int .i64 r] 46 (0, 0))) (c2 : W.heap[g2]? = some (.cells #[.int .i64 5] 3 (0, 0))) (h0 : J [] W) :
    CallsIn Fence.wide n Tryz.prog 269 #[.func (.yield l) #[] #[], .pointer (some ⟨g0, 0, none⟩), .pointer (some ⟨g1, 0, none⟩), .pointer (some ⟨g2, 0, none⟩)] W fun e W' => (∃ v, e = .returned v) ∧
      ((∃ ys, J ys W') ∨ (∃ pre, Jx pre W')) := by
  have p0 := cell_of_block (i := 0) c0 rfl
  have p1 := cell_of_block (i := 1) c0 rfl
  have p2 := cell_of_block (i := 2) c0 rfl
  have q0 := cell_of_block (i := 0) c1 rfl
  have q1 := cell_of_block (i := 1) c1 rfl
  have q2 := cell_of_block (i := 2) c1 rfl
  have r0 := cell_of_block (i := 0) c2 rfl
  haveI := in_of_cell p0
  haveI := in_of_cell q0
  haveI := in_of_cell r0
  refine callsIn_of_wp Tryz.func269 rfl trivial ?_ rfl
  simp only [Tryz.ntmps269, List.size_toArray, List.length_cons, List.length_nil, Nat.reduceAdd, Nat.reduceSub, Array.replicate_succ, Array.replicate_zero, List.push_toArray, List.append_toArray, List.nil_append, List.cons_append]
  have HJ := Lib.hid hJ
  have HY := Lib.hid hY
  have H0 := Lib.hid h0
  have HC := Lib.hid (And.intro c0 (And.intro c1 c2))
  have HB := Lib.hid (And.intro ha (And.intro hb (And.intro hc (And.intro hp (And.intro hq hr)))))
  have SD := Lib.hid (fun W => (show Calls Tryz.prog 270 #[.agg #[.int .i64 a, .int .i64 b, .int .i64 c], .agg #[.int .i64 p, .int .i64 q, .int .i64 r]] W fun e w' => e = .returned (.agg #[.int .i64 (leftS a p), .int .i64 (speedS p), .int .i64 (leftS b q), .int .i64 (speedS q), .int .i64 (leftS c r), .int .i64 (speedS r)]) ∧ ∃ f, w' = ext W f from sides_any a b c p q r W (by omega) (by omega) (by omega)))
  have HN := Lib.hid hm
  have NG := Lib.hid (And.intro (lt_of_block c0) (And.intro (lt_of_block c1) (lt_of_block c2)))
  clear hJ hY h0 c0 c1 c2 hm
  gi_wp2
  refine ⟨trivial, (callsIn_wide.2 (SD.out _)).mono ?_⟩
  rintro e w1 ⟨rfl, _t, hw⟩
  haveI hg1 := named_grown hw
  haveI hb1_W := named_below (w := W) hw
  have hc1 := named_cell hw
  have hz1 := named_frozen hw
  have hh1 := named_heap hw
  haveI hi1 := named_in hw
  clear hw
  gi_wp2
  refine ⟨trivial, (callsIn_wide.2 (cellof_any a b c _)).mono ?_⟩
  rintro e w2 ⟨rfl, _t, hw⟩
  haveI hg2 := named_grown hw
  haveI hb2_W := named_below (w := W) hw
  have hc2 := named_cell hw
  have hz2 := named_frozen hw
  have hh2 := named_heap hw
  haveI hi2 := named_in hw
  clear hw
  gi_wp2
  obtain ⟨BG2⟩ := hg2
  have L0 := (BG2.block w1.heap.size (by simp)).trans (heap_alloc_new w1 _)
  obtain ⟨GW, LS, LH, LC⟩ : Below W.heap.size W ((w2.alloc (.cells #[.int .i64 (flS a), .int .i64 (flS b), .int .i64 (flS c), .int .i64 0, .int .i64 (-1), .int .i64 0] 171)).alloc (.cells #[.int .i64 (flS a), .int .i64 (flS b), .int .i64 (flS c)] 30)) ∧
      ((w2.alloc (.cells #[.int .i64 (flS a), .int .i64 (flS b), .int .i64 (flS c), .int .i64 0, .int .i64 (-1), .int .i64 0] 171)).alloc (.cells #[.int .i64 (flS a), .int .i64 (flS b), .int .i64 (flS c)] 30)).heap[w1.heap.size]? = some (.cells #[.int .i64 (leftS a p), .int .i64 (speedS p), .int .i64 (leftS b q), .int .i64 (speedS q), .int .i64 (leftS c r), .int .i64 (speedS r)] 323 (0, 0)) ∧
      ((w2.alloc (.cells #[.int .i64 (flS a), .int .i64 (flS b), .int .i64 (flS c), .int .i64 0, .int .i64 (-1), .int .i64 0] 171)).alloc (.cells #[.int .i64 (flS a), .int .i64 (flS b), .int .i64 (flS c)] 30)).heap[w2.heap.size]? = some (.cells #[.int .i64 (flS a), .int .i64 (flS b), .int .i64 (flS c), .int .i64 0, .int .i64 (-1), .int .i64 0] 171 (0, 0)) ∧
      ((w2.alloc (.cells #[.int .i64 (flS a), .int .i64 (flS b), .int .i64 (flS c), .int .i64 0, .int .i64 (-1), .int .i64 0] 171)).alloc (.cells #[.int .i64 (flS a), .int .i64 (flS b), .int .i64 (flS c)] 30)).heap[w2.heap.size + 1]? = some (.cells #[.int .i64 (flS a), .int .i64 (flS b), .int .i64 (flS c)] 30 (0, 0)) := by
    refine ⟨grown_now, ?_, ?_, ?_⟩
    · rw [heap_alloc_old _ _ (by have := lt_of_block L0; simp; omega), heap_alloc_old _ _ (lt_of_block L0)]; exact L0
    · rw [heap_alloc_old _ _ (by simp)]; exact heap_alloc_new _ _
    · have := heap_alloc_new (w2.alloc (.cells #[.int .i64 (flS a), .int .i64 (flS b), .int .i64 (flS c), .int .i64 0, .int .i64 (-1), .int .i64 0] 171)) (.cells #[.int .i64 (flS a), .int .i64 (flS b), .int .i64 (flS c)] 30)
      rw [World.size_alloc] at this
      exact this
  generalize (w2.alloc (.cells #[.int .i64 (flS a), .int .i64 (flS b), .int .i64 (flS c), .int .i64 0, .int .i64 (-1), .int .i64 0] 171)).alloc (.cells #[.int .i64 (flS a), .int .i64 (flS b), .int .i64 (flS c)] 30) = w3 at *
  have LN : w1.heap.size ≠ w2.heap.size ∧ w1.heap.size ≠ w2.heap.size + 1 := by have := lt_of_block L0; omega
  have LW : W.heap.size ≤ w1.heap.size ∧ W.heap.size ≤ w2.heap.size := ⟨(grown_now (w := W) (W := w1)).size, (grown_now (w := W) (W := w2)).size⟩
  obtain ⟨lc, hlc⟩ : ∃ g, w2.heap.size + 1 = g := ⟨_, rfl⟩
  obtain ⟨lh, hlh⟩ : ∃ g, w2.heap.size = g := ⟨_, rfl⟩
  obtain ⟨ls, hls⟩ : ∃ g, w1.heap.size = g := ⟨_, rfl⟩
  rw [hlc] at LC LN ⊢
  rw [hlh] at LH LN LW ⊢
  rw [hls] at LS LN LW ⊢
  have n3 : lh ≠ lc := by omega
  have NE := Lib.hid (show g0 ≠ ls ∧ g1 ≠ ls ∧ g2 ≠ ls ∧ g0 ≠ lh ∧ g1 ≠ lh ∧ g2 ≠ lh by have := NG.out; have := LW; omega)
  have K0 := Lib.hid (GW.block g0 (lt_of_block HC.out.1) |>.trans HC.out.1)
  have K1 := Lib.hid (GW.block g1 (lt_of_block HC.out.2.1) |>.trans HC.out.2.1)
  have K2 := Lib.hid (GW.block g2 (lt_of_block HC.out.2.2) |>.trans HC.out.2.2)
  have J3 := Lib.hid (HJ.out [] W w3 GW H0.out)
  clear L0 BG2
  gi_loopw [] (fun wr => ∃ (t0 t1 t2 : Nat) (f tm : Int) (pre : List (HitB (flS a) (flS b) (flS c))), pre.length = t0 + t1 + t2 ∧ t0 ≤ 6 ∧ t1 ≤ 6 ∧ t2 ≤ 6 ∧ t0 + t1 + t2 ≤ 16 ∧ -1 ≤ f ∧ f ≤ 5 ∧
    wr.heap[ls]? = some (.cells #[.int .i64 (leftS a p + 65536 * t0), .int .i64 (speedS p), .int .i64 (leftS b q + 65536 * t1), .int .i64 (speedS q), .int .i64 (leftS c r + 65536 * t2), .int .i64 (speedS r)] 323 (0, 0)) ∧
    wr.heap[lh]? = some (.cells #[.int .i64 (goS (flS a) p t0), .int .i64 (goS (flS b) q t1), .int .i64 (goS (flS c) r t2), .int .i64 0, .int .i64 f, .int .i64 tm] 171 (0, 0)) ∧
    wr.heap[lc]? = some (.cells #[.int .i64 (flS a), .int .i64 (flS b), .int .i64 (flS c)] 30 (0, 0)) ∧
    wr.heap[g0]? = some (.cells #[.int .i64 a, .int .i64 b, .int .i64 c] 46 (0, 0)) ∧ wr.heap[g1]? = some (.cells #[.int .i64 p, .int .i64 q, .int .i64 r] 46 (0, 0)) ∧ wr.heap[g2]? = some (.cells #[.int .i64 5] 3 (0, 0)) ∧ J pre wr) (fun wr => (leftS a p + leftS b q + leftS c r + 65536 * 17 - sumL wr ls).toNat)
  case atStart => exact ⟨0, 0, 0, -1, 0, [], rfl, by omega, by omega, by omega, by omega, by omega, by omega, by simpa using LS, by simpa [goS_zero] using LH, LC, K0.out, K1.out, K2.out, J3.out⟩
  case round =>
    obtain ⟨t0, t1, t2, f, tm, pre, hlen, m0, m1, m2, msum, f0, f1, bs, bh, bc, b0, b1, b2, hJp⟩ := hrel
    rename World => w4
    have sl0 := cell_of_block (i := 0) bs rfl
    have sl1 := cell_of_block (i := 1) bs rfl
    have sl2 := cell_of_block (i := 2) bs rfl
    have sl3 := cell_of_block (i := 3) bs rfl
    have sl4 := cell_of_block (i := 4) bs rfl
    have sl5 := cell_of_block (i := 5) bs rfl
    haveI := in_of_cell sl0
    have ht0 := cell_of_block (i := 0) bh rfl
    have ht1 := cell_of_block (i := 1) bh rfl
    have ht2 := cell_of_block (i := 2) bh rfl
    have ht3 := cell_of_block (i := 3) bh rfl
    have ht4 := cell_of_block (i := 4) bh rfl
    have ht5 := cell_of_block (i := 5) bh rfl
    haveI := in_of_cell ht0
    have cc0 := cell_of_block (i := 0) bc rfl
    have cc1 := cell_of_block (i := 1) bc rfl
    have cc2 := cell_of_block (i := 2) bc rfl
    haveI := in_of_cell cc0
    have fr0 := cell_of_block (i := 0) b0 rfl
    have fr1 := cell_of_block (i := 1) b0 rfl
    have fr2 := cell_of_block (i := 2) b0 rfl
    haveI := in_of_cell fr0
    have wy0 := cell_of_block (i := 0) b1 rfl
    have wy1 := cell_of_block (i := 1) b1 rfl
    have wy2 := cell_of_block (i := 2) b1 rfl
    haveI := in_of_cell wy0
    have re0 := cell_of_block (i := 0) b2 rfl
    haveI := in_of_cell re0
    have WI := Lib.hid (fun W => within_any (flS a) (flS b) (flS c) (goS (flS a) p t0) (goS (flS b) q t1) (goS (flS c) r t2) 5 W (by have := flS_bd a; omega) (by have := flS_bd b; omega) (by have := flS_bd c; omega) (by have := flS_bd a; have := goS_bd (flS a) p t0; omega) (by have := flS_bd b; have := goS_bd (flS b) q t1; omega) (by have := flS_bd c; have := goS_bd (flS c) r t2; omega))
    have HP := Lib.hid hJp
    have SO4 := Lib.hid (sumL_of bs)
    have W4 := Lib.hid (show W.heap.size ≤ w4.heap.size by have := lt_of_block bs; omega)
    cases hw : (nearB (flS a) (goS (flS a) p t0) 5 && nearB (flS b) (goS (flS b) q t1) 5 && nearB (flS c) (goS (flS c) r t2) 5)
    · rw [hw] at WI
      gi_wp2
      refine ⟨trivial, (callsIn_wide.2 (WI.out _)).mono ?_⟩
      rintro e w5 ⟨rfl, _t, hw⟩
      haveI hg5 := named_grown hw
      have hc5 := named_cell hw
      have hz5 := named_frozen hw
      have hh5 := named_heap hw
      haveI hi5 := named_in hw
      clear hw
      obtain ⟨B5⟩ := hg5
      have J5 := Lib.hid (HJ.out pre w4 w5 (B5.mono W4.out) HP.out)
      gi_wp2
      go_end0
      first | exact ⟨⟨_, rfl⟩, .inl ⟨_, J5.out⟩⟩ | exact ⟨⟨_, rfl⟩, .inl J5.out⟩ | exact .inl J5.out
    · rw [hw] at WI
      gi_wp2
      refine ⟨trivial, (callsIn_wide.2 (WI.out _)).mono ?_⟩
      rintro e w5 ⟨rfl, _t, hw⟩
      haveI hg5 := named_grown hw
      have hc5 := named_cell hw
      have hz5 := named_frozen hw
      have hh5 := named_heap hw
      haveI hi5 := named_in hw
      clear hw
      obtain ⟨B5⟩ := hg5
      have J5 := HJ.out pre w4 w5 (B5.mono W4.out) HP.out
      rw [Bool.and_eq_true, Bool.and_eq_true] at hw
      have k0 := goS_near hw.1.1
      have k1 := goS_near hw.1.2
      have k2 := goS_near hw.2
      have hyy := HY.out pre ⟨goS (flS a) p t0, goS (flS b) q t1, goS (flS c) r t2, f, tm, by have := goS_bd (flS a) p t0; omega, by have := goS_bd (flS b) q t1; omega, by have := goS_bd (flS c) r t2; omega, ⟨f0, f1⟩⟩ w5 J5 (by omega)
      obtain ⟨fn, tmps, assign, body, hy', hR⟩ := hyy
      simp only [HitB.enc] at hy'
      have F5 := Lib.hid (And.intro ((B5.block ls (lt_of_block bs)).trans bs) (And.intro ((B5.block lh (lt_of_block bh)).trans bh) (And.intro ((B5.block lc (lt_of_block bc)).trans bc) (And.intro ((B5.block g0 (lt_of_block b0)).trans b0) (And.intro ((B5.block g1 (lt_of_block b1)).trans b1) ((B5.block g2 (lt_of_block b2)).trans b2))))))
      clear bs bh bc b0 b1 b2 hJp J5
      gi_wp2
      refine hR.mono ?_
      rintro e w6 (⟨rfl, hJ6, hK6⟩ | ⟨rfl, hJx6⟩)
      · have J6 := Lib.hid hJ6
        obtain ⟨bs, bh, bc, b0, b1, b2⟩ := F5.out
        have F6 := Lib.hid (And.intro (hK6 _ _ _ _ bs) (And.intro (hK6 _ _ _ _ bh) (And.intro (hK6 _ _ _ _ bc) (And.intro (hK6 _ _ _ _ b0) (And.intro (hK6 _ _ _ _ b1) (hK6 _ _ _ _ b2))))))
        have W6 := Lib.hid (show W.heap.size ≤ w6.heap.size by have := lt_of_block F6.out.1; omega)
        clear hJ6 hK6 hR hy' bs bh bc b0 b1 b2 F5
        have LB := Lib.hid (show (0 ≤ leftS a p + 65536 * (t0 : Int) ∧ leftS a p + 65536 * (t0 : Int) ≤ 1000000) ∧ (0 ≤ leftS b q + 65536 * (t1 : Int) ∧ leftS b q + 65536 * (t1 : Int) ≤ 1000000) ∧ 0 ≤ leftS c r + 65536 * (t2 : Int) ∧ leftS c r + 65536 * (t2 : Int) ≤ 1000000 by have := leftS_bd a p; have := leftS_bd b q; have := leftS_bd c r; omega)
        have SB := Lib.hid (show (0 ≤ speedS p ∧ speedS p ≤ 1000000) ∧ (0 ≤ speedS q ∧ speedS q ≤ 1000000) ∧ 0 ≤ speedS r ∧ speedS r ≤ 1000000 from ⟨speedS_bd HB.out.2.2.2.1, speedS_bd HB.out.2.2.2.2.1, speedS_bd HB.out.2.2.2.2.2⟩)
        have HM := Lib.hid (show Mid (goS (flS a) p t0) ∧ Mid (goS (flS b) q t1) ∧ Mid (goS (flS c) r t2) from ⟨goS_mid HN.out.1 (by omega), goS_mid HN.out.2.1 (by omega), goS_mid HN.out.2.2 (by omega)⟩)
        gi_wp2
        refine wpIn_wide.2 ?_
        go_loopw [8, 30] (fun at' i wr => ∃ k j : Nat, k ≤ 3 ∧ (j = 0 ∨ j + 1 ≤ k) ∧ i = .int .i64 (k : Nat) ∧ at' = .int .i64 (j : Nat) ∧ Nonempty (Below w6.heap.size w6 wr)) (fun _ i _ => (3 - intOf i).toNat)
        case atStart => exact ⟨0, 0, by omega, .inl rfl, rfl, rfl, ⟨Below.refl _ _⟩⟩
        case round =>
          obtain ⟨k, j, hk, hj, rfl, rfl, ⟨B7⟩⟩ := hrel
          rename World => w7
          have BS := Lib.hid ((B7.block ls (lt_of_block F6.out.1)).trans F6.out.1)
          have GB7 := Lib.hid B7
          have hkj : (k = 0 ∧ j = 0) ∨ (k = 1 ∧ j = 0) ∨ (k = 2 ∧ j = 0) ∨ (k = 2 ∧ j = 1) ∨ (k = 3 ∧ j = 0) ∨ (k = 3 ∧ j = 1) ∨ (k = 3 ∧ j = 2) := by omega
          clear hk hj B7
          rcases hkj with ⟨rfl, rfl⟩ | ⟨rfl, rfl⟩ | ⟨rfl, rfl⟩ | ⟨rfl, rfl⟩ | ⟨rfl, rfl⟩ | ⟨rfl, rfl⟩ | ⟨rfl, rfl⟩
          · -- round 0, so far 0
            have u0 := cell_of_block (i := 0) BS.out rfl
            have u1 := cell_of_block (i := 1) BS.out rfl
            have u2 := cell_of_block (i := 2) BS.out rfl
            have u3 := cell_of_block (i := 3) BS.out rfl
            have u4 := cell_of_block (i := 4) BS.out rfl
            have u5 := cell_of_block (i := 5) BS.out rfl
            haveI := in_of_cell u0
            have SO := Lib.hid (fun W => sooner_any (leftS a p + 65536 * t0) (speedS p) (leftS a p + 65536 * t0) (speedS p) W (rprod_bd (LB.out.1) (SB.out.1)) (rprod_bd (LB.out.1) (SB.out.1)))
            cases hs : soonB (leftS a p + 65536 * t0) (speedS p) (leftS a p + 65536 * t0) (speedS p)
            · rw [hs] at SO
              clear hs
              go_wp2_with fail
              refine wp_region_ext ?_ ?_ ?_
              · kernel_rfl
              · kernel_rfl
              repeat (go_big_quiet_step (first | (go_at_call 272; with_reducible exact ext_call (SO.out _))))
              refine wpQuiet_nil ?_
              rintro w8 ⟨_t, hw⟩
              have hc8 := named_cell hw
              have hz8 := named_frozen hw
              have hh8 := named_heap hw
              haveI hi8 := named_in hw
              haveI hb8 := named_below (w := w7) hw
              clear hw
              have B8 := grown_now (w := w7) (W := w8)
              go_wp2_with fail
              go_roundw
              case rel => exact ⟨1, 0, by omega, by omega, rfl, rfl, ⟨GB7.out.trans (B8.mono GB7.out.size)⟩⟩
              case measure => simp [intOf]
            · rw [hs] at SO
              clear hs
              go_wp2_with fail
              refine wp_region_ext ?_ ?_ ?_
              · kernel_rfl
              · kernel_rfl
              repeat (go_big_quiet_step (first | (go_at_call 272; with_reducible exact ext_call (SO.out _))))
              refine wpQuiet_nil ?_
              rintro w8 ⟨_t, hw⟩
              have hc8 := named_cell hw
              have hz8 := named_frozen hw
              have hh8 := named_heap hw
              haveI hi8 := named_in hw
              haveI hb8 := named_below (w := w7) hw
              clear hw
              have B8 := grown_now (w := w7) (W := w8)
              go_wp2_with fail
              go_roundw
              case rel => exact ⟨1, 0, by omega, by omega, rfl, rfl, ⟨GB7.out.trans (B8.mono GB7.out.size)⟩⟩
              case measure => simp [intOf]
          · -- round 1, so far 0
            have u0 := cell_of_block (i := 0) BS.out rfl
            have u1 := cell_of_block (i := 1) BS.out rfl
            have u2 := cell_of_block (i := 2) BS.out rfl
            have u3 := cell_of_block (i := 3) BS.out rfl
            have u4 := cell_of_block (i := 4) BS.out rfl
            have u5 := cell_of_block (i := 5) BS.out rfl
            haveI := in_of_cell u0
            have SO := Lib.hid (fun W => sooner_any (leftS b q + 65536 * t1) (speedS q) (leftS a p + 65536 * t0) (speedS p) W (rprod_bd (LB.out.2.1) (SB.out.1)) (rprod_bd (LB.out.1) (SB.out.2.1)))
            cases hs : soonB (leftS b q + 65536 * t1) (speedS q) (leftS a p + 65536 * t0) (speedS p)
            · rw [hs] at SO
              clear hs
              go_wp2_with fail
              refine wp_region_ext ?_ ?_ ?_
              · kernel_rfl
              · kernel_rfl
              repeat (go_big_quiet_step (first | (go_at_call 272; with_reducible exact ext_call (SO.out _))))
              refine wpQuiet_nil ?_
              rintro w8 ⟨_t, hw⟩
              have hc8 := named_cell hw
              have hz8 := named_frozen hw
              have hh8 := named_heap hw
              haveI hi8 := named_in hw
              haveI hb8 := named_below (w := w7) hw
              clear hw
              have B8 := grown_now (w := w7) (W := w8)
              go_wp2_with fail
              go_roundw
              case rel => exact ⟨2, 0, by omega, by omega, rfl, rfl, ⟨GB7.out.trans (B8.mono GB7.out.size)⟩⟩
              case measure => simp [intOf]
            · rw [hs] at SO
              clear hs
              go_wp2_with fail
              refine wp_region_ext ?_ ?_ ?_
              · kernel_rfl
              · kernel_rfl
              repeat (go_big_quiet_step (first | (go_at_call 272; with_reducible exact ext_call (SO.out _))))
              refine wpQuiet_nil ?_
              rintro w8 ⟨_t, hw⟩
              have hc8 := named_cell hw
              have hz8 := named_frozen hw
              have hh8 := named_heap hw
              haveI hi8 := named_in hw
              haveI hb8 := named_below (w := w7) hw
              clear hw
              have B8 := grown_now (w := w7) (W := w8)
              go_wp2_with fail
              go_roundw
              case rel => exact ⟨2, 1, by omega, by omega, rfl, rfl, ⟨GB7.out.trans (B8.mono GB7.out.size)⟩⟩
              case measure => simp [intOf]
          · -- round 2, so far 0
            have u0 := cell_of_block (i := 0) BS.out rfl
            have u1 := cell_of_block (i := 1) BS.out rfl
            have u2 := cell_of_block (i := 2) BS.out rfl
            have u3 := cell_of_block (i := 3) BS.out rfl
            have u4 := cell_of_block (i := 4) BS.out rfl
            have u5 := cell_of_block (i := 5) BS.out rfl
            haveI := in_of_cell u0
            have SO := Lib.hid (fun W => sooner_any (leftS c r + 65536 * t2) (speedS r) (leftS a p + 65536 * t0) (speedS p) W (rprod_bd (LB.out.2.2) (SB.out.1)) (rprod_bd (LB.out.1) (SB.out.2.2)))
            cases hs : soonB (leftS c r + 65536 * t2) (speedS r) (leftS a p + 65536 * t0) (speedS p)
            · rw [hs] at SO
              clear hs
              go_wp2_with fail
              refine wp_region_ext ?_ ?_ ?_
              · kernel_rfl
              · kernel_rfl
              repeat (go_big_quiet_step (first | (go_at_call 272; with_reducible exact ext_call (SO.out _))))
              refine wpQuiet_nil ?_
              rintro w8 ⟨_t, hw⟩
              have hc8 := named_cell hw
              have hz8 := named_frozen hw
              have hh8 := named_heap hw
              haveI hi8 := named_in hw
              haveI hb8 := named_below (w := w7) hw
              clear hw
              have B8 := grown_now (w := w7) (W := w8)
              go_wp2_with fail
              go_roundw
              case rel => exact ⟨3, 0, by omega, by omega, rfl, rfl, ⟨GB7.out.trans (B8.mono GB7.out.size)⟩⟩
              case measure => simp [intOf]
            · rw [hs] at SO
              clear hs
              go_wp2_with fail
              refine wp_region_ext ?_ ?_ ?_
              · kernel_rfl
              · kernel_rfl
              repeat (go_big_quiet_step (first | (go_at_call 272; with_reducible exact ext_call (SO.out _))))
              refine wpQuiet_nil ?_
              rintro w8 ⟨_t, hw⟩
              have hc8 := named_cell hw
              have hz8 := named_frozen hw
              have hh8 := named_heap hw
              haveI hi8 := named_in hw
              haveI hb8 := named_below (w := w7) hw
              clear hw
              have B8 := grown_now (w := w7) (W := w8)
              go_wp2_with fail
              go_roundw
              case rel => exact ⟨3, 2, by omega, by omega, rfl, rfl, ⟨GB7.out.trans (B8.mono GB7.out.size)⟩⟩
              case measure => simp [intOf]
          · -- round 2, so far 1
            have u0 := cell_of_block (i := 0) BS.out rfl
            have u1 := cell_of_block (i := 1) BS.out rfl
            have u2 := cell_of_block (i := 2) BS.out rfl
            have u3 := cell_of_block (i := 3) BS.out rfl
            have u4 := cell_of_block (i := 4) BS.out rfl
            have u5 := cell_of_block (i := 5) BS.out rfl
            haveI := in_of_cell u0
            have SO := Lib.hid (fun W => sooner_any (leftS c r + 65536 * t2) (speedS r) (leftS b q + 65536 * t1) (speedS q) W (rprod_bd (LB.out.2.2) (SB.out.2.1)) (rprod_bd (LB.out.2.1) (SB.out.2.2)))
            cases hs : soonB (leftS c r + 65536 * t2) (speedS r) (leftS b q + 65536 * t1) (speedS q)
            · rw [hs] at SO
              clear hs
              go_wp2_with fail
              refine wp_region_ext ?_ ?_ ?_
              · kernel_rfl
              · kernel_rfl
              repeat (go_big_quiet_step (first | (go_at_call 272; with_reducible exact ext_call (SO.out _))))
              refine wpQuiet_nil ?_
              rintro w8 ⟨_t, hw⟩
              have hc8 := named_cell hw
              have hz8 := named_frozen hw
              have hh8 := named_heap hw
              haveI hi8 := named_in hw
              haveI hb8 := named_below (w := w7) hw
              clear hw
              have B8 := grown_now (w := w7) (W := w8)
              go_wp2_with fail
              go_roundw
              case rel => exact ⟨3, 1, by omega, by omega, rfl, rfl, ⟨GB7.out.trans (B8.mono GB7.out.size)⟩⟩
              case measure => simp [intOf]
            · rw [hs] at SO
              clear hs
              go_wp2_with fail
              refine wp_region_ext ?_ ?_ ?_
              · kernel_rfl
              · kernel_rfl
              repeat (go_big_quiet_step (first | (go_at_call 272; with_reducible exact ext_call (SO.out _))))
              refine wpQuiet_nil ?_
              rintro w8 ⟨_t, hw⟩
              have hc8 := named_cell hw
              have hz8 := named_frozen hw
              have hh8 := named_heap hw
              haveI hi8 := named_in hw
              haveI hb8 := named_below (w := w7) hw
              clear hw
              have B8 := grown_now (w := w7) (W := w8)
              go_wp2_with fail
              go_roundw
              case rel => exact ⟨3, 2, by omega, by omega, rfl, rfl, ⟨GB7.out.trans (B8.mono GB7.out.size)⟩⟩
              case measure => simp [intOf]
          · -- the axis 0
            have u0 := cell_of_block (i := 0) BS.out rfl
            have u1 := cell_of_block (i := 1) BS.out rfl
            have u2 := cell_of_block (i := 2) BS.out rfl
            have u3 := cell_of_block (i := 3) BS.out rfl
            have u4 := cell_of_block (i := 4) BS.out rfl
            have u5 := cell_of_block (i := 5) BS.out rfl
            haveI := in_of_cell u0
            have BH := Lib.hid ((GB7.out.block lh (lt_of_block F6.out.2.1)).trans F6.out.2.1)
            have BC := Lib.hid ((GB7.out.block lc (lt_of_block F6.out.2.2.1)).trans F6.out.2.2.1)
            have B0 := Lib.hid ((GB7.out.block g0 (lt_of_block F6.out.2.2.2.1)).trans F6.out.2.2.2.1)
            have B1 := Lib.hid ((GB7.out.block g1 (lt_of_block F6.out.2.2.2.2.1)).trans F6.out.2.2.2.2.1)
            have B2 := Lib.hid ((GB7.out.block g2 (lt_of_block F6.out.2.2.2.2.2)).trans F6.out.2.2.2.2.2)
            have J7 := Lib.hid (HJ.out _ _ _ (GB7.out.mono W6.out) J6.out)
            have W7 := Lib.hid (Nat.le_trans W6.out GB7.out.size)
            clear GB7
            by_cases hz : (speedS p) = 0
            · rw [hz] at u1
              go_wp2_with fail
              gi_wp2
              refine bodyPost_ret (results_none rfl _ _ _) rfl ?_
              exact ⟨⟨_, rfl⟩, .inl ⟨_, J7.out⟩⟩
            · have wl : IntKind.i64.wrap ((leftS a p + 65536 * t0) + 65536) = (leftS a p + 65536 * t0) + 65536 := IntWalk.i64_in _ (by have := LB.out.1; omega)
              have DV := Lib.hid (fun W => fdiv_any (leftS a p + 65536 * t0) (speedS p) W (by have := LB.out.1; omega) (by have := SB.out.1; omega))
              have v0 := cell_of_block (i := 0) B1.out rfl
              have v1 := cell_of_block (i := 1) B1.out rfl
              have v2 := cell_of_block (i := 2) B1.out rfl
              haveI := in_of_cell v0
              have e0 := cell_of_block (i := 0) BH.out rfl
              have e1 := cell_of_block (i := 1) BH.out rfl
              have e2 := cell_of_block (i := 2) BH.out rfl
              haveI := in_of_cell e0
              have x0 := free_of_block 0 BH.out
              have x1 := free_of_block 1 BH.out
              have x2 := free_of_block 2 BH.out
              have x3 := free_of_block 3 BH.out
              have x4 := free_of_block 4 BH.out
              have x5 := free_of_block 5 BH.out
              have x6 := free_of_block 0 BS.out
              have NB := Lib.hid (fun W => nb_any (goS (flS a) p t0) (goS (flS b) q t1) (goS (flS c) r t2) W HM.out.1 HM.out.2.1 HM.out.2.2)
              go_wp2_with fail
              gi_wp2
              refine wpIn_wide.2 ?_
              refine wp_region_ext ?_ ?_ ?_
              · kernel_rfl
              · kernel_rfl
              repeat (go_big_quiet_step (first | (go_at_call 273; with_reducible exact ext_call (DV.out _))))
              refine wpQuiet_nil ?_
              rintro w9 ⟨_t, hw⟩
              have hc9 := named_cell hw
              have hz9 := named_frozen hw
              have hh9 := named_heap hw
              haveI hi9 := named_in hw
              haveI hb9 := named_below (w := w7) hw
              clear hw
              have B9 := Lib.hid (grown_now (w := w7) (W := w9))
              have d0 := block_set (i := 0) ((B9.out.block ls (lt_of_block BS.out)).trans BS.out) (.int .i64 ((leftS a p + 65536 * t0) + 65536)) (by simp)
              have d1 := (block_set_far (a := ⟨ls, 0, none⟩) (.int .i64 ((leftS a p + 65536 * t0) + 65536)) LN.1.symm).trans ((B9.out.block lh (lt_of_block BH.out)).trans BH.out)
              have d2 := (block_set_far (a := ⟨ls, 0, none⟩) (.int .i64 ((leftS a p + 65536 * t0) + 65536)) LN.2.symm).trans ((B9.out.block lc (lt_of_block BC.out)).trans BC.out)
              have d3 := (block_set_far (a := ⟨ls, 0, none⟩) (.int .i64 ((leftS a p + 65536 * t0) + 65536)) NE.out.1).trans ((B9.out.block g0 (lt_of_block B0.out)).trans B0.out)
              have d4 := (block_set_far (a := ⟨ls, 0, none⟩) (.int .i64 ((leftS a p + 65536 * t0) + 65536)) NE.out.2.1).trans ((B9.out.block g1 (lt_of_block B1.out)).trans B1.out)
              have d5 := (block_set_far (a := ⟨ls, 0, none⟩) (.int .i64 ((leftS a p + 65536 * t0) + 65536)) NE.out.2.2.1).trans ((B9.out.block g2 (lt_of_block B2.out)).trans B2.out)
              have JS := HJ.out _ _ _ ((B9.out.mono W7.out).setCell (p := ⟨ls, 0, none⟩) LW.1 (.int .i64 ((leftS a p + 65536 * t0) + 65536))) J7.out
              have D := Lib.hid (And.intro d0 (And.intro d1 (And.intro d2 (And.intro d3 (And.intro d4 (And.intro d5 JS))))))
              have W10 := Lib.hid (show W.heap.size ≤ (w9.setCell ⟨ls, 0, none⟩ (.int .i64 ((leftS a p + 65536 * t0) + 65536))).heap.size by simpa using Nat.le_trans W7.out B9.out.size)
              clear d0 d1 d2 d3 d4 d5 JS
              have q0 := NE.out.1
              have q1 := NE.out.2.1
              have q2 := NE.out.2.2.1
              by_cases hp : 0 < p
              · skip
                gi_wp2
                generalize w9.setCell ⟨ls, 0, none⟩ (.int .i64 ((leftS a p + 65536 * t0) + 65536)) = w10 at *
                refine ⟨trivial, (callsIn_wide.2 (axis0_any p q r _)).mono ?_⟩
                rintro e w11 ⟨rfl, _t, hw⟩
                haveI hg11 := named_grown hw
                have hc11 := named_cell hw
                have hz11 := named_frozen hw
                have hh11 := named_heap hw
                haveI hi11 := named_in hw
                clear hw
                obtain ⟨B11⟩ := hg11
                have da := (B11.block lh (lt_of_block D.out.2.1)).trans D.out.2.1
                have za := cell_of_block (i := 0) da rfl
                have zb := cell_of_block (i := 1) da rfl
                have zc := cell_of_block (i := 2) da rfl
                haveI := in_of_cell za
                clear hc11 hz11 hh11 da
                gi_wp2
                refine ⟨trivial, (callsIn_wide.2 (NB.out _)).mono ?_⟩
                rintro e w12 ⟨rfl, _t, hw⟩
                haveI hg12 := named_grown hw
                have hc12 := named_cell hw
                have hz12 := named_frozen hw
                have hh12 := named_heap hw
                haveI hi12 := named_in hw
                clear hw
                obtain ⟨B12⟩ := hg12
                have BB := Lib.hid (B11.trans (B12.mono B11.size))
                have dh := (BB.out.block lh (lt_of_block D.out.2.1)).trans D.out.2.1
                have y0 := free_of_block 0 dh
                have z0 := cell_of_block (i := 0) dh rfl
                have y1 := free_of_block 1 dh
                have z1 := cell_of_block (i := 1) dh rfl
                have y2 := free_of_block 2 dh
                have z2 := cell_of_block (i := 2) dh rfl
                have y3 := free_of_block 3 dh
                have z3 := cell_of_block (i := 3) dh rfl
                have y4 := free_of_block 4 dh
                have z4 := cell_of_block (i := 4) dh rfl
                have y5 := free_of_block 5 dh
                have z5 := cell_of_block (i := 5) dh rfl
                haveI := in_of_cell z0
                have DH := Lib.hid dh
                clear dh hc12 hz12 hh12 B11 B12 za zb zc
                gi_wp2
                have kh := (block_set (i := 5) (block_set (i := 4) (block_set (i := 3) (block_set (i := 2) (block_set (i := 1) (block_set (i := 0) DH.out (.int .i64 ((goS (flS a) p t0) + 1)) (by simp)) (.int .i64 ((goS (flS b) q t1))) (by simp)) (.int .i64 ((goS (flS c) r t2))) (by simp)) (.int .i64 0) (by simp)) (.int .i64 0) (by simp)) (.int .i64 (((leftS a p + 65536 * t0) * 65536).tdiv (speedS p))) (by simp))
                have ks := ((block_set_far (a := ⟨lh, 5, none⟩) (.int .i64 (((leftS a p + 65536 * t0) * 65536).tdiv (speedS p))) LN.1).trans ((block_set_far (a := ⟨lh, 4, none⟩) (.int .i64 0) LN.1).trans ((block_set_far (a := ⟨lh, 3, none⟩) (.int .i64 0) LN.1).trans ((block_set_far (a := ⟨lh, 2, none⟩) (.int .i64 ((goS (flS c) r t2))) LN.1).trans ((block_set_far (a := ⟨lh, 1, none⟩) (.int .i64 ((goS (flS b) q t1))) LN.1).trans ((block_set_far (a := ⟨lh, 0, none⟩) (.int .i64 ((goS (flS a) p t0) + 1)) LN.1).trans ((BB.out.block ls (lt_of_block D.out.1)).trans D.out.1)))))))
                have kc := ((block_set_far (a := ⟨lh, 5, none⟩) (.int .i64 (((leftS a p + 65536 * t0) * 65536).tdiv (speedS p))) n3.symm).trans ((block_set_far (a := ⟨lh, 4, none⟩) (.int .i64 0) n3.symm).trans ((block_set_far (a := ⟨lh, 3, none⟩) (.int .i64 0) n3.symm).trans ((block_set_far (a := ⟨lh, 2, none⟩) (.int .i64 ((goS (flS c) r t2))) n3.symm).trans ((block_set_far (a := ⟨lh, 1, none⟩) (.int .i64 ((goS (flS b) q t1))) n3.symm).trans ((block_set_far (a := ⟨lh, 0, none⟩) (.int .i64 ((goS (flS a) p t0) + 1)) n3.symm).trans ((BB.out.block lc (lt_of_block D.out.2.2.1)).trans D.out.2.2.1)))))))
                have k0 := ((block_set_far (a := ⟨lh, 5, none⟩) (.int .i64 (((leftS a p + 65536 * t0) * 65536).tdiv (speedS p))) NE.out.2.2.2.1).trans ((block_set_far (a := ⟨lh, 4, none⟩) (.int .i64 0) NE.out.2.2.2.1).trans ((block_set_far (a := ⟨lh, 3, none⟩) (.int .i64 0) NE.out.2.2.2.1).trans ((block_set_far (a := ⟨lh, 2, none⟩) (.int .i64 ((goS (flS c) r t2))) NE.out.2.2.2.1).trans ((block_set_far (a := ⟨lh, 1, none⟩) (.int .i64 ((goS (flS b) q t1))) NE.out.2.2.2.1).trans ((block_set_far (a := ⟨lh, 0, none⟩) (.int .i64 ((goS (flS a) p t0) + 1)) NE.out.2.2.2.1).trans ((BB.out.block g0 (lt_of_block D.out.2.2.2.1)).trans D.out.2.2.2.1)))))))
                have k1 := ((block_set_far (a := ⟨lh, 5, none⟩) (.int .i64 (((leftS a p + 65536 * t0) * 65536).tdiv (speedS p))) NE.out.2.2.2.2.1).trans ((block_set_far (a := ⟨lh, 4, none⟩) (.int .i64 0) NE.out.2.2.2.2.1).trans ((block_set_far (a := ⟨lh, 3, none⟩) (.int .i64 0) NE.out.2.2.2.2.1).trans ((block_set_far (a := ⟨lh, 2, none⟩) (.int .i64 ((goS (flS c) r t2))) NE.out.2.2.2.2.1).trans ((block_set_far (a := ⟨lh, 1, none⟩) (.int .i64 ((goS (flS b) q t1))) NE.out.2.2.2.2.1).trans ((block_set_far (a := ⟨lh, 0, none⟩) (.int .i64 ((goS (flS a) p t0) + 1)) NE.out.2.2.2.2.1).trans ((BB.out.block g1 (lt_of_block D.out.2.2.2.2.1)).trans D.out.2.2.2.2.1)))))))
                have k2 := ((block_set_far (a := ⟨lh, 5, none⟩) (.int .i64 (((leftS a p + 65536 * t0) * 65536).tdiv (speedS p))) NE.out.2.2.2.2.2).trans ((block_set_far (a := ⟨lh, 4, none⟩) (.int .i64 0) NE.out.2.2.2.2.2).trans ((block_set_far (a := ⟨lh, 3, none⟩) (.int .i64 0) NE.out.2.2.2.2.2).trans ((block_set_far (a := ⟨lh, 2, none⟩) (.int .i64 ((goS (flS c) r t2))) NE.out.2.2.2.2.2).trans ((block_set_far (a := ⟨lh, 1, none⟩) (.int .i64 ((goS (flS b) q t1))) NE.out.2.2.2.2.2).trans ((block_set_far (a := ⟨lh, 0, none⟩) (.int .i64 ((goS (flS a) p t0) + 1)) NE.out.2.2.2.2.2).trans ((BB.out.block g2 (lt_of_block D.out.2.2.2.2.2.1)).trans D.out.2.2.2.2.2.1)))))))
                have JF := HJ.out _ _ _ (Below.setCell (Below.setCell (Below.setCell (Below.setCell (Below.setCell (Below.setCell (BB.out.mono W10.out) (p := ⟨lh, 0, none⟩) LW.2 (.int .i64 ((goS (flS a) p t0) + 1))) (p := ⟨lh, 1, none⟩) LW.2 (.int .i64 ((goS (flS b) q t1)))) (p := ⟨lh, 2, none⟩) LW.2 (.int .i64 ((goS (flS c) r t2)))) (p := ⟨lh, 3, none⟩) LW.2 (.int .i64 0)) (p := ⟨lh, 4, none⟩) LW.2 (.int .i64 0)) (p := ⟨lh, 5, none⟩) LW.2 (.int .i64 (((leftS a p + 65536 * t0) * 65536).tdiv (speedS p)))) D.out.2.2.2.2.2.2
                have el : (leftS a p + 65536 * t0) + 65536 = leftS a p + 65536 * ((t0 + 1 : Nat) : Int) := by omega
                have eg := goS_pos (x := flS a) t0 (show 0 < p by omega)
                have kS : Eq (α := Option Obj) _ (some (.cells #[.int .i64 ((leftS a p + 65536 * t0) + 65536), .int .i64 (speedS p), .int .i64 (leftS b q + 65536 * t1), .int .i64 (speedS q), .int .i64 (leftS c r + 65536 * t2), .int .i64 (speedS r)] 323 (0, 0))) := ks
                rw [el] at kS
                have SN := sumL_of kS
                go_roundw
                case rel => exact ⟨(t0 + 1), t1, t2, 0, _, pre ++ [_], by simp [hlen]; omega, by omega, by omega, by omega, by omega, by omega, by omega, kS, by rw [eg]; exact kh, kc, k0, k1, k2, JF⟩
                case measure => rw [SN, SO4.out]; have := LB.out; omega
              · skip
                gi_wp2
                generalize w9.setCell ⟨ls, 0, none⟩ (.int .i64 ((leftS a p + 65536 * t0) + 65536)) = w10 at *
                refine ⟨trivial, (callsIn_wide.2 (axis0_any p q r _)).mono ?_⟩
                rintro e w11 ⟨rfl, _t, hw⟩
                haveI hg11 := named_grown hw
                have hc11 := named_cell hw
                have hz11 := named_frozen hw
                have hh11 := named_heap hw
                haveI hi11 := named_in hw
                clear hw
                obtain ⟨B11⟩ := hg11
                have da := (B11.block lh (lt_of_block D.out.2.1)).trans D.out.2.1
                have za := cell_of_block (i := 0) da rfl
                have zb := cell_of_block (i := 1) da rfl
                have zc := cell_of_block (i := 2) da rfl
                haveI := in_of_cell za
                clear hc11 hz11 hh11 da
                gi_wp2
                refine ⟨trivial, (callsIn_wide.2 (NB.out _)).mono ?_⟩
                rintro e w12 ⟨rfl, _t, hw⟩
                haveI hg12 := named_grown hw
                have hc12 := named_cell hw
                have hz12 := named_frozen hw
                have hh12 := named_heap hw
                haveI hi12 := named_in hw
                clear hw
                obtain ⟨B12⟩ := hg12
                have BB := Lib.hid (B11.trans (B12.mono B11.size))
                have dh := (BB.out.block lh (lt_of_block D.out.2.1)).trans D.out.2.1
                have y0 := free_of_block 0 dh
                have z0 := cell_of_block (i := 0) dh rfl
                have y1 := free_of_block 1 dh
                have z1 := cell_of_block (i := 1) dh rfl
                have y2 := free_of_block 2 dh
                have z2 := cell_of_block (i := 2) dh rfl
                have y3 := free_of_block 3 dh
                have z3 := cell_of_block (i := 3) dh rfl
                have y4 := free_of_block 4 dh
                have z4 := cell_of_block (i := 4) dh rfl
                have y5 := free_of_block 5 dh
                have z5 := cell_of_block (i := 5) dh rfl
                haveI := in_of_cell z0
                have DH := Lib.hid dh
                clear dh hc12 hz12 hh12 B11 B12 za zb zc
                gi_wp2
                have kh := (block_set (i := 5) (block_set (i := 4) (block_set (i := 3) (block_set (i := 2) (block_set (i := 1) (block_set (i := 0) DH.out (.int .i64 ((goS (flS a) p t0) + -1)) (by simp)) (.int .i64 ((goS (flS b) q t1))) (by simp)) (.int .i64 ((goS (flS c) r t2))) (by simp)) (.int .i64 0) (by simp)) (.int .i64 1) (by simp)) (.int .i64 (((leftS a p + 65536 * t0) * 65536).tdiv (speedS p))) (by simp))
                have ks := ((block_set_far (a := ⟨lh, 5, none⟩) (.int .i64 (((leftS a p + 65536 * t0) * 65536).tdiv (speedS p))) LN.1).trans ((block_set_far (a := ⟨lh, 4, none⟩) (.int .i64 1) LN.1).trans ((block_set_far (a := ⟨lh, 3, none⟩) (.int .i64 0) LN.1).trans ((block_set_far (a := ⟨lh, 2, none⟩) (.int .i64 ((goS (flS c) r t2))) LN.1).trans ((block_set_far (a := ⟨lh, 1, none⟩) (.int .i64 ((goS (flS b) q t1))) LN.1).trans ((block_set_far (a := ⟨lh, 0, none⟩) (.int .i64 ((goS (flS a) p t0) + -1)) LN.1).trans ((BB.out.block ls (lt_of_block D.out.1)).trans D.out.1)))))))
                have kc := ((block_set_far (a := ⟨lh, 5, none⟩) (.int .i64 (((leftS a p + 65536 * t0) * 65536).tdiv (speedS p))) n3.symm).trans ((block_set_far (a := ⟨lh, 4, none⟩) (.int .i64 1) n3.symm).trans ((block_set_far (a := ⟨lh, 3, none⟩) (.int .i64 0) n3.symm).trans ((block_set_far (a := ⟨lh, 2, none⟩) (.int .i64 ((goS (flS c) r t2))) n3.symm).trans ((block_set_far (a := ⟨lh, 1, none⟩) (.int .i64 ((goS (flS b) q t1))) n3.symm).trans ((block_set_far (a := ⟨lh, 0, none⟩) (.int .i64 ((goS (flS a) p t0) + -1)) n3.symm).trans ((BB.out.block lc (lt_of_block D.out.2.2.1)).trans D.out.2.2.1)))))))
                have k0 := ((block_set_far (a := ⟨lh, 5, none⟩) (.int .i64 (((leftS a p + 65536 * t0) * 65536).tdiv (speedS p))) NE.out.2.2.2.1).trans ((block_set_far (a := ⟨lh, 4, none⟩) (.int .i64 1) NE.out.2.2.2.1).trans ((block_set_far (a := ⟨lh, 3, none⟩) (.int .i64 0) NE.out.2.2.2.1).trans ((block_set_far (a := ⟨lh, 2, none⟩) (.int .i64 ((goS (flS c) r t2))) NE.out.2.2.2.1).trans ((block_set_far (a := ⟨lh, 1, none⟩) (.int .i64 ((goS (flS b) q t1))) NE.out.2.2.2.1).trans ((block_set_far (a := ⟨lh, 0, none⟩) (.int .i64 ((goS (flS a) p t0) + -1)) NE.out.2.2.2.1).trans ((BB.out.block g0 (lt_of_block D.out.2.2.2.1)).trans D.out.2.2.2.1)))))))
                have k1 := ((block_set_far (a := ⟨lh, 5, none⟩) (.int .i64 (((leftS a p + 65536 * t0) * 65536).tdiv (speedS p))) NE.out.2.2.2.2.1).trans ((block_set_far (a := ⟨lh, 4, none⟩) (.int .i64 1) NE.out.2.2.2.2.1).trans ((block_set_far (a := ⟨lh, 3, none⟩) (.int .i64 0) NE.out.2.2.2.2.1).trans ((block_set_far (a := ⟨lh, 2, none⟩) (.int .i64 ((goS (flS c) r t2))) NE.out.2.2.2.2.1).trans ((block_set_far (a := ⟨lh, 1, none⟩) (.int .i64 ((goS (flS b) q t1))) NE.out.2.2.2.2.1).trans ((block_set_far (a := ⟨lh, 0, none⟩) (.int .i64 ((goS (flS a) p t0) + -1)) NE.out.2.2.2.2.1).trans ((BB.out.block g1 (lt_of_block D.out.2.2.2.2.1)).trans D.out.2.2.2.2.1)))))))
                have k2 := ((block_set_far (a := ⟨lh, 5, none⟩) (.int .i64 (((leftS a p + 65536 * t0) * 65536).tdiv (speedS p))) NE.out.2.2.2.2.2).trans ((block_set_far (a := ⟨lh, 4, none⟩) (.int .i64 1) NE.out.2.2.2.2.2).trans ((block_set_far (a := ⟨lh, 3, none⟩) (.int .i64 0) NE.out.2.2.2.2.2).trans ((block_set_far (a := ⟨lh, 2, none⟩) (.int .i64 ((goS (flS c) r t2))) NE.out.2.2.2.2.2).trans ((block_set_far (a := ⟨lh, 1, none⟩) (.int .i64 ((goS (flS b) q t1))) NE.out.2.2.2.2.2).trans ((block_set_far (a := ⟨lh, 0, none⟩) (.int .i64 ((goS (flS a) p t0) + -1)) NE.out.2.2.2.2.2).trans ((BB.out.block g2 (lt_of_block D.out.2.2.2.2.2.1)).trans D.out.2.2.2.2.2.1)))))))
                have JF := HJ.out _ _ _ (Below.setCell (Below.setCell (Below.setCell (Below.setCell (Below.setCell (Below.setCell (BB.out.mono W10.out) (p := ⟨lh, 0, none⟩) LW.2 (.int .i64 ((goS (flS a) p t0) + -1))) (p := ⟨lh, 1, none⟩) LW.2 (.int .i64 ((goS (flS b) q t1)))) (p := ⟨lh, 2, none⟩) LW.2 (.int .i64 ((goS (flS c) r t2)))) (p := ⟨lh, 3, none⟩) LW.2 (.int .i64 0)) (p := ⟨lh, 4, none⟩) LW.2 (.int .i64 1)) (p := ⟨lh, 5, none⟩) LW.2 (.int .i64 (((leftS a p + 65536 * t0) * 65536).tdiv (speedS p)))) D.out.2.2.2.2.2.2
                have el : (leftS a p + 65536 * t0) + 65536 = leftS a p + 65536 * ((t0 + 1 : Nat) : Int) := by omega
                have eg := goS_neg (x := flS a) t0 (show ¬ 0 < p by omega)
                have kS : Eq (α := Option Obj) _ (some (.cells #[.int .i64 ((leftS a p + 65536 * t0) + 65536), .int .i64 (speedS p), .int .i64 (leftS b q + 65536 * t1), .int .i64 (speedS q), .int .i64 (leftS c r + 65536 * t2), .int .i64 (speedS r)] 323 (0, 0))) := ks
                rw [el] at kS
                have SN := sumL_of kS
                go_roundw
                case rel => exact ⟨(t0 + 1), t1, t2, 1, _, pre ++ [_], by simp [hlen]; omega, by omega, by omega, by omega, by omega, by omega, by omega, kS, by rw [eg]; exact kh, kc, k0, k1, k2, JF⟩
                case measure => rw [SN, SO4.out]; have := LB.out; omega
          · -- the axis 1
            have u0 := cell_of_block (i := 0) BS.out rfl
            have u1 := cell_of_block (i := 1) BS.out rfl
            have u2 := cell_of_block (i := 2) BS.out rfl
            have u3 := cell_of_block (i := 3) BS.out rfl
            have u4 := cell_of_block (i := 4) BS.out rfl
            have u5 := cell_of_block (i := 5) BS.out rfl
            haveI := in_of_cell u0
            have BH := Lib.hid ((GB7.out.block lh (lt_of_block F6.out.2.1)).trans F6.out.2.1)
            have BC := Lib.hid ((GB7.out.block lc (lt_of_block F6.out.2.2.1)).trans F6.out.2.2.1)
            have B0 := Lib.hid ((GB7.out.block g0 (lt_of_block F6.out.2.2.2.1)).trans F6.out.2.2.2.1)
            have B1 := Lib.hid ((GB7.out.block g1 (lt_of_block F6.out.2.2.2.2.1)).trans F6.out.2.2.2.2.1)
            have B2 := Lib.hid ((GB7.out.block g2 (lt_of_block F6.out.2.2.2.2.2)).trans F6.out.2.2.2.2.2)
            have J7 := Lib.hid (HJ.out _ _ _ (GB7.out.mono W6.out) J6.out)
            have W7 := Lib.hid (Nat.le_trans W6.out GB7.out.size)
            clear GB7
            by_cases hz : (speedS q) = 0
            · rw [hz] at u3
              go_wp2_with fail
              gi_wp2
              refine bodyPost_ret (results_none rfl _ _ _) rfl ?_
              exact ⟨⟨_, rfl⟩, .inl ⟨_, J7.out⟩⟩
            · have wl : IntKind.i64.wrap ((leftS b q + 65536 * t1) + 65536) = (leftS b q + 65536 * t1) + 65536 := IntWalk.i64_in _ (by have := LB.out.2.1; omega)
              have DV := Lib.hid (fun W => fdiv_any (leftS b q + 65536 * t1) (speedS q) W (by have := LB.out.2.1; omega) (by have := SB.out.2.1; omega))
              have v0 := cell_of_block (i := 0) B1.out rfl
              have v1 := cell_of_block (i := 1) B1.out rfl
              have v2 := cell_of_block (i := 2) B1.out rfl
              haveI := in_of_cell v0
              have e0 := cell_of_block (i := 0) BH.out rfl
              have e1 := cell_of_block (i := 1) BH.out rfl
              have e2 := cell_of_block (i := 2) BH.out rfl
              haveI := in_of_cell e0
              have x0 := free_of_block 0 BH.out
              have x1 := free_of_block 1 BH.out
              have x2 := free_of_block 2 BH.out
              have x3 := free_of_block 3 BH.out
              have x4 := free_of_block 4 BH.out
              have x5 := free_of_block 5 BH.out
              have x6 := free_of_block 2 BS.out
              have NB := Lib.hid (fun W => nb_any (goS (flS a) p t0) (goS (flS b) q t1) (goS (flS c) r t2) W HM.out.1 HM.out.2.1 HM.out.2.2)
              go_wp2_with fail
              gi_wp2
              refine wpIn_wide.2 ?_
              refine wp_region_ext ?_ ?_ ?_
              · kernel_rfl
              · kernel_rfl
              repeat (go_big_quiet_step (first | (go_at_call 273; with_reducible exact ext_call (DV.out _))))
              refine wpQuiet_nil ?_
              rintro w9 ⟨_t, hw⟩
              have hc9 := named_cell hw
              have hz9 := named_frozen hw
              have hh9 := named_heap hw
              haveI hi9 := named_in hw
              haveI hb9 := named_below (w := w7) hw
              clear hw
              have B9 := Lib.hid (grown_now (w := w7) (W := w9))
              have d0 := block_set (i := 2) ((B9.out.block ls (lt_of_block BS.out)).trans BS.out) (.int .i64 ((leftS b q + 65536 * t1) + 65536)) (by simp)
              have d1 := (block_set_far (a := ⟨ls, 2, none⟩) (.int .i64 ((leftS b q + 65536 * t1) + 65536)) LN.1.symm).trans ((B9.out.block lh (lt_of_block BH.out)).trans BH.out)
              have d2 := (block_set_far (a := ⟨ls, 2, none⟩) (.int .i64 ((leftS b q + 65536 * t1) + 65536)) LN.2.symm).trans ((B9.out.block lc (lt_of_block BC.out)).trans BC.out)
              have d3 := (block_set_far (a := ⟨ls, 2, none⟩) (.int .i64 ((leftS b q + 65536 * t1) + 65536)) NE.out.1).trans ((B9.out.block g0 (lt_of_block B0.out)).trans B0.out)
              have d4 := (block_set_far (a := ⟨ls, 2, none⟩) (.int .i64 ((leftS b q + 65536 * t1) + 65536)) NE.out.2.1).trans ((B9.out.block g1 (lt_of_block B1.out)).trans B1.out)
              have d5 := (block_set_far (a := ⟨ls, 2, none⟩) (.int .i64 ((leftS b q + 65536 * t1) + 65536)) NE.out.2.2.1).trans ((B9.out.block g2 (lt_of_block B2.out)).trans B2.out)
              have JS := HJ.out _ _ _ ((B9.out.mono W7.out).setCell (p := ⟨ls, 2, none⟩) LW.1 (.int .i64 ((leftS b q + 65536 * t1) + 65536))) J7.out
              have D := Lib.hid (And.intro d0 (And.intro d1 (And.intro d2 (And.intro d3 (And.intro d4 (And.intro d5 JS))))))
              have W10 := Lib.hid (show W.heap.size ≤ (w9.setCell ⟨ls, 2, none⟩ (.int .i64 ((leftS b q + 65536 * t1) + 65536))).heap.size by simpa using Nat.le_trans W7.out B9.out.size)
              clear d0 d1 d2 d3 d4 d5 JS
              have q0 := NE.out.1
              have q1 := NE.out.2.1
              have q2 := NE.out.2.2.1
              by_cases hp : 0 < q
              · skip
                gi_wp2
                generalize w9.setCell ⟨ls, 2, none⟩ (.int .i64 ((leftS b q + 65536 * t1) + 65536)) = w10 at *
                refine ⟨trivial, (callsIn_wide.2 (axis1_any p q r _)).mono ?_⟩
                rintro e w11 ⟨rfl, _t, hw⟩
                haveI hg11 := named_grown hw
                have hc11 := named_cell hw
                have hz11 := named_frozen hw
                have hh11 := named_heap hw
                haveI hi11 := named_in hw
                clear hw
                obtain ⟨B11⟩ := hg11
                have da := (B11.block lh (lt_of_block D.out.2.1)).trans D.out.2.1
                have za := cell_of_block (i := 0) da rfl
                have zb := cell_of_block (i := 1) da rfl
                have zc := cell_of_block (i := 2) da rfl
                haveI := in_of_cell za
                clear hc11 hz11 hh11 da
                gi_wp2
                refine ⟨trivial, (callsIn_wide.2 (NB.out _)).mono ?_⟩
                rintro e w12 ⟨rfl, _t, hw⟩
                haveI hg12 := named_grown hw
                have hc12 := named_cell hw
                have hz12 := named_frozen hw
                have hh12 := named_heap hw
                haveI hi12 := named_in hw
                clear hw
                obtain ⟨B12⟩ := hg12
                have BB := Lib.hid (B11.trans (B12.mono B11.size))
                have dh := (BB.out.block lh (lt_of_block D.out.2.1)).trans D.out.2.1
                have y0 := free_of_block 0 dh
                have z0 := cell_of_block (i := 0) dh rfl
                have y1 := free_of_block 1 dh
                have z1 := cell_of_block (i := 1) dh rfl
                have y2 := free_of_block 2 dh
                have z2 := cell_of_block (i := 2) dh rfl
                have y3 := free_of_block 3 dh
                have z3 := cell_of_block (i := 3) dh rfl
                have y4 := free_of_block 4 dh
                have z4 := cell_of_block (i := 4) dh rfl
                have y5 := free_of_block 5 dh
                have z5 := cell_of_block (i := 5) dh rfl
                haveI := in_of_cell z0
                have DH := Lib.hid dh
                clear dh hc12 hz12 hh12 B11 B12 za zb zc
                gi_wp2
                have kh := (block_set (i := 5) (block_set (i := 4) (block_set (i := 3) (block_set (i := 2) (block_set (i := 1) (block_set (i := 0) DH.out (.int .i64 ((goS (flS a) p t0))) (by simp)) (.int .i64 ((goS (flS b) q t1) + 1)) (by simp)) (.int .i64 ((goS (flS c) r t2))) (by simp)) (.int .i64 0) (by simp)) (.int .i64 2) (by simp)) (.int .i64 (((leftS b q + 65536 * t1) * 65536).tdiv (speedS q))) (by simp))
                have ks := ((block_set_far (a := ⟨lh, 5, none⟩) (.int .i64 (((leftS b q + 65536 * t1) * 65536).tdiv (speedS q))) LN.1).trans ((block_set_far (a := ⟨lh, 4, none⟩) (.int .i64 2) LN.1).trans ((block_set_far (a := ⟨lh, 3, none⟩) (.int .i64 0) LN.1).trans ((block_set_far (a := ⟨lh, 2, none⟩) (.int .i64 ((goS (flS c) r t2))) LN.1).trans ((block_set_far (a := ⟨lh, 1, none⟩) (.int .i64 ((goS (flS b) q t1) + 1)) LN.1).trans ((block_set_far (a := ⟨lh, 0, none⟩) (.int .i64 ((goS (flS a) p t0))) LN.1).trans ((BB.out.block ls (lt_of_block D.out.1)).trans D.out.1)))))))
                have kc := ((block_set_far (a := ⟨lh, 5, none⟩) (.int .i64 (((leftS b q + 65536 * t1) * 65536).tdiv (speedS q))) n3.symm).trans ((block_set_far (a := ⟨lh, 4, none⟩) (.int .i64 2) n3.symm).trans ((block_set_far (a := ⟨lh, 3, none⟩) (.int .i64 0) n3.symm).trans ((block_set_far (a := ⟨lh, 2, none⟩) (.int .i64 ((goS (flS c) r t2))) n3.symm).trans ((block_set_far (a := ⟨lh, 1, none⟩) (.int .i64 ((goS (flS b) q t1) + 1)) n3.symm).trans ((block_set_far (a := ⟨lh, 0, none⟩) (.int .i64 ((goS (flS a) p t0))) n3.symm).trans ((BB.out.block lc (lt_of_block D.out.2.2.1)).trans D.out.2.2.1)))))))
                have k0 := ((block_set_far (a := ⟨lh, 5, none⟩) (.int .i64 (((leftS b q + 65536 * t1) * 65536).tdiv (speedS q))) NE.out.2.2.2.1).trans ((block_set_far (a := ⟨lh, 4, none⟩) (.int .i64 2) NE.out.2.2.2.1).trans ((block_set_far (a := ⟨lh, 3, none⟩) (.int .i64 0) NE.out.2.2.2.1).trans ((block_set_far (a := ⟨lh, 2, none⟩) (.int .i64 ((goS (flS c) r t2))) NE.out.2.2.2.1).trans ((block_set_far (a := ⟨lh, 1, none⟩) (.int .i64 ((goS (flS b) q t1) + 1)) NE.out.2.2.2.1).trans ((block_set_far (a := ⟨lh, 0, none⟩) (.int .i64 ((goS (flS a) p t0))) NE.out.2.2.2.1).trans ((BB.out.block g0 (lt_of_block D.out.2.2.2.1)).trans D.out.2.2.2.1)))))))
                have k1 := ((block_set_far (a := ⟨lh, 5, none⟩) (.int .i64 (((leftS b q + 65536 * t1) * 65536).tdiv (speedS q))) NE.out.2.2.2.2.1).trans ((block_set_far (a := ⟨lh, 4, none⟩) (.int .i64 2) NE.out.2.2.2.2.1).trans ((block_set_far (a := ⟨lh, 3, none⟩) (.int .i64 0) NE.out.2.2.2.2.1).trans ((block_set_far (a := ⟨lh, 2, none⟩) (.int .i64 ((goS (flS c) r t2))) NE.out.2.2.2.2.1).trans ((block_set_far (a := ⟨lh, 1, none⟩) (.int .i64 ((goS (flS b) q t1) + 1)) NE.out.2.2.2.2.1).trans ((block_set_far (a := ⟨lh, 0, none⟩) (.int .i64 ((goS (flS a) p t0))) NE.out.2.2.2.2.1).trans ((BB.out.block g1 (lt_of_block D.out.2.2.2.2.1)).trans D.out.2.2.2.2.1)))))))
                have k2 := ((block_set_far (a := ⟨lh, 5, none⟩) (.int .i64 (((leftS b q + 65536 * t1) * 65536).tdiv (speedS q))) NE.out.2.2.2.2.2).trans ((block_set_far (a := ⟨lh, 4, none⟩) (.int .i64 2) NE.out.2.2.2.2.2).trans ((block_set_far (a := ⟨lh, 3, none⟩) (.int .i64 0) NE.out.2.2.2.2.2).trans ((block_set_far (a := ⟨lh, 2, none⟩) (.int .i64 ((goS (flS c) r t2))) NE.out.2.2.2.2.2).trans ((block_set_far (a := ⟨lh, 1, none⟩) (.int .i64 ((goS (flS b) q t1) + 1)) NE.out.2.2.2.2.2).trans ((block_set_far (a := ⟨lh, 0, none⟩) (.int .i64 ((goS (flS a) p t0))) NE.out.2.2.2.2.2).trans ((BB.out.block g2 (lt_of_block D.out.2.2.2.2.2.1)).trans D.out.2.2.2.2.2.1)))))))
                have JF := HJ.out _ _ _ (Below.setCell (Below.setCell (Below.setCell (Below.setCell (Below.setCell (Below.setCell (BB.out.mono W10.out) (p := ⟨lh, 0, none⟩) LW.2 (.int .i64 ((goS (flS a) p t0)))) (p := ⟨lh, 1, none⟩) LW.2 (.int .i64 ((goS (flS b) q t1) + 1))) (p := ⟨lh, 2, none⟩) LW.2 (.int .i64 ((goS (flS c) r t2)))) (p := ⟨lh, 3, none⟩) LW.2 (.int .i64 0)) (p := ⟨lh, 4, none⟩) LW.2 (.int .i64 2)) (p := ⟨lh, 5, none⟩) LW.2 (.int .i64 (((leftS b q + 65536 * t1) * 65536).tdiv (speedS q)))) D.out.2.2.2.2.2.2
                have el : (leftS b q + 65536 * t1) + 65536 = leftS b q + 65536 * ((t1 + 1 : Nat) : Int) := by omega
                have eg := goS_pos (x := flS b) t1 (show 0 < q by omega)
                have kS : Eq (α := Option Obj) _ (some (.cells #[.int .i64 (leftS a p + 65536 * t0), .int .i64 (speedS p), .int .i64 ((leftS b q + 65536 * t1) + 65536), .int .i64 (speedS q), .int .i64 (leftS c r + 65536 * t2), .int .i64 (speedS r)] 323 (0, 0))) := ks
                rw [el] at kS
                have SN := sumL_of kS
                go_roundw
                case rel => exact ⟨t0, (t1 + 1), t2, 2, _, pre ++ [_], by simp [hlen]; omega, by omega, by omega, by omega, by omega, by omega, by omega, kS, by rw [eg]; exact kh, kc, k0, k1, k2, JF⟩
                case measure => rw [SN, SO4.out]; have := LB.out; omega
              · skip
                gi_wp2
                generalize w9.setCell ⟨ls, 2, none⟩ (.int .i64 ((leftS b q + 65536 * t1) + 65536)) = w10 at *
                refine ⟨trivial, (callsIn_wide.2 (axis1_any p q r _)).mono ?_⟩
                rintro e w11 ⟨rfl, _t, hw⟩
                haveI hg11 := named_grown hw
                have hc11 := named_cell hw
                have hz11 := named_frozen hw
                have hh11 := named_heap hw
                haveI hi11 := named_in hw
                clear hw
                obtain ⟨B11⟩ := hg11
                have da := (B11.block lh (lt_of_block D.out.2.1)).trans D.out.2.1
                have za := cell_of_block (i := 0) da rfl
                have zb := cell_of_block (i := 1) da rfl
                have zc := cell_of_block (i := 2) da rfl
                haveI := in_of_cell za
                clear hc11 hz11 hh11 da
                gi_wp2
                refine ⟨trivial, (callsIn_wide.2 (NB.out _)).mono ?_⟩
                rintro e w12 ⟨rfl, _t, hw⟩
                haveI hg12 := named_grown hw
                have hc12 := named_cell hw
                have hz12 := named_frozen hw
                have hh12 := named_heap hw
                haveI hi12 := named_in hw
                clear hw
                obtain ⟨B12⟩ := hg12
                have BB := Lib.hid (B11.trans (B12.mono B11.size))
                have dh := (BB.out.block lh (lt_of_block D.out.2.1)).trans D.out.2.1
                have y0 := free_of_block 0 dh
                have z0 := cell_of_block (i := 0) dh rfl
                have y1 := free_of_block 1 dh
                have z1 := cell_of_block (i := 1) dh rfl
                have y2 := free_of_block 2 dh
                have z2 := cell_of_block (i := 2) dh rfl
                have y3 := free_of_block 3 dh
                have z3 := cell_of_block (i := 3) dh rfl
                have y4 := free_of_block 4 dh
                have z4 := cell_of_block (i := 4) dh rfl
                have y5 := free_of_block 5 dh
                have z5 := cell_of_block (i := 5) dh rfl
                haveI := in_of_cell z0
                have DH := Lib.hid dh
                clear dh hc12 hz12 hh12 B11 B12 za zb zc
                gi_wp2
                have kh := (block_set (i := 5) (block_set (i := 4) (block_set (i := 3) (block_set (i := 2) (block_set (i := 1) (block_set (i := 0) DH.out (.int .i64 ((goS (flS a) p t0))) (by simp)) (.int .i64 ((goS (flS b) q t1) + -1)) (by simp)) (.int .i64 ((goS (flS c) r t2))) (by simp)) (.int .i64 0) (by simp)) (.int .i64 3) (by simp)) (.int .i64 (((leftS b q + 65536 * t1) * 65536).tdiv (speedS q))) (by simp))
                have ks := ((block_set_far (a := ⟨lh, 5, none⟩) (.int .i64 (((leftS b q + 65536 * t1) * 65536).tdiv (speedS q))) LN.1).trans ((block_set_far (a := ⟨lh, 4, none⟩) (.int .i64 3) LN.1).trans ((block_set_far (a := ⟨lh, 3, none⟩) (.int .i64 0) LN.1).trans ((block_set_far (a := ⟨lh, 2, none⟩) (.int .i64 ((goS (flS c) r t2))) LN.1).trans ((block_set_far (a := ⟨lh, 1, none⟩) (.int .i64 ((goS (flS b) q t1) + -1)) LN.1).trans ((block_set_far (a := ⟨lh, 0, none⟩) (.int .i64 ((goS (flS a) p t0))) LN.1).trans ((BB.out.block ls (lt_of_block D.out.1)).trans D.out.1)))))))
                have kc := ((block_set_far (a := ⟨lh, 5, none⟩) (.int .i64 (((leftS b q + 65536 * t1) * 65536).tdiv (speedS q))) n3.symm).trans ((block_set_far (a := ⟨lh, 4, none⟩) (.int .i64 3) n3.symm).trans ((block_set_far (a := ⟨lh, 3, none⟩) (.int .i64 0) n3.symm).trans ((block_set_far (a := ⟨lh, 2, none⟩) (.int .i64 ((goS (flS c) r t2))) n3.symm).trans ((block_set_far (a := ⟨lh, 1, none⟩) (.int .i64 ((goS (flS b) q t1) + -1)) n3.symm).trans ((block_set_far (a := ⟨lh, 0, none⟩) (.int .i64 ((goS (flS a) p t0))) n3.symm).trans ((BB.out.block lc (lt_of_block D.out.2.2.1)).trans D.out.2.2.1)))))))
                have k0 := ((block_set_far (a := ⟨lh, 5, none⟩) (.int .i64 (((leftS b q + 65536 * t1) * 65536).tdiv (speedS q))) NE.out.2.2.2.1).trans ((block_set_far (a := ⟨lh, 4, none⟩) (.int .i64 3) NE.out.2.2.2.1).trans ((block_set_far (a := ⟨lh, 3, none⟩) (.int .i64 0) NE.out.2.2.2.1).trans ((block_set_far (a := ⟨lh, 2, none⟩) (.int .i64 ((goS (flS c) r t2))) NE.out.2.2.2.1).trans ((block_set_far (a := ⟨lh, 1, none⟩) (.int .i64 ((goS (flS b) q t1) + -1)) NE.out.2.2.2.1).trans ((block_set_far (a := ⟨lh, 0, none⟩) (.int .i64 ((goS (flS a) p t0))) NE.out.2.2.2.1).trans ((BB.out.block g0 (lt_of_block D.out.2.2.2.1)).trans D.out.2.2.2.1)))))))
                have k1 := ((block_set_far (a := ⟨lh, 5, none⟩) (.int .i64 (((leftS b q + 65536 * t1) * 65536).tdiv (speedS q))) NE.out.2.2.2.2.1).trans ((block_set_far (a := ⟨lh, 4, none⟩) (.int .i64 3) NE.out.2.2.2.2.1).trans ((block_set_far (a := ⟨lh, 3, none⟩) (.int .i64 0) NE.out.2.2.2.2.1).trans ((block_set_far (a := ⟨lh, 2, none⟩) (.int .i64 ((goS (flS c) r t2))) NE.out.2.2.2.2.1).trans ((block_set_far (a := ⟨lh, 1, none⟩) (.int .i64 ((goS (flS b) q t1) + -1)) NE.out.2.2.2.2.1).trans ((block_set_far (a := ⟨lh, 0, none⟩) (.int .i64 ((goS (flS a) p t0))) NE.out.2.2.2.2.1).trans ((BB.out.block g1 (lt_of_block D.out.2.2.2.2.1)).trans D.out.2.2.2.2.1)))))))
                have k2 := ((block_set_far (a := ⟨lh, 5, none⟩) (.int .i64 (((leftS b q + 65536 * t1) * 65536).tdiv (speedS q))) NE.out.2.2.2.2.2).trans ((block_set_far (a := ⟨lh, 4, none⟩) (.int .i64 3) NE.out.2.2.2.2.2).trans ((block_set_far (a := ⟨lh, 3, none⟩) (.int .i64 0) NE.out.2.2.2.2.2).trans ((block_set_far (a := ⟨lh, 2, none⟩) (.int .i64 ((goS (flS c) r t2))) NE.out.2.2.2.2.2).trans ((block_set_far (a := ⟨lh, 1, none⟩) (.int .i64 ((goS (flS b) q t1) + -1)) NE.out.2.2.2.2.2).trans ((block_set_far (a := ⟨lh, 0, none⟩) (.int .i64 ((goS (flS a) p t0))) NE.out.2.2.2.2.2).trans ((BB.out.block g2 (lt_of_block D.out.2.2.2.2.2.1)).trans D.out.2.2.2.2.2.1)))))))
                have JF := HJ.out _ _ _ (Below.setCell (Below.setCell (Below.setCell (Below.setCell (Below.setCell (Below.setCell (BB.out.mono W10.out) (p := ⟨lh, 0, none⟩) LW.2 (.int .i64 ((goS (flS a) p t0)))) (p := ⟨lh, 1, none⟩) LW.2 (.int .i64 ((goS (flS b) q t1) + -1))) (p := ⟨lh, 2, none⟩) LW.2 (.int .i64 ((goS (flS c) r t2)))) (p := ⟨lh, 3, none⟩) LW.2 (.int .i64 0)) (p := ⟨lh, 4, none⟩) LW.2 (.int .i64 3)) (p := ⟨lh, 5, none⟩) LW.2 (.int .i64 (((leftS b q + 65536 * t1) * 65536).tdiv (speedS q)))) D.out.2.2.2.2.2.2
                have el : (leftS b q + 65536 * t1) + 65536 = leftS b q + 65536 * ((t1 + 1 : Nat) : Int) := by omega
                have eg := goS_neg (x := flS b) t1 (show ¬ 0 < q by omega)
                have kS : Eq (α := Option Obj) _ (some (.cells #[.int .i64 (leftS a p + 65536 * t0), .int .i64 (speedS p), .int .i64 ((leftS b q + 65536 * t1) + 65536), .int .i64 (speedS q), .int .i64 (leftS c r + 65536 * t2), .int .i64 (speedS r)] 323 (0, 0))) := ks
                rw [el] at kS
                have SN := sumL_of kS
                go_roundw
                case rel => exact ⟨t0, (t1 + 1), t2, 3, _, pre ++ [_], by simp [hlen]; omega, by omega, by omega, by omega, by omega, by omega, by omega, kS, by rw [eg]; exact kh, kc, k0, k1, k2, JF⟩
                case measure => rw [SN, SO4.out]; have := LB.out; omega
          · -- the axis 2
            have u0 := cell_of_block (i := 0) BS.out rfl
            have u1 := cell_of_block (i := 1) BS.out rfl
            have u2 := cell_of_block (i := 2) BS.out rfl
            have u3 := cell_of_block (i := 3) BS.out rfl
            have u4 := cell_of_block (i := 4) BS.out rfl
            have u5 := cell_of_block (i := 5) BS.out rfl
            haveI := in_of_cell u0
            have BH := Lib.hid ((GB7.out.block lh (lt_of_block F6.out.2.1)).trans F6.out.2.1)
            have BC := Lib.hid ((GB7.out.block lc (lt_of_block F6.out.2.2.1)).trans F6.out.2.2.1)
            have B0 := Lib.hid ((GB7.out.block g0 (lt_of_block F6.out.2.2.2.1)).trans F6.out.2.2.2.1)
            have B1 := Lib.hid ((GB7.out.block g1 (lt_of_block F6.out.2.2.2.2.1)).trans F6.out.2.2.2.2.1)
            have B2 := Lib.hid ((GB7.out.block g2 (lt_of_block F6.out.2.2.2.2.2)).trans F6.out.2.2.2.2.2)
            have J7 := Lib.hid (HJ.out _ _ _ (GB7.out.mono W6.out) J6.out)
            have W7 := Lib.hid (Nat.le_trans W6.out GB7.out.size)
            clear GB7
            by_cases hz : (speedS r) = 0
            · rw [hz] at u5
              go_wp2_with fail
              gi_wp2
              refine bodyPost_ret (results_none rfl _ _ _) rfl ?_
              exact ⟨⟨_, rfl⟩, .inl ⟨_, J7.out⟩⟩
            · have wl : IntKind.i64.wrap ((leftS c r + 65536 * t2) + 65536) = (leftS c r + 65536 * t2) + 65536 := IntWalk.i64_in _ (by have := LB.out.2.2; omega)
              have DV := Lib.hid (fun W => fdiv_any (leftS c r + 65536 * t2) (speedS r) W (by have := LB.out.2.2; omega) (by have := SB.out.2.2; omega))
              have v0 := cell_of_block (i := 0) B1.out rfl
              have v1 := cell_of_block (i := 1) B1.out rfl
              have v2 := cell_of_block (i := 2) B1.out rfl
              haveI := in_of_cell v0
              have e0 := cell_of_block (i := 0) BH.out rfl
              have e1 := cell_of_block (i := 1) BH.out rfl
              have e2 := cell_of_block (i := 2) BH.out rfl
              haveI := in_of_cell e0
              have x0 := free_of_block 0 BH.out
              have x1 := free_of_block 1 BH.out
              have x2 := free_of_block 2 BH.out
              have x3 := free_of_block 3 BH.out
              have x4 := free_of_block 4 BH.out
              have x5 := free_of_block 5 BH.out
              have x6 := free_of_block 4 BS.out
              have NB := Lib.hid (fun W => nb_any (goS (flS a) p t0) (goS (flS b) q t1) (goS (flS c) r t2) W HM.out.1 HM.out.2.1 HM.out.2.2)
              go_wp2_with fail
              gi_wp2
              refine wpIn_wide.2 ?_
              refine wp_region_ext ?_ ?_ ?_
              · kernel_rfl
              · kernel_rfl
              repeat (go_big_quiet_step (first | (go_at_call 273; with_reducible exact ext_call (DV.out _))))
              refine wpQuiet_nil ?_
              rintro w9 ⟨_t, hw⟩
              have hc9 := named_cell hw
              have hz9 := named_frozen hw
              have hh9 := named_heap hw
              haveI hi9 := named_in hw
              haveI hb9 := named_below (w := w7) hw
              clear hw
              have B9 := Lib.hid (grown_now (w := w7) (W := w9))
              have d0 := block_set (i := 4) ((B9.out.block ls (lt_of_block BS.out)).trans BS.out) (.int .i64 ((leftS c r + 65536 * t2) + 65536)) (by simp)
              have d1 := (block_set_far (a := ⟨ls, 4, none⟩) (.int .i64 ((leftS c r + 65536 * t2) + 65536)) LN.1.symm).trans ((B9.out.block lh (lt_of_block BH.out)).trans BH.out)
              have d2 := (block_set_far (a := ⟨ls, 4, none⟩) (.int .i64 ((leftS c r + 65536 * t2) + 65536)) LN.2.symm).trans ((B9.out.block lc (lt_of_block BC.out)).trans BC.out)
              have d3 := (block_set_far (a := ⟨ls, 4, none⟩) (.int .i64 ((leftS c r + 65536 * t2) + 65536)) NE.out.1).trans ((B9.out.block g0 (lt_of_block B0.out)).trans B0.out)
              have d4 := (block_set_far (a := ⟨ls, 4, none⟩) (.int .i64 ((leftS c r + 65536 * t2) + 65536)) NE.out.2.1).trans ((B9.out.block g1 (lt_of_block B1.out)).trans B1.out)
              have d5 := (block_set_far (a := ⟨ls, 4, none⟩) (.int .i64 ((leftS c r + 65536 * t2) + 65536)) NE.out.2.2.1).trans ((B9.out.block g2 (lt_of_block B2.out)).trans B2.out)
              have JS := HJ.out _ _ _ ((B9.out.mono W7.out).setCell (p := ⟨ls, 4, none⟩) LW.1 (.int .i64 ((leftS c r + 65536 * t2) + 65536))) J7.out
              have D := Lib.hid (And.intro d0 (And.intro d1 (And.intro d2 (And.intro d3 (And.intro d4 (And.intro d5 JS))))))
              have W10 := Lib.hid (show W.heap.size ≤ (w9.setCell ⟨ls, 4, none⟩ (.int .i64 ((leftS c r + 65536 * t2) + 65536))).heap.size by simpa using Nat.le_trans W7.out B9.out.size)
              clear d0 d1 d2 d3 d4 d5 JS
              have q0 := NE.out.1
              have q1 := NE.out.2.1
              have q2 := NE.out.2.2.1
              by_cases hp : 0 < r
              · skip
                gi_wp2
                generalize w9.setCell ⟨ls, 4, none⟩ (.int .i64 ((leftS c r + 65536 * t2) + 65536)) = w10 at *
                refine ⟨trivial, (callsIn_wide.2 (axis2_any p q r _)).mono ?_⟩
                rintro e w11 ⟨rfl, _t, hw⟩
                haveI hg11 := named_grown hw
                have hc11 := named_cell hw
                have hz11 := named_frozen hw
                have hh11 := named_heap hw
                haveI hi11 := named_in hw
                clear hw
                obtain ⟨B11⟩ := hg11
                have da := (B11.block lh (lt_of_block D.out.2.1)).trans D.out.2.1
                have za := cell_of_block (i := 0) da rfl
                have zb := cell_of_block (i := 1) da rfl
                have zc := cell_of_block (i := 2) da rfl
                haveI := in_of_cell za
                clear hc11 hz11 hh11 da
                gi_wp2
                refine ⟨trivial, (callsIn_wide.2 (NB.out _)).mono ?_⟩
                rintro e w12 ⟨rfl, _t, hw⟩
                haveI hg12 := named_grown hw
                have hc12 := named_cell hw
                have hz12 := named_frozen hw
                have hh12 := named_heap hw
                haveI hi12 := named_in hw
                clear hw
                obtain ⟨B12⟩ := hg12
                have BB := Lib.hid (B11.trans (B12.mono B11.size))
                have dh := (BB.out.block lh (lt_of_block D.out.2.1)).trans D.out.2.1
                have y0 := free_of_block 0 dh
                have z0 := cell_of_block (i := 0) dh rfl
                have y1 := free_of_block 1 dh
                have z1 := cell_of_block (i := 1) dh rfl
                have y2 := free_of_block 2 dh
                have z2 := cell_of_block (i := 2) dh rfl
                have y3 := free_of_block 3 dh
                have z3 := cell_of_block (i := 3) dh rfl
                have y4 := free_of_block 4 dh
                have z4 := cell_of_block (i := 4) dh rfl
                have y5 := free_of_block 5 dh
                have z5 := cell_of_block (i := 5) dh rfl
                haveI := in_of_cell z0
                have DH := Lib.hid dh
                clear dh hc12 hz12 hh12 B11 B12 za zb zc
                gi_wp2
                have kh := (block_set (i := 5) (block_set (i := 4) (block_set (i := 3) (block_set (i := 2) (block_set (i := 1) (block_set (i := 0) DH.out (.int .i64 ((goS (flS a) p t0))) (by simp)) (.int .i64 ((goS (flS b) q t1))) (by simp)) (.int .i64 ((goS (flS c) r t2) + 1)) (by simp)) (.int .i64 0) (by simp)) (.int .i64 4) (by simp)) (.int .i64 (((leftS c r + 65536 * t2) * 65536).tdiv (speedS r))) (by simp))
                have ks := ((block_set_far (a := ⟨lh, 5, none⟩) (.int .i64 (((leftS c r + 65536 * t2) * 65536).tdiv (speedS r))) LN.1).trans ((block_set_far (a := ⟨lh, 4, none⟩) (.int .i64 4) LN.1).trans ((block_set_far (a := ⟨lh, 3, none⟩) (.int .i64 0) LN.1).trans ((block_set_far (a := ⟨lh, 2, none⟩) (.int .i64 ((goS (flS c) r t2) + 1)) LN.1).trans ((block_set_far (a := ⟨lh, 1, none⟩) (.int .i64 ((goS (flS b) q t1))) LN.1).trans ((block_set_far (a := ⟨lh, 0, none⟩) (.int .i64 ((goS (flS a) p t0))) LN.1).trans ((BB.out.block ls (lt_of_block D.out.1)).trans D.out.1)))))))
                have kc := ((block_set_far (a := ⟨lh, 5, none⟩) (.int .i64 (((leftS c r + 65536 * t2) * 65536).tdiv (speedS r))) n3.symm).trans ((block_set_far (a := ⟨lh, 4, none⟩) (.int .i64 4) n3.symm).trans ((block_set_far (a := ⟨lh, 3, none⟩) (.int .i64 0) n3.symm).trans ((block_set_far (a := ⟨lh, 2, none⟩) (.int .i64 ((goS (flS c) r t2) + 1)) n3.symm).trans ((block_set_far (a := ⟨lh, 1, none⟩) (.int .i64 ((goS (flS b) q t1))) n3.symm).trans ((block_set_far (a := ⟨lh, 0, none⟩) (.int .i64 ((goS (flS a) p t0))) n3.symm).trans ((BB.out.block lc (lt_of_block D.out.2.2.1)).trans D.out.2.2.1)))))))
                have k0 := ((block_set_far (a := ⟨lh, 5, none⟩) (.int .i64 (((leftS c r + 65536 * t2) * 65536).tdiv (speedS r))) NE.out.2.2.2.1).trans ((block_set_far (a := ⟨lh, 4, none⟩) (.int .i64 4) NE.out.2.2.2.1).trans ((block_set_far (a := ⟨lh, 3, none⟩) (.int .i64 0) NE.out.2.2.2.1).trans ((block_set_far (a := ⟨lh, 2, none⟩) (.int .i64 ((goS (flS c) r t2) + 1)) NE.out.2.2.2.1).trans ((block_set_far (a := ⟨lh, 1, none⟩) (.int .i64 ((goS (flS b) q t1))) NE.out.2.2.2.1).trans ((block_set_far (a := ⟨lh, 0, none⟩) (.int .i64 ((goS (flS a) p t0))) NE.out.2.2.2.1).trans ((BB.out.block g0 (lt_of_block D.out.2.2.2.1)).trans D.out.2.2.2.1)))))))
                have k1 := ((block_set_far (a := ⟨lh, 5, none⟩) (.int .i64 (((leftS c r + 65536 * t2) * 65536).tdiv (speedS r))) NE.out.2.2.2.2.1).trans ((block_set_far (a := ⟨lh, 4, none⟩) (.int .i64 4) NE.out.2.2.2.2.1).trans ((block_set_far (a := ⟨lh, 3, none⟩) (.int .i64 0) NE.out.2.2.2.2.1).trans ((block_set_far (a := ⟨lh, 2, none⟩) (.int .i64 ((goS (flS c) r t2) + 1)) NE.out.2.2.2.2.1).trans ((block_set_far (a := ⟨lh, 1, none⟩) (.int .i64 ((goS (flS b) q t1))) NE.out.2.2.2.2.1).trans ((block_set_far (a := ⟨lh, 0, none⟩) (.int .i64 ((goS (flS a) p t0))) NE.out.2.2.2.2.1).trans ((BB.out.block g1 (lt_of_block D.out.2.2.2.2.1)).trans D.out.2.2.2.2.1)))))))
                have k2 := ((block_set_far (a := ⟨lh, 5, none⟩) (.int .i64 (((leftS c r + 65536 * t2) * 65536).tdiv (speedS r))) NE.out.2.2.2.2.2).trans ((block_set_far (a := ⟨lh, 4, none⟩) (.int .i64 4) NE.out.2.2.2.2.2).trans ((block_set_far (a := ⟨lh, 3, none⟩) (.int .i64 0) NE.out.2.2.2.2.2).trans ((block_set_far (a := ⟨lh, 2, none⟩) (.int .i64 ((goS (flS c) r t2) + 1)) NE.out.2.2.2.2.2).trans ((block_set_far (a := ⟨lh, 1, none⟩) (.int .i64 ((goS (flS b) q t1))) NE.out.2.2.2.2.2).trans ((block_set_far (a := ⟨lh, 0, none⟩) (.int .i64 ((goS (flS a) p t0))) NE.out.2.2.2.2.2).trans ((BB.out.block g2 (lt_of_block D.out.2.2.2.2.2.1)).trans D.out.2.2.2.2.2.1)))))))
                have JF := HJ.out _ _ _ (Below.setCell (Below.setCell (Below.setCell (Below.setCell (Below.setCell (Below.setCell (BB.out.mono W10.out) (p := ⟨lh, 0, none⟩) LW.2 (.int .i64 ((goS (flS a) p t0)))) (p := ⟨lh, 1, none⟩) LW.2 (.int .i64 ((goS (flS b) q t1)))) (p := ⟨lh, 2, none⟩) LW.2 (.int .i64 ((goS (flS c) r t2) + 1))) (p := ⟨lh, 3, none⟩) LW.2 (.int .i64 0)) (p := ⟨lh, 4, none⟩) LW.2 (.int .i64 4)) (p := ⟨lh, 5, none⟩) LW.2 (.int .i64 (((leftS c r + 65536 * t2) * 65536).tdiv (speedS r)))) D.out.2.2.2.2.2.2
                have el : (leftS c r + 65536 * t2) + 65536 = leftS c r + 65536 * ((t2 + 1 : Nat) : Int) := by omega
                have eg := goS_pos (x := flS c) t2 (show 0 < r by omega)
                have kS : Eq (α := Option Obj) _ (some (.cells #[.int .i64 (leftS a p + 65536 * t0), .int .i64 (speedS p), .int .i64 (leftS b q + 65536 * t1), .int .i64 (speedS q), .int .i64 ((leftS c r + 65536 * t2) + 65536), .int .i64 (speedS r)] 323 (0, 0))) := ks
                rw [el] at kS
                have SN := sumL_of kS
                go_roundw
                case rel => exact ⟨t0, t1, (t2 + 1), 4, _, pre ++ [_], by simp [hlen]; omega, by omega, by omega, by omega, by omega, by omega, by omega, kS, by rw [eg]; exact kh, kc, k0, k1, k2, JF⟩
                case measure => rw [SN, SO4.out]; have := LB.out; omega
              · skip
                gi_wp2
                generalize w9.setCell ⟨ls, 4, none⟩ (.int .i64 ((leftS c r + 65536 * t2) + 65536)) = w10 at *
                refine ⟨trivial, (callsIn_wide.2 (axis2_any p q r _)).mono ?_⟩
                rintro e w11 ⟨rfl, _t, hw⟩
                haveI hg11 := named_grown hw
                have hc11 := named_cell hw
                have hz11 := named_frozen hw
                have hh11 := named_heap hw
                haveI hi11 := named_in hw
                clear hw
                obtain ⟨B11⟩ := hg11
                have da := (B11.block lh (lt_of_block D.out.2.1)).trans D.out.2.1
                have za := cell_of_block (i := 0) da rfl
                have zb := cell_of_block (i := 1) da rfl
                have zc := cell_of_block (i := 2) da rfl
                haveI := in_of_cell za
                clear hc11 hz11 hh11 da
                gi_wp2
                refine ⟨trivial, (callsIn_wide.2 (NB.out _)).mono ?_⟩
                rintro e w12 ⟨rfl, _t, hw⟩
                haveI hg12 := named_grown hw
                have hc12 := named_cell hw
                have hz12 := named_frozen hw
                have hh12 := named_heap hw
                haveI hi12 := named_in hw
                clear hw
                obtain ⟨B12⟩ := hg12
                have BB := Lib.hid (B11.trans (B12.mono B11.size))
                have dh := (BB.out.block lh (lt_of_block D.out.2.1)).trans D.out.2.1
                have y0 := free_of_block 0 dh
                have z0 := cell_of_block (i := 0) dh rfl
                have y1 := free_of_block 1 dh
                have z1 := cell_of_block (i := 1) dh rfl
                have y2 := free_of_block 2 dh
                have z2 := cell_of_block (i := 2) dh rfl
                have y3 := free_of_block 3 dh
                have z3 := cell_of_block (i := 3) dh rfl
                have y4 := free_of_block 4 dh
                have z4 := cell_of_block (i := 4) dh rfl
                have y5 := free_of_block 5 dh
                have z5 := cell_of_block (i := 5) dh rfl
                haveI := in_of_cell z0
                have DH := Lib.hid dh
                clear dh hc12 hz12 hh12 B11 B12 za zb zc
                gi_wp2
                have kh := (block_set (i := 5) (block_set (i := 4) (block_set (i := 3) (block_set (i := 2) (block_set (i := 1) (block_set (i := 0) DH.out (.int .i64 ((goS (flS a) p t0))) (by simp)) (.int .i64 ((goS (flS b) q t1))) (by simp)) (.int .i64 ((goS (flS c) r t2) + -1)) (by simp)) (.int .i64 0) (by simp)) (.int .i64 5) (by simp)) (.int .i64 (((leftS c r + 65536 * t2) * 65536).tdiv (speedS r))) (by simp))
                have ks := ((block_set_far (a := ⟨lh, 5, none⟩) (.int .i64 (((leftS c r + 65536 * t2) * 65536).tdiv (speedS r))) LN.1).trans ((block_set_far (a := ⟨lh, 4, none⟩) (.int .i64 5) LN.1).trans ((block_set_far (a := ⟨lh, 3, none⟩) (.int .i64 0) LN.1).trans ((block_set_far (a := ⟨lh, 2, none⟩) (.int .i64 ((goS (flS c) r t2) + -1)) LN.1).trans ((block_set_far (a := ⟨lh, 1, none⟩) (.int .i64 ((goS (flS b) q t1))) LN.1).trans ((block_set_far (a := ⟨lh, 0, none⟩) (.int .i64 ((goS (flS a) p t0))) LN.1).trans ((BB.out.block ls (lt_of_block D.out.1)).trans D.out.1)))))))
                have kc := ((block_set_far (a := ⟨lh, 5, none⟩) (.int .i64 (((leftS c r + 65536 * t2) * 65536).tdiv (speedS r))) n3.symm).trans ((block_set_far (a := ⟨lh, 4, none⟩) (.int .i64 5) n3.symm).trans ((block_set_far (a := ⟨lh, 3, none⟩) (.int .i64 0) n3.symm).trans ((block_set_far (a := ⟨lh, 2, none⟩) (.int .i64 ((goS (flS c) r t2) + -1)) n3.symm).trans ((block_set_far (a := ⟨lh, 1, none⟩) (.int .i64 ((goS (flS b) q t1))) n3.symm).trans ((block_set_far (a := ⟨lh, 0, none⟩) (.int .i64 ((goS (flS a) p t0))) n3.symm).trans ((BB.out.block lc (lt_of_block D.out.2.2.1)).trans D.out.2.2.1)))))))
                have k0 := ((block_set_far (a := ⟨lh, 5, none⟩) (.int .i64 (((leftS c r + 65536 * t2) * 65536).tdiv (speedS r))) NE.out.2.2.2.1).trans ((block_set_far (a := ⟨lh, 4, none⟩) (.int .i64 5) NE.out.2.2.2.1).trans ((block_set_far (a := ⟨lh, 3, none⟩) (.int .i64 0) NE.out.2.2.2.1).trans ((block_set_far (a := ⟨lh, 2, none⟩) (.int .i64 ((goS (flS c) r t2) + -1)) NE.out.2.2.2.1).trans ((block_set_far (a := ⟨lh, 1, none⟩) (.int .i64 ((goS (flS b) q t1))) NE.out.2.2.2.1).trans ((block_set_far (a := ⟨lh, 0, none⟩) (.int .i64 ((goS (flS a) p t0))) NE.out.2.2.2.1).trans ((BB.out.block g0 (lt_of_block D.out.2.2.2.1)).trans D.out.2.2.2.1)))))))
                have k1 := ((block_set_far (a := ⟨lh, 5, none⟩) (.int .i64 (((leftS c r + 65536 * t2) * 65536).tdiv (speedS r))) NE.out.2.2.2.2.1).trans ((block_set_far (a := ⟨lh, 4, none⟩) (.int .i64 5) NE.out.2.2.2.2.1).trans ((block_set_far (a := ⟨lh, 3, none⟩) (.int .i64 0) NE.out.2.2.2.2.1).trans ((block_set_far (a := ⟨lh, 2, none⟩) (.int .i64 ((goS (flS c) r t2) + -1)) NE.out.2.2.2.2.1).trans ((block_set_far (a := ⟨lh, 1, none⟩) (.int .i64 ((goS (flS b) q t1))) NE.out.2.2.2.2.1).trans ((block_set_far (a := ⟨lh, 0, none⟩) (.int .i64 ((goS (flS a) p t0))) NE.out.2.2.2.2.1).trans ((BB.out.block g1 (lt_of_block D.out.2.2.2.2.1)).trans D.out.2.2.2.2.1)))))))
                have k2 := ((block_set_far (a := ⟨lh, 5, none⟩) (.int .i64 (((leftS c r + 65536 * t2) * 65536).tdiv (speedS r))) NE.out.2.2.2.2.2).trans ((block_set_far (a := ⟨lh, 4, none⟩) (.int .i64 5) NE.out.2.2.2.2.2).trans ((block_set_far (a := ⟨lh, 3, none⟩) (.int .i64 0) NE.out.2.2.2.2.2).trans ((block_set_far (a := ⟨lh, 2, none⟩) (.int .i64 ((goS (flS c) r t2) + -1)) NE.out.2.2.2.2.2).trans ((block_set_far (a := ⟨lh, 1, none⟩) (.int .i64 ((goS (flS b) q t1))) NE.out.2.2.2.2.2).trans ((block_set_far (a := ⟨lh, 0, none⟩) (.int .i64 ((goS (flS a) p t0))) NE.out.2.2.2.2.2).trans ((BB.out.block g2 (lt_of_block D.out.2.2.2.2.2.1)).trans D.out.2.2.2.2.2.1)))))))
                have JF := HJ.out _ _ _ (Below.setCell (Below.setCell (Below.setCell (Below.setCell (Below.setCell (Below.setCell (BB.out.mono W10.out) (p := ⟨lh, 0, none⟩) LW.2 (.int .i64 ((goS (flS a) p t0)))) (p := ⟨lh, 1, none⟩) LW.2 (.int .i64 ((goS (flS b) q t1)))) (p := ⟨lh, 2, none⟩) LW.2 (.int .i64 ((goS (flS c) r t2) + -1))) (p := ⟨lh, 3, none⟩) LW.2 (.int .i64 0)) (p := ⟨lh, 4, none⟩) LW.2 (.int .i64 5)) (p := ⟨lh, 5, none⟩) LW.2 (.int .i64 (((leftS c r + 65536 * t2) * 65536).tdiv (speedS r)))) D.out.2.2.2.2.2.2
                have el : (leftS c r + 65536 * t2) + 65536 = leftS c r + 65536 * ((t2 + 1 : Nat) : Int) := by omega
                have eg := goS_neg (x := flS c) t2 (show ¬ 0 < r by omega)
                have kS : Eq (α := Option Obj) _ (some (.cells #[.int .i64 (leftS a p + 65536 * t0), .int .i64 (speedS p), .int .i64 (leftS b q + 65536 * t1), .int .i64 (speedS q), .int .i64 ((leftS c r + 65536 * t2) + 65536), .int .i64 (speedS r)] 323 (0, 0))) := ks
                rw [el] at kS
                have SN := sumL_of kS
                go_roundw
                case rel => exact ⟨t0, t1, (t2 + 1), 5, _, pre ++ [_], by simp [hlen]; omega, by omega, by omega, by omega, by omega, by omega, by omega, kS, by rw [eg]; exact kh, kc, k0, k1, k2, JF⟩
                case measure => rw [SN, SO4.out]; have := LB.out; omega
      · have HJX := Lib.hid hJx6
        clear hJx6 hR hy'
        go_wp2_with fail
        gi_wp2
        refine bodyPost_ret (results_none rfl _ _ _) rfl ?_
        exact ⟨⟨_, rfl⟩, .inr ⟨_, HJX.out⟩⟩
end Go.Proofs.YtnogfelfgclajaaGreatDoor
end
