/-
  The first cell that stops a ray.
-/
import Derived.Test.YtnogfelfgclajaaGreatDoorMb33
import Derived.Test.YtnogfelfgclajaaGreatDoorMb23
section
namespace Go.Proofs.YtnogfelfgclajaaGreatDoor
open Go.RowKit Go.Shelf
attribute [local go_sem] ext_ext drew_ext ext_drew ext_cell ext_frozen in_lt in_le in_ne in_en in_ne1 in_en1 in_le1 in_ltn in_len in_nen in_enn size_le ite_max ite_min
set_option linter.unusedVariables false
set_option linter.unusedSimpArgs false
attribute [local go_sem] Oper.semAt_some
set_option maxRecDepth 1000000

/-- A hit's cell is near the first one; its face is one, or none. -/
def NearH (x y z cx cy cz f : Int) : Prop := (x - 5 ≤ cx ∧ cx ≤ x + 5) ∧ (y - 5 ≤ cy ∧ cy ≤ y + 5) ∧ (z - 5 ≤ cz ∧ cz ≤ z + 5) ∧ -1 ≤ f ∧ f ≤ 5
theorem trace_seq (a b c p q r : Int) (ha : 0 ≤ a ∧ a ≤ 100000000) (hb : 0 ≤ b ∧ b ≤ 100000000) (hc : 0 ≤ c ∧ c ≤ 100000000) (hp : -1000000 ≤ p ∧ p ≤ 1000000) (hq : -1000000 ≤ q ∧ q ≤ 1000000) (hr : -1000000 ≤ r ∧ r ≤ 1000000) (n : Nat) (hn : 1 ≤ n) (g0 g1 g2 : Nat) (w : World)
    (hm : (-900 ≤ flS a ∧ flS a ≤ 900) ∧ (-900 ≤ flS b ∧ flS b ≤ 900) ∧ -900 ≤ flS c ∧ flS c ≤ 900)
    (c0 : w.heap[g0]? = some (.cells #[.int .i64 a, .int .i64 b, .int .i64 c] 46 (0, 0))) (c1 : w.heap[g1]? = some (.cells #[.int .i64 p, .int .i64 q, .int .i64 r] 46 (0, 0))) (c2 : w.heap[g2]? = some (.cells #[.int .i64 5] 3 (0, 0))) :
    SeqLow Fence.wide n Tryz.prog 269 #[.pointer (some ⟨g0, 0, none⟩), .pointer (some ⟨g1, 0, none⟩), .pointer (some ⟨g2, 0, none⟩)] (fun h : HitB (flS a) (flS b) (flS c) => #[.agg h.enc]) KeepsX 17 w := fun l J Jx W hW hJ hY h0 =>
  trace1_in a b c p q r ha hb hc hp hq hr n hn g0 g1 g2 l J Jx W hm hJ hY ((hW.block g0 (lt_of_block c0)).trans c0) ((hW.block g1 (lt_of_block c1)).trans c1) ((hW.block g2 (lt_of_block c2)).trans c2) h0
theorem five (w : World) (c0 c1 c2 c3 c4 : Array Value) (t0 t1 t2 t3 t4 : TypeId) (W : World) (hW : W = ((((w.alloc (.cells c0 t0)).alloc (.cells c1 t1)).alloc (.cells c2 t2)).alloc (.cells c3 t3)).alloc (.cells c4 t4)) :
    Below w.heap.size w W ∧ W.heap.size = w.heap.size + 1 + 1 + 1 + 1 + 1 ∧ W.heap[w.heap.size]? = some (.cells c0 t0) ∧ W.heap[w.heap.size + 1]? = some (.cells c1 t1) ∧ W.heap[w.heap.size + 1 + 1]? = some (.cells c2 t2) ∧ W.heap[w.heap.size + 1 + 1 + 1]? = some (.cells c3 t3) ∧ W.heap[w.heap.size + 1 + 1 + 1 + 1]? = some (.cells c4 t4) := by
  obtain ⟨B, z, h0, h1, h2, h3⟩ := four w c0 c1 c2 c3 t0 t1 t2 t3 _ rfl
  have h4 := heap_alloc_new ((((w.alloc (.cells c0 t0)).alloc (.cells c1 t1)).alloc (.cells c2 t2)).alloc (.cells c3 t3)) (.cells c4 t4)
  have z4 := World.size_alloc ((((w.alloc (.cells c0 t0)).alloc (.cells c1 t1)).alloc (.cells c2 t2)).alloc (.cells c3 t3)) (.cells c4 t4)
  have B4 := B.alloc B.size (.cells c4 t4)
  have old := fun (k : Nat) hk => heap_alloc_old ((((w.alloc (.cells c0 t0)).alloc (.cells c1 t1)).alloc (.cells c2 t2)).alloc (.cells c3 t3)) (.cells c4 t4) (r := k) hk
  subst hW
  rw [z] at h4 z4
  exact ⟨B4, z4, (old _ (lt_of_block h0)).trans h0, (old _ (lt_of_block h1)).trans h1, (old _ (lt_of_block h2)).trans h2, (old _ (lt_of_block h3)).trans h3, h4⟩
theorem cast_end (D q3 q4 : Nat) (w W : World) (tmps : Array Value) (R : Ending → Prop) (x y z b f t : Int) (h : Bool) (hK : W.heap[D]? = some (.deferred (some []))) (n3 : D ≠ q3) (n4 : D ≠ q4) (j3 : W.heap[q3]? = some (.cells #[.int .i64 x, .int .i64 y, .int .i64 z, .int .i64 b, .int .i64 f, .int .i64 t] 171 (0, 0)))
    (j4 : W.heap[q4]? = some (.cells #[.bool h] 4 (0, 0))) (hb : Below w.heap.size w W) (hD : w.heap.size ≤ D) (hR : R (.returned (.tuple #[.agg #[.int .i64 x, .int .i64 y, .int .i64 z, .int .i64 b, .int .i64 f, .int .i64 t], .bool h])))
    (t8 : tmps[8]? = some (.pointer (some ⟨q3, 0, none⟩))) (t9 : tmps[9]? = some (.pointer (some ⟨q4, 0, none⟩))) :
    bodyPostM Fence.wide 5 Tryz.prog Tryz.f163 (fun o w' => R o ∧ ∃ f, w' = ext w f) Exit.ret { tmps := tmps, defers := [{ target := .collected D, args := #[] }] } W := by
  refine ⟨by simp, .inl ⟨_, _, rfl, run_takeDeferred hK, ?_⟩⟩
  have e3 := (World.putObj_heap_other (w := W) (r := D) (o := .deferred none) n3.symm).trans j3
  have e4 := (World.putObj_heap_other (w := W) (r := D) (o := .deferred none) n4.symm).trans j4
  have a0 := cell_of_block (i := 0) e3 rfl
  have a1 := cell_of_block (i := 1) e3 rfl
  have a2 := cell_of_block (i := 2) e3 rfl
  have a3 := cell_of_block (i := 3) e3 rfl
  have a5 := cell_of_block (i := 4) e3 rfl
  have a6 := cell_of_block (i := 5) e3 rfl
  have a4 := cell_of_block (i := 0) e4 rfl
  have hf := hb.trans (belowK_b (w := w) (Nat.le_refl _) W D _ (.deferred none) hD hK rfl rfl)
  refine ⟨_, ?_, hR, ext_of hf⟩
  simp [results, Tryz.results163, go_sem, t8, t9, a0, a1, a2, a3, a4, a5, a6]
  done
set_option maxHeartbeats 8000000 in
theorem cast_any (v : Value) (V : Int → Int → Int → Int) (a b c p q r : Int) (w : World) (hv : ViewVal Tryz.prog v V w) (ca : fcS a = a) (cb : fcS b = b) (cc : fcS c = c) (ha : 0 ≤ a ∧ a ≤ 100000000) (hb : 0 ≤ b ∧ b ≤ 100000000) (hc : 0 ≤ c ∧ c ≤ 100000000) (hp : -1000000 ≤ p ∧ p ≤ 1000000) (hq : -1000000 ≤ q ∧ q ≤ 1000000) (hr : -1000000 ≤ r ∧ r ≤ 1000000)
    (hm : (-900 ≤ flS a ∧ flS a ≤ 900) ∧ (-900 ≤ flS b ∧ flS b ≤ 900) ∧ -900 ≤ flS c ∧ flS c ≤ 900) :
    Calls Tryz.prog 163 #[v, .agg #[.int .i64 a, .int .i64 b, .int .i64 c], .agg #[.int .i64 p, .int .i64 q, .int .i64 r], .int .i64 5] w fun o w' =>
      (∃ (x y z bl f t : Int) (h : Bool), o = .returned (.tuple #[.agg #[.int .i64 x, .int .i64 y, .int .i64 z, .int .i64 bl, .int .i64 f, .int .i64 t], .bool h]) ∧ (h = true → NearH (flS a) (flS b) (flS c) x y z f)) ∧ ∃ f, w' = ext w f := by
  obtain ⟨fv, first, caps, rfl, hv⟩ := hv
  refine (callsIn_wide (n := 5)).1 ?_
  refine callsIn_of_wp_marks Tryz.func163 rfl trivial ?_ rfl
  simp only [Tryz.ntmps163, List.size_toArray, List.length_cons, List.length_nil, Nat.reduceAdd, Nat.reduceSub, Array.replicate_succ, Array.replicate_zero, List.push_toArray, List.append_toArray, List.nil_append, List.cons_append]
  have HV := Lib.hid hv
  have TR := Lib.hid (fun W => trace_any a b c p q r W ca cb cc hp hq hr)
  have HM := Lib.hid hm
  have HS := Lib.hid (fun n hn g0 g1 g2 W => trace_seq a b c p q r ha hb hc hp hq hr n hn g0 g1 g2 W hm)
  clear hm ca cb cc ha hb hc hp hq hr hv
  gi_wp2
  obtain ⟨G0, Z0, v0, _, _, r3, r4⟩ := five w _ _ _ _ _ _ _ _ _ _ _ rfl
  clear Z0
  generalize (((((w.alloc (.cells #[.func (.func fv) first caps] 62)).alloc (.cells #[.int .i64 a, .int .i64 b, .int .i64 c] 46)).alloc (.cells #[.int .i64 p, .int .i64 q, .int .i64 r] 46)).alloc (.cells #[.int .i64 0, .int .i64 0, .int .i64 0, .int .i64 0, .int .i64 0, .int .i64 0] 171)).alloc (.cells #[.bool false] 4)) = w1 at *
  refine ⟨trivial, (callsIn_wide.2 (TR.out w1)).mono ?_⟩
  rintro e' W0 ⟨rfl, BT, f0, f1, f2⟩
  generalize w1.heap.size + 1 + 1 = g2 at *
  generalize w1.heap.size + 1 = g1 at *
  obtain ⟨g0, hg0⟩ : ∃ g, w1.heap.size = g := ⟨_, rfl⟩
  rw [hg0] at f0 ⊢
  clear hg0
  gi_wp2
  have l3 : w.heap.size ≤ w.heap.size + 1 + 1 + 1 ∧ w.heap.size ≤ w.heap.size + 1 + 1 + 1 + 1 ∧ w.heap.size + 1 + 1 + 1 ≠ w.heap.size + 1 + 1 + 1 + 1 := by omega
  generalize w.heap.size + 1 + 1 + 1 + 1 = q4 at *
  generalize w.heap.size + 1 + 1 + 1 = q3 at *
  generalize w.heap.size + 1 + 1 = q2 at *
  generalize w.heap.size + 1 = q1 at *
  obtain ⟨q0, hq0⟩ : ∃ q, w.heap.size = q := ⟨_, rfl⟩
  rw [hq0] at v0
  rw [hq0]
  clear hq0
  have V0 := (BT.block q0 (lt_of_block v0)).trans v0
  have R3 := (BT.block q3 (lt_of_block r3)).trans r3
  have R4 := (BT.block q4 (lt_of_block r4)).trans r4
  have GT := G0.trans (BT.mono G0.size)
  have m3 := lt_of_block R3
  have m4 := lt_of_block R4
  refine wpIn_rangeFunc_low rfl (by omega) (gf := 269) (lb := #[.pointer (some ⟨g0, 0, none⟩), .pointer (some ⟨g1, 0, none⟩), .pointer (some ⟨g2, 0, none⟩)]) rfl trivial (enters_of Tryz.func269 (by kernel_rfl) rfl)
    (HS.out _ (by omega) _ _ _ W0 f0 f1 f2) KeepsX.trans' keepsX_b (fun _ => rfl)
    (fun _ W => Below W0.heap.size W0 W)
    (fun cd _ W => cd = Code.ret ∧ Below w.heap.size w W ∧ (∃ x y z bl f t : Int, W.heap[q3]? = some (.cells #[.int .i64 x, .int .i64 y, .int .i64 z, .int .i64 bl, .int .i64 f, .int .i64 t] 171 (0, 0)) ∧ NearH (flS a) (flS b) (flS c) x y z f) ∧ W.heap[q4]? = some (.cells #[.bool true] 4 (0, 0)))
    (low_below (Nat.le_refl _))
    (fun _ _ W W' hb ⟨e, h1, ⟨x, y, z, bl, f, t, h2, h3⟩, h4⟩ => ⟨e, h1.trans (hb.mono GT.size), ⟨x, y, z, bl, f, t, (hb.block q3 m3).trans h2, h3⟩, (hb.block q4 m4).trans h4⟩)
    (Below.refl _ _)
    (fun h a' W => ∃ bc, a' = { tmps := #[.func (.func fv) first caps, .agg #[.int .i64 a, .int .i64 b, .int .i64 c], .agg #[.int .i64 p, .int .i64 q, .int .i64 r], .int .i64 5, .pointer (some ⟨q0, 0, none⟩), .pointer (some ⟨q1, 0, none⟩), .pointer (some ⟨q2, 0, none⟩), undef, .pointer (some ⟨q3, 0, none⟩), .pointer (some ⟨q4, 0, none⟩), .pointer (some ⟨bc, 0, none⟩), undef, .agg #[.int .i64 a, .int .i64 b, .int .i64 c], .agg #[.int .i64 p, .int .i64 q, .int .i64 r], .int .i64 5, .func (.func 269) #[] #[.pointer (some ⟨g0, 0, none⟩), .pointer (some ⟨g1, 0, none⟩), .pointer (some ⟨g2, 0, none⟩)], .agg h.enc, undef, undef, undef, undef, undef, undef, undef, undef, undef, undef, undef], defers := [] } ∧ W.heap[bc]? = some (.cells h.enc 171 (0, 0)) ∧ W0.heap.size ≤ bc)
    (fun h a' => fun _ X Y row ⟨bc, h1, h2, h3⟩ hg hr => ⟨bc, h1, ownFrom_block (β := Unit) _ _ _ _ _ () X Y row h2 hg hr, h3⟩) ?assign ?body ?done ?stop
  case assign =>
    rintro l pre ⟨cx, cy, cz, fa, tm, hx, hy, hz, hf⟩ W K hI hK
    simp only [HitB.enc] at hK ⊢
    gi_wp2
    exact hK _ _ (KeepsFrom.of_grownBy (World.grownBy_alloc W _ none) (fun _ h => by cases h)) (keepsX_below ((Below.refl _ W).alloc (Nat.le_refl _) _)) (hI.alloc hI.size _) ⟨_, rfl, heap_alloc_new W _, hI.size⟩
  case body =>
    rintro l pre ⟨cx, cy, cz, fa, tm, hx, hy, hz, hf⟩ a' W hB ⟨bc, rfl, hbc, hbl⟩ hlt
    simp only [HitB.enc] at hbc ⊢
    have c0 := cell_of_block (i := 0) hbc rfl
    have c1 := cell_of_block (i := 1) hbc rfl
    have c2 := cell_of_block (i := 2) hbc rfl
    haveI := in_of_cell c0
    have u0 := (hB.block q0 (lt_of_block V0)).trans V0
    have u3 := (hB.block q3 m3).trans R3
    have u4 := (hB.block q4 m4).trans R4
    have e0 := cell_of_block (i := 0) u0 rfl
    haveI := in_of_cell e0
    have hvf := HV.out.enters
    have VT := Lib.hid (fun W' (hW' : Below W.heap.size W W') => (show Calls Tryz.prog fv (first.push (.agg #[.int .i64 cx, .int .i64 cy, .int .i64 cz]) ++ caps) W' fun e w' => e = .returned (.int .i64 (V cx cy cz)) ∧ ∃ g, w' = ext W' g from by rw [Array.push_eq_append]; exact HV.out.tells W' (ext_of (GT.trans ((hB.trans (hW'.mono hB.size)).mono GT.size))) cx cy cz ⟨by have := HM.out; omega, by have := HM.out; omega⟩ ⟨by have := HM.out; omega, by have := HM.out; omega⟩ ⟨by have := HM.out; omega, by have := HM.out; omega⟩))
    have HN := Lib.hid (show NearH (flS a) (flS b) (flS c) cx cy cz fa from ⟨hx, hy, hz, hf⟩)
    generalize V cx cy cz = vb at *
    have YD := Lib.hid (fun W' => yld_any vb W')
    have HB := Lib.hid (And.intro hB (And.intro u3 (And.intro u4 hbc)))
    clear hB hbc u0 u3 u4
    cases hyd : yldB vb
    · rw [hyd] at YD
      clear hyd
      gi_wp2
      refine ⟨trivial, (CallsIn.inRound l (callsIn_wide.2 (VT.out _ (by first | exact Below.refl _ _ | exact grown_now)))).mono ?_⟩
      rintro e9 w9 ⟨rfl, f9, hw9⟩
      have B9 := Lib.hid (show Below W.heap.size W w9 from by rw [hw9]; exact ext_below W f9)
      clear hw9
      gi_wp2
      refine ⟨trivial, (CallsIn.inRound l (callsIn_wide.2 (YD.out _))).mono ?_⟩
      rintro e8 w8 ⟨rfl, rfl⟩
      have x3 := (B9.out.block q3 (lt_of_block HB.out.2.1)).trans HB.out.2.1
      have x4 := (B9.out.block q4 (lt_of_block HB.out.2.2.1)).trans HB.out.2.2.1
      have x5 := (B9.out.block bc (lt_of_block HB.out.2.2.2)).trans HB.out.2.2.2
      have n5 : bc ≠ q3 := by omega
      have n6 : bc ≠ q4 := by omega
      have n3 : q3 ≠ q4 := l3.2.2
      clear c0 c1 c2
      have c0 := cell_of_block (i := 0) x5 rfl
      have z0 := free_of_block 0 x5
      have d0 := cell_of_block (i := 0) x3 rfl
      have y0 := free_of_block 0 x3
      have c1 := cell_of_block (i := 1) x5 rfl
      have z1 := free_of_block 1 x5
      have d1 := cell_of_block (i := 1) x3 rfl
      have y1 := free_of_block 1 x3
      have c2 := cell_of_block (i := 2) x5 rfl
      have z2 := free_of_block 2 x5
      have d2 := cell_of_block (i := 2) x3 rfl
      have y2 := free_of_block 2 x3
      have c3 := cell_of_block (i := 3) x5 rfl
      have z3 := free_of_block 3 x5
      have d3 := cell_of_block (i := 3) x3 rfl
      have y3 := free_of_block 3 x3
      have c4 := cell_of_block (i := 4) x5 rfl
      have z4 := free_of_block 4 x5
      have d4 := cell_of_block (i := 4) x3 rfl
      have y4 := free_of_block 4 x3
      have c5 := cell_of_block (i := 5) x5 rfl
      have z5 := free_of_block 5 x5
      have d5 := cell_of_block (i := 5) x3 rfl
      have y5 := free_of_block 5 x3
      have d6 := cell_of_block (i := 0) x4 rfl
      have y6 := free_of_block 0 x4
      haveI := in_of_cell c0
      haveI := in_of_cell d0
      haveI := in_of_cell d6
      have X := Lib.hid (And.intro x3 (And.intro x4 x5))
      clear x3 x4 x5
      gi_wp2
      have k3 := (block_set (i := 5) (block_set (i := 4) (block_set (i := 3) (block_set (i := 2) (block_set (i := 1) (block_set (i := 0) ((block_set_far (a := ⟨bc, 3, none⟩) (.int .i64 vb) n5.symm).trans X.out.1) (.int .i64 cx) (by simp)) (.int .i64 cy) (by simp)) (.int .i64 cz) (by simp)) (.int .i64 vb) (by simp)) (.int .i64 fa) (by simp)) (.int .i64 tm) (by simp))
      have k4 := ((block_set_far (a := ⟨q3, 5, none⟩) (.int .i64 tm) n3.symm).trans ((block_set_far (a := ⟨q3, 4, none⟩) (.int .i64 fa) n3.symm).trans ((block_set_far (a := ⟨q3, 3, none⟩) (.int .i64 vb) n3.symm).trans ((block_set_far (a := ⟨q3, 2, none⟩) (.int .i64 cz) n3.symm).trans ((block_set_far (a := ⟨q3, 1, none⟩) (.int .i64 cy) n3.symm).trans ((block_set_far (a := ⟨q3, 0, none⟩) (.int .i64 cx) n3.symm).trans ((block_set_far (a := ⟨bc, 3, none⟩) (.int .i64 vb) n6.symm).trans X.out.2.1)))))))
      have j3 := (block_set_far (a := ⟨q4, 0, none⟩) (.bool true) n3).trans k3
      have j4 := block_set (i := 0) k4 (.bool true) (by simp)
      have hb9 := GT.trans ((HB.out.1.trans (B9.out.mono HB.out.1.size)).mono GT.size)
      have hbW := Below.setCell (Below.setCell (Below.setCell (Below.setCell (Below.setCell (Below.setCell (Below.setCell (Below.setCell hb9 (p := ⟨bc, 3, none⟩) (Nat.le_trans GT.size hbl) (.int .i64 vb)) (p := ⟨q3, 0, none⟩) l3.1 (.int .i64 cx)) (p := ⟨q3, 1, none⟩) l3.1 (.int .i64 cy)) (p := ⟨q3, 2, none⟩) l3.1 (.int .i64 cz)) (p := ⟨q3, 3, none⟩) l3.1 (.int .i64 vb)) (p := ⟨q3, 4, none⟩) l3.1 (.int .i64 fa)) (p := ⟨q3, 5, none⟩) l3.1 (.int .i64 tm)) (p := ⟨q4, 0, none⟩) l3.2.1 (.bool true)
      refine ⟨⟨?_, fun j o hj hjo hnc => ?_⟩, rfl, hbW, ⟨cx, cy, cz, vb, fa, tm, j3, HN.out⟩, j4⟩
      · have := B9.out.size
        simpa using this
      · have hjb : j ≠ bc := fun e => by
          subst e
          rw [HB.out.2.2.2] at hjo
          cases hjo
          cases hnc
        exact (block_set_far (a := ⟨q4, 0, none⟩) (.bool true) (show j ≠ q4 by omega)).trans ((block_set_far (a := ⟨q3, 5, none⟩) (.int .i64 tm) (show j ≠ q3 by omega)).trans ((block_set_far (a := ⟨q3, 4, none⟩) (.int .i64 fa) (show j ≠ q3 by omega)).trans ((block_set_far (a := ⟨q3, 3, none⟩) (.int .i64 vb) (show j ≠ q3 by omega)).trans ((block_set_far (a := ⟨q3, 2, none⟩) (.int .i64 cz) (show j ≠ q3 by omega)).trans ((block_set_far (a := ⟨q3, 1, none⟩) (.int .i64 cy) (show j ≠ q3 by omega)).trans ((block_set_far (a := ⟨q3, 0, none⟩) (.int .i64 cx) (show j ≠ q3 by omega)).trans ((block_set_far (a := ⟨bc, 3, none⟩) (.int .i64 vb) hjb).trans ((B9.out.block j (lt_of_block hjo)).trans hjo))))))))
    · rw [hyd] at YD
      clear hyd
      gi_wp2
      refine ⟨trivial, (CallsIn.inRound l (callsIn_wide.2 (VT.out _ (by first | exact Below.refl _ _ | exact grown_now)))).mono ?_⟩
      rintro e9 w9 ⟨rfl, f9, hw9⟩
      have B9 := Lib.hid (show Below W.heap.size W w9 from by rw [hw9]; exact ext_below W f9)
      clear hw9
      gi_wp2
      refine ⟨trivial, (CallsIn.inRound l (callsIn_wide.2 (YD.out _))).mono ?_⟩
      rintro e8 w8 ⟨rfl, rfl⟩
      gi_wp2
      exact ⟨keepsFrom_below B9.out, keepsX_below B9.out, HB.out.1.trans (B9.out.mono HB.out.1.size)⟩
  case done =>
    rintro D ys W hD hB hK
    have u3 := (hB.block q3 m3).trans R3
    have u4 := (hB.block q4 m4).trans R4
    have d0 := cell_of_block (i := 0) u3 rfl
    have y0 := free_of_block 0 u3
    have d1 := cell_of_block (i := 1) u3 rfl
    have y1 := free_of_block 1 u3
    have d2 := cell_of_block (i := 2) u3 rfl
    have y2 := free_of_block 2 u3
    have d3 := cell_of_block (i := 3) u3 rfl
    have y3 := free_of_block 3 u3
    have d4 := cell_of_block (i := 4) u3 rfl
    have y4 := free_of_block 4 u3
    have d5 := cell_of_block (i := 5) u3 rfl
    have y5 := free_of_block 5 u3
    have d6 := cell_of_block (i := 0) u4 rfl
    have y6 := free_of_block 0 u4
    haveI := in_of_cell d0
    haveI := in_of_cell d6
    have n3 : q3 ≠ q4 := l3.2.2
    have HK := Lib.hid (And.intro hB (And.intro u3 (And.intro u4 hK)))
    clear hB u3 u4 hK
    gi_wp2
    have k3 := (block_set (i := 5) (block_set (i := 4) (block_set (i := 3) (block_set (i := 2) (block_set (i := 1) (block_set (i := 0) HK.out.2.1 (.int .i64 0) (by simp)) (.int .i64 0) (by simp)) (.int .i64 0) (by simp)) (.int .i64 0) (by simp)) (.int .i64 0) (by simp)) (.int .i64 0) (by simp))
    have k4 := ((block_set_far (a := ⟨q3, 5, none⟩) (.int .i64 0) n3.symm).trans ((block_set_far (a := ⟨q3, 4, none⟩) (.int .i64 0) n3.symm).trans ((block_set_far (a := ⟨q3, 3, none⟩) (.int .i64 0) n3.symm).trans ((block_set_far (a := ⟨q3, 2, none⟩) (.int .i64 0) n3.symm).trans ((block_set_far (a := ⟨q3, 1, none⟩) (.int .i64 0) n3.symm).trans ((block_set_far (a := ⟨q3, 0, none⟩) (.int .i64 0) n3.symm).trans HK.out.2.2.1))))))
    have j3 := (block_set_far (a := ⟨q4, 0, none⟩) (.bool false) n3).trans k3
    have j4 := block_set (i := 0) k4 (.bool false) (by simp)
    have hb := GT.trans (HK.out.1.mono GT.size)
    have hbW := Below.setCell (Below.setCell (Below.setCell (Below.setCell (Below.setCell (Below.setCell (Below.setCell hb (p := ⟨q3, 0, none⟩) l3.1 (.int .i64 0)) (p := ⟨q3, 1, none⟩) l3.1 (.int .i64 0)) (p := ⟨q3, 2, none⟩) l3.1 (.int .i64 0)) (p := ⟨q3, 3, none⟩) l3.1 (.int .i64 0)) (p := ⟨q3, 4, none⟩) l3.1 (.int .i64 0)) (p := ⟨q3, 5, none⟩) l3.1 (.int .i64 0)) (p := ⟨q4, 0, none⟩) l3.2.1 (.bool false)
    have HK2 := (block_set_far (a := ⟨q4, 0, none⟩) (.bool false) (show D ≠ q4 by omega)).trans ((block_set_far (a := ⟨q3, 5, none⟩) (.int .i64 0) (show D ≠ q3 by omega)).trans ((block_set_far (a := ⟨q3, 4, none⟩) (.int .i64 0) (show D ≠ q3 by omega)).trans ((block_set_far (a := ⟨q3, 3, none⟩) (.int .i64 0) (show D ≠ q3 by omega)).trans ((block_set_far (a := ⟨q3, 2, none⟩) (.int .i64 0) (show D ≠ q3 by omega)).trans ((block_set_far (a := ⟨q3, 1, none⟩) (.int .i64 0) (show D ≠ q3 by omega)).trans ((block_set_far (a := ⟨q3, 0, none⟩) (.int .i64 0) (show D ≠ q3 by omega)).trans HK.out.2.2.2))))))
    exact cast_end D q3 q4 w _ _ _ 0 0 0 0 0 0 false HK2 (by omega) (by omega) j3 j4 hbW (Nat.le_trans GT.size hD) ⟨0, 0, 0, 0, 0, 0, false, rfl, fun h => by cases h⟩ rfl rfl
  case stop =>
    rintro D cd pre W hD ⟨rfl, hB, ⟨x, y, z, bl, f, t, h3, hn⟩, h4⟩ hK
    have HB := Lib.hid (And.intro hB (And.intro h3 (And.intro h4 (And.intro hK hn))))
    clear hB h3 h4 hK hn
    gi_wp2
    exact cast_end D q3 q4 w _ _ _ x y z bl f t true HB.out.2.2.2.1 (by omega) (by omega) HB.out.2.1 HB.out.2.2.1 HB.out.1 (Nat.le_trans GT.size hD) ⟨x, y, z, bl, f, t, true, rfl, fun _ => HB.out.2.2.2.2⟩ rfl rfl
#print axioms cast_any
end Go.Proofs.YtnogfelfgclajaaGreatDoor
end
