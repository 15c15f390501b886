/-
  What a box meets: the first cell of a column whose block is solid.
  The cells that a box overlaps: what the Go function hands back.
  What a body's box meets, and what is under it.
  Whether a cell is ready; an engine with bodies: its view, a body of it.
-/
import Derived.Test.YtnogfelfgclajaaGreatDoorMb22
import Derived.Stop.RegionWithIn
import Derived.Test.YtnogfelfgclajaaGreatDoorMb21
import Derived.Handy
import Derived.Deep.CutRange
section
namespace Go.Proofs.YtnogfelfgclajaaGreatDoor
open Go.RowKit Go.Shelf
attribute [local go_sem] ext_ext drew_ext ext_drew ext_cell ext_frozen in_lt in_le in_ne in_en in_ne1 in_en1 in_le1 in_ltn in_len in_nen in_enn size_le ite_max ite_min
set_option linter.unusedVariables false
set_option linter.unusedSimpArgs false
attribute [local go_sem] Oper.semAt_some
set_option maxRecDepth 1000000

/-- Of a column's first k cells, is one solid? -/
def anyS (V : Int → Int → Int → Int) (x y0 z : Int) (m : Nat) : Bool := (List.range m).any (fun i => solB (V x (y0 + (i : Nat)) z))
theorem keepsFrom_below {B : Nat} {W W' : World} (h : Below W.heap.size W W') : KeepsFrom B W W' := ⟨h.size, fun i o _ hi _ => (h.block i (lt_of_block hi)).trans hi⟩
theorem ownFrom_block {β : Type} (B b : Nat) (cs : Array Value) (T : TypeId) (fr : Nat × Nat) : OwnFrom B (fun (_ : β) W => W.heap[b]? = some (.cells cs T fr)) :=
  fun _ X Y row hs hg hr => (hg.block b (lt_of_block hs) (fun e => by obtain ⟨_, o, ho, hc⟩ := hr b e.symm; rw [hs] at ho; cases ho; cases hc)).trans hs
/-- An object as 'alloc' lays it. -/
theorem six (w : World) (c0 c1 c2 c3 c4 c5 : Array Value) (t0 t1 t2 t3 t4 t5 : TypeId) (W : World) (hW : W = (((((w.alloc (.cells c0 t0)).alloc (.cells c1 t1)).alloc (.cells c2 t2)).alloc (.cells c3 t3)).alloc (.cells c4 t4)).alloc (.cells c5 t5)) :
    Below w.heap.size w W ∧ W.heap.size = w.heap.size + 1 + 1 + 1 + 1 + 1 + 1 ∧ W.heap[w.heap.size]? = some (.cells c0 t0) ∧ W.heap[w.heap.size + 1]? = some (.cells c1 t1) ∧ W.heap[w.heap.size + 1 + 1]? = some (.cells c2 t2) ∧ W.heap[w.heap.size + 1 + 1 + 1]? = some (.cells c3 t3) ∧ W.heap[w.heap.size + 1 + 1 + 1 + 1]? = some (.cells c4 t4) ∧ W.heap[w.heap.size + 1 + 1 + 1 + 1 + 1]? = some (.cells c5 t5) := by
  have B0 : Below w.heap.size w w := Below.refl _ _
  have h0 := heap_alloc_new w (.cells c0 t0)
  have z0 : (w.alloc (.cells c0 t0)).heap.size = w.heap.size + 1 := World.size_alloc ..
  have B1 := B0.alloc B0.size (.cells c0 t0)
  generalize w.alloc (.cells c0 t0) = u1 at *
  have h1 := heap_alloc_new u1 (.cells c1 t1)
  have h0 := (heap_alloc_old u1 (.cells c1 t1) (lt_of_block h0)).trans h0
  have z1 : (u1.alloc (.cells c1 t1)).heap.size = u1.heap.size + 1 := World.size_alloc ..
  have B2 := B1.alloc B1.size (.cells c1 t1)
  rw [z0] at z1 h1
  generalize u1.alloc (.cells c1 t1) = u2 at *
  have h2 := heap_alloc_new u2 (.cells c2 t2)
  have h0 := (heap_alloc_old u2 (.cells c2 t2) (lt_of_block h0)).trans h0
  have h1 := (heap_alloc_old u2 (.cells c2 t2) (lt_of_block h1)).trans h1
  have z2 : (u2.alloc (.cells c2 t2)).heap.size = u2.heap.size + 1 := World.size_alloc ..
  have B3 := B2.alloc B2.size (.cells c2 t2)
  rw [z1] at z2 h2
  generalize u2.alloc (.cells c2 t2) = u3 at *
  have h3 := heap_alloc_new u3 (.cells c3 t3)
  have h0 := (heap_alloc_old u3 (.cells c3 t3) (lt_of_block h0)).trans h0
  have h1 := (heap_alloc_old u3 (.cells c3 t3) (lt_of_block h1)).trans h1
  have h2 := (heap_alloc_old u3 (.cells c3 t3) (lt_of_block h2)).trans h2
  have z3 : (u3.alloc (.cells c3 t3)).heap.size = u3.heap.size + 1 := World.size_alloc ..
  have B4 := B3.alloc B3.size (.cells c3 t3)
  rw [z2] at z3 h3
  generalize u3.alloc (.cells c3 t3) = u4 at *
  have h4 := heap_alloc_new u4 (.cells c4 t4)
  have h0 := (heap_alloc_old u4 (.cells c4 t4) (lt_of_block h0)).trans h0
  have h1 := (heap_alloc_old u4 (.cells c4 t4) (lt_of_block h1)).trans h1
  have h2 := (heap_alloc_old u4 (.cells c4 t4) (lt_of_block h2)).trans h2
  have h3 := (heap_alloc_old u4 (.cells c4 t4) (lt_of_block h3)).trans h3
  have z4 : (u4.alloc (.cells c4 t4)).heap.size = u4.heap.size + 1 := World.size_alloc ..
  have B5 := B4.alloc B4.size (.cells c4 t4)
  rw [z3] at z4 h4
  generalize u4.alloc (.cells c4 t4) = u5 at *
  have h5 := heap_alloc_new u5 (.cells c5 t5)
  have h0 := (heap_alloc_old u5 (.cells c5 t5) (lt_of_block h0)).trans h0
  have h1 := (heap_alloc_old u5 (.cells c5 t5) (lt_of_block h1)).trans h1
  have h2 := (heap_alloc_old u5 (.cells c5 t5) (lt_of_block h2)).trans h2
  have h3 := (heap_alloc_old u5 (.cells c5 t5) (lt_of_block h3)).trans h3
  have h4 := (heap_alloc_old u5 (.cells c5 t5) (lt_of_block h4)).trans h4
  have z5 : (u5.alloc (.cells c5 t5)).heap.size = u5.heap.size + 1 := World.size_alloc ..
  have B6 := B5.alloc B5.size (.cells c5 t5)
  rw [z4] at z5 h5
  generalize u5.alloc (.cells c5 t5) = u6 at *
  subst hW
  exact ⟨B6, z5, h0, h1, h2, h3, h4, h5⟩
theorem find_end (D q3 q4 : Nat) (w W : World) (tmps : Array Value) (R : Ending → Prop) (p q r : Int) (h : Bool) (hK : W.heap[D]? = some (.deferred (some []))) (n3 : D ≠ q3) (n4 : D ≠ q4) (j3 : W.heap[q3]? = some (.cells #[.int .i64 p, .int .i64 q, .int .i64 r] 30 (0, 0)))
    (j4 : W.heap[q4]? = some (.cells #[.bool h] 4 (0, 0))) (hb : Below w.heap.size w W) (hD : w.heap.size ≤ D) (hR : R (.returned (.tuple #[.agg #[.int .i64 p, .int .i64 q, .int .i64 r], .bool h])))
    (t6 : tmps[6]? = some (.pointer (some ⟨q3, 0, none⟩))) (t7 : tmps[7]? = some (.pointer (some ⟨q4, 0, none⟩))) :
    bodyPostM Fence.wide 5 Tryz.prog Tryz.f253 (fun o w' => R o ∧ ∃ f, w' = ext w f) Exit.ret { tmps := tmps, defers := [{ target := .collected D, args := #[] }] } W := by
  refine ⟨by simp, .inl ⟨_, _, rfl, run_takeDeferred hK, ?_⟩⟩
  have e3 := (World.putObj_heap_other (w := W) (r := D) (o := .deferred none) n3.symm).trans j3
  have e4 := (World.putObj_heap_other (w := W) (r := D) (o := .deferred none) n4.symm).trans j4
  have a0 := cell_of_block (i := 0) e3 rfl
  have a1 := cell_of_block (i := 1) e3 rfl
  have a2 := cell_of_block (i := 2) e3 rfl
  have a4 := cell_of_block (i := 0) e4 rfl
  have hf := hb.trans (belowK_b (w := w) (Nat.le_refl _) W D _ (.deferred none) hD hK rfl rfl)
  refine ⟨_, ?_, hR, ext_of hf⟩
  simp [results, Tryz.results253, go_sem, t6, t7, a0, a1, a2, a4]
  done
set_option maxHeartbeats 4000000 in
theorem find_col (v : Value) (V : Int → Int → Int → Int) (a b c d e f x y0 z : Int) (m : Nat) (hm : m ≤ 100) (hx : Mid x) (hy : Mid y0) (hz : Mid z) (SP : ColOf #[.int .i64 a, .int .i64 b, .int .i64 c, .int .i64 d, .int .i64 e, .int .i64 f] x y0 z m) (w : World) (hv : ViewVal Tryz.prog v V w) (hV : ∀ i, i < m → AnyB (V x (y0 + (i : Nat)) z)) :
    Calls Tryz.prog 253 #[v, .agg #[.int .i64 a, .int .i64 b, .int .i64 c, .int .i64 d, .int .i64 e, .int .i64 f], .func (.func 159) #[] #[]] w fun o w' => (∃ p q r : Int, o = .returned (.tuple #[.agg #[.int .i64 p, .int .i64 q, .int .i64 r], .bool (anyS V x y0 z m)])) ∧ ∃ f, w' = ext w f := by
  obtain ⟨fv, first, caps, rfl, hv⟩ := hv
  refine (callsIn_wide (n := 5)).1 ?_
  refine callsIn_of_wp_marks Tryz.func253 rfl trivial ?_ rfl
  simp only [Tryz.ntmps253, List.size_toArray, List.length_cons, List.length_nil, Nat.reduceAdd, Nat.reduceSub, Array.replicate_succ, Array.replicate_zero, List.push_toArray, List.append_toArray, List.nil_append, List.cons_append]
  have HV := Lib.hid hv
  gi_wp2
  refine ⟨trivial, (callsIn_wide.2 (each_any a b c d e f _)).mono ?_⟩
  rintro e' w' ⟨rfl, rfl⟩
  gi_wp2
  obtain ⟨G0, Z0, v0, _, f2, r3, r4, b5⟩ := six w _ _ _ _ _ _ _ _ _ _ _ _ _ rfl
  generalize ((((((w.alloc (.cells #[.func (.func fv) first caps] 62)).alloc (.cells #[.int .i64 a, .int .i64 b, .int .i64 c, .int .i64 d, .int .i64 e, .int .i64 f] 57)).alloc (.cells #[.func (.func 159) #[] #[]] 60)).alloc (.cells #[.int .i64 0, .int .i64 0, .int .i64 0] 30)).alloc (.cells #[.bool false] 4)).alloc (.cells #[.int .i64 a, .int .i64 b, .int .i64 c, .int .i64 d, .int .i64 e, .int .i64 f] 57)) = W0 at *
  have l0 : w.heap.size ≤ w.heap.size := Nat.le_refl _
  have l3 : w.heap.size ≤ w.heap.size + 1 + 1 + 1 ∧ w.heap.size ≤ w.heap.size + 1 + 1 + 1 + 1 ∧ w.heap.size + 1 + 1 + 1 ≠ w.heap.size + 1 + 1 + 1 + 1 := by omega
  clear Z0
  generalize w.heap.size + 1 + 1 + 1 + 1 + 1 = q5 at *
  generalize w.heap.size + 1 + 1 + 1 + 1 = q4 at *
  generalize w.heap.size + 1 + 1 + 1 = q3 at *
  generalize w.heap.size + 1 + 1 = q2 at *
  generalize w.heap.size + 1 = q1 at *
  obtain ⟨q0, hq0⟩ : ∃ q, w.heap.size = q := ⟨_, rfl⟩
  rw [hq0] at v0
  rw [hq0]
  clear hq0 l0
  refine wpIn_rangeFunc_ownH rfl (by omega) (gf := 352) (lb := #[.pointer (some ⟨q5, 0, none⟩)]) rfl trivial (enters_of Tryz.func352 (by kernel_rfl) rfl)
    (each_stops a b c d e f x y0 z m hm hx hy hz _ (by omega) SP q5 W0 b5) KeepsC.trans' keepsC_b (Below.refl _ _) (fun _ => rfl)
    (fun pre W => Below W0.heap.size W0 W ∧ ∀ i ∈ pre, solB (V x (y0 + ((min i (m - 1) : Nat) : Int)) z) = false)
    (fun c _ W => c = Code.ret ∧ Below w.heap.size w W ∧ (∃ p q r : Int, W.heap[q3]? = some (.cells #[.int .i64 p, .int .i64 q, .int .i64 r] 30 (0, 0))) ∧ W.heap[q4]? = some (.cells #[.bool true] 4 (0, 0)) ∧ ∃ i, i < m ∧ solB (V x (y0 + (i : Nat)) z) = true)
    ((ownFrom_below (Nat.le_refl _) (Nat.le_refl _)).and (ownFrom_pure _ _))
    (fun _ => OwnFrom.and (fun _ _ _ _ hs _ _ => hs) <| (ownFrom_below (Nat.le_refl _) G0.size).and (OwnFrom.and (fun _ X Y row ⟨p, q, r, hs⟩ hg hr => ⟨p, q, r, ownFrom_block (β := Unit) _ _ _ _ _ () X Y row hs hg hr⟩) (OwnFrom.and (ownFrom_block _ _ _ _ _) (fun _ _ _ _ hs _ _ => hs))))
    ⟨Below.refl _ _, fun _ h => by cases h⟩
    (fun i a' W => ∃ bc, a' = { tmps := #[.func (.func fv) first caps, .agg #[.int .i64 a, .int .i64 b, .int .i64 c, .int .i64 d, .int .i64 e, .int .i64 f], .func (.func 159) #[] #[], .pointer (some ⟨q0, 0, none⟩), .pointer (some ⟨q1, 0, none⟩), .pointer (some ⟨q2, 0, none⟩), .pointer (some ⟨q3, 0, none⟩), .pointer (some ⟨q4, 0, none⟩), .pointer (some ⟨bc, 0, none⟩), .agg #[.int .i64 a, .int .i64 b, .int .i64 c, .int .i64 d, .int .i64 e, .int .i64 f], .func (.func 352) #[] #[.pointer (some ⟨q5, 0, none⟩)], .agg #[.int .i64 x, .int .i64 (y0 + ((min i (m - 1) : Nat) : Int)), .int .i64 z], undef, undef, undef, undef, undef, undef, undef], defers := [] } ∧ W.heap[bc]? = some (.cells #[.int .i64 x, .int .i64 (y0 + ((min i (m - 1) : Nat) : Int)), .int .i64 z] 30 (0, 0)))
    (fun i a' => fun _ X Y row ⟨bc, h1, h2⟩ hg hr => ⟨bc, h1, ownFrom_block (β := Unit) _ _ _ _ _ () X Y row h2 hg hr⟩) ?assign ?body ?done ?stop
  case assign =>
    intro l pre i W K hI hK
    gi_wp2
    exact hK _ _ (KeepsFrom.of_grownBy (World.grownBy_alloc W _ none) (fun _ h => by cases h)) (keepsC_below ((Below.refl _ W).alloc (Nat.le_refl _) _)) ⟨hI.1.alloc hI.1.size _, hI.2⟩ ⟨_, rfl, heap_alloc_new W _⟩
  case body =>
    rintro l pre i a' W hl hr ⟨hB, hpre⟩ ⟨bc, rfl, hbc⟩ hlt
    have hi : min i (m - 1) < m := by omega
    have HPRE := Lib.hid (show ∀ k, min k (m - 1) = min i (m - 1) ∨ k ∈ pre → solB (V x (y0 + ((min i (m - 1) : Nat) : Int)) z) = false → solB (V x (y0 + ((min k (m - 1) : Nat) : Int)) z) = false from fun k hk h => by
      rcases hk with e | hk
      · rw [e]; exact h
      · exact hpre k hk)
    generalize hie : min i (m - 1) = i' at *
    have c0 := cell_of_block (i := 0) hbc rfl
    have c1 := cell_of_block (i := 1) hbc rfl
    have c2 := cell_of_block (i := 2) hbc rfl
    have u0 := (hB.block q0 (lt_of_block v0)).trans v0
    have u2 := (hB.block q2 (lt_of_block f2)).trans f2
    have u3 := (hB.block q3 (lt_of_block r3)).trans r3
    have u4 := (hB.block q4 (lt_of_block r4)).trans r4
    have e0 := cell_of_block (i := 0) u0 rfl
    have e2 := cell_of_block (i := 0) u2 rfl
    haveI := in_of_cell c0
    haveI := in_of_cell e0
    haveI := in_of_cell e2
    have hvf := hv.enters
    have hsf : ∀ args W, (callFunc 159 args).run Tryz.prog W = .ok (.enter 159 args) W := fun args W => by kernel_rfl
    have VT := Lib.hid (fun W' (hW' : Below W.heap.size W W') => (show Calls Tryz.prog fv (first.push (.agg #[.int .i64 x, .int .i64 (y0 + (i' : Int)), .int .i64 z]) ++ caps) W' fun e w' => e = .returned (.int .i64 (V x (y0 + (i' : Int)) z)) ∧ ∃ g, w' = ext W' g from by rw [Array.push_eq_append]; exact hv.tells W' (ext_of (G0.trans ((hB.trans (hW'.mono hB.size)).mono G0.size))) x (y0 + (i' : Int)) z ⟨by have := hx.1; omega, by have := hx.2; omega⟩ ⟨by have := hy.1; omega, by have := hy.2; omega⟩ ⟨by have := hz.1; omega, by have := hz.2; omega⟩))
    have SO := Lib.hid (fun W' => solid_any (V x (y0 + (i' : Int)) z) (hV i' hi) W')
    have HB := Lib.hid (And.intro hB (And.intro u3 u4))
    have HIE := Lib.hid hie
    have HIM := Lib.hid hi
    clear hB hbc u0 u2 u3 u4 hpre hie hi
    generalize hvb : V x (y0 + (i' : Int)) z = vb at *
    have HVB := Lib.hid hvb
    clear hvb
    cases hsol : solB vb
    · rw [hsol] at SO
      gi_wp2
      gi_region_with
        (first
          | (refine ⟨trivial, (CallsIn.inRound l (callsIn_wide.2 (VT.out _ (by first | exact Below.refl _ _ | exact grown_now)))).mono ?_⟩; rintro e9 w9 ⟨rfl, f9, hw9⟩; have B9 := Lib.hid (show Below W.heap.size W w9 from by rw [hw9]; exact grown_now); have c9 := named_cell hw9; haveI i9 := named_in hw9; haveI g9 := named_grown hw9; clear hw9)
          | (refine ⟨trivial, (CallsIn.inRound l (callsIn_wide.2 (SO.out _))).mono ?_⟩; rintro e8 w8 ⟨rfl, rfl⟩))
      all_goals
        gi_wp2
        refine ⟨keepsFrom_below B9.out, keepsC_below B9.out, HB.out.1.trans (B9.out.mono HB.out.1.size), fun k hk => HPRE.out k ?_ hsol⟩
        rcases List.mem_append.1 hk with h | h
        · exact .inr h
        · rw [List.mem_singleton.1 h]
          exact .inl HIE.out
    · rw [hsol] at SO
      gi_wp2
      gi_region_with
        (first
          | (refine ⟨trivial, (CallsIn.inRound l (callsIn_wide.2 (VT.out _ (by first | exact Below.refl _ _ | exact grown_now)))).mono ?_⟩; rintro e9 w9 ⟨rfl, f9, hw9⟩; have B9 := Lib.hid (show Below W.heap.size W w9 from by rw [hw9]; exact grown_now); have c9 := named_cell hw9; haveI i9 := named_in hw9; haveI g9 := named_grown hw9; clear hw9)
          | (refine ⟨trivial, (CallsIn.inRound l (callsIn_wide.2 (SO.out _))).mono ?_⟩; rintro e8 w8 ⟨rfl, rfl⟩))
      all_goals
        have x3 := (B9.out.block q3 (lt_of_block HB.out.2.1)).trans HB.out.2.1
        have x4 := (B9.out.block q4 (lt_of_block HB.out.2.2)).trans HB.out.2.2
        have d0 := cell_of_block (i := 0) x3 rfl
        have d1 := cell_of_block (i := 1) x3 rfl
        have d2 := cell_of_block (i := 2) x3 rfl
        have d4 := cell_of_block (i := 0) x4 rfl
        have z0 := free_of_block 0 x3
        have z1 := free_of_block 1 x3
        have z2 := free_of_block 2 x3
        have z4 := free_of_block 0 x4
        haveI := in_of_cell d0
        haveI := in_of_cell d4
        gi_wp2
        have n3 : q3 ≠ q4 := l3.2.2
        have k3 := block_set (i := 2) (block_set (i := 1) (block_set (i := 0) x3 (.int .i64 x) (by simp)) (.int .i64 (y0 + (i' : Int))) (by simp)) (.int .i64 z) (by simp)
        have k4 := (block_set_far (a := ⟨q3, 2, none⟩) (.int .i64 z) n3.symm).trans ((block_set_far (a := ⟨q3, 1, none⟩) (.int .i64 (y0 + (i' : Int))) n3.symm).trans ((block_set_far (a := ⟨q3, 0, none⟩) (.int .i64 x) n3.symm).trans x4))
        have j3 := (block_set_far (a := ⟨q4, 0, none⟩) (.bool true) n3).trans k3
        have j4 := block_set (i := 0) k4 (.bool true) (by simp)
        have m3 := lt_of_block r3
        have m4 := lt_of_block r4
        refine ⟨⟨?_, fun j o hj hjo _ => ?_⟩, rfl, ?_, ⟨x, y0 + (i' : Int), z, j3⟩, j4, ⟨i', HIM.out, by rw [HVB.out]; exact hsol⟩⟩
        · have := B9.out.size
          simpa using this
        · rw [block_set_far _ (show j ≠ q4 by omega), block_set_far _ (show j ≠ q3 by omega), block_set_far _ (show j ≠ q3 by omega), block_set_far _ (show j ≠ q3 by omega)]
          exact (B9.out.block j (lt_of_block hjo)).trans hjo
        · have hb9 := G0.trans ((HB.out.1.trans (B9.out.mono HB.out.1.size)).mono G0.size)
          exact (((hb9.setCell l3.1 _).setCell l3.1 _).setCell l3.1 _).setCell l3.2.1 _
  case done =>
    rintro D ys W hD rfl ⟨hB, hall⟩ hK
    have u3 := (hB.block q3 (lt_of_block r3)).trans r3
    have u4 := (hB.block q4 (lt_of_block r4)).trans r4
    have d0 := cell_of_block (i := 0) u3 rfl
    have d1 := cell_of_block (i := 1) u3 rfl
    have d2 := cell_of_block (i := 2) u3 rfl
    have d4 := cell_of_block (i := 0) u4 rfl
    have z0 := free_of_block 0 u3
    have z1 := free_of_block 1 u3
    have z2 := free_of_block 2 u3
    have z4 := free_of_block 0 u4
    haveI := in_of_cell d0
    haveI := in_of_cell d4
    have HK := Lib.hid hK
    have HALL := Lib.hid (show anyS V x y0 z m = false from by
      unfold anyS
      rw [List.any_eq_false]
      intro i hi
      have hi' : i < m := List.mem_range.1 hi
      have := hall i hi
      rw [show min i (m - 1) = i by omega] at this
      simpa using this)
    clear hall hK
    gi_wp2
    have n3 : q3 ≠ q4 := l3.2.2
    have k3 := block_set (i := 2) (block_set (i := 1) (block_set (i := 0) u3 (.int .i64 0) (by simp)) (.int .i64 0) (by simp)) (.int .i64 0) (by simp)
    have k4 := (block_set_far (a := ⟨q3, 2, none⟩) (.int .i64 0) n3.symm).trans ((block_set_far (a := ⟨q3, 1, none⟩) (.int .i64 0) n3.symm).trans ((block_set_far (a := ⟨q3, 0, none⟩) (.int .i64 0) n3.symm).trans u4))
    have j3 := (block_set_far (a := ⟨q4, 0, none⟩) (.bool false) n3).trans k3
    have j4 := block_set (i := 0) k4 (.bool false) (by simp)
    have m3 := lt_of_block r3
    have m4 := lt_of_block r4
    have hb := G0.trans (hB.mono G0.size)
    have hbW := (((hb.setCell (p := ⟨q3, 0, none⟩) l3.1 (.int .i64 0)).setCell (p := ⟨q3, 1, none⟩) l3.1 (.int .i64 0)).setCell (p := ⟨q3, 2, none⟩) l3.1 (.int .i64 0)).setCell (p := ⟨q4, 0, none⟩) l3.2.1 (.bool false)
    have HK' := ((block_set_far (a := ⟨q4, 0, none⟩) (.bool false) (show D ≠ q4 by omega)).trans ((block_set_far (a := ⟨q3, 2, none⟩) (.int .i64 0) (show D ≠ q3 by omega)).trans ((block_set_far (a := ⟨q3, 1, none⟩) (.int .i64 0) (show D ≠ q3 by omega)).trans (block_set_far (a := ⟨q3, 0, none⟩) (.int .i64 0) (show D ≠ q3 by omega))))).trans HK.out
    rw [HALL.out]
    exact find_end D q3 q4 w _ _ _ 0 0 0 false HK' (by omega) (by omega) j3 j4 hbW (Nat.le_trans G0.size hD) ⟨0, 0, 0, rfl⟩ rfl rfl
  case stop =>
    rintro D c pre W hD hpre ⟨rfl, hB, ⟨p, q, r, h3⟩, h4, i, him, hi⟩ hK
    have HALL := Lib.hid (show anyS V x y0 z m = true from by
      unfold anyS
      rw [List.any_eq_true]
      exact ⟨i, List.mem_range.2 him, hi⟩)
    have HB := Lib.hid (And.intro hB (And.intro h3 (And.intro h4 hK)))
    have m3 := lt_of_block r3
    have m4 := lt_of_block r4
    clear hB h3 h4 hK hi
    gi_wp2
    rw [HALL.out]
    exact find_end D q3 q4 w _ _ _ p q r true HB.out.2.2.2 (by omega) (by omega) HB.out.2.1 HB.out.2.2.1 HB.out.1 (Nat.le_trans G0.size hD) ⟨p, q, r, rfl⟩ rfl rfl
end Go.Proofs.YtnogfelfgclajaaGreatDoor
end

section
namespace Go.Proofs.YtnogfelfgclajaaGreatDoor
open Go.RowKit
attribute [local go_sem] ext_ext drew_ext ext_drew ext_cell ext_frozen in_lt in_le in_ne in_en in_ne1 in_en1 in_le1 in_ltn in_len in_nen in_enn size_le ite_max ite_min
set_option linter.unusedVariables false
set_option linter.unusedSimpArgs false

/-- Of an axis, the greatest cell. -/
def thinS (n m l t : Int) : Int := if n = m then l else t
theorem thin_any (n m l t : Int) (w : World) : Calls Tryz.prog 368 #[.int .i64 n, .int .i64 m, .int .i64 l, .int .i64 t] w fun e w' => e = .returned (.int .i64 (thinS n m l t)) ∧ w = w' := by
  by_cases h : n = m
  · have H := Lib.hid (show thinS n m l t = l by unfold thinS; rw [if_pos h])
    have h' : (n == m) = true := by simp [h]
    clear h
    go_enter Tryz.func368, Tryz.ntmps368
    go_wp2
    go_ret
    exact ⟨ret_int H.out.symm, rfl⟩
  · have H := Lib.hid (show thinS n m l t = t by unfold thinS; rw [if_neg h])
    have h' : (n == m) = false := by simp [h]
    clear h
    go_enter Tryz.func368, Tryz.ntmps368
    go_wp2
    go_ret
    exact ⟨ret_int H.out.symm, rfl⟩

/-- Of an axis: there is no cell. -/
def voidS (n m : Int) : Bool := (n == m) && (frS n == 0)
theorem voidS_cases {n m : Int} (h : voidS n m = false) : (n == m) = false ∨ ((n == m) = true ∧ (frS n == 0) = false) := by
  unfold voidS at h
  cases h1 : (n == m) <;> simp_all
theorem voidS_true {n m : Int} (h : voidS n m = true) : (n == m) = true ∧ (frS n == 0) = true := by
  unfold voidS at h
  cases h1 : (n == m) <;> simp_all
set_option maxRecDepth 100000 in
set_option maxHeartbeats 8000000 in
theorem span_some (a b c d e f : Int) (ha : voidS a d = false) (hb : voidS b e = false) (hc : voidS c f = false) (w : World) :
    Calls Tryz.prog 353 #[.agg #[.int .i64 a, .int .i64 b, .int .i64 c, .int .i64 d, .int .i64 e, .int .i64 f]] w fun o w' =>
      o = .returned (.tuple #[.agg #[.int .i64 (flS a), .int .i64 (flS b), .int .i64 (flS c)], .agg #[.int .i64 (thinS a d (flS a) (flS (faS d (-1)))), .int .i64 (thinS b e (flS b) (flS (faS e (-1)))), .int .i64 (thinS c f (flS c) (flS (faS f (-1))))], .bool true]) ∧ ∃ f, w' = ext w f := by
  go_enter Tryz.func353, Tryz.ntmps353
  go_wp2_with fail
  refine (cellof_any _ _ _ _).mono ?_
  rintro e w1 ⟨rfl, _t, hw⟩
  have hc1 := named_cell hw
  have hz1 := named_frozen hw
  have hh1 := named_heap hw
  haveI hi1 := named_in hw
  haveI hb1 := named_below (w := w) hw
  clear hw
  go_wp2_with fail
  refine (add_any _ _ _ _ _ _ _).mono ?_
  rintro e w2 ⟨rfl, _t, hw⟩
  have hc2 := named_cell hw
  have hz2 := named_frozen hw
  have hh2 := named_heap hw
  haveI hi2 := named_in hw
  haveI hb2 := named_below (w := w) hw
  clear hw
  go_wp2_with fail
  refine (cellof_any _ _ _ _).mono ?_
  rintro e w3 ⟨rfl, _t, hw⟩
  have hc3 := named_cell hw
  have hz3 := named_frozen hw
  have hh3 := named_heap hw
  haveI hi3 := named_in hw
  haveI hb3 := named_below (w := w) hw
  clear hw
  go_wp2_with fail
  refine wp_loop_rounds 4 ?_
  rw [rounds_succ]
  go_wp2_with fail
  refine wp_region_ext ?_ ?_ ?_
  · kernel_rfl
  · kernel_rfl
  repeat (go_big_quiet_step (first | (go_at_call 263; exact ext_call (axis0_any _ _ _ _))))
  refine wpQuiet_nil ?_
  rintro w4 ⟨_t, hw⟩
  have hc4 := named_cell hw
  have hz4 := named_frozen hw
  have hh4 := named_heap hw
  haveI hi4 := named_in hw
  haveI hb4 := named_below (w := w) hw
  clear hw
  go_upto_region 7 with fail
  go_cut [37] from 30 to 38 (fun v wx => v = .bool false ∧ wx = w4)
  case first =>
    rcases voidS_cases ha with g | ⟨g, g2⟩
    · clear ha hb hc
      go_wp2_with fail
      go_meet
      exact ⟨rfl, rfl⟩
    · clear ha hb hc
      go_wp2_with (first | (go_at_call 323; refine (frac_any _ _).mono ?_; rintro e w1 ⟨rfl, rfl⟩))
      go_meet
      exact ⟨rfl, rfl⟩
  case rest =>
    obtain ⟨rfl, rfl⟩ := hcut
    go_wp2_with fail
    rw [rounds_succ]
    go_wp2_with fail
    refine wp_region_ext ?_ ?_ ?_
    · kernel_rfl
    · kernel_rfl
    repeat (go_big_quiet_step (first | (go_at_call 263; exact ext_call (axis1_any _ _ _ _))))
    refine wpQuiet_nil ?_
    rintro w5 ⟨_t, hw⟩
    have hc5 := named_cell hw
    have hz5 := named_frozen hw
    have hh5 := named_heap hw
    haveI hi5 := named_in hw
    haveI hb5 := named_below (w := w) hw
    clear hw
    go_upto_region 7 with fail
    go_cut [37] from 30 to 38 (fun v wx => v = .bool false ∧ wx = w5)
    case first =>
      rcases voidS_cases hb with g | ⟨g, g2⟩
      · clear ha hb hc
        go_wp2_with fail
        go_meet
        exact ⟨rfl, rfl⟩
      · clear ha hb hc
        go_wp2_with (first | (go_at_call 323; refine (frac_any _ _).mono ?_; rintro e w1 ⟨rfl, rfl⟩))
        go_meet
        exact ⟨rfl, rfl⟩
    case rest =>
      obtain ⟨rfl, rfl⟩ := hcut
      go_wp2_with fail
      rw [rounds_succ]
      go_wp2_with fail
      refine wp_region_ext ?_ ?_ ?_
      · kernel_rfl
      · kernel_rfl
      repeat (go_big_quiet_step (first | (go_at_call 263; exact ext_call (axis2_any _ _ _ _))))
      refine wpQuiet_nil ?_
      rintro w6 ⟨_t, hw⟩
      have hc6 := named_cell hw
      have hz6 := named_frozen hw
      have hh6 := named_heap hw
      haveI hi6 := named_in hw
      haveI hb6 := named_below (w := w) hw
      clear hw
      go_upto_region 7 with fail
      go_cut [37] from 30 to 38 (fun v wx => v = .bool false ∧ wx = w6)
      case first =>
        rcases voidS_cases hc with g | ⟨g, g2⟩
        · clear ha hb hc
          go_wp2_with fail
          go_meet
          exact ⟨rfl, rfl⟩
        · clear ha hb hc
          go_wp2_with (first | (go_at_call 323; refine (frac_any _ _).mono ?_; rintro e w1 ⟨rfl, rfl⟩))
          go_meet
          exact ⟨rfl, rfl⟩
      case rest =>
        obtain ⟨rfl, rfl⟩ := hcut
        go_wp2_with fail
        rw [rounds_succ]
        go_wp2_with fail
        refine wp_region_ext_tail 37 ?_ ?_ ?_
        · kernel_rfl
        · kernel_rfl
        simp only [List.take_succ_cons, List.take_zero, List.drop_succ_cons, List.drop_zero]
        repeat (go_big_quiet_step (first | (go_at_call 368; exact ext_same (thin_any _ _ _ _ _))))
        refine wpQuiet_nil ?_
        rintro w7 ⟨_t, hw⟩
        have hc7 := named_cell hw
        have hz7 := named_frozen hw
        have hh7 := named_heap hw
        haveI hi7 := named_in hw
        haveI hb7 := named_below (w := w) hw
        clear hw
        go_wp2_with fail
        obtain ⟨W, hW⟩ : ∃ W, W = ((w7.setCell ⟨w3.heap.size, 0, none⟩ (.int .i64 (thinS a d (flS a) (flS (faS d (-1)))))).setCell ⟨w3.heap.size, 1, none⟩ (.int .i64 (thinS b e (flS b) (flS (faS e (-1)))))).setCell ⟨w3.heap.size, 2, none⟩ (.int .i64 (thinS c f (flS c) (flS (faS f (-1))))) := ⟨_, rfl⟩
        go_region
        all_goals
          go_wp2
          refine bodyPost_ret (by simp [results, Tryz.results353, go_sem, hc1, hc2, hc3, hc4, hc5, hc6, hc7]; try rfl) rfl ?_
          exact ⟨rfl, grown_of⟩
end Go.Proofs.YtnogfelfgclajaaGreatDoor
end

section
namespace Go.Proofs.YtnogfelfgclajaaGreatDoor
open Go.RowKit
attribute [local go_sem] ext_ext drew_ext ext_drew ext_cell ext_frozen in_lt in_le in_ne in_en in_ne1 in_en1 in_le1 in_ltn in_len in_nen in_enn size_le ite_max ite_min
set_option linter.unusedVariables false
set_option linter.unusedSimpArgs false
attribute [local go_sem] calm calmUpon ix0 ix1 ix2 fcS_fold
set_option maxRecDepth 1000000

theorem pany_col (v : Value) (V : Int → Int → Int → Int) (a b c d e f x y0 z : Int) (m : Nat) (hm : m ≤ 100) (hx : Mid x) (hy : Mid y0) (hz : Mid z) (SP : ColOf #[.int .i64 a, .int .i64 b, .int .i64 c, .int .i64 d, .int .i64 e, .int .i64 f] x y0 z m) (w : World) (hv : ViewVal Tryz.prog v V w) (hV : ∀ i, i < m → AnyB (V x (y0 + (i : Nat)) z)) :
    Calls Tryz.prog 198 #[v, .agg #[.int .i64 a, .int .i64 b, .int .i64 c, .int .i64 d, .int .i64 e, .int .i64 f], .func (.func 159) #[] #[]] w fun o w' => o = .returned (.bool (anyS V x y0 z m)) ∧ ∃ f, w' = ext w f := by
  have FC := Lib.hid (fun W (hW : ∃ g, W = ext w g) => find_col v V a b c d e f x y0 z m hm hx hy hz SP W (hv.grow hW) hV)
  clear SP hv hV hm hx hy hz
  go_enter Tryz.func198, Tryz.ntmps198
  go_wp2_with fail
  refine (FC.out _ (by exact grown_of)).mono ?_
  rintro o w1 ⟨⟨p, q, r, rfl⟩, _t, hw⟩
  haveI hb1 := named_below (w := w) hw
  clear hw FC
  go_wp2_with fail
  go_ret
  exact ⟨rfl, grown_of⟩
theorem blocked_col (v : Value) (V : Int → Int → Int → Int) (a b c d e f x y0 z : Int) (m : Nat) (hm : m ≤ 100) (hx : Mid x) (hy : Mid y0) (hz : Mid z) (SP : ColOf #[.int .i64 a, .int .i64 b, .int .i64 c, .int .i64 d, .int .i64 e, .int .i64 f] x y0 z m) (w : World) (hv : ViewVal Tryz.prog v V w) (hV : ∀ i, i < m → AnyB (V x (y0 + (i : Nat)) z)) :
    Calls Tryz.prog 152 #[v, .agg #[.int .i64 a, .int .i64 b, .int .i64 c, .int .i64 d, .int .i64 e, .int .i64 f]] w fun o w' => o = .returned (.bool (anyS V x y0 z m)) ∧ ∃ f, w' = ext w f := by
  have FC := Lib.hid (fun W (hW : ∃ g, W = ext w g) => pany_col v V a b c d e f x y0 z m hm hx hy hz SP W (hv.grow hW) hV)
  clear SP hv hV hm hx hy hz
  go_enter Tryz.func152, Tryz.ntmps152
  go_wp2_with fail
  refine (FC.out _ (by exact grown_of)).mono ?_
  rintro e w1 ⟨rfl, _t, hw⟩
  have hc1 := named_cell hw
  have hz1 := named_frozen hw
  have hh1 := named_heap hw
  haveI hi1 := named_in hw
  haveI hb1 := named_below (w := w) hw
  clear hw
  go_wp2_with fail
  go_ret
  exact ⟨rfl, grown_of⟩
theorem with1_other (i n : Int) (g h : Nat) (m : Int) (w : World) (hi : i ≠ 1) (h0 : w.cell? ⟨g, 0, none⟩ = some (.int .i64 1)) (h1 : w.cell? ⟨h, 0, none⟩ = some (.int .i64 m)) :
    Calls Tryz.prog 318 #[.int .i64 i, .int .i64 n, .pointer (some ⟨g, 0, none⟩), .pointer (some ⟨h, 0, none⟩)] w fun e w' => e = .returned (.int .i64 n) ∧ ∃ f, w' = ext w f := by
  haveI := in_of_cell h0
  have hi2 : (i == 1) = false := by simp [hi]
  go_enter Tryz.func318, Tryz.ntmps318
  go_wp2_with fail
  go_ret
  exact ⟨rfl, ⟨id, by unfold ext; split <;> rfl⟩⟩
theorem with1_this (n : Int) (g h : Nat) (m : Int) (w : World) (h0 : w.cell? ⟨g, 0, none⟩ = some (.int .i64 1)) (h1 : w.cell? ⟨h, 0, none⟩ = some (.int .i64 m)) :
    Calls Tryz.prog 318 #[.int .i64 1, .int .i64 n, .pointer (some ⟨g, 0, none⟩), .pointer (some ⟨h, 0, none⟩)] w fun e w' => e = .returned (.int .i64 (fcS m)) ∧ ∃ f, w' = ext w f := by
  haveI := in_of_cell h0
  haveI := in_of_cell h1
  go_enter Tryz.func318, Tryz.ntmps318
  go_wp2_with (go_at_call 315; refine (fcut_any _ _).mono ?_; rintro e w1 ⟨rfl, rfl⟩)
  go_ret
  exact ⟨rfl, ⟨id, by unfold ext; split <;> rfl⟩⟩
set_option maxHeartbeats 4000000 in
theorem each_with (x y z m : Int) (g h : Nat) (w : World) (h0 : w.cell? ⟨g, 0, none⟩ = some (.int .i64 1)) (h1 : w.cell? ⟨h, 0, none⟩ = some (.int .i64 m)) :
    Calls Tryz.prog 275 #[.agg #[.int .i64 x, .int .i64 y, .int .i64 z], .func (.func 318) #[] #[.pointer (some ⟨g, 0, none⟩), .pointer (some ⟨h, 0, none⟩)]] w fun e w' => e = .returned (.agg #[.int .i64 x, .int .i64 (fcS m), .int .i64 z]) ∧ ∃ f, w' = ext w f := by
  haveI := in_of_cell h0
  haveI := in_of_cell h1
  go_enter Tryz.func275, Tryz.ntmps275
  go_wp2_with fail
  refine (parts_any _ (.int .i64 x) (.int .i64 y) (.int .i64 z) _ (by go_simp) (by go_simp) (by go_simp)).mono ?_
  rintro e w1 ⟨rfl, _t, hw⟩
  have hc1 := named_cell hw
  have hz1 := named_frozen hw
  have hh1 := named_heap hw
  haveI hi1 := named_in hw
  haveI hb1 := named_below (w := w) hw
  clear hw
  go_wp2_with fail
  refine wp_loop_rounds 4 ?_
  rw [rounds_succ]
  go_wp2_with fail
  refine (with1_other 0 _ g h m _ (by decide) (by go_simp) (by go_simp)).mono ?_
  rintro e w2 ⟨rfl, _t, hw⟩
  have hc2 := named_cell hw
  have hz2 := named_frozen hw
  have hh2 := named_heap hw
  haveI hi2 := named_in hw
  haveI hb2 := named_below (w := w) hw
  clear hw
  go_wp2_with fail
  rw [rounds_succ]
  go_wp2_with fail
  refine (with1_this _ g h m _ (by go_simp) (by go_simp)).mono ?_
  rintro e w3 ⟨rfl, _t, hw⟩
  have hc3 := named_cell hw
  have hz3 := named_frozen hw
  have hh3 := named_heap hw
  haveI hi3 := named_in hw
  haveI hb3 := named_below (w := w) hw
  clear hw
  go_wp2_with fail
  rw [rounds_succ]
  go_wp2_with fail
  refine (with1_other 2 _ g h m _ (by decide) (by go_simp) (by go_simp)).mono ?_
  rintro e w4 ⟨rfl, _t, hw⟩
  have hc4 := named_cell hw
  have hz4 := named_frozen hw
  have hh4 := named_heap hw
  haveI hi4 := named_in hw
  haveI hb4 := named_below (w := w) hw
  clear hw
  go_wp2_with fail
  rw [rounds_succ]
  go_wp2_with fail
  refine bodyPost_ret (by simp [results, Tryz.results275, go_sem, hc1, hc2, hc3, hc4]; try rfl) rfl ?_
  exact ⟨rfl, grown_of⟩
theorem with_any (x y z m : Int) (w : World) :
    Calls Tryz.prog 255 #[.agg #[.int .i64 x, .int .i64 y, .int .i64 z], .int .i64 1, .int .i64 m] w fun e w' => e = .returned (.agg #[.int .i64 x, .int .i64 (fcS m), .int .i64 z]) ∧ ∃ f, w' = ext w f := by
  have hmf : ∀ (fn : Fn) (first cap : Array Value) (w : World), (Instr.makeFunc fn first cap).run Tryz.prog w = .ok (.func fn first cap) w := fun _ _ _ _ => rfl
  go_enter Tryz.func255, Tryz.ntmps255
  go_wp2_with fail
  refine (each_with x y z m _ _ _ (by go_simp) (by go_simp)).mono ?_
  rintro e w1 ⟨rfl, _t, hw⟩
  have hc1 := named_cell hw
  have hz1 := named_frozen hw
  have hh1 := named_heap hw
  haveI hi1 := named_in hw
  haveI hb1 := named_below (w := w) hw
  clear hw
  go_wp2_with fail
  refine bodyPost_ret (by simp [results, Tryz.results255, go_sem, hc1]; try rfl) rfl ?_
  exact ⟨rfl, grown_of⟩
/-- The box under a box. -/
def underS (a b c d f : Int) : Array Value := #[.int .i64 a, .int .i64 (fcS (fsS b 1)), .int .i64 c, .int .i64 d, .int .i64 (fcS b), .int .i64 f]
set_option maxHeartbeats 1000000 in
theorem under_any (a b c d e f : Int) (w : World) : Calls Tryz.prog 200 #[.agg #[.int .i64 a, .int .i64 b, .int .i64 c, .int .i64 d, .int .i64 e, .int .i64 f]] w fun o w' => o = .returned (.agg (underS a b c d f)) ∧ ∃ f, w' = ext w f := by
  go_enter Tryz.func200, Tryz.ntmps200
  go_wp2_with fail
  refine wp_region_ext_tail 10 ?_ ?_ ?_
  · kernel_rfl
  · kernel_rfl
  simp only [List.take_succ_cons, List.take_zero, List.drop_succ_cons, List.drop_zero]
  repeat (go_big_quiet_step (first | (go_at_call 256; exact ext_same (fsub_any _ _ _)) | (go_at_call 255; exact ext_call (with_any _ _ _ _ _))))
  refine wpQuiet_nil ?_
  rintro w1 ⟨_t, hw⟩
  have hc1 := named_cell hw
  have hz1 := named_frozen hw
  have hh1 := named_heap hw
  haveI hi1 := named_in hw
  haveI hb1 := named_below (w := w) hw
  clear hw
  go_wp2_with fail
  refine bodyPost_ret (by simp [results, Tryz.results200, go_sem, hc1]; try rfl) rfl ?_
  exact ⟨rfl, grown_of⟩
theorem stands_col (v : Value) (V : Int → Int → Int → Int) (a b c d e f x y0 z : Int) (m : Nat) (hm : m ≤ 100) (hx : Mid x) (hy : Mid y0) (hz : Mid z) (SP : ColOf (underS a b c d f) x y0 z m) (w : World) (hv : ViewVal Tryz.prog v V w) (hV : ∀ i, i < m → AnyB (V x (y0 + (i : Nat)) z)) :
    Calls Tryz.prog 155 #[v, .agg #[.int .i64 a, .int .i64 b, .int .i64 c, .int .i64 d, .int .i64 e, .int .i64 f]] w fun o w' => o = .returned (.bool (anyS V x y0 z m)) ∧ ∃ f, w' = ext w f := by
  have FC := Lib.hid (fun W (hW : ∃ g, W = ext w g) => blocked_col v V _ _ _ _ _ _ x y0 z m hm hx hy hz SP W (hv.grow hW) hV)
  clear SP hv hV hm hx hy hz
  go_enter Tryz.func155, Tryz.ntmps155
  go_wp2_with fail
  refine (under_any _ _ _ _ _ _ _).mono ?_
  rintro e w1 ⟨rfl, _t, hw⟩
  have hc1 := named_cell hw
  have hz1 := named_frozen hw
  have hh1 := named_heap hw
  haveI hi1 := named_in hw
  haveI hb1 := named_below (w := w) hw
  clear hw
  unfold underS
  go_wp2_with fail
  refine (FC.out _ (by exact grown_of)).mono ?_
  rintro e w2 ⟨rfl, _t, hw⟩
  haveI hb2_1 := named_below (w := w1) hw
  have hc2 := named_cell hw
  have hz2 := named_frozen hw
  have hh2 := named_heap hw
  haveI hi2 := named_in hw
  haveI hb2 := named_below (w := w) hw
  clear hw
  go_wp2_with fail
  go_ret
  exact ⟨rfl, grown_of⟩
/-- The two bodies' places. -/
def Two (X cx : Int) : Prop := (X = 557056 ∧ cx = 8) ∨ (X = 622592 ∧ cx = 9)
theorem col_box {X cx : Int} (h : Two X cx) : ColOf (standS X 1376256 557056) cx 21 8 2 := by
  rcases h with ⟨rfl, rfl⟩ | ⟨rfl, rfl⟩
  · intro W
    have := span_some (fsS 557056 20000) (fsS 1376256 0) (fsS 557056 20000) (faS 557056 20000) (faS 1376256 100000) (faS 557056 20000) (by decide +kernel) (by decide +kernel) (by decide +kernel) W
    exact this
  · intro W
    have := span_some (fsS 622592 20000) (fsS 1376256 0) (fsS 557056 20000) (faS 622592 20000) (faS 1376256 100000) (faS 557056 20000) (by decide +kernel) (by decide +kernel) (by decide +kernel) W
    exact this
theorem col_under {X cx : Int} (h : Two X cx) : ColOf (underS (fsS X 20000) (fsS 1376256 0) (fsS 557056 20000) (faS X 20000) (faS 557056 20000)) cx 20 8 1 := by
  rcases h with ⟨rfl, rfl⟩ | ⟨rfl, rfl⟩
  · intro W
    have := span_some (fsS 557056 20000) (fcS (fsS (fsS 1376256 0) 1)) (fsS 557056 20000) (faS 557056 20000) (fcS (fsS 1376256 0)) (faS 557056 20000) (by decide +kernel) (by decide +kernel) (by decide +kernel) W
    exact this
  · intro W
    have := span_some (fsS 622592 20000) (fcS (fsS (fsS 1376256 0) 1)) (fsS 557056 20000) (faS 622592 20000) (fcS (fsS 1376256 0)) (faS 557056 20000) (by decide +kernel) (by decide +kernel) (by decide +kernel) W
    exact this
#print axioms col_under
end Go.Proofs.YtnogfelfgclajaaGreatDoor
end

section
namespace Go.Proofs.YtnogfelfgclajaaGreatDoor
open Go.RowKit
attribute [local go_sem] ext_ext drew_ext ext_drew ext_cell ext_frozen in_lt in_le in_ne in_en in_ne1 in_en1 in_le1 in_ltn in_len in_nen in_enn size_le ite_max ite_min
set_option linter.unusedVariables false
set_option linter.unusedSimpArgs false
set_option maxRecDepth 1000000

/-- The five chunks are here. -/
def Five (T : List (Ps × Bool)) : Prop := (0, 0) ∈ psT T ∧ (1, 0) ∈ psT T ∧ (-1, 0) ∈ psT T ∧ (0, 1) ∈ psT T ∧ (0, -1) ∈ psT T
theorem bix0 (w : World) : (Instr.index 308 (.agg (besS 0 0)) (.int .i64 0)).run Tryz.prog w = .ok (.agg #[.int .i64 0, .int .i64 0]) w := by kernel_rfl
theorem bix1 (w : World) : (Instr.index 308 (.agg (besS 0 0)) (.int .i64 1)).run Tryz.prog w = .ok (.agg #[.int .i64 (-1), .int .i64 0]) w := by kernel_rfl
theorem bix2 (w : World) : (Instr.index 308 (.agg (besS 0 0)) (.int .i64 2)).run Tryz.prog w = .ok (.agg #[.int .i64 1, .int .i64 0]) w := by kernel_rfl
theorem bix3 (w : World) : (Instr.index 308 (.agg (besS 0 0)) (.int .i64 3)).run Tryz.prog w = .ok (.agg #[.int .i64 0, .int .i64 (-1)]) w := by kernel_rfl
theorem bix4 (w : World) : (Instr.index 308 (.agg (besS 0 0)) (.int .i64 4)).run Tryz.prog w = .ok (.agg #[.int .i64 0, .int .i64 1]) w := by kernel_rfl
attribute [local go_sem] bix0 bix1 bix2 bix3 bix4
theorem div0 {x : Int} (h0 : 0 ≤ x) (h1 : x ≤ 15) : divS x 16 = 0 := by unfold divS; rw [if_neg (by omega)]; omega
set_option maxHeartbeats 4000000 in
theorem ready_any {B : Nat} {w : World} {wo t q e : Nat} {s lim : Int} {G : Ps → List Int} {T : List (Ps × Bool)} (hw : w.cell? ⟨wo, 0, none⟩ = some (.pointer (some ⟨t, 0, none⟩))) (h : TabOf B w t s lim q e G T) (h5 : Five T) (x y z : Int) (x0 : 0 ≤ x) (x1 : x ≤ 15) (z0 : 0 ≤ z) (z1 : z ≤ 15) :
    Calls Tryz.prog 196 #[.pointer (some ⟨wo, 0, none⟩), .agg #[.int .i64 x, .int .i64 y, .int .i64 z]] w fun e w' => e = .returned (.bool true) ∧ ∃ f, w' = ext w f := by
  haveI := in_of_cell hw
  obtain ⟨st, d, mb, lv, its, D, N, h⟩ := h
  have HR := Lib.hid (fun W (hW : Below w.heap.size w W) => here_any (h.grown hW))
  have hl : T.length ≤ 16 := by have := h.full; have := h.lim2; omega
  have HL := Lib.hid (show (psT T).length = T.length ∧ T.length ≤ 16 from ⟨by simp [psT], hl⟩)
  have H5 := Lib.hid h5
  have CK := Lib.hid (fun W => (show Calls Tryz.prog 81 #[.agg #[.int .i64 x, .int .i64 y, .int .i64 z]] W fun e w' => e = .returned (.agg #[.int .i64 0, .int .i64 0]) ∧ ∃ f, w' = ext W f from by
    have := chunk_any x y z W ⟨by omega, by omega⟩ ⟨by omega, by omega⟩
    rwa [div0 x0 x1, div0 z0 z1] at this))
  clear h hl h5
  go_enter Tryz.func196, Tryz.ntmps196
  go_wp2_with fail
  refine (HR.out _ (by exact grown_now)).mono ?_
  rintro e1 w1 ⟨v1, rfl, ho1, _t, hw1⟩
  haveI hb1 := named_below (w := w) hw1
  have hc1 := named_cell hw1
  haveI hi1 := named_in hw1
  clear hw1 HR
  have PA := Lib.hid (psAt_of (by rw [HL.out.1]; exact ho1))
  have CT := Lib.hid (fun (p : Ps) (hp : p ∈ psT T) W (hW : Below w1.heap.size w1 W) => poscontains_yes v1 (psT T) p.1 p.2 W (by have := HL.out.2; have := HL.out.1; omega) (PA.out.grown hW) hp)
  obtain ⟨og1, cp1, rfl⟩ := owns_form ho1
  clear ho1
  go_wp2_with fail
  refine (CK.out _).mono ?_
  rintro e w2 ⟨rfl, _t, hw⟩
  haveI hb2_1 := named_below (w := w1) hw
  have hc2 := named_cell hw
  have hz2 := named_frozen hw
  have hh2 := named_heap hw
  haveI hi2 := named_in hw
  haveI hb2 := named_below (w := w) hw
  clear hw
  go_wp2_with fail
  refine (beside_any 0 0 _ (by omega) (by omega) (by omega) (by omega)).mono ?_
  rintro e w3 ⟨rfl, _t, hw⟩
  haveI hb3_1 := named_below (w := w1) hw
  have hc3 := named_cell hw
  have hz3 := named_frozen hw
  have hh3 := named_heap hw
  haveI hi3 := named_in hw
  haveI hb3 := named_below (w := w) hw
  clear hw
  go_wp2_with fail
  refine wp_loop_rounds 6 ?_
  rw [rounds_succ]
  go_wp2_with fail
  refine (CT.out (0, 0) H5.out.1 _ (by exact grown_now)).mono ?_
  rintro e w4 ⟨rfl, _t, hw⟩
  haveI hb4_1 := named_below (w := w1) hw
  have hc4 := named_cell hw
  have hz4 := named_frozen hw
  have hh4 := named_heap hw
  haveI hi4 := named_in hw
  haveI hb4 := named_below (w := w) hw
  clear hw
  go_wp2_with fail
  rw [rounds_succ]
  go_wp2_with fail
  refine (CT.out (-1, 0) H5.out.2.2.1 _ (by exact grown_now)).mono ?_
  rintro e w5 ⟨rfl, _t, hw⟩
  haveI hb5_1 := named_below (w := w1) hw
  have hc5 := named_cell hw
  have hz5 := named_frozen hw
  have hh5 := named_heap hw
  haveI hi5 := named_in hw
  haveI hb5 := named_below (w := w) hw
  clear hw
  go_wp2_with fail
  rw [rounds_succ]
  go_wp2_with fail
  refine (CT.out (1, 0) H5.out.2.1 _ (by exact grown_now)).mono ?_
  rintro e w6 ⟨rfl, _t, hw⟩
  haveI hb6_1 := named_below (w := w1) hw
  have hc6 := named_cell hw
  have hz6 := named_frozen hw
  have hh6 := named_heap hw
  haveI hi6 := named_in hw
  haveI hb6 := named_below (w := w) hw
  clear hw
  go_wp2_with fail
  rw [rounds_succ]
  go_wp2_with fail
  refine (CT.out (0, -1) H5.out.2.2.2.2 _ (by exact grown_now)).mono ?_
  rintro e w7 ⟨rfl, _t, hw⟩
  haveI hb7_1 := named_below (w := w1) hw
  have hc7 := named_cell hw
  have hz7 := named_frozen hw
  have hh7 := named_heap hw
  haveI hi7 := named_in hw
  haveI hb7 := named_below (w := w) hw
  clear hw
  go_wp2_with fail
  rw [rounds_succ]
  go_wp2_with fail
  refine (CT.out (0, 1) H5.out.2.2.2.1 _ (by exact grown_now)).mono ?_
  rintro e w8 ⟨rfl, _t, hw⟩
  haveI hb8_1 := named_below (w := w1) hw
  have hc8 := named_cell hw
  have hz8 := named_frozen hw
  have hh8 := named_heap hw
  haveI hi8 := named_in hw
  haveI hb8 := named_below (w := w) hw
  clear hw
  go_wp2_with fail
  rw [rounds_succ]
  go_wp2_with fail
  go_ret
  exact ⟨rfl, grown_of⟩
#print axioms ready_any
end Go.Proofs.YtnogfelfgclajaaGreatDoor
end
