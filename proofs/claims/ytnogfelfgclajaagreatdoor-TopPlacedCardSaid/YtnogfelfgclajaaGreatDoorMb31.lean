/-
  A ray: its numbers.
  A ray: its sides, whether a cell is near, which side is come to first. Printed by gen_pray2.py.
  A ray: Trace hands back its iterator.
-/
import Derived.Test.YtnogfelfgclajaaGreatDoorMb22
section
namespace Go.Proofs.YtnogfelfgclajaaGreatDoor
open Go.RowKit
attribute [local go_sem] ext_ext drew_ext ext_drew ext_cell ext_frozen in_lt in_le in_ne in_en in_ne1 in_en1 in_le1 in_ltn in_len in_nen in_enn size_le ite_max ite_min
set_option linter.unusedVariables false
set_option linter.unusedSimpArgs false
set_option maxRecDepth 1000000
attribute [local go_sem] calm calmUpon ix0 ix1 ix2 fcS_fold

theorem cutr1_any (n : Int) (w : World) (h : -1000000 ≤ n ∧ n ≤ 1000000) : Calls Tryz.prog 322 #[.int .i64 n] w fun e w' => e = .returned (.int .i64 n) ∧ w = w' := by
  have H := Lib.hid (show min (max n (-1048576)) 1048576 = n by omega)
  have H2 := Lib.hid (show min 1048576 (max n (-1048576)) = n by omega)
  go_enter Tryz.func322, Tryz.ntmps322
  go_wp2
  go_ret
  first | exact ⟨rfl, rfl⟩ | exact ⟨ret_int H.out, rfl⟩ | exact ⟨ret_int H2.out, rfl⟩
set_option maxHeartbeats 1000000 in
theorem rcut_any (x y z : Int) (w : World) (hx : -1000000 ≤ x ∧ x ≤ 1000000) (hy : -1000000 ≤ y ∧ y ≤ 1000000) (hz : -1000000 ≤ z ∧ z ≤ 1000000) :
    Calls Tryz.prog 268 #[.agg #[.int .i64 x, .int .i64 y, .int .i64 z]] w fun e w' => e = .returned (.agg #[.int .i64 x, .int .i64 y, .int .i64 z]) ∧ ∃ f, w' = ext w f := by
  have CX := Lib.hid (fun W => cutr1_any x W hx)
  have CY := Lib.hid (fun W => cutr1_any y W hy)
  have CZ := Lib.hid (fun W => cutr1_any z W hz)
  have eg : ∀ args W, (callFunc 322 args).run Tryz.prog W = .ok (.enter 322 args) W := fun args W => by kernel_rfl
  clear hx hy hz
  go_enter Tryz.func268, Tryz.ntmps268
  go_wp2_with fail
  refine wp_region_ext_tail 13 ?_ ?_ ?_
  · kernel_rfl
  · kernel_rfl
  simp only [List.take_succ_cons, List.take_zero, List.drop_succ_cons, List.drop_zero]
  repeat (go_big_quiet_step (first | (go_at_call 322; with_reducible exact ext_same (CX.out _)) | (go_at_call 322; with_reducible exact ext_same (CY.out _)) | (go_at_call 322; with_reducible exact ext_same (CZ.out _))))
  refine wpQuiet_nil ?_
  rintro w1 ⟨_t, hw⟩
  have hc1 := named_cell hw
  have hz1 := named_frozen hw
  have hh1 := named_heap hw
  haveI hi1 := named_in hw
  haveI hb1 := named_below (w := w) hw
  clear hw
  go_wp2_with fail
  refine bodyPost_ret (by simp [results, Tryz.results268, go_sem, hc1]; try rfl) rfl ?_
  exact ⟨rfl, grown_of⟩
theorem vcut1_any (i n : Int) (w : World) : Calls Tryz.prog 321 #[.int .i64 i, .int .i64 n] w fun e w' => e = .returned (.int .i64 (fcS n)) ∧ w = w' := by
  go_enter Tryz.func321, Tryz.ntmps321
  go_wp2_with (go_at_call 315; refine (fcut_any _ _).mono ?_; rintro e w1 ⟨rfl, rfl⟩)
  go_ret
  exact ⟨rfl, rfl⟩
set_option maxHeartbeats 4000000 in
theorem each_vcut (x y z : Int) (w : World) :
    Calls Tryz.prog 275 #[.agg #[.int .i64 x, .int .i64 y, .int .i64 z], .func (.func 321) #[] #[]] w fun e w' => e = .returned (.agg #[.int .i64 (fcS x), .int .i64 (fcS y), .int .i64 (fcS z)]) ∧ ∃ f, w' = ext w f := by
  have eg : ∀ args W, (callFunc 321 args).run Tryz.prog W = .ok (.enter 321 args) W := fun args W => by kernel_rfl
  go_enter Tryz.func275, Tryz.ntmps275
  go_wp2_with fail
  refine (parts_any _ (.int .i64 x) (.int .i64 y) (.int .i64 z) _ (by go_simp) (by go_simp) (by go_simp)).mono ?_
  rintro e w1 ⟨rfl, _t, hw⟩
  have hc1 := named_cell hw
  have hz1 := named_frozen hw
  have hh1 := named_heap hw
  haveI hi1 := named_in hw
  haveI hb1 := named_below (w := w) hw
  clear hw
  go_wp2_with fail
  refine wp_loop_rounds 4 ?_
  rw [rounds_succ]
  go_wp2_with (go_at_call 321; refine (vcut1_any _ _ _).mono ?_; rintro e w1 ⟨rfl, rfl⟩)
  rw [rounds_succ]
  go_wp2_with (go_at_call 321; refine (vcut1_any _ _ _).mono ?_; rintro e w1 ⟨rfl, rfl⟩)
  rw [rounds_succ]
  go_wp2_with (go_at_call 321; refine (vcut1_any _ _ _).mono ?_; rintro e w1 ⟨rfl, rfl⟩)
  rw [rounds_succ]
  go_wp2_with fail
  refine bodyPost_ret (by simp [results, Tryz.results275, go_sem, hc1]; try rfl) rfl ?_
  exact ⟨rfl, grown_of⟩
theorem vcut_any (x y z : Int) (w : World) :
    Calls Tryz.prog 267 #[.agg #[.int .i64 x, .int .i64 y, .int .i64 z]] w fun e w' => e = .returned (.agg #[.int .i64 (fcS x), .int .i64 (fcS y), .int .i64 (fcS z)]) ∧ ∃ f, w' = ext w f := by
  go_enter Tryz.func267, Tryz.ntmps267
  go_wp2_with fail
  refine (each_vcut x y z _).mono ?_
  rintro e w1 ⟨rfl, _t, hw⟩
  have hc1 := named_cell hw
  have hz1 := named_frozen hw
  have hh1 := named_heap hw
  haveI hi1 := named_in hw
  haveI hb1 := named_below (w := w) hw
  clear hw
  go_wp2_with fail
  refine bodyPost_ret (by simp [results, Tryz.results267, go_sem, hc1]; try rfl) rfl ?_
  exact ⟨rfl, grown_of⟩
theorem fsize_any (n : Int) (w : World) (h : 0 ≤ n ∧ n ≤ 100000000) : Calls Tryz.prog 325 #[.int .i64 n] w fun e w' => e = .returned (.tuple #[.int .u64 n, .bool false]) ∧ w = w' := by
  have H := Lib.hid (show fcS n = n from fcS_in (by omega) (by omega))
  have FC := Lib.hid (fun W => (show Calls Tryz.prog 315 #[.int .i64 n] W fun e w' => e = .returned (.int .i64 n) ∧ W = w' from by have := fcut_any n W; rwa [H.out] at this))
  have n0 : ¬ n < 0 := by omega
  go_enter Tryz.func325, Tryz.ntmps325
  go_wp2_with (go_at_call 315; refine (FC.out _).mono ?_; rintro e w1 ⟨rfl, rfl⟩)
  go_ret2
  exact ⟨rfl, rfl⟩
theorem fround_any (q : Int) (rest : Bool) (w : World) (h : 0 ≤ q ∧ q ≤ 100000000000000) : Calls Tryz.prog 326 #[.int .u64 q, .bool rest, .bool false] w fun e w' => e = .returned (.int .i64 q) ∧ ∃ f, w' = ext w f := by
  have hmf : ∀ (fn : Fn) (first cap : Array Value) (w : World), (Instr.makeFunc fn first cap).run Tryz.prog w = .ok (.func fn first cap) w := fun _ _ _ _ => rfl
  have h1 : ¬ 140737488355328 ≤ q := by omega
  go_enter Tryz.func326, Tryz.ntmps326
  go_wp2_with fail
  go_ret
  exact ⟨rfl, grown_of⟩
set_option maxHeartbeats 1000000 in
theorem fdiv_any (a b : Int) (w : World) (ha : 0 ≤ a ∧ a ≤ 100000000) (hb : 1 ≤ b ∧ b ≤ 100000000) : Calls Tryz.prog 273 #[.int .i64 a, .int .i64 b] w fun e w' => e = .returned (.tuple #[.int .i64 ((a * 65536).tdiv b), .int .i64 0]) ∧ ∃ f, w' = ext w f := by
  have SA := Lib.hid (fun W => fsize_any a W ha)
  have SB := Lib.hid (fun W => fsize_any b W (by omega))
  have b0 : ¬ b = 0 := by omega
  go_enter Tryz.func273, Tryz.ntmps273
  go_wp2_with fail
  refine (SA.out _).mono ?_
  rintro e1 w1 ⟨rfl, rfl⟩
  go_wp2_with fail
  refine (SB.out _).mono ?_
  rintro e1 w1 ⟨rfl, rfl⟩
  go_wp2_with fail
  have q0 : 0 ≤ (a * 65536).tdiv b := Int.tdiv_nonneg (by omega) (by omega)
  have q1 : (a * 65536).tdiv b ≤ a * 65536 := Int.tdiv_le_self _ (by omega)
  have FR := Lib.hid (fun rest W => fround_any ((a * 65536).tdiv b) rest W ⟨q0, by omega⟩)
  refine wp_region_ext ?_ ?_ ?_
  · kernel_rfl
  · kernel_rfl
  repeat (go_big_quiet_step (first | (go_at_call 326; with_reducible exact ext_call (FR.out _ _))))
  refine wpQuiet_nil ?_
  rintro w1 ⟨_t, hw⟩
  have hc1 := named_cell hw
  have hz1 := named_frozen hw
  have hh1 := named_heap hw
  haveI hi1 := named_in hw
  haveI hb1 := named_below (w := w) hw
  clear hw
  go_wp2_with fail
  refine bodyPost_ret (by simp [results, Tryz.results273, go_sem, hc1]; try rfl) rfl ?_
  exact ⟨rfl, grown_of⟩
end Go.Proofs.YtnogfelfgclajaaGreatDoor
end

section
namespace Go.Proofs.YtnogfelfgclajaaGreatDoor
open Go.RowKit
attribute [local go_sem] ext_ext drew_ext ext_drew ext_cell ext_frozen in_lt in_le in_ne in_en in_ne1 in_en1 in_le1 in_ltn in_len in_nen in_enn size_le ite_max ite_min
set_option linter.unusedVariables false
set_option linter.unusedSimpArgs false
set_option maxRecDepth 1000000
attribute [local go_sem] calm calmUpon ix0 ix1 ix2 fcS_fold

theorem frS_bd (n : Int) : 0 ≤ frS n ∧ frS n ≤ 65535 := by unfold frS; omega
/-- How far it is to an axis's next side. -/
def leftS (n p : Int) : Int := if 0 < p then 65536 - frS n else frS n
/-- How fast it goes. -/
def speedS (p : Int) : Int := if 0 < p then p else -p
theorem leftS_bd (n p : Int) : 0 ≤ leftS n p ∧ leftS n p ≤ 65536 := by have := frS_bd n; unfold leftS; split <;> omega
theorem leftS_pos {n p : Int} (h : 0 < p) : leftS n p = 65536 - frS n := if_pos h
theorem leftS_neg {n p : Int} (h : ¬ 0 < p) : leftS n p = frS n := if_neg h
theorem speedS_pos {p : Int} (h : 0 < p) : speedS p = p := if_pos h
theorem speedS_neg {p : Int} (h : ¬ 0 < p) : speedS p = -p := if_neg h
theorem within1_any (n m r : Int) (g : Nat) (w : World) (hn : -10000000000 ≤ n ∧ n ≤ 10000000000) (hm : -10000000000 ≤ m ∧ m ≤ 10000000000) (h0 : w.cell? ⟨g, 0, none⟩ = some (.int .i64 r)) :
    Calls Tryz.prog 324 #[.int .i64 n, .int .i64 m, .pointer (some ⟨g, 0, none⟩)] w fun e w' => e = .returned (.bool (decide (n - m ≤ r) && decide (m - n ≤ r))) ∧ w = w' := by
  haveI := in_of_cell h0
  by_cases h1 : n - m ≤ r
  · have e1 : decide (n - m ≤ r) = true := decide_eq_true h1
    go_enter Tryz.func324, Tryz.ntmps324
    go_wp2
    go_ret
    first | exact ⟨rfl, rfl⟩ | (refine ⟨?_, rfl⟩; rw [e1]; rfl)
  · have e1 : decide (n - m ≤ r) = false := decide_eq_false h1
    go_enter Tryz.func324, Tryz.ntmps324
    go_wp2
    go_ret
    first | exact ⟨rfl, rfl⟩ | (refine ⟨?_, rfl⟩; rw [e1]; rfl)
/-- Are two cells near each other? -/
def nearB (n m r : Int) : Bool := decide (n - m ≤ r) && decide (m - n ≤ r)
theorem nearB_iff {n m r : Int} : nearB n m r = true ↔ (n - m ≤ r ∧ m - n ≤ r) := by simp [nearB]
set_option maxHeartbeats 2000000 in
theorem within_any (a b c x y z r : Int) (w : World) (ha : -10000000000 ≤ a ∧ a ≤ 10000000000) (hb : -10000000000 ≤ b ∧ b ≤ 10000000000) (hc : -10000000000 ≤ c ∧ c ≤ 10000000000) (hx : -10000000000 ≤ x ∧ x ≤ 10000000000) (hy : -10000000000 ≤ y ∧ y ≤ 10000000000) (hz : -10000000000 ≤ z ∧ z ≤ 10000000000) :
    Calls Tryz.prog 271 #[.agg #[.int .i64 a, .int .i64 b, .int .i64 c], .agg #[.int .i64 x, .int .i64 y, .int .i64 z], .int .i64 r] w fun e w' => e = .returned (.bool (nearB a x r && nearB b y r && nearB c z r)) ∧ ∃ f, w' = ext w f := by
  have hmf : ∀ (fn : Fn) (first cap : Array Value) (w : World), (Instr.makeFunc fn first cap).run Tryz.prog w = .ok (.func fn first cap) w := fun _ _ _ _ => rfl
  have eg : ∀ args W, (callFunc 324 args).run Tryz.prog W = .ok (.enter 324 args) W := fun args W => by kernel_rfl
  have C : ∀ n m g W, (-10000000000 ≤ n ∧ n ≤ 10000000000) → (-10000000000 ≤ m ∧ m ≤ 10000000000) → W.cell? ⟨g, 0, none⟩ = some (.int .i64 r) → Calls Tryz.prog 324 #[.int .i64 n, .int .i64 m, .pointer (some ⟨g, 0, none⟩)] W fun e w' => e = .returned (.bool (nearB n m r)) ∧ W = w' := fun n m g W hn hm h0 => within1_any n m r g W hn hm h0
  have CX := Lib.hid (fun g W => C a x g W ha hx)
  have CY := Lib.hid (fun g W => C b y g W hb hy)
  have CZ := Lib.hid (fun g W => C c z g W hc hz)
  clear C ha hb hc hx hy hz
  cases e1 : nearB a x r
  · rw [e1] at CX
    go_enter Tryz.func271, Tryz.ntmps271
    go_wp2_with fail
    refine (CX.out _ _ (by go_simp)).mono ?_
    rintro e w1 ⟨rfl, rfl⟩
    go_wp2_with fail
    go_ret
    exact ⟨rfl, grown_of⟩
  · rw [e1] at CX
    cases e2 : nearB b y r
    · rw [e2] at CY
      go_enter Tryz.func271, Tryz.ntmps271
      go_wp2_with fail
      refine (CX.out _ _ (by go_simp)).mono ?_
      rintro e w1 ⟨rfl, rfl⟩
      go_wp2_with fail
      refine (CY.out _ _ (by go_simp)).mono ?_
      rintro e w1 ⟨rfl, rfl⟩
      go_wp2_with fail
      go_ret
      exact ⟨rfl, grown_of⟩
    · rw [e2] at CY
      go_enter Tryz.func271, Tryz.ntmps271
      go_wp2_with fail
      refine (CX.out _ _ (by go_simp)).mono ?_
      rintro e w1 ⟨rfl, rfl⟩
      go_wp2_with fail
      refine (CY.out _ _ (by go_simp)).mono ?_
      rintro e w1 ⟨rfl, rfl⟩
      go_wp2_with fail
      refine (CZ.out _ _ (by go_simp)).mono ?_
      rintro e w1 ⟨rfl, rfl⟩
      go_wp2_with fail
      go_ret
      exact ⟨by simp, grown_of⟩

/-- Is one side come to ahead of another one? -/
def soonB (a s b t : Int) : Bool := if s = 0 ∨ t = 0 then decide (0 < s) else decide (a * t < b * s)
set_option maxHeartbeats 1000000 in
theorem sooner_any (a s b t : Int) (w : World) (h1 : -4000000000000000000 ≤ a * t ∧ a * t ≤ 4000000000000000000) (h2 : -4000000000000000000 ≤ b * s ∧ b * s ≤ 4000000000000000000) :
    Calls Tryz.prog 272 #[.agg #[.int .i64 a, .int .i64 s], .agg #[.int .i64 b, .int .i64 t]] w fun e w' => e = .returned (.bool (soonB a s b t)) ∧ ∃ f, w' = ext w f := by
  by_cases hs : s = 0
  · have r : soonB a s b t = decide (0 < s) := if_pos (.inl hs)
    rw [r]
    subst hs
    go_enter Tryz.func272, Tryz.ntmps272
    go_wp2_with fail
    go_ret
    exact ⟨rfl, grown_of⟩
  · by_cases ht : t = 0
    · have r : soonB a s b t = decide (0 < s) := if_pos (.inr ht)
      rw [r]
      subst ht
      go_enter Tryz.func272, Tryz.ntmps272
      go_wp2_with fail
      go_ret
      exact ⟨rfl, grown_of⟩
    · have r : soonB a s b t = decide (a * t < b * s) := if_neg (by simp [hs, ht])
      rw [r]
      go_enter Tryz.func272, Tryz.ntmps272
      go_wp2_with fail
      all_goals go_ret
      all_goals first | exact ⟨rfl, grown_of⟩ | (exfalso; simp_all)

theorem four (w : World) (c0 c1 c2 c3 : Array Value) (t0 t1 t2 t3 : TypeId) (W : World) (hW : W = (((w.alloc (.cells c0 t0)).alloc (.cells c1 t1)).alloc (.cells c2 t2)).alloc (.cells c3 t3)) :
    Below w.heap.size w W ∧ W.heap.size = w.heap.size + 1 + 1 + 1 + 1 ∧ W.heap[w.heap.size]? = some (.cells c0 t0) ∧ W.heap[w.heap.size + 1]? = some (.cells c1 t1) ∧ W.heap[w.heap.size + 1 + 1]? = some (.cells c2 t2) ∧ W.heap[w.heap.size + 1 + 1 + 1]? = some (.cells c3 t3) := by
  have B0 : Below w.heap.size w w := Below.refl _ _
  have h0 := heap_alloc_new w (.cells c0 t0)
  have z0 : (w.alloc (.cells c0 t0)).heap.size = w.heap.size + 1 := World.size_alloc ..
  have B1 := B0.alloc B0.size (.cells c0 t0)
  generalize w.alloc (.cells c0 t0) = u1 at *
  have h1 := heap_alloc_new u1 (.cells c1 t1)
  have h0 := (heap_alloc_old u1 (.cells c1 t1) (lt_of_block h0)).trans h0
  have z1 : (u1.alloc (.cells c1 t1)).heap.size = u1.heap.size + 1 := World.size_alloc ..
  have B2 := B1.alloc B1.size (.cells c1 t1)
  rw [z0] at z1 h1
  generalize u1.alloc (.cells c1 t1) = u2 at *
  have h2 := heap_alloc_new u2 (.cells c2 t2)
  have h0 := (heap_alloc_old u2 (.cells c2 t2) (lt_of_block h0)).trans h0
  have h1 := (heap_alloc_old u2 (.cells c2 t2) (lt_of_block h1)).trans h1
  have z2 : (u2.alloc (.cells c2 t2)).heap.size = u2.heap.size + 1 := World.size_alloc ..
  have B3 := B2.alloc B2.size (.cells c2 t2)
  rw [z1] at z2 h2
  generalize u2.alloc (.cells c2 t2) = u3 at *
  have h3 := heap_alloc_new u3 (.cells c3 t3)
  have h0 := (heap_alloc_old u3 (.cells c3 t3) (lt_of_block h0)).trans h0
  have h1 := (heap_alloc_old u3 (.cells c3 t3) (lt_of_block h1)).trans h1
  have h2 := (heap_alloc_old u3 (.cells c3 t3) (lt_of_block h2)).trans h2
  have z3 : (u3.alloc (.cells c3 t3)).heap.size = u3.heap.size + 1 := World.size_alloc ..
  have B4 := B3.alloc B3.size (.cells c3 t3)
  rw [z2] at z3 h3
  generalize u3.alloc (.cells c3 t3) = u4 at *
  subst hW
  exact ⟨B4, z3, h0, h1, h2, h3⟩
/-- The way's axes: how far, how fast. -/
def sidesS (a b c p q r : Int) : Array Value := #[.int .i64 (leftS a p), .int .i64 (speedS p), .int .i64 (leftS b q), .int .i64 (speedS q), .int .i64 (leftS c r), .int .i64 (speedS r)]
/-- The sides behind a round or more. -/
def sidesK (a b c p q r : Int) : Nat → Array Value
  | 0 => #[.int .i64 0, .int .i64 0, .int .i64 0, .int .i64 0, .int .i64 0, .int .i64 0]
  | 1 => #[.int .i64 (leftS a p), .int .i64 (speedS p), .int .i64 0, .int .i64 0, .int .i64 0, .int .i64 0]
  | 2 => #[.int .i64 (leftS a p), .int .i64 (speedS p), .int .i64 (leftS b q), .int .i64 (speedS q), .int .i64 0, .int .i64 0]
  | _ => sidesS a b c p q r
set_option maxHeartbeats 4000000 in
theorem sides_any (a b c p q r : Int) (w : World) (hp : -10000000 ≤ p ∧ p ≤ 10000000) (hq : -10000000 ≤ q ∧ q ≤ 10000000) (hr : -10000000 ≤ r ∧ r ≤ 10000000) :
    Calls Tryz.prog 270 #[.agg #[.int .i64 a, .int .i64 b, .int .i64 c], .agg #[.int .i64 p, .int .i64 q, .int .i64 r]] w fun e w' => e = .returned (.agg (sidesS a b c p q r)) ∧ ∃ f, w' = ext w f := by
  have AX0 := Lib.hid (fun W => axis0_any a b c W)
  have AX1 := Lib.hid (fun W => axis1_any a b c W)
  have AX2 := Lib.hid (fun W => axis2_any a b c W)
  have AW0 := Lib.hid (fun W => axis0_any p q r W)
  have AW1 := Lib.hid (fun W => axis1_any p q r W)
  have AW2 := Lib.hid (fun W => axis2_any p q r W)
  have FA := frS_bd a
  have FB := frS_bd b
  have FC := frS_bd c
  go_enter Tryz.func270, Tryz.ntmps270
  go_wp2_with fail
  obtain ⟨G0, Z0, b0, b1, b2, b3⟩ := four w _ _ _ _ _ _ _ _ _ rfl
  generalize (((w.alloc (.cells #[.int .i64 a, .int .i64 b, .int .i64 c] 46)).alloc (.cells #[.int .i64 p, .int .i64 q, .int .i64 r] 46)).alloc (.cells #[.int .i64 0, .int .i64 0, .int .i64 0, .int .i64 0, .int .i64 0, .int .i64 0] 323)).alloc (.cells #[.int .i64 0, .int .i64 0, .int .i64 0, .int .i64 0, .int .i64 0, .int .i64 0] 323) = W0 at *
  have l0 : w.heap.size ≤ w.heap.size + 1 + 1 ∧ w.heap.size ≤ w.heap.size + 1 + 1 + 1 ∧ w.heap.size ≠ w.heap.size + 1 + 1 + 1 ∧ w.heap.size + 1 ≠ w.heap.size + 1 + 1 + 1 ∧ w.heap.size + 1 + 1 ≠ w.heap.size + 1 + 1 + 1 := by omega
  clear Z0
  generalize w.heap.size + 1 + 1 + 1 = q3 at *
  generalize w.heap.size + 1 + 1 = q2 at *
  generalize w.heap.size + 1 = q1 at *
  obtain ⟨q0, hq0⟩ : ∃ g, w.heap.size = g := ⟨_, rfl⟩
  rw [hq0] at b0 l0 G0
  rw [hq0]
  go_loopw [9] (fun i wr => ∃ k : Nat, k ≤ 3 ∧ i = .int .i64 (k : Nat) ∧ Below q0 w wr ∧ wr.heap[q0]? = some (.cells #[.int .i64 a, .int .i64 b, .int .i64 c] 46 (0, 0)) ∧ wr.heap[q1]? = some (.cells #[.int .i64 p, .int .i64 q, .int .i64 r] 46 (0, 0)) ∧ wr.heap[q2]? = some (.cells #[.int .i64 0, .int .i64 0, .int .i64 0, .int .i64 0, .int .i64 0, .int .i64 0] 323 (0, 0)) ∧ wr.heap[q3]? = some (.cells (sidesK a b c p q r k) 323 (0, 0))) (fun i _ => (3 - intOf i).toNat)
  case atStart => exact ⟨0, by omega, rfl, G0, b0, b1, b2, b3⟩
  case round =>
    obtain ⟨k, hk, rfl, GR, r0, r1, r2, r3⟩ := hrel
    rename World => w4
    clear G0 b0 b1 b2 b3
    have a0 := cell_of_block (i := 0) r0 rfl
    have a1 := cell_of_block (i := 1) r0 rfl
    have a2 := cell_of_block (i := 2) r0 rfl
    have p0 := cell_of_block (i := 0) r1 rfl
    have p1 := cell_of_block (i := 1) r1 rfl
    have p2 := cell_of_block (i := 2) r1 rfl
    haveI := in_of_cell a0
    haveI := in_of_cell p0
    obtain rfl | rfl | rfl | rfl : k = 0 ∨ k = 1 ∨ k = 2 ∨ k = 3 := by omega
    · skip
      have s0 := cell_of_block (i := 0) r3 rfl
      haveI := in_of_cell s0
      go_wp2_with fail
      refine wp_region_ext ?_ ?_ ?_
      · kernel_rfl
      · kernel_rfl
      repeat (go_big_quiet_step (first | (go_at_call 263; with_reducible exact ext_call (AX0.out _)) | (go_at_call 263; with_reducible exact ext_call (AW0.out _))))
      refine wpQuiet_nil ?_
      rintro w1 ⟨_t, hw⟩
      have hc1 := named_cell hw
      have hz1 := named_frozen hw
      have hh1 := named_heap hw
      haveI hi1 := named_in hw
      haveI hb1 := named_below (w := w4) hw
      clear hw
      obtain ⟨B1⟩ := hb1
      have f0 := (B1.block q0 (lt_of_block r0)).trans r0
      have f1 := (B1.block q1 (lt_of_block r1)).trans r1
      have f2 := (B1.block q2 (lt_of_block r2)).trans r2
      have f3 := (B1.block q3 (lt_of_block r3)).trans r3
      have G1 := Lib.hid (GR.trans (B1.mono (by have := GR.size; omega)))
      have FR := Lib.hid (And.intro f0 (And.intro f1 (And.intro f2 f3)))
      have y0 := free_of_block 0 r3
      have x0 := cell_of_block (i := 0) r3 rfl
      have y1 := free_of_block 1 r3
      have x1 := cell_of_block (i := 1) r3 rfl
      haveI := in_of_cell x0
      clear r0 r1 r2 r3 GR f0 f1 f2 f3
      go_wp2_with (go_at_call 323; refine (frac_any _ _).mono ?_; rintro e w1 ⟨rfl, rfl⟩)
      · have h : 0 < p := by omega
        obtain ⟨f0, f1, f2, f3⟩ := FR.out
        have l1 : leftS a p = _ := leftS_pos h
        have l2 : speedS p = _ := speedS_pos h
        have j3 := (block_set (i := 1) (block_set (i := 0) (block_set (i := 1) (block_set (i := 0) f3 (.int .i64 (frS a)) (by simp [sidesK])) (.int .i64 (-p)) (by simp [sidesK])) (.int .i64 (65536 - frS a)) (by simp [sidesK])) (.int .i64 p) (by simp [sidesK]))
        have j0 := ((block_set_far (a := ⟨q3, 1, none⟩) (.int .i64 p) l0.2.2.1).trans ((block_set_far (a := ⟨q3, 0, none⟩) (.int .i64 (65536 - frS a)) l0.2.2.1).trans ((block_set_far (a := ⟨q3, 1, none⟩) (.int .i64 (-p)) l0.2.2.1).trans ((block_set_far (a := ⟨q3, 0, none⟩) (.int .i64 (frS a)) l0.2.2.1).trans f0))))
        have j1 := ((block_set_far (a := ⟨q3, 1, none⟩) (.int .i64 p) l0.2.2.2.1).trans ((block_set_far (a := ⟨q3, 0, none⟩) (.int .i64 (65536 - frS a)) l0.2.2.2.1).trans ((block_set_far (a := ⟨q3, 1, none⟩) (.int .i64 (-p)) l0.2.2.2.1).trans ((block_set_far (a := ⟨q3, 0, none⟩) (.int .i64 (frS a)) l0.2.2.2.1).trans f1))))
        have j2 := ((block_set_far (a := ⟨q3, 1, none⟩) (.int .i64 p) l0.2.2.2.2).trans ((block_set_far (a := ⟨q3, 0, none⟩) (.int .i64 (65536 - frS a)) l0.2.2.2.2).trans ((block_set_far (a := ⟨q3, 1, none⟩) (.int .i64 (-p)) l0.2.2.2.2).trans ((block_set_far (a := ⟨q3, 0, none⟩) (.int .i64 (frS a)) l0.2.2.2.2).trans f2))))
        have GG := (Below.setCell (Below.setCell (Below.setCell (Below.setCell G1.out (p := ⟨q3, 0, none⟩) l0.2.1 (.int .i64 (frS a))) (p := ⟨q3, 1, none⟩) l0.2.1 (.int .i64 (-p))) (p := ⟨q3, 0, none⟩) l0.2.1 (.int .i64 (65536 - frS a))) (p := ⟨q3, 1, none⟩) l0.2.1 (.int .i64 p))
        go_roundw
        case rel => exact ⟨1, by omega, rfl, GG, j0, j1, j2, by simp only [sidesK, sidesS, l1, l2]; exact j3⟩
        case measure => simp [intOf]
      · have h : ¬ 0 < p := by omega
        obtain ⟨f0, f1, f2, f3⟩ := FR.out
        have l1 : leftS a p = _ := leftS_neg h
        have l2 : speedS p = _ := speedS_neg h
        have j3 := (block_set (i := 1) (block_set (i := 0) f3 (.int .i64 (frS a)) (by simp [sidesK])) (.int .i64 (-p)) (by simp [sidesK]))
        have j0 := ((block_set_far (a := ⟨q3, 1, none⟩) (.int .i64 (-p)) l0.2.2.1).trans ((block_set_far (a := ⟨q3, 0, none⟩) (.int .i64 (frS a)) l0.2.2.1).trans f0))
        have j1 := ((block_set_far (a := ⟨q3, 1, none⟩) (.int .i64 (-p)) l0.2.2.2.1).trans ((block_set_far (a := ⟨q3, 0, none⟩) (.int .i64 (frS a)) l0.2.2.2.1).trans f1))
        have j2 := ((block_set_far (a := ⟨q3, 1, none⟩) (.int .i64 (-p)) l0.2.2.2.2).trans ((block_set_far (a := ⟨q3, 0, none⟩) (.int .i64 (frS a)) l0.2.2.2.2).trans f2))
        have GG := (Below.setCell (Below.setCell G1.out (p := ⟨q3, 0, none⟩) l0.2.1 (.int .i64 (frS a))) (p := ⟨q3, 1, none⟩) l0.2.1 (.int .i64 (-p)))
        go_roundw
        case rel => exact ⟨1, by omega, rfl, GG, j0, j1, j2, by simp only [sidesK, sidesS, l1, l2]; exact j3⟩
        case measure => simp [intOf]
    · skip
      have s0 := cell_of_block (i := 0) r3 rfl
      haveI := in_of_cell s0
      go_wp2_with fail
      refine wp_region_ext ?_ ?_ ?_
      · kernel_rfl
      · kernel_rfl
      repeat (go_big_quiet_step (first | (go_at_call 263; with_reducible exact ext_call (AX1.out _)) | (go_at_call 263; with_reducible exact ext_call (AW1.out _))))
      refine wpQuiet_nil ?_
      rintro w1 ⟨_t, hw⟩
      have hc1 := named_cell hw
      have hz1 := named_frozen hw
      have hh1 := named_heap hw
      haveI hi1 := named_in hw
      haveI hb1 := named_below (w := w4) hw
      clear hw
      obtain ⟨B1⟩ := hb1
      have f0 := (B1.block q0 (lt_of_block r0)).trans r0
      have f1 := (B1.block q1 (lt_of_block r1)).trans r1
      have f2 := (B1.block q2 (lt_of_block r2)).trans r2
      have f3 := (B1.block q3 (lt_of_block r3)).trans r3
      have G1 := Lib.hid (GR.trans (B1.mono (by have := GR.size; omega)))
      have FR := Lib.hid (And.intro f0 (And.intro f1 (And.intro f2 f3)))
      have y0 := free_of_block 2 r3
      have x0 := cell_of_block (i := 2) r3 rfl
      have y1 := free_of_block 3 r3
      have x1 := cell_of_block (i := 3) r3 rfl
      haveI := in_of_cell x0
      clear r0 r1 r2 r3 GR f0 f1 f2 f3
      go_wp2_with (go_at_call 323; refine (frac_any _ _).mono ?_; rintro e w1 ⟨rfl, rfl⟩)
      · have h : 0 < q := by omega
        obtain ⟨f0, f1, f2, f3⟩ := FR.out
        have l1 : leftS b q = _ := leftS_pos h
        have l2 : speedS q = _ := speedS_pos h
        have j3 := (block_set (i := 3) (block_set (i := 2) (block_set (i := 3) (block_set (i := 2) f3 (.int .i64 (frS b)) (by simp [sidesK])) (.int .i64 (-q)) (by simp [sidesK])) (.int .i64 (65536 - frS b)) (by simp [sidesK])) (.int .i64 q) (by simp [sidesK]))
        have j0 := ((block_set_far (a := ⟨q3, 3, none⟩) (.int .i64 q) l0.2.2.1).trans ((block_set_far (a := ⟨q3, 2, none⟩) (.int .i64 (65536 - frS b)) l0.2.2.1).trans ((block_set_far (a := ⟨q3, 3, none⟩) (.int .i64 (-q)) l0.2.2.1).trans ((block_set_far (a := ⟨q3, 2, none⟩) (.int .i64 (frS b)) l0.2.2.1).trans f0))))
        have j1 := ((block_set_far (a := ⟨q3, 3, none⟩) (.int .i64 q) l0.2.2.2.1).trans ((block_set_far (a := ⟨q3, 2, none⟩) (.int .i64 (65536 - frS b)) l0.2.2.2.1).trans ((block_set_far (a := ⟨q3, 3, none⟩) (.int .i64 (-q)) l0.2.2.2.1).trans ((block_set_far (a := ⟨q3, 2, none⟩) (.int .i64 (frS b)) l0.2.2.2.1).trans f1))))
        have j2 := ((block_set_far (a := ⟨q3, 3, none⟩) (.int .i64 q) l0.2.2.2.2).trans ((block_set_far (a := ⟨q3, 2, none⟩) (.int .i64 (65536 - frS b)) l0.2.2.2.2).trans ((block_set_far (a := ⟨q3, 3, none⟩) (.int .i64 (-q)) l0.2.2.2.2).trans ((block_set_far (a := ⟨q3, 2, none⟩) (.int .i64 (frS b)) l0.2.2.2.2).trans f2))))
        have GG := (Below.setCell (Below.setCell (Below.setCell (Below.setCell G1.out (p := ⟨q3, 2, none⟩) l0.2.1 (.int .i64 (frS b))) (p := ⟨q3, 3, none⟩) l0.2.1 (.int .i64 (-q))) (p := ⟨q3, 2, none⟩) l0.2.1 (.int .i64 (65536 - frS b))) (p := ⟨q3, 3, none⟩) l0.2.1 (.int .i64 q))
        go_roundw
        case rel => exact ⟨2, by omega, rfl, GG, j0, j1, j2, by simp only [sidesK, sidesS, l1, l2]; exact j3⟩
        case measure => simp [intOf]
      · have h : ¬ 0 < q := by omega
        obtain ⟨f0, f1, f2, f3⟩ := FR.out
        have l1 : leftS b q = _ := leftS_neg h
        have l2 : speedS q = _ := speedS_neg h
        have j3 := (block_set (i := 3) (block_set (i := 2) f3 (.int .i64 (frS b)) (by simp [sidesK])) (.int .i64 (-q)) (by simp [sidesK]))
        have j0 := ((block_set_far (a := ⟨q3, 3, none⟩) (.int .i64 (-q)) l0.2.2.1).trans ((block_set_far (a := ⟨q3, 2, none⟩) (.int .i64 (frS b)) l0.2.2.1).trans f0))
        have j1 := ((block_set_far (a := ⟨q3, 3, none⟩) (.int .i64 (-q)) l0.2.2.2.1).trans ((block_set_far (a := ⟨q3, 2, none⟩) (.int .i64 (frS b)) l0.2.2.2.1).trans f1))
        have j2 := ((block_set_far (a := ⟨q3, 3, none⟩) (.int .i64 (-q)) l0.2.2.2.2).trans ((block_set_far (a := ⟨q3, 2, none⟩) (.int .i64 (frS b)) l0.2.2.2.2).trans f2))
        have GG := (Below.setCell (Below.setCell G1.out (p := ⟨q3, 2, none⟩) l0.2.1 (.int .i64 (frS b))) (p := ⟨q3, 3, none⟩) l0.2.1 (.int .i64 (-q)))
        go_roundw
        case rel => exact ⟨2, by omega, rfl, GG, j0, j1, j2, by simp only [sidesK, sidesS, l1, l2]; exact j3⟩
        case measure => simp [intOf]
    · skip
      have s0 := cell_of_block (i := 0) r3 rfl
      haveI := in_of_cell s0
      go_wp2_with fail
      refine wp_region_ext ?_ ?_ ?_
      · kernel_rfl
      · kernel_rfl
      repeat (go_big_quiet_step (first | (go_at_call 263; with_reducible exact ext_call (AX2.out _)) | (go_at_call 263; with_reducible exact ext_call (AW2.out _))))
      refine wpQuiet_nil ?_
      rintro w1 ⟨_t, hw⟩
      have hc1 := named_cell hw
      have hz1 := named_frozen hw
      have hh1 := named_heap hw
      haveI hi1 := named_in hw
      haveI hb1 := named_below (w := w4) hw
      clear hw
      obtain ⟨B1⟩ := hb1
      have f0 := (B1.block q0 (lt_of_block r0)).trans r0
      have f1 := (B1.block q1 (lt_of_block r1)).trans r1
      have f2 := (B1.block q2 (lt_of_block r2)).trans r2
      have f3 := (B1.block q3 (lt_of_block r3)).trans r3
      have G1 := Lib.hid (GR.trans (B1.mono (by have := GR.size; omega)))
      have FR := Lib.hid (And.intro f0 (And.intro f1 (And.intro f2 f3)))
      have y0 := free_of_block 4 r3
      have x0 := cell_of_block (i := 4) r3 rfl
      have y1 := free_of_block 5 r3
      have x1 := cell_of_block (i := 5) r3 rfl
      haveI := in_of_cell x0
      clear r0 r1 r2 r3 GR f0 f1 f2 f3
      go_wp2_with (go_at_call 323; refine (frac_any _ _).mono ?_; rintro e w1 ⟨rfl, rfl⟩)
      · have h : 0 < r := by omega
        obtain ⟨f0, f1, f2, f3⟩ := FR.out
        have l1 : leftS c r = _ := leftS_pos h
        have l2 : speedS r = _ := speedS_pos h
        have j3 := (block_set (i := 5) (block_set (i := 4) (block_set (i := 5) (block_set (i := 4) f3 (.int .i64 (frS c)) (by simp [sidesK])) (.int .i64 (-r)) (by simp [sidesK])) (.int .i64 (65536 - frS c)) (by simp [sidesK])) (.int .i64 r) (by simp [sidesK]))
        have j0 := ((block_set_far (a := ⟨q3, 5, none⟩) (.int .i64 r) l0.2.2.1).trans ((block_set_far (a := ⟨q3, 4, none⟩) (.int .i64 (65536 - frS c)) l0.2.2.1).trans ((block_set_far (a := ⟨q3, 5, none⟩) (.int .i64 (-r)) l0.2.2.1).trans ((block_set_far (a := ⟨q3, 4, none⟩) (.int .i64 (frS c)) l0.2.2.1).trans f0))))
        have j1 := ((block_set_far (a := ⟨q3, 5, none⟩) (.int .i64 r) l0.2.2.2.1).trans ((block_set_far (a := ⟨q3, 4, none⟩) (.int .i64 (65536 - frS c)) l0.2.2.2.1).trans ((block_set_far (a := ⟨q3, 5, none⟩) (.int .i64 (-r)) l0.2.2.2.1).trans ((block_set_far (a := ⟨q3, 4, none⟩) (.int .i64 (frS c)) l0.2.2.2.1).trans f1))))
        have j2 := ((block_set_far (a := ⟨q3, 5, none⟩) (.int .i64 r) l0.2.2.2.2).trans ((block_set_far (a := ⟨q3, 4, none⟩) (.int .i64 (65536 - frS c)) l0.2.2.2.2).trans ((block_set_far (a := ⟨q3, 5, none⟩) (.int .i64 (-r)) l0.2.2.2.2).trans ((block_set_far (a := ⟨q3, 4, none⟩) (.int .i64 (frS c)) l0.2.2.2.2).trans f2))))
        have GG := (Below.setCell (Below.setCell (Below.setCell (Below.setCell G1.out (p := ⟨q3, 4, none⟩) l0.2.1 (.int .i64 (frS c))) (p := ⟨q3, 5, none⟩) l0.2.1 (.int .i64 (-r))) (p := ⟨q3, 4, none⟩) l0.2.1 (.int .i64 (65536 - frS c))) (p := ⟨q3, 5, none⟩) l0.2.1 (.int .i64 r))
        go_roundw
        case rel => exact ⟨3, by omega, rfl, GG, j0, j1, j2, by simp only [sidesK, sidesS, l1, l2]; exact j3⟩
        case measure => simp [intOf]
      · have h : ¬ 0 < r := by omega
        obtain ⟨f0, f1, f2, f3⟩ := FR.out
        have l1 : leftS c r = _ := leftS_neg h
        have l2 : speedS r = _ := speedS_neg h
        have j3 := (block_set (i := 5) (block_set (i := 4) f3 (.int .i64 (frS c)) (by simp [sidesK])) (.int .i64 (-r)) (by simp [sidesK]))
        have j0 := ((block_set_far (a := ⟨q3, 5, none⟩) (.int .i64 (-r)) l0.2.2.1).trans ((block_set_far (a := ⟨q3, 4, none⟩) (.int .i64 (frS c)) l0.2.2.1).trans f0))
        have j1 := ((block_set_far (a := ⟨q3, 5, none⟩) (.int .i64 (-r)) l0.2.2.2.1).trans ((block_set_far (a := ⟨q3, 4, none⟩) (.int .i64 (frS c)) l0.2.2.2.1).trans f1))
        have j2 := ((block_set_far (a := ⟨q3, 5, none⟩) (.int .i64 (-r)) l0.2.2.2.2).trans ((block_set_far (a := ⟨q3, 4, none⟩) (.int .i64 (frS c)) l0.2.2.2.2).trans f2))
        have GG := (Below.setCell (Below.setCell G1.out (p := ⟨q3, 4, none⟩) l0.2.1 (.int .i64 (frS c))) (p := ⟨q3, 5, none⟩) l0.2.1 (.int .i64 (-r)))
        go_roundw
        case rel => exact ⟨3, by omega, rfl, GG, j0, j1, j2, by simp only [sidesK, sidesS, l1, l2]; exact j3⟩
        case measure => simp [intOf]
    · have e3 : w4.heap[q3]? = some (.cells #[.int .i64 (leftS a p), .int .i64 (speedS p), .int .i64 (leftS b q), .int .i64 (speedS q), .int .i64 (leftS c r), .int .i64 (speedS r)] 323 (0, 0)) := r3
      have s0 := cell_of_block (i := 0) e3 rfl
      have t0 := cell_of_block (i := 0) r2 rfl
      have y0 := free_of_block 0 r2
      have s1 := cell_of_block (i := 1) e3 rfl
      have t1 := cell_of_block (i := 1) r2 rfl
      have y1 := free_of_block 1 r2
      have s2 := cell_of_block (i := 2) e3 rfl
      have t2 := cell_of_block (i := 2) r2 rfl
      have y2 := free_of_block 2 r2
      have s3 := cell_of_block (i := 3) e3 rfl
      have t3 := cell_of_block (i := 3) r2 rfl
      have y3 := free_of_block 3 r2
      have s4 := cell_of_block (i := 4) e3 rfl
      have t4 := cell_of_block (i := 4) r2 rfl
      have y4 := free_of_block 4 r2
      have s5 := cell_of_block (i := 5) e3 rfl
      have t5 := cell_of_block (i := 5) r2 rfl
      have y5 := free_of_block 5 r2
      haveI := in_of_cell s0
      haveI := in_of_cell t0
      go_wp2_with fail
      have j2 := (block_set (i := 5) (block_set (i := 4) (block_set (i := 3) (block_set (i := 2) (block_set (i := 1) (block_set (i := 0) r2 (.int .i64 (leftS a p)) (by simp)) (.int .i64 (speedS p)) (by simp)) (.int .i64 (leftS b q)) (by simp)) (.int .i64 (speedS q)) (by simp)) (.int .i64 (leftS c r)) (by simp)) (.int .i64 (speedS r)) (by simp))
      have GG := (Below.setCell (Below.setCell (Below.setCell (Below.setCell (Below.setCell (Below.setCell GR (p := ⟨q2, 0, none⟩) l0.1 (.int .i64 (leftS a p))) (p := ⟨q2, 1, none⟩) l0.1 (.int .i64 (speedS p))) (p := ⟨q2, 2, none⟩) l0.1 (.int .i64 (leftS b q))) (p := ⟨q2, 3, none⟩) l0.1 (.int .i64 (speedS q))) (p := ⟨q2, 4, none⟩) l0.1 (.int .i64 (leftS c r))) (p := ⟨q2, 5, none⟩) l0.1 (.int .i64 (speedS r)))
      generalize ((((((w4.setCell ⟨q2, 0, none⟩ (.int .i64 (leftS a p))).setCell ⟨q2, 1, none⟩ (.int .i64 (speedS p))).setCell ⟨q2, 2, none⟩ (.int .i64 (leftS b q))).setCell ⟨q2, 3, none⟩ (.int .i64 (speedS q))).setCell ⟨q2, 4, none⟩ (.int .i64 (leftS c r))).setCell ⟨q2, 5, none⟩ (.int .i64 (speedS r))) = w5 at *
      have d0 := cell_of_block (i := 0) j2 rfl
      have d1 := cell_of_block (i := 1) j2 rfl
      have d2 := cell_of_block (i := 2) j2 rfl
      have d3 := cell_of_block (i := 3) j2 rfl
      have d4 := cell_of_block (i := 4) j2 rfl
      have d5 := cell_of_block (i := 5) j2 rfl
      refine bodyPost_ret (by simp [results, Tryz.results270, go_sem, d0, d1, d2, d3, d4, d5]; try rfl) rfl ?_
      exact ⟨rfl, ext_of (hq0 ▸ GG)⟩
end Go.Proofs.YtnogfelfgclajaaGreatDoor
end

section
namespace Go.Proofs.YtnogfelfgclajaaGreatDoor
open Go.RowKit
attribute [local go_sem] ext_ext drew_ext ext_drew ext_cell ext_frozen in_lt in_le in_ne in_en in_ne1 in_en1 in_le1 in_ltn in_len in_nen in_enn size_le ite_max ite_min
set_option linter.unusedVariables false
set_option linter.unusedSimpArgs false
set_option maxRecDepth 1000000
attribute [local go_sem] calm calmUpon

theorem three (w : World) (c0 c1 c2 : Array Value) (t0 t1 t2 : TypeId) (W : World) (hW : W = ((w.alloc (.cells c0 t0)).alloc (.cells c1 t1)).alloc (.cells c2 t2)) :
    Below w.heap.size w W ∧ W.heap.size = w.heap.size + 1 + 1 + 1 ∧ W.heap[w.heap.size]? = some (.cells c0 t0) ∧ W.heap[w.heap.size + 1]? = some (.cells c1 t1) ∧ W.heap[w.heap.size + 1 + 1]? = some (.cells c2 t2) := by
  have B0 : Below w.heap.size w w := Below.refl _ _
  have h0 := heap_alloc_new w (.cells c0 t0)
  have z0 : (w.alloc (.cells c0 t0)).heap.size = w.heap.size + 1 := World.size_alloc ..
  have B1 := B0.alloc B0.size (.cells c0 t0)
  generalize w.alloc (.cells c0 t0) = u1 at *
  have h1 := heap_alloc_new u1 (.cells c1 t1)
  have h0 := (heap_alloc_old u1 (.cells c1 t1) (lt_of_block h0)).trans h0
  have z1 : (u1.alloc (.cells c1 t1)).heap.size = u1.heap.size + 1 := World.size_alloc ..
  have B2 := B1.alloc B1.size (.cells c1 t1)
  rw [z0] at z1 h1
  generalize u1.alloc (.cells c1 t1) = u2 at *
  have h2 := heap_alloc_new u2 (.cells c2 t2)
  have h0 := (heap_alloc_old u2 (.cells c2 t2) (lt_of_block h0)).trans h0
  have h1 := (heap_alloc_old u2 (.cells c2 t2) (lt_of_block h1)).trans h1
  have z2 : (u2.alloc (.cells c2 t2)).heap.size = u2.heap.size + 1 := World.size_alloc ..
  have B3 := B2.alloc B2.size (.cells c2 t2)
  rw [z1] at z2 h2
  generalize u2.alloc (.cells c2 t2) = u3 at *
  subst hW
  exact ⟨B3, z2, h0, h1, h2⟩
set_option maxHeartbeats 4000000 in
theorem trace_any (a b c p q r : Int) (w : World) (ha : fcS a = a) (hb : fcS b = b) (hc : fcS c = c) (hp : -1000000 ≤ p ∧ p ≤ 1000000) (hq : -1000000 ≤ q ∧ q ≤ 1000000) (hr : -1000000 ≤ r ∧ r ≤ 1000000) :
    Calls Tryz.prog 208 #[.agg #[.int .i64 a, .int .i64 b, .int .i64 c], .agg #[.int .i64 p, .int .i64 q, .int .i64 r], .int .i64 5] w fun e w' => e = .returned (.func (.func 269) #[] #[.pointer (some ⟨w.heap.size, 0, none⟩), .pointer (some ⟨w.heap.size + 1, 0, none⟩), .pointer (some ⟨w.heap.size + 1 + 1, 0, none⟩)]) ∧
      Below w.heap.size w w' ∧ w'.heap[w.heap.size]? = some (.cells #[.int .i64 a, .int .i64 b, .int .i64 c] 46 (0, 0)) ∧ w'.heap[w.heap.size + 1]? = some (.cells #[.int .i64 p, .int .i64 q, .int .i64 r] 46 (0, 0)) ∧ w'.heap[w.heap.size + 1 + 1]? = some (.cells #[.int .i64 5] 3 (0, 0)) := by
  have hmf : ∀ (fn : Fn) (first cap : Array Value) (w : World), (Instr.makeFunc fn first cap).run Tryz.prog w = .ok (.func fn first cap) w := fun _ _ _ _ => rfl
  have CV := Lib.hid (fun W => (show Calls Tryz.prog 267 #[.agg #[.int .i64 a, .int .i64 b, .int .i64 c]] W fun e w' => e = .returned (.agg #[.int .i64 a, .int .i64 b, .int .i64 c]) ∧ ∃ f, w' = ext W f from by have := vcut_any a b c W; rwa [ha, hb, hc] at this))
  have CW := Lib.hid (fun W => rcut_any p q r W hp hq hr)
  go_enter Tryz.func208, Tryz.ntmps208
  go_wp2_with fail
  obtain ⟨G0, Z0, b0, b1, b2⟩ := three w _ _ _ _ _ _ _ rfl
  generalize ((w.alloc (.cells #[.int .i64 a, .int .i64 b, .int .i64 c] 46)).alloc (.cells #[.int .i64 p, .int .i64 q, .int .i64 r] 46)).alloc (.cells #[.int .i64 5] 3) = w0 at *
  have l0 : w.heap.size ≤ w.heap.size ∧ w.heap.size ≤ w.heap.size + 1 ∧ w.heap.size ≤ w.heap.size + 1 + 1 ∧ w.heap.size ≠ w.heap.size + 1 ∧ w.heap.size ≠ w.heap.size + 1 + 1 ∧ w.heap.size + 1 ≠ w.heap.size + 1 + 1 := by omega
  clear Z0
  obtain ⟨q2, hq2⟩ : ∃ g, w.heap.size + 1 + 1 = g := ⟨_, rfl⟩
  rw [hq2] at b2 l0 ⊢
  obtain ⟨q1, hq1⟩ : ∃ g, w.heap.size + 1 = g := ⟨_, rfl⟩
  rw [hq1] at b1 l0 ⊢
  obtain ⟨q0, hq0⟩ : ∃ g, w.heap.size = g := ⟨_, rfl⟩
  rw [hq0] at b0 l0 ⊢
  have x0 := cell_of_block (i := 0) b0 rfl
  have x1 := cell_of_block (i := 1) b0 rfl
  have x2 := cell_of_block (i := 2) b0 rfl
  have y0 := cell_of_block (i := 0) b1 rfl
  have y1 := cell_of_block (i := 1) b1 rfl
  have y2 := cell_of_block (i := 2) b1 rfl
  have z0 := cell_of_block (i := 0) b2 rfl
  have fx0 := free_of_block 0 b0
  have fx1 := free_of_block 1 b0
  have fx2 := free_of_block 2 b0
  have fy0 := free_of_block 0 b1
  have fy1 := free_of_block 1 b1
  have fy2 := free_of_block 2 b1
  have fz0 := free_of_block 0 b2
  haveI := in_of_cell x0
  haveI := in_of_cell y0
  haveI := in_of_cell z0
  haveI : Nonempty (Below w.heap.size w w0) := ⟨G0⟩
  have n01 : q0 ≠ q1 := l0.2.2.2.1
  have n02 : q0 ≠ q2 := l0.2.2.2.2.1
  have n12 : q1 ≠ q2 := l0.2.2.2.2.2
  go_region_held3 (fun w' => w'.cell? ⟨q0, 0, none⟩ = some (.int .i64 a) ∧ w'.cell? ⟨q0, 1, none⟩ = some (.int .i64 b) ∧ w'.cell? ⟨q0, 2, none⟩ = some (.int .i64 c) ∧ w'.cell? ⟨q1, 0, none⟩ = some (.int .i64 p) ∧ w'.cell? ⟨q1, 1, none⟩ = some (.int .i64 q) ∧ w'.cell? ⟨q1, 2, none⟩ = some (.int .i64 r) ∧ w'.cell? ⟨q2, 0, none⟩ = some (.int .i64 5))
    (((try dsimp only); refine ⟨?_, ?_, ?_, ?_, ?_, ?_, ?_⟩ <;> go_simp))
    (first | (go_at_call 267; refine (CV.out _).mono ?_; rintro e w1 ⟨rfl, _t, hw⟩; (try haveI hb1_0 := named_below (w := w0) hw); have hc1 := named_cell hw; have hz1 := named_frozen hw; have hh1 := named_heap hw; haveI hi1 := named_in hw; haveI hb1 := named_below (w := w) hw; clear hw) | (go_at_call 268; refine (CW.out _).mono ?_; rintro e w2 ⟨rfl, _t, hw⟩; (try haveI hb2_0 := named_below (w := w0) hw); (try haveI hb2_1 := named_below (w := w1) hw); have hc2 := named_cell hw; have hz2 := named_frozen hw; have hh2 := named_heap hw; haveI hi2 := named_in hw; haveI hb2 := named_below (w := w) hw; clear hw))
  all_goals
    obtain ⟨B2⟩ := hb2_0
    have e0 := (B2.block q0 (lt_of_block b0)).trans b0
    have e1 := (B2.block q1 (lt_of_block b1)).trans b1
    have e2 := (B2.block q2 (lt_of_block b2)).trans b2
    have GB : Below q0 w w2 := hq0 ▸ (G0.trans (B2.mono G0.size))
    have j0 := ((block_set_far (a := ⟨q2, 0, none⟩) (.int .i64 5) n02).trans ((block_set_far (a := ⟨q1, 2, none⟩) (.int .i64 r) n01).trans ((block_set_far (a := ⟨q1, 1, none⟩) (.int .i64 q) n01).trans ((block_set_far (a := ⟨q1, 0, none⟩) (.int .i64 p) n01).trans (block_set (i := 2) (block_set (i := 1) (block_set (i := 0) e0 (.int .i64 a) (by simp)) (.int .i64 b) (by simp)) (.int .i64 c) (by simp))))))
    have j1 := ((block_set_far (a := ⟨q2, 0, none⟩) (.int .i64 5) n12).trans (block_set (i := 2) (block_set (i := 1) (block_set (i := 0) ((block_set_far (a := ⟨q0, 2, none⟩) (.int .i64 c) n01.symm).trans ((block_set_far (a := ⟨q0, 1, none⟩) (.int .i64 b) n01.symm).trans ((block_set_far (a := ⟨q0, 0, none⟩) (.int .i64 a) n01.symm).trans e1))) (.int .i64 p) (by simp)) (.int .i64 q) (by simp)) (.int .i64 r) (by simp)))
    have j2 := (block_set (i := 0) ((block_set_far (a := ⟨q1, 2, none⟩) (.int .i64 r) n12.symm).trans ((block_set_far (a := ⟨q1, 1, none⟩) (.int .i64 q) n12.symm).trans ((block_set_far (a := ⟨q1, 0, none⟩) (.int .i64 p) n12.symm).trans ((block_set_far (a := ⟨q0, 2, none⟩) (.int .i64 c) n02.symm).trans ((block_set_far (a := ⟨q0, 1, none⟩) (.int .i64 b) n02.symm).trans ((block_set_far (a := ⟨q0, 0, none⟩) (.int .i64 a) n02.symm).trans e2)))))) (.int .i64 5) (by simp))
    have GG := (Below.setCell (Below.setCell (Below.setCell (Below.setCell (Below.setCell (Below.setCell (Below.setCell GB (p := ⟨q0, 0, none⟩) l0.1 (.int .i64 a)) (p := ⟨q0, 1, none⟩) l0.1 (.int .i64 b)) (p := ⟨q0, 2, none⟩) l0.1 (.int .i64 c)) (p := ⟨q1, 0, none⟩) l0.2.1 (.int .i64 p)) (p := ⟨q1, 1, none⟩) l0.2.1 (.int .i64 q)) (p := ⟨q1, 2, none⟩) l0.2.1 (.int .i64 r)) (p := ⟨q2, 0, none⟩) l0.2.2.1 (.int .i64 5))
    generalize (((((((w2.setCell ⟨q0, 0, none⟩ (.int .i64 a)).setCell ⟨q0, 1, none⟩ (.int .i64 b)).setCell ⟨q0, 2, none⟩ (.int .i64 c)).setCell ⟨q1, 0, none⟩ (.int .i64 p)).setCell ⟨q1, 1, none⟩ (.int .i64 q)).setCell ⟨q1, 2, none⟩ (.int .i64 r)).setCell ⟨q2, 0, none⟩ (.int .i64 5)) = w5 at *
    go_wp2_with fail
    subst hq2 hq1 hq0
    go_ret
    exact ⟨rfl, GG, j0, j1, j2⟩
end Go.Proofs.YtnogfelfgclajaaGreatDoor
end
