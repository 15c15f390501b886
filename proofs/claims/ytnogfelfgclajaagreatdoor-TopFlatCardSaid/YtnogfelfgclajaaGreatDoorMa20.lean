/-
  The store: of the two slots of an id the one that holds the later record.
-/
import Derived.Test.YtnogfelfgclajaaGreatDoorMa15
section
namespace Go.Proofs.YtnogfelfgclajaaGreatDoor
open Go.RowKit
attribute [local go_sem] ext_ext drew_ext ext_drew ext_cell ext_frozen in_lt in_le in_ne in_en in_ne1 in_en1 in_le1 in_ltn in_len in_nen in_enn size_le ite_max ite_min
set_option linter.unusedVariables false
set_option linter.unusedSimpArgs false

theorem two_ix0 (a b : Int) (w : World) : (Instr.index 239 (.agg #[.int .i64 a, .int .i64 b]) (.int .i64 0)).run Tryz.prog w = .ok (.int .i64 a) w := by kernel_rfl
theorem two_ix1 (a b : Int) (w : World) : (Instr.index 239 (.agg #[.int .i64 a, .int .i64 b]) (.int .i64 1)).run Tryz.prog w = .ok (.int .i64 b) w := by kernel_rfl
attribute [local go_sem] two_ix0 two_ix1
set_option maxRecDepth 100000 in
set_option maxHeartbeats 8000000 in
theorem storeof_any (B d mb s : Nat) (D : Int → Option (List Nat)) (N : Nat) (id : Int) (r0 r1 : Option (Nat × List Nat)) (w : World) (h : DiskAt B w d mb D N) (hs : w.cell? ⟨s, 0, none⟩ = some (.pointer (some ⟨d, 0, none⟩)))
    (i0 : 0 ≤ id) (i1 : id ≤ 1099511627776) (k0 : D (2 * id) = blobOf r0) (k1 : D (2 * id + 1) = blobOf r1) (o0 : ∀ v x, r0 = some (v, x) → RecOk v x) (o1 : ∀ v x, r1 = some (v, x) → RecOk v x) :
    Calls Tryz.prog 137 #[.pointer (some ⟨s, 0, none⟩), .int .i64 id] w (OfDone (later id r0 r1) w) := by
  haveI := in_of_cell hs
  have HD := Lib.hid h
  clear h
  have nb0 : NoBytes ((w.alloc (.cells #[.int .i64 0, .int .i64 0, .slice none 0 0] 199)).alloc (.cells #[.int .i64 (2 * id + 1), .int .i64 0, .slice none 0 0] 199)) w.heap.size ∧ NoBytes ((w.alloc (.cells #[.int .i64 0, .int .i64 0, .slice none 0 0] 199)).alloc (.cells #[.int .i64 (2 * id + 1), .int .i64 0, .slice none 0 0] 199)) (w.heap.size + 1) :=
    ⟨(NoBytes.new rfl (no3 (fun _ h => by cases h) (fun _ h => by cases h) (fun _ h => by cases h))).old, NoBytes.new (by simp) (no3 (fun _ h => by cases h) (fun _ h => by cases h) (fun _ h => by cases h))⟩
  rcases r0 with _ | ⟨a, x⟩ <;> rcases r1 with _ | ⟨b, y⟩
  · -- 0 0
    clear o0 o1
    go_enter Tryz.func137, Tryz.ntmps137
    go_wp2_with fail
    refine wp_loop_rounds 3 ?_
    rw [rounds_succ]
    go_wp2_with fail
    refine (get_none B d mb D N _ _ (HD.out.grown (by exact grown_now)) k0).mono ?_
    rintro e w21 ⟨rfl, _t, hw⟩
    haveI hg21 := named_grown hw
    have nb21 : NoBytes w21 w.heap.size ∧ NoBytes w21 (w.heap.size + 1) := ⟨NoBytes.below hg21 (by repeat (first | with_reducible exact nb21.1 | with_reducible exact nb21.2 | with_reducible exact nb22.1 | with_reducible exact nb22.2 | with_reducible exact nb41.1 | with_reducible exact nb41.2 | with_reducible refine NoBytes.set ?_ (int_no _) | with_reducible refine NoBytes.set ?_ (slice_no _ _ _) | with_reducible exact nb0.1 | with_reducible exact nb0.2)), NoBytes.below hg21 (by repeat (first | with_reducible exact nb21.1 | with_reducible exact nb21.2 | with_reducible exact nb22.1 | with_reducible exact nb22.2 | with_reducible exact nb41.1 | with_reducible exact nb41.2 | with_reducible refine NoBytes.set ?_ (int_no _) | with_reducible refine NoBytes.set ?_ (slice_no _ _ _) | with_reducible exact nb0.1 | with_reducible exact nb0.2))⟩
    have hc21 := named_cell hw
    have hz21 := named_frozen hw
    have hh21 := named_heap hw
    haveI hi21 := named_in hw
    haveI hb21 := named_below (w := w) hw
    clear hw
    go_wp2_with (go_at_call 179; refine (storeread_nil _).mono ?_; rintro e w1 ⟨rfl, rfl⟩)
    rw [rounds_succ]
    go_wp2_with fail
    refine (get_none B d mb D N _ _ (HD.out.grown (by exact grown_now)) k1).mono ?_
    rintro e w41 ⟨rfl, _t, hw⟩
    haveI hg41 := named_grown hw
    have nb41 : NoBytes w41 w.heap.size ∧ NoBytes w41 (w.heap.size + 1) := ⟨NoBytes.below hg41 (by repeat (first | with_reducible exact nb21.1 | with_reducible exact nb21.2 | with_reducible exact nb22.1 | with_reducible exact nb22.2 | with_reducible exact nb41.1 | with_reducible exact nb41.2 | with_reducible refine NoBytes.set ?_ (int_no _) | with_reducible refine NoBytes.set ?_ (slice_no _ _ _) | with_reducible exact nb0.1 | with_reducible exact nb0.2)), NoBytes.below hg41 (by repeat (first | with_reducible exact nb21.1 | with_reducible exact nb21.2 | with_reducible exact nb22.1 | with_reducible exact nb22.2 | with_reducible exact nb41.1 | with_reducible exact nb41.2 | with_reducible refine NoBytes.set ?_ (int_no _) | with_reducible refine NoBytes.set ?_ (slice_no _ _ _) | with_reducible exact nb0.1 | with_reducible exact nb0.2))⟩
    have hc41 := named_cell hw
    have hz41 := named_frozen hw
    have hh41 := named_heap hw
    haveI hi41 := named_in hw
    haveI hb41 := named_below (w := w) hw
    clear hw
    go_wp2_with (go_at_call 179; refine (storeread_nil _).mono ?_; rintro e w1 ⟨rfl, rfl⟩)
    all_goals
      rw [rounds_succ]
      go_wp2_with fail
      (try simp only [Exit.inBlock, Exit.then])
      refine bodyPost_ret (by simp [results, Tryz.results137, go_sem, hc21, hc41]; try rfl) rfl ?_
      exact ⟨_, rfl, .inl ⟨rfl, rfl⟩, grown_of⟩
  · -- 0 1
    obtain ⟨bl, bh, bp, bm, by1⟩ := o1 b y rfl
    have nc : (1 : Int) ≤ (b : Int) := by omega
    have nd : (b : Int) ≤ 1000 := by omega
    clear o0 o1
    go_enter Tryz.func137, Tryz.ntmps137
    go_wp2_with fail
    refine wp_loop_rounds 3 ?_
    rw [rounds_succ]
    go_wp2_with fail
    refine (get_none B d mb D N _ _ (HD.out.grown (by exact grown_now)) k0).mono ?_
    rintro e w21 ⟨rfl, _t, hw⟩
    haveI hg21 := named_grown hw
    have nb21 : NoBytes w21 w.heap.size ∧ NoBytes w21 (w.heap.size + 1) := ⟨NoBytes.below hg21 (by repeat (first | with_reducible exact nb21.1 | with_reducible exact nb21.2 | with_reducible exact nb22.1 | with_reducible exact nb22.2 | with_reducible exact nb41.1 | with_reducible exact nb41.2 | with_reducible refine NoBytes.set ?_ (int_no _) | with_reducible refine NoBytes.set ?_ (slice_no _ _ _) | with_reducible exact nb0.1 | with_reducible exact nb0.2)), NoBytes.below hg21 (by repeat (first | with_reducible exact nb21.1 | with_reducible exact nb21.2 | with_reducible exact nb22.1 | with_reducible exact nb22.2 | with_reducible exact nb41.1 | with_reducible exact nb41.2 | with_reducible refine NoBytes.set ?_ (int_no _) | with_reducible refine NoBytes.set ?_ (slice_no _ _ _) | with_reducible exact nb0.1 | with_reducible exact nb0.2))⟩
    have hc21 := named_cell hw
    have hz21 := named_frozen hw
    have hh21 := named_heap hw
    haveI hi21 := named_in hw
    haveI hb21 := named_below (w := w) hw
    clear hw
    go_wp2_with (go_at_call 179; refine (storeread_nil _).mono ?_; rintro e w1 ⟨rfl, rfl⟩)
    rw [rounds_succ]
    go_wp2_with fail
    refine (get_some B d mb D N _ _ _ (HD.out.grown (by exact grown_now)) k1).mono ?_
    rintro e w41 ⟨v41, rfl, ho41, _t, hw⟩
    haveI hg41 := named_grown hw
    have nb41 : NoBytes w41 w.heap.size ∧ NoBytes w41 (w.heap.size + 1) := ⟨NoBytes.below hg41 (by repeat (first | with_reducible exact nb21.1 | with_reducible exact nb21.2 | with_reducible exact nb22.1 | with_reducible exact nb22.2 | with_reducible exact nb41.1 | with_reducible exact nb41.2 | with_reducible refine NoBytes.set ?_ (int_no _) | with_reducible refine NoBytes.set ?_ (slice_no _ _ _) | with_reducible exact nb0.1 | with_reducible exact nb0.2)), NoBytes.below hg41 (by repeat (first | with_reducible exact nb21.1 | with_reducible exact nb21.2 | with_reducible exact nb22.1 | with_reducible exact nb22.2 | with_reducible exact nb41.1 | with_reducible exact nb41.2 | with_reducible refine NoBytes.set ?_ (int_no _) | with_reducible refine NoBytes.set ?_ (slice_no _ _ _) | with_reducible exact nb0.1 | with_reducible exact nb0.2))⟩
    have hc41 := named_cell hw
    have hz41 := named_frozen hw
    have hh41 := named_heap hw
    haveI hi41 := named_in hw
    haveI hb41 := named_below (w := w) hw
    clear hw
    obtain ⟨g41, c41, rfl, _t, hn4, _t, _t⟩ := owns_some ho41 (by rw [blobW_len]; omega)
    have TK4 := storeread_any b y g41 0 c41 w41 (by omega) (by omega) (by omega) (by omega) hn4 (by first | exact by0 | exact by1) (owns_bytes ho41)
    clear ho41
    go_wp2_with fail
    refine TK4.mono ?_
    rintro e w42 ⟨g42, o42, c42, rfl, hc4x, hb4x, _t, hw⟩
    haveI hg42 := named_grown hw
    have nb42 : NoBytes w42 w.heap.size ∧ NoBytes w42 (w.heap.size + 1) := ⟨NoBytes.below hg42 (by repeat (first | with_reducible exact nb21.1 | with_reducible exact nb21.2 | with_reducible exact nb22.1 | with_reducible exact nb22.2 | with_reducible exact nb41.1 | with_reducible exact nb41.2 | with_reducible refine NoBytes.set ?_ (int_no _) | with_reducible refine NoBytes.set ?_ (slice_no _ _ _) | with_reducible exact nb0.1 | with_reducible exact nb0.2)), NoBytes.below hg42 (by repeat (first | with_reducible exact nb21.1 | with_reducible exact nb21.2 | with_reducible exact nb22.1 | with_reducible exact nb22.2 | with_reducible exact nb41.1 | with_reducible exact nb41.2 | with_reducible refine NoBytes.set ?_ (int_no _) | with_reducible refine NoBytes.set ?_ (slice_no _ _ _) | with_reducible exact nb0.1 | with_reducible exact nb0.2))⟩
    have hc42 := named_cell hw
    have hz42 := named_frozen hw
    have hh42 := named_heap hw
    haveI hi42 := named_in hw
    haveI hb42 := named_below (w := w) hw
    have HY4 := Lib.hid hb4x
    clear hw TK4 hb4x
    have NB4 := Lib.hid (show ¬ g42 = w.heap.size ∧ ¬ g42 = w.heap.size + 1 from ⟨nb42.1.ne HY4.out (by omega), nb42.2.ne HY4.out (by omega)⟩)
    go_wp2_with fail
    all_goals
      rw [rounds_succ]
      go_wp2_with fail
      (try simp only [Exit.inBlock, Exit.then])
      refine bodyPost_ret (by simp [results, Tryz.results137, go_sem, hc21, hc41, hc42]; try rfl) rfl ?_
      exact ⟨_, rfl, .inr ⟨bp, _, _, _, rfl, hc4x, (by repeat (first | with_reducible exact HY4.out | with_reducible refine BytesAt.set ?_ (by first | exact NB4.out.1 | exact NB4.out.2) | exact HY4.out))⟩, grown_of⟩
  · -- 1 0
    obtain ⟨al, ah, ap, am, by0⟩ := o0 a x rfl
    have na : (1 : Int) ≤ (a : Int) := by omega
    have nb : (a : Int) ≤ 1000 := by omega
    clear o0 o1
    go_enter Tryz.func137, Tryz.ntmps137
    go_wp2_with fail
    refine wp_loop_rounds 3 ?_
    rw [rounds_succ]
    go_wp2_with fail
    refine (get_some B d mb D N _ _ _ (HD.out.grown (by exact grown_now)) k0).mono ?_
    rintro e w21 ⟨v21, rfl, ho21, _t, hw⟩
    haveI hg21 := named_grown hw
    have nb21 : NoBytes w21 w.heap.size ∧ NoBytes w21 (w.heap.size + 1) := ⟨NoBytes.below hg21 (by repeat (first | with_reducible exact nb21.1 | with_reducible exact nb21.2 | with_reducible exact nb22.1 | with_reducible exact nb22.2 | with_reducible exact nb41.1 | with_reducible exact nb41.2 | with_reducible refine NoBytes.set ?_ (int_no _) | with_reducible refine NoBytes.set ?_ (slice_no _ _ _) | with_reducible exact nb0.1 | with_reducible exact nb0.2)), NoBytes.below hg21 (by repeat (first | with_reducible exact nb21.1 | with_reducible exact nb21.2 | with_reducible exact nb22.1 | with_reducible exact nb22.2 | with_reducible exact nb41.1 | with_reducible exact nb41.2 | with_reducible refine NoBytes.set ?_ (int_no _) | with_reducible refine NoBytes.set ?_ (slice_no _ _ _) | with_reducible exact nb0.1 | with_reducible exact nb0.2))⟩
    have hc21 := named_cell hw
    have hz21 := named_frozen hw
    have hh21 := named_heap hw
    haveI hi21 := named_in hw
    haveI hb21 := named_below (w := w) hw
    clear hw
    obtain ⟨g21, c21, rfl, _t, hn2, _t, _t⟩ := owns_some ho21 (by rw [blobW_len]; omega)
    have TK2 := storeread_any a x g21 0 c21 w21 (by omega) (by omega) (by omega) (by omega) hn2 (by first | exact by0 | exact by1) (owns_bytes ho21)
    clear ho21
    go_wp2_with fail
    refine TK2.mono ?_
    rintro e w22 ⟨g22, o22, c22, rfl, hc2x, hb2x, _t, hw⟩
    haveI hg22 := named_grown hw
    have nb22 : NoBytes w22 w.heap.size ∧ NoBytes w22 (w.heap.size + 1) := ⟨NoBytes.below hg22 (by repeat (first | with_reducible exact nb21.1 | with_reducible exact nb21.2 | with_reducible exact nb22.1 | with_reducible exact nb22.2 | with_reducible exact nb41.1 | with_reducible exact nb41.2 | with_reducible refine NoBytes.set ?_ (int_no _) | with_reducible refine NoBytes.set ?_ (slice_no _ _ _) | with_reducible exact nb0.1 | with_reducible exact nb0.2)), NoBytes.below hg22 (by repeat (first | with_reducible exact nb21.1 | with_reducible exact nb21.2 | with_reducible exact nb22.1 | with_reducible exact nb22.2 | with_reducible exact nb41.1 | with_reducible exact nb41.2 | with_reducible refine NoBytes.set ?_ (int_no _) | with_reducible refine NoBytes.set ?_ (slice_no _ _ _) | with_reducible exact nb0.1 | with_reducible exact nb0.2))⟩
    have hc22 := named_cell hw
    have hz22 := named_frozen hw
    have hh22 := named_heap hw
    haveI hi22 := named_in hw
    haveI hb22 := named_below (w := w) hw
    have HY2 := Lib.hid hb2x
    clear hw TK2 hb2x
    have NB2 := Lib.hid (show ¬ g22 = w.heap.size ∧ ¬ g22 = w.heap.size + 1 from ⟨nb22.1.ne HY2.out (by omega), nb22.2.ne HY2.out (by omega)⟩)
    go_wp2_with fail
    rw [rounds_succ]
    go_wp2_with fail
    refine (get_none B d mb D N _ _ (HD.out.grown (by exact grown_now)) k1).mono ?_
    rintro e w41 ⟨rfl, _t, hw⟩
    haveI hg41 := named_grown hw
    have nb41 : NoBytes w41 w.heap.size ∧ NoBytes w41 (w.heap.size + 1) := ⟨NoBytes.below hg41 (by repeat (first | with_reducible exact nb21.1 | with_reducible exact nb21.2 | with_reducible exact nb22.1 | with_reducible exact nb22.2 | with_reducible exact nb41.1 | with_reducible exact nb41.2 | with_reducible refine NoBytes.set ?_ (int_no _) | with_reducible refine NoBytes.set ?_ (slice_no _ _ _) | with_reducible exact nb0.1 | with_reducible exact nb0.2)), NoBytes.below hg41 (by repeat (first | with_reducible exact nb21.1 | with_reducible exact nb21.2 | with_reducible exact nb22.1 | with_reducible exact nb22.2 | with_reducible exact nb41.1 | with_reducible exact nb41.2 | with_reducible refine NoBytes.set ?_ (int_no _) | with_reducible refine NoBytes.set ?_ (slice_no _ _ _) | with_reducible exact nb0.1 | with_reducible exact nb0.2))⟩
    have hc41 := named_cell hw
    have hz41 := named_frozen hw
    have hh41 := named_heap hw
    haveI hi41 := named_in hw
    haveI hb41 := named_below (w := w) hw
    have q410 : w41.cell? ⟨w.heap.size + 1, 0, none⟩ = some (.int .i64 (2 * id)) := (hc41 _ 0).trans (by go_simp)
    have q411 : w41.cell? ⟨w.heap.size + 1, 1, none⟩ = some (.int .i64 (a : Int)) := (hc41 _ 1).trans (by go_simp)
    have q412 : w41.cell? ⟨w.heap.size + 1, 2, none⟩ = some (.slice (some ⟨g22, o22, none⟩) x.length c22) := (hc41 _ 2).trans (by go_simp)
    have p410 : w41.cell? ⟨w.heap.size, 0, none⟩ = some (.int .i64 0) := (hc41 _ 0).trans (by go_simp)
    have p411 : w41.cell? ⟨w.heap.size, 1, none⟩ = some (.int .i64 0) := (hc41 _ 1).trans (by go_simp)
    have p412 : w41.cell? ⟨w.heap.size, 2, none⟩ = some (.slice none 0 0) := (hc41 _ 2).trans (by go_simp)
    clear hw
    go_wp2_with (go_at_call 179; refine (storeread_nil _).mono ?_; rintro e w1 ⟨rfl, rfl⟩)
    all_goals
      rw [rounds_succ]
      go_wp2_with fail
      (try simp only [Exit.inBlock, Exit.then])
      refine bodyPost_ret (by simp [results, Tryz.results137, go_sem, hc21, hc22, hc41]; try rfl) rfl ?_
      have HF1 := BytesAt.grown (W := w41) (BytesAt.set (i := 2) (v := .slice (some ⟨g22, o22, none⟩) x.length c22) (BytesAt.set (i := 1) (v := .int .i64 (a : Int)) (BytesAt.set (i := 0) (v := .int .i64 (2 * id)) HY2.out NB2.out.2) NB2.out.2) NB2.out.2) (grown_of (W := w41))
      have HF2 := Lib.hid (HF1)
      exact ⟨_, rfl, .inr ⟨ap, _, _, _, rfl, hc2x, (by repeat (first | with_reducible exact HF2.out | with_reducible refine BytesAt.set ?_ (by first | exact NB2.out.1 | exact NB2.out.2) | exact HF2.out))⟩, grown_of⟩
  · -- 1 1
    obtain ⟨al, ah, ap, am, by0⟩ := o0 a x rfl
    have na : (1 : Int) ≤ (a : Int) := by omega
    have nb : (a : Int) ≤ 1000 := by omega
    obtain ⟨bl, bh, bp, bm, by1⟩ := o1 b y rfl
    have nc : (1 : Int) ≤ (b : Int) := by omega
    have nd : (b : Int) ≤ 1000 := by omega
    clear o0 o1
    go_enter Tryz.func137, Tryz.ntmps137
    go_wp2_with fail
    refine wp_loop_rounds 3 ?_
    rw [rounds_succ]
    go_wp2_with fail
    refine (get_some B d mb D N _ _ _ (HD.out.grown (by exact grown_now)) k0).mono ?_
    rintro e w21 ⟨v21, rfl, ho21, _t, hw⟩
    haveI hg21 := named_grown hw
    have nb21 : NoBytes w21 w.heap.size ∧ NoBytes w21 (w.heap.size + 1) := ⟨NoBytes.below hg21 (by repeat (first | with_reducible exact nb21.1 | with_reducible exact nb21.2 | with_reducible exact nb22.1 | with_reducible exact nb22.2 | with_reducible exact nb41.1 | with_reducible exact nb41.2 | with_reducible refine NoBytes.set ?_ (int_no _) | with_reducible refine NoBytes.set ?_ (slice_no _ _ _) | with_reducible exact nb0.1 | with_reducible exact nb0.2)), NoBytes.below hg21 (by repeat (first | with_reducible exact nb21.1 | with_reducible exact nb21.2 | with_reducible exact nb22.1 | with_reducible exact nb22.2 | with_reducible exact nb41.1 | with_reducible exact nb41.2 | with_reducible refine NoBytes.set ?_ (int_no _) | with_reducible refine NoBytes.set ?_ (slice_no _ _ _) | with_reducible exact nb0.1 | with_reducible exact nb0.2))⟩
    have hc21 := named_cell hw
    have hz21 := named_frozen hw
    have hh21 := named_heap hw
    haveI hi21 := named_in hw
    haveI hb21 := named_below (w := w) hw
    clear hw
    obtain ⟨g21, c21, rfl, _t, hn2, _t, _t⟩ := owns_some ho21 (by rw [blobW_len]; omega)
    have TK2 := storeread_any a x g21 0 c21 w21 (by omega) (by omega) (by omega) (by omega) hn2 (by first | exact by0 | exact by1) (owns_bytes ho21)
    clear ho21
    go_wp2_with fail
    refine TK2.mono ?_
    rintro e w22 ⟨g22, o22, c22, rfl, hc2x, hb2x, _t, hw⟩
    haveI hg22 := named_grown hw
    have nb22 : NoBytes w22 w.heap.size ∧ NoBytes w22 (w.heap.size + 1) := ⟨NoBytes.below hg22 (by repeat (first | with_reducible exact nb21.1 | with_reducible exact nb21.2 | with_reducible exact nb22.1 | with_reducible exact nb22.2 | with_reducible exact nb41.1 | with_reducible exact nb41.2 | with_reducible refine NoBytes.set ?_ (int_no _) | with_reducible refine NoBytes.set ?_ (slice_no _ _ _) | with_reducible exact nb0.1 | with_reducible exact nb0.2)), NoBytes.below hg22 (by repeat (first | with_reducible exact nb21.1 | with_reducible exact nb21.2 | with_reducible exact nb22.1 | with_reducible exact nb22.2 | with_reducible exact nb41.1 | with_reducible exact nb41.2 | with_reducible refine NoBytes.set ?_ (int_no _) | with_reducible refine NoBytes.set ?_ (slice_no _ _ _) | with_reducible exact nb0.1 | with_reducible exact nb0.2))⟩
    have hc22 := named_cell hw
    have hz22 := named_frozen hw
    have hh22 := named_heap hw
    haveI hi22 := named_in hw
    haveI hb22 := named_below (w := w) hw
    have HY2 := Lib.hid hb2x
    clear hw TK2 hb2x
    have NB2 := Lib.hid (show ¬ g22 = w.heap.size ∧ ¬ g22 = w.heap.size + 1 from ⟨nb22.1.ne HY2.out (by omega), nb22.2.ne HY2.out (by omega)⟩)
    go_wp2_with fail
    rw [rounds_succ]
    go_wp2_with fail
    refine (get_some B d mb D N _ _ _ (HD.out.grown (by exact grown_now)) k1).mono ?_
    rintro e w41 ⟨v41, rfl, ho41, _t, hw⟩
    haveI hg41 := named_grown hw
    have nb41 : NoBytes w41 w.heap.size ∧ NoBytes w41 (w.heap.size + 1) := ⟨NoBytes.below hg41 (by repeat (first | with_reducible exact nb21.1 | with_reducible exact nb21.2 | with_reducible exact nb22.1 | with_reducible exact nb22.2 | with_reducible exact nb41.1 | with_reducible exact nb41.2 | with_reducible refine NoBytes.set ?_ (int_no _) | with_reducible refine NoBytes.set ?_ (slice_no _ _ _) | with_reducible exact nb0.1 | with_reducible exact nb0.2)), NoBytes.below hg41 (by repeat (first | with_reducible exact nb21.1 | with_reducible exact nb21.2 | with_reducible exact nb22.1 | with_reducible exact nb22.2 | with_reducible exact nb41.1 | with_reducible exact nb41.2 | with_reducible refine NoBytes.set ?_ (int_no _) | with_reducible refine NoBytes.set ?_ (slice_no _ _ _) | with_reducible exact nb0.1 | with_reducible exact nb0.2))⟩
    have hc41 := named_cell hw
    have hz41 := named_frozen hw
    have hh41 := named_heap hw
    haveI hi41 := named_in hw
    haveI hb41 := named_below (w := w) hw
    have q410 : w41.cell? ⟨w.heap.size + 1, 0, none⟩ = some (.int .i64 (2 * id)) := (hc41 _ 0).trans (by go_simp)
    have q411 : w41.cell? ⟨w.heap.size + 1, 1, none⟩ = some (.int .i64 (a : Int)) := (hc41 _ 1).trans (by go_simp)
    have q412 : w41.cell? ⟨w.heap.size + 1, 2, none⟩ = some (.slice (some ⟨g22, o22, none⟩) x.length c22) := (hc41 _ 2).trans (by go_simp)
    have p410 : w41.cell? ⟨w.heap.size, 0, none⟩ = some (.int .i64 0) := (hc41 _ 0).trans (by go_simp)
    have p411 : w41.cell? ⟨w.heap.size, 1, none⟩ = some (.int .i64 0) := (hc41 _ 1).trans (by go_simp)
    have p412 : w41.cell? ⟨w.heap.size, 2, none⟩ = some (.slice none 0 0) := (hc41 _ 2).trans (by go_simp)
    clear hw
    obtain ⟨g41, c41, rfl, _t, hn4, _t, _t⟩ := owns_some ho41 (by rw [blobW_len]; omega)
    have TK4 := storeread_any b y g41 0 c41 w41 (by omega) (by omega) (by omega) (by omega) hn4 (by first | exact by0 | exact by1) (owns_bytes ho41)
    clear ho41
    go_wp2_with fail
    refine TK4.mono ?_
    rintro e w42 ⟨g42, o42, c42, rfl, hc4x, hb4x, _t, hw⟩
    haveI hg42 := named_grown hw
    have nb42 : NoBytes w42 w.heap.size ∧ NoBytes w42 (w.heap.size + 1) := ⟨NoBytes.below hg42 (by repeat (first | with_reducible exact nb21.1 | with_reducible exact nb21.2 | with_reducible exact nb22.1 | with_reducible exact nb22.2 | with_reducible exact nb41.1 | with_reducible exact nb41.2 | with_reducible refine NoBytes.set ?_ (int_no _) | with_reducible refine NoBytes.set ?_ (slice_no _ _ _) | with_reducible exact nb0.1 | with_reducible exact nb0.2)), NoBytes.below hg42 (by repeat (first | with_reducible exact nb21.1 | with_reducible exact nb21.2 | with_reducible exact nb22.1 | with_reducible exact nb22.2 | with_reducible exact nb41.1 | with_reducible exact nb41.2 | with_reducible refine NoBytes.set ?_ (int_no _) | with_reducible refine NoBytes.set ?_ (slice_no _ _ _) | with_reducible exact nb0.1 | with_reducible exact nb0.2))⟩
    have hc42 := named_cell hw
    have hz42 := named_frozen hw
    have hh42 := named_heap hw
    haveI hi42 := named_in hw
    haveI hb42 := named_below (w := w) hw
    have q420 : w42.cell? ⟨w.heap.size + 1, 0, none⟩ = some (.int .i64 (2 * id)) := (hc42 _ 0).trans (by go_simp)
    have q421 : w42.cell? ⟨w.heap.size + 1, 1, none⟩ = some (.int .i64 (a : Int)) := (hc42 _ 1).trans (by go_simp)
    have q422 : w42.cell? ⟨w.heap.size + 1, 2, none⟩ = some (.slice (some ⟨g22, o22, none⟩) x.length c22) := (hc42 _ 2).trans (by go_simp)
    have p420 : w42.cell? ⟨w.heap.size, 0, none⟩ = some (.int .i64 0) := (hc42 _ 0).trans (by go_simp)
    have p421 : w42.cell? ⟨w.heap.size, 1, none⟩ = some (.int .i64 0) := (hc42 _ 1).trans (by go_simp)
    have p422 : w42.cell? ⟨w.heap.size, 2, none⟩ = some (.slice none 0 0) := (hc42 _ 2).trans (by go_simp)
    clear hc42 hc41
    have HY4 := Lib.hid hb4x
    clear hw TK4 hb4x
    have NB4 := Lib.hid (show ¬ g42 = w.heap.size ∧ ¬ g42 = w.heap.size + 1 from ⟨nb42.1.ne HY4.out (by omega), nb42.2.ne HY4.out (by omega)⟩)
    go_wp2_with fail
    all_goals
      rw [rounds_succ]
      go_wp2_with fail
      (try simp only [Exit.inBlock, Exit.then])
      refine bodyPost_ret (by simp [results, Tryz.results137, go_sem, p420, p421, p422]; try rfl) rfl ?_
      have HF1 := BytesAt.grown (W := w41) (BytesAt.set (i := 2) (v := .slice (some ⟨g22, o22, none⟩) x.length c22) (BytesAt.set (i := 1) (v := .int .i64 (a : Int)) (BytesAt.set (i := 0) (v := .int .i64 (2 * id)) HY2.out NB2.out.2) NB2.out.2) NB2.out.2) (grown_of (W := w41))
      have HF2 := Lib.hid (HF1.grown (grown_of (w := w41) (W := w42)))
      first
        | (have hlt : a < b := by omega
           rw [show later id (some (a, x)) (some (b, y)) = (2 * id + 1, b, y) by simp [later, hlt]]
           exact ⟨_, rfl, .inr ⟨bp, _, _, _, rfl, hc4x, (by repeat (first | with_reducible exact HY4.out | with_reducible refine BytesAt.set ?_ (by first | exact NB4.out.1 | exact NB4.out.2) | exact HY4.out))⟩, grown_of⟩)
        | (have hlt : ¬ a < b := by omega
           rw [show later id (some (a, x)) (some (b, y)) = (2 * id, a, x) by simp [later, hlt]]
           exact ⟨_, rfl, .inr ⟨ap, _, _, _, rfl, hc2x, (by repeat (first | with_reducible exact HF2.out | with_reducible refine BytesAt.set ?_ (by first | exact NB2.out.1 | exact NB2.out.2) | exact HF2.out))⟩, grown_of⟩)
end Go.Proofs.YtnogfelfgclajaaGreatDoor
end
