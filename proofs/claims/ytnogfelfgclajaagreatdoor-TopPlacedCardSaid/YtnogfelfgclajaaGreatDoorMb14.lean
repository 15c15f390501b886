/-
  The store: of the two slots of an id the one that holds the later record.
  The store: an id's record loaded; a record saved.
  A table: a chunk saved; room made.
-/
import Derived.Test.YtnogfelfgclajaaGreatDoorMb10
import Derived.Test.YtnogfelfgclajaaGreatDoorMb11
import Derived.Test.YtnogfelfgclajaaGreatDoorMb13
section
namespace Go.Proofs.YtnogfelfgclajaaGreatDoor
open Go.RowKit
attribute [local go_sem] ext_ext drew_ext ext_drew ext_cell ext_frozen in_lt in_le in_ne in_en in_ne1 in_en1 in_le1 in_ltn in_len in_nen in_enn size_le ite_max ite_min
set_option linter.unusedVariables false
set_option linter.unusedSimpArgs false

theorem two_ix0 (a b : Int) (w : World) : (Instr.index 239 (.agg #[.int .i64 a, .int .i64 b]) (.int .i64 0)).run Tryz.prog w = .ok (.int .i64 a) w := by kernel_rfl
theorem two_ix1 (a b : Int) (w : World) : (Instr.index 239 (.agg #[.int .i64 a, .int .i64 b]) (.int .i64 1)).run Tryz.prog w = .ok (.int .i64 b) w := by kernel_rfl
attribute [local go_sem] two_ix0 two_ix1
set_option maxRecDepth 100000 in
set_option maxHeartbeats 8000000 in
theorem storeof_any (B d mb s : Nat) (D : Int → Option (List Nat)) (N : Nat) (id : Int) (r0 r1 : Option (Nat × List Nat)) (w : World) (h : DiskAt B w d mb D N) (hs : w.cell? ⟨s, 0, none⟩ = some (.pointer (some ⟨d, 0, none⟩)))
    (i0 : 0 ≤ id) (i1 : id ≤ 1099511627776) (k0 : D (2 * id) = blobOf r0) (k1 : D (2 * id + 1) = blobOf r1) (o0 : ∀ v x, r0 = some (v, x) → RecOk v x) (o1 : ∀ v x, r1 = some (v, x) → RecOk v x) :
    Calls Tryz.prog 137 #[.pointer (some ⟨s, 0, none⟩), .int .i64 id] w (OfDone (later id r0 r1) w) := by
  haveI := in_of_cell hs
  have HD := Lib.hid h
  clear h
  have nb0 : NoBytes ((w.alloc (.cells #[.int .i64 0, .int .i64 0, .slice none 0 0] 199)).alloc (.cells #[.int .i64 (2 * id + 1), .int .i64 0, .slice none 0 0] 199)) w.heap.size ∧ NoBytes ((w.alloc (.cells #[.int .i64 0, .int .i64 0, .slice none 0 0] 199)).alloc (.cells #[.int .i64 (2 * id + 1), .int .i64 0, .slice none 0 0] 199)) (w.heap.size + 1) :=
    ⟨(NoBytes.new rfl (no3 (fun _ h => by cases h) (fun _ h => by cases h) (fun _ h => by cases h))).old, NoBytes.new (by simp) (no3 (fun _ h => by cases h) (fun _ h => by cases h) (fun _ h => by cases h))⟩
  rcases r0 with _ | ⟨a, x⟩ <;> rcases r1 with _ | ⟨b, y⟩
  · -- 0 0
    clear o0 o1
    go_enter Tryz.func137, Tryz.ntmps137
    go_wp2_with fail
    refine wp_loop_rounds 3 ?_
    rw [rounds_succ]
    go_wp2_with fail
    refine (get_none B d mb D N _ _ (HD.out.grown (by exact grown_now)) k0).mono ?_
    rintro e w21 ⟨rfl, _t, hw⟩
    haveI hg21 := named_grown hw
    have nb21 : NoBytes w21 w.heap.size ∧ NoBytes w21 (w.heap.size + 1) := ⟨NoBytes.below hg21 (by repeat (first | with_reducible exact nb21.1 | with_reducible exact nb21.2 | with_reducible exact nb22.1 | with_reducible exact nb22.2 | with_reducible exact nb41.1 | with_reducible exact nb41.2 | with_reducible refine NoBytes.set ?_ (int_no _) | with_reducible refine NoBytes.set ?_ (slice_no _ _ _) | with_reducible exact nb0.1 | with_reducible exact nb0.2)), NoBytes.below hg21 (by repeat (first | with_reducible exact nb21.1 | with_reducible exact nb21.2 | with_reducible exact nb22.1 | with_reducible exact nb22.2 | with_reducible exact nb41.1 | with_reducible exact nb41.2 | with_reducible refine NoBytes.set ?_ (int_no _) | with_reducible refine NoBytes.set ?_ (slice_no _ _ _) | with_reducible exact nb0.1 | with_reducible exact nb0.2))⟩
    have hc21 := named_cell hw
    have hz21 := named_frozen hw
    have hh21 := named_heap hw
    haveI hi21 := named_in hw
    haveI hb21 := named_below (w := w) hw
    clear hw
    go_wp2_with (go_at_call 179; refine (storeread_nil _).mono ?_; rintro e w1 ⟨rfl, rfl⟩)
    rw [rounds_succ]
    go_wp2_with fail
    refine (get_none B d mb D N _ _ (HD.out.grown (by exact grown_now)) k1).mono ?_
    rintro e w41 ⟨rfl, _t, hw⟩
    haveI hg41 := named_grown hw
    have nb41 : NoBytes w41 w.heap.size ∧ NoBytes w41 (w.heap.size + 1) := ⟨NoBytes.below hg41 (by repeat (first | with_reducible exact nb21.1 | with_reducible exact nb21.2 | with_reducible exact nb22.1 | with_reducible exact nb22.2 | with_reducible exact nb41.1 | with_reducible exact nb41.2 | with_reducible refine NoBytes.set ?_ (int_no _) | with_reducible refine NoBytes.set ?_ (slice_no _ _ _) | with_reducible exact nb0.1 | with_reducible exact nb0.2)), NoBytes.below hg41 (by repeat (first | with_reducible exact nb21.1 | with_reducible exact nb21.2 | with_reducible exact nb22.1 | with_reducible exact nb22.2 | with_reducible exact nb41.1 | with_reducible exact nb41.2 | with_reducible refine NoBytes.set ?_ (int_no _) | with_reducible refine NoBytes.set ?_ (slice_no _ _ _) | with_reducible exact nb0.1 | with_reducible exact nb0.2))⟩
    have hc41 := named_cell hw
    have hz41 := named_frozen hw
    have hh41 := named_heap hw
    haveI hi41 := named_in hw
    haveI hb41 := named_below (w := w) hw
    clear hw
    go_wp2_with (go_at_call 179; refine (storeread_nil _).mono ?_; rintro e w1 ⟨rfl, rfl⟩)
    all_goals
      rw [rounds_succ]
      go_wp2_with fail
      (try simp only [Exit.inBlock, Exit.then])
      refine bodyPost_ret (by simp [results, Tryz.results137, go_sem, hc21, hc41]; try rfl) rfl ?_
      exact ⟨_, rfl, .inl ⟨rfl, rfl⟩, grown_of⟩
  · -- 0 1
    obtain ⟨bl, bh, bp, bm, by1⟩ := o1 b y rfl
    have nc : (1 : Int) ≤ (b : Int) := by omega
    have nd : (b : Int) ≤ 1000 := by omega
    clear o0 o1
    go_enter Tryz.func137, Tryz.ntmps137
    go_wp2_with fail
    refine wp_loop_rounds 3 ?_
    rw [rounds_succ]
    go_wp2_with fail
    refine (get_none B d mb D N _ _ (HD.out.grown (by exact grown_now)) k0).mono ?_
    rintro e w21 ⟨rfl, _t, hw⟩
    haveI hg21 := named_grown hw
    have nb21 : NoBytes w21 w.heap.size ∧ NoBytes w21 (w.heap.size + 1) := ⟨NoBytes.below hg21 (by repeat (first | with_reducible exact nb21.1 | with_reducible exact nb21.2 | with_reducible exact nb22.1 | with_reducible exact nb22.2 | with_reducible exact nb41.1 | with_reducible exact nb41.2 | with_reducible refine NoBytes.set ?_ (int_no _) | with_reducible refine NoBytes.set ?_ (slice_no _ _ _) | with_reducible exact nb0.1 | with_reducible exact nb0.2)), NoBytes.below hg21 (by repeat (first | with_reducible exact nb21.1 | with_reducible exact nb21.2 | with_reducible exact nb22.1 | with_reducible exact nb22.2 | with_reducible exact nb41.1 | with_reducible exact nb41.2 | with_reducible refine NoBytes.set ?_ (int_no _) | with_reducible refine NoBytes.set ?_ (slice_no _ _ _) | with_reducible exact nb0.1 | with_reducible exact nb0.2))⟩
    have hc21 := named_cell hw
    have hz21 := named_frozen hw
    have hh21 := named_heap hw
    haveI hi21 := named_in hw
    haveI hb21 := named_below (w := w) hw
    clear hw
    go_wp2_with (go_at_call 179; refine (storeread_nil _).mono ?_; rintro e w1 ⟨rfl, rfl⟩)
    rw [rounds_succ]
    go_wp2_with fail
    refine (get_some B d mb D N _ _ _ (HD.out.grown (by exact grown_now)) k1).mono ?_
    rintro e w41 ⟨v41, rfl, ho41, _t, hw⟩
    haveI hg41 := named_grown hw
    have nb41 : NoBytes w41 w.heap.size ∧ NoBytes w41 (w.heap.size + 1) := ⟨NoBytes.below hg41 (by repeat (first | with_reducible exact nb21.1 | with_reducible exact nb21.2 | with_reducible exact nb22.1 | with_reducible exact nb22.2 | with_reducible exact nb41.1 | with_reducible exact nb41.2 | with_reducible refine NoBytes.set ?_ (int_no _) | with_reducible refine NoBytes.set ?_ (slice_no _ _ _) | with_reducible exact nb0.1 | with_reducible exact nb0.2)), NoBytes.below hg41 (by repeat (first | with_reducible exact nb21.1 | with_reducible exact nb21.2 | with_reducible exact nb22.1 | with_reducible exact nb22.2 | with_reducible exact nb41.1 | with_reducible exact nb41.2 | with_reducible refine NoBytes.set ?_ (int_no _) | with_reducible refine NoBytes.set ?_ (slice_no _ _ _) | with_reducible exact nb0.1 | with_reducible exact nb0.2))⟩
    have hc41 := named_cell hw
    have hz41 := named_frozen hw
    have hh41 := named_heap hw
    haveI hi41 := named_in hw
    haveI hb41 := named_below (w := w) hw
    clear hw
    obtain ⟨g41, c41, rfl, _t, hn4, _t, _t⟩ := owns_some ho41 (by rw [blobW_len]; omega)
    have TK4 := storeread_any b y g41 0 c41 w41 (by omega) (by omega) (by omega) (by omega) hn4 (by first | exact by0 | exact by1) (owns_bytes ho41)
    clear ho41
    go_wp2_with fail
    refine TK4.mono ?_
    rintro e w42 ⟨g42, o42, c42, rfl, hc4x, hb4x, _t, hw⟩
    haveI hg42 := named_grown hw
    have nb42 : NoBytes w42 w.heap.size ∧ NoBytes w42 (w.heap.size + 1) := ⟨NoBytes.below hg42 (by repeat (first | with_reducible exact nb21.1 | with_reducible exact nb21.2 | with_reducible exact nb22.1 | with_reducible exact nb22.2 | with_reducible exact nb41.1 | with_reducible exact nb41.2 | with_reducible refine NoBytes.set ?_ (int_no _) | with_reducible refine NoBytes.set ?_ (slice_no _ _ _) | with_reducible exact nb0.1 | with_reducible exact nb0.2)), NoBytes.below hg42 (by repeat (first | with_reducible exact nb21.1 | with_reducible exact nb21.2 | with_reducible exact nb22.1 | with_reducible exact nb22.2 | with_reducible exact nb41.1 | with_reducible exact nb41.2 | with_reducible refine NoBytes.set ?_ (int_no _) | with_reducible refine NoBytes.set ?_ (slice_no _ _ _) | with_reducible exact nb0.1 | with_reducible exact nb0.2))⟩
    have hc42 := named_cell hw
    have hz42 := named_frozen hw
    have hh42 := named_heap hw
    haveI hi42 := named_in hw
    haveI hb42 := named_below (w := w) hw
    have HY4 := Lib.hid hb4x
    clear hw TK4 hb4x
    have NB4 := Lib.hid (show ¬ g42 = w.heap.size ∧ ¬ g42 = w.heap.size + 1 from ⟨nb42.1.ne HY4.out (by omega), nb42.2.ne HY4.out (by omega)⟩)
    go_wp2_with fail
    all_goals
      rw [rounds_succ]
      go_wp2_with fail
      (try simp only [Exit.inBlock, Exit.then])
      refine bodyPost_ret (by simp [results, Tryz.results137, go_sem, hc21, hc41, hc42]; try rfl) rfl ?_
      exact ⟨_, rfl, .inr ⟨bp, _, _, _, rfl, hc4x, (by repeat (first | with_reducible exact HY4.out | with_reducible refine BytesAt.set ?_ (by first | exact NB4.out.1 | exact NB4.out.2) | exact HY4.out))⟩, grown_of⟩
  · -- 1 0
    obtain ⟨al, ah, ap, am, by0⟩ := o0 a x rfl
    have na : (1 : Int) ≤ (a : Int) := by omega
    have nb : (a : Int) ≤ 1000 := by omega
    clear o0 o1
    go_enter Tryz.func137, Tryz.ntmps137
    go_wp2_with fail
    refine wp_loop_rounds 3 ?_
    rw [rounds_succ]
    go_wp2_with fail
    refine (get_some B d mb D N _ _ _ (HD.out.grown (by exact grown_now)) k0).mono ?_
    rintro e w21 ⟨v21, rfl, ho21, _t, hw⟩
    haveI hg21 := named_grown hw
    have nb21 : NoBytes w21 w.heap.size ∧ NoBytes w21 (w.heap.size + 1) := ⟨NoBytes.below hg21 (by repeat (first | with_reducible exact nb21.1 | with_reducible exact nb21.2 | with_reducible exact nb22.1 | with_reducible exact nb22.2 | with_reducible exact nb41.1 | with_reducible exact nb41.2 | with_reducible refine NoBytes.set ?_ (int_no _) | with_reducible refine NoBytes.set ?_ (slice_no _ _ _) | with_reducible exact nb0.1 | with_reducible exact nb0.2)), NoBytes.below hg21 (by repeat (first | with_reducible exact nb21.1 | with_reducible exact nb21.2 | with_reducible exact nb22.1 | with_reducible exact nb22.2 | with_reducible exact nb41.1 | with_reducible exact nb41.2 | with_reducible refine NoBytes.set ?_ (int_no _) | with_reducible refine NoBytes.set ?_ (slice_no _ _ _) | with_reducible exact nb0.1 | with_reducible exact nb0.2))⟩
    have hc21 := named_cell hw
    have hz21 := named_frozen hw
    have hh21 := named_heap hw
    haveI hi21 := named_in hw
    haveI hb21 := named_below (w := w) hw
    clear hw
    obtain ⟨g21, c21, rfl, _t, hn2, _t, _t⟩ := owns_some ho21 (by rw [blobW_len]; omega)
    have TK2 := storeread_any a x g21 0 c21 w21 (by omega) (by omega) (by omega) (by omega) hn2 (by first | exact by0 | exact by1) (owns_bytes ho21)
    clear ho21
    go_wp2_with fail
    refine TK2.mono ?_
    rintro e w22 ⟨g22, o22, c22, rfl, hc2x, hb2x, _t, hw⟩
    haveI hg22 := named_grown hw
    have nb22 : NoBytes w22 w.heap.size ∧ NoBytes w22 (w.heap.size + 1) := ⟨NoBytes.below hg22 (by repeat (first | with_reducible exact nb21.1 | with_reducible exact nb21.2 | with_reducible exact nb22.1 | with_reducible exact nb22.2 | with_reducible exact nb41.1 | with_reducible exact nb41.2 | with_reducible refine NoBytes.set ?_ (int_no _) | with_reducible refine NoBytes.set ?_ (slice_no _ _ _) | with_reducible exact nb0.1 | with_reducible exact nb0.2)), NoBytes.below hg22 (by repeat (first | with_reducible exact nb21.1 | with_reducible exact nb21.2 | with_reducible exact nb22.1 | with_reducible exact nb22.2 | with_reducible exact nb41.1 | with_reducible exact nb41.2 | with_reducible refine NoBytes.set ?_ (int_no _) | with_reducible refine NoBytes.set ?_ (slice_no _ _ _) | with_reducible exact nb0.1 | with_reducible exact nb0.2))⟩
    have hc22 := named_cell hw
    have hz22 := named_frozen hw
    have hh22 := named_heap hw
    haveI hi22 := named_in hw
    haveI hb22 := named_below (w := w) hw
    have HY2 := Lib.hid hb2x
    clear hw TK2 hb2x
    have NB2 := Lib.hid (show ¬ g22 = w.heap.size ∧ ¬ g22 = w.heap.size + 1 from ⟨nb22.1.ne HY2.out (by omega), nb22.2.ne HY2.out (by omega)⟩)
    go_wp2_with fail
    rw [rounds_succ]
    go_wp2_with fail
    refine (get_none B d mb D N _ _ (HD.out.grown (by exact grown_now)) k1).mono ?_
    rintro e w41 ⟨rfl, _t, hw⟩
    haveI hg41 := named_grown hw
    have nb41 : NoBytes w41 w.heap.size ∧ NoBytes w41 (w.heap.size + 1) := ⟨NoBytes.below hg41 (by repeat (first | with_reducible exact nb21.1 | with_reducible exact nb21.2 | with_reducible exact nb22.1 | with_reducible exact nb22.2 | with_reducible exact nb41.1 | with_reducible exact nb41.2 | with_reducible refine NoBytes.set ?_ (int_no _) | with_reducible refine NoBytes.set ?_ (slice_no _ _ _) | with_reducible exact nb0.1 | with_reducible exact nb0.2)), NoBytes.below hg41 (by repeat (first | with_reducible exact nb21.1 | with_reducible exact nb21.2 | with_reducible exact nb22.1 | with_reducible exact nb22.2 | with_reducible exact nb41.1 | with_reducible exact nb41.2 | with_reducible refine NoBytes.set ?_ (int_no _) | with_reducible refine NoBytes.set ?_ (slice_no _ _ _) | with_reducible exact nb0.1 | with_reducible exact nb0.2))⟩
    have hc41 := named_cell hw
    have hz41 := named_frozen hw
    have hh41 := named_heap hw
    haveI hi41 := named_in hw
    haveI hb41 := named_below (w := w) hw
    have q410 : w41.cell? ⟨w.heap.size + 1, 0, none⟩ = some (.int .i64 (2 * id)) := (hc41 _ 0).trans (by go_simp)
    have q411 : w41.cell? ⟨w.heap.size + 1, 1, none⟩ = some (.int .i64 (a : Int)) := (hc41 _ 1).trans (by go_simp)
    have q412 : w41.cell? ⟨w.heap.size + 1, 2, none⟩ = some (.slice (some ⟨g22, o22, none⟩) x.length c22) := (hc41 _ 2).trans (by go_simp)
    have p410 : w41.cell? ⟨w.heap.size, 0, none⟩ = some (.int .i64 0) := (hc41 _ 0).trans (by go_simp)
    have p411 : w41.cell? ⟨w.heap.size, 1, none⟩ = some (.int .i64 0) := (hc41 _ 1).trans (by go_simp)
    have p412 : w41.cell? ⟨w.heap.size, 2, none⟩ = some (.slice none 0 0) := (hc41 _ 2).trans (by go_simp)
    clear hw
    go_wp2_with (go_at_call 179; refine (storeread_nil _).mono ?_; rintro e w1 ⟨rfl, rfl⟩)
    all_goals
      rw [rounds_succ]
      go_wp2_with fail
      (try simp only [Exit.inBlock, Exit.then])
      refine bodyPost_ret (by simp [results, Tryz.results137, go_sem, hc21, hc22, hc41]; try rfl) rfl ?_
      have HF1 := BytesAt.grown (W := w41) (BytesAt.set (i := 2) (v := .slice (some ⟨g22, o22, none⟩) x.length c22) (BytesAt.set (i := 1) (v := .int .i64 (a : Int)) (BytesAt.set (i := 0) (v := .int .i64 (2 * id)) HY2.out NB2.out.2) NB2.out.2) NB2.out.2) (grown_of (W := w41))
      have HF2 := Lib.hid (HF1)
      exact ⟨_, rfl, .inr ⟨ap, _, _, _, rfl, hc2x, (by repeat (first | with_reducible exact HF2.out | with_reducible refine BytesAt.set ?_ (by first | exact NB2.out.1 | exact NB2.out.2) | exact HF2.out))⟩, grown_of⟩
  · -- 1 1
    obtain ⟨al, ah, ap, am, by0⟩ := o0 a x rfl
    have na : (1 : Int) ≤ (a : Int) := by omega
    have nb : (a : Int) ≤ 1000 := by omega
    obtain ⟨bl, bh, bp, bm, by1⟩ := o1 b y rfl
    have nc : (1 : Int) ≤ (b : Int) := by omega
    have nd : (b : Int) ≤ 1000 := by omega
    clear o0 o1
    go_enter Tryz.func137, Tryz.ntmps137
    go_wp2_with fail
    refine wp_loop_rounds 3 ?_
    rw [rounds_succ]
    go_wp2_with fail
    refine (get_some B d mb D N _ _ _ (HD.out.grown (by exact grown_now)) k0).mono ?_
    rintro e w21 ⟨v21, rfl, ho21, _t, hw⟩
    haveI hg21 := named_grown hw
    have nb21 : NoBytes w21 w.heap.size ∧ NoBytes w21 (w.heap.size + 1) := ⟨NoBytes.below hg21 (by repeat (first | with_reducible exact nb21.1 | with_reducible exact nb21.2 | with_reducible exact nb22.1 | with_reducible exact nb22.2 | with_reducible exact nb41.1 | with_reducible exact nb41.2 | with_reducible refine NoBytes.set ?_ (int_no _) | with_reducible refine NoBytes.set ?_ (slice_no _ _ _) | with_reducible exact nb0.1 | with_reducible exact nb0.2)), NoBytes.below hg21 (by repeat (first | with_reducible exact nb21.1 | with_reducible exact nb21.2 | with_reducible exact nb22.1 | with_reducible exact nb22.2 | with_reducible exact nb41.1 | with_reducible exact nb41.2 | with_reducible refine NoBytes.set ?_ (int_no _) | with_reducible refine NoBytes.set ?_ (slice_no _ _ _) | with_reducible exact nb0.1 | with_reducible exact nb0.2))⟩
    have hc21 := named_cell hw
    have hz21 := named_frozen hw
    have hh21 := named_heap hw
    haveI hi21 := named_in hw
    haveI hb21 := named_below (w := w) hw
    clear hw
    obtain ⟨g21, c21, rfl, _t, hn2, _t, _t⟩ := owns_some ho21 (by rw [blobW_len]; omega)
    have TK2 := storeread_any a x g21 0 c21 w21 (by omega) (by omega) (by omega) (by omega) hn2 (by first | exact by0 | exact by1) (owns_bytes ho21)
    clear ho21
    go_wp2_with fail
    refine TK2.mono ?_
    rintro e w22 ⟨g22, o22, c22, rfl, hc2x, hb2x, _t, hw⟩
    haveI hg22 := named_grown hw
    have nb22 : NoBytes w22 w.heap.size ∧ NoBytes w22 (w.heap.size + 1) := ⟨NoBytes.below hg22 (by repeat (first | with_reducible exact nb21.1 | with_reducible exact nb21.2 | with_reducible exact nb22.1 | with_reducible exact nb22.2 | with_reducible exact nb41.1 | with_reducible exact nb41.2 | with_reducible refine NoBytes.set ?_ (int_no _) | with_reducible refine NoBytes.set ?_ (slice_no _ _ _) | with_reducible exact nb0.1 | with_reducible exact nb0.2)), NoBytes.below hg22 (by repeat (first | with_reducible exact nb21.1 | with_reducible exact nb21.2 | with_reducible exact nb22.1 | with_reducible exact nb22.2 | with_reducible exact nb41.1 | with_reducible exact nb41.2 | with_reducible refine NoBytes.set ?_ (int_no _) | with_reducible refine NoBytes.set ?_ (slice_no _ _ _) | with_reducible exact nb0.1 | with_reducible exact nb0.2))⟩
    have hc22 := named_cell hw
    have hz22 := named_frozen hw
    have hh22 := named_heap hw
    haveI hi22 := named_in hw
    haveI hb22 := named_below (w := w) hw
    have HY2 := Lib.hid hb2x
    clear hw TK2 hb2x
    have NB2 := Lib.hid (show ¬ g22 = w.heap.size ∧ ¬ g22 = w.heap.size + 1 from ⟨nb22.1.ne HY2.out (by omega), nb22.2.ne HY2.out (by omega)⟩)
    go_wp2_with fail
    rw [rounds_succ]
    go_wp2_with fail
    refine (get_some B d mb D N _ _ _ (HD.out.grown (by exact grown_now)) k1).mono ?_
    rintro e w41 ⟨v41, rfl, ho41, _t, hw⟩
    haveI hg41 := named_grown hw
    have nb41 : NoBytes w41 w.heap.size ∧ NoBytes w41 (w.heap.size + 1) := ⟨NoBytes.below hg41 (by repeat (first | with_reducible exact nb21.1 | with_reducible exact nb21.2 | with_reducible exact nb22.1 | with_reducible exact nb22.2 | with_reducible exact nb41.1 | with_reducible exact nb41.2 | with_reducible refine NoBytes.set ?_ (int_no _) | with_reducible refine NoBytes.set ?_ (slice_no _ _ _) | with_reducible exact nb0.1 | with_reducible exact nb0.2)), NoBytes.below hg41 (by repeat (first | with_reducible exact nb21.1 | with_reducible exact nb21.2 | with_reducible exact nb22.1 | with_reducible exact nb22.2 | with_reducible exact nb41.1 | with_reducible exact nb41.2 | with_reducible refine NoBytes.set ?_ (int_no _) | with_reducible refine NoBytes.set ?_ (slice_no _ _ _) | with_reducible exact nb0.1 | with_reducible exact nb0.2))⟩
    have hc41 := named_cell hw
    have hz41 := named_frozen hw
    have hh41 := named_heap hw
    haveI hi41 := named_in hw
    haveI hb41 := named_below (w := w) hw
    have q410 : w41.cell? ⟨w.heap.size + 1, 0, none⟩ = some (.int .i64 (2 * id)) := (hc41 _ 0).trans (by go_simp)
    have q411 : w41.cell? ⟨w.heap.size + 1, 1, none⟩ = some (.int .i64 (a : Int)) := (hc41 _ 1).trans (by go_simp)
    have q412 : w41.cell? ⟨w.heap.size + 1, 2, none⟩ = some (.slice (some ⟨g22, o22, none⟩) x.length c22) := (hc41 _ 2).trans (by go_simp)
    have p410 : w41.cell? ⟨w.heap.size, 0, none⟩ = some (.int .i64 0) := (hc41 _ 0).trans (by go_simp)
    have p411 : w41.cell? ⟨w.heap.size, 1, none⟩ = some (.int .i64 0) := (hc41 _ 1).trans (by go_simp)
    have p412 : w41.cell? ⟨w.heap.size, 2, none⟩ = some (.slice none 0 0) := (hc41 _ 2).trans (by go_simp)
    clear hw
    obtain ⟨g41, c41, rfl, _t, hn4, _t, _t⟩ := owns_some ho41 (by rw [blobW_len]; omega)
    have TK4 := storeread_any b y g41 0 c41 w41 (by omega) (by omega) (by omega) (by omega) hn4 (by first | exact by0 | exact by1) (owns_bytes ho41)
    clear ho41
    go_wp2_with fail
    refine TK4.mono ?_
    rintro e w42 ⟨g42, o42, c42, rfl, hc4x, hb4x, _t, hw⟩
    haveI hg42 := named_grown hw
    have nb42 : NoBytes w42 w.heap.size ∧ NoBytes w42 (w.heap.size + 1) := ⟨NoBytes.below hg42 (by repeat (first | with_reducible exact nb21.1 | with_reducible exact nb21.2 | with_reducible exact nb22.1 | with_reducible exact nb22.2 | with_reducible exact nb41.1 | with_reducible exact nb41.2 | with_reducible refine NoBytes.set ?_ (int_no _) | with_reducible refine NoBytes.set ?_ (slice_no _ _ _) | with_reducible exact nb0.1 | with_reducible exact nb0.2)), NoBytes.below hg42 (by repeat (first | with_reducible exact nb21.1 | with_reducible exact nb21.2 | with_reducible exact nb22.1 | with_reducible exact nb22.2 | with_reducible exact nb41.1 | with_reducible exact nb41.2 | with_reducible refine NoBytes.set ?_ (int_no _) | with_reducible refine NoBytes.set ?_ (slice_no _ _ _) | with_reducible exact nb0.1 | with_reducible exact nb0.2))⟩
    have hc42 := named_cell hw
    have hz42 := named_frozen hw
    have hh42 := named_heap hw
    haveI hi42 := named_in hw
    haveI hb42 := named_below (w := w) hw
    have q420 : w42.cell? ⟨w.heap.size + 1, 0, none⟩ = some (.int .i64 (2 * id)) := (hc42 _ 0).trans (by go_simp)
    have q421 : w42.cell? ⟨w.heap.size + 1, 1, none⟩ = some (.int .i64 (a : Int)) := (hc42 _ 1).trans (by go_simp)
    have q422 : w42.cell? ⟨w.heap.size + 1, 2, none⟩ = some (.slice (some ⟨g22, o22, none⟩) x.length c22) := (hc42 _ 2).trans (by go_simp)
    have p420 : w42.cell? ⟨w.heap.size, 0, none⟩ = some (.int .i64 0) := (hc42 _ 0).trans (by go_simp)
    have p421 : w42.cell? ⟨w.heap.size, 1, none⟩ = some (.int .i64 0) := (hc42 _ 1).trans (by go_simp)
    have p422 : w42.cell? ⟨w.heap.size, 2, none⟩ = some (.slice none 0 0) := (hc42 _ 2).trans (by go_simp)
    clear hc42 hc41
    have HY4 := Lib.hid hb4x
    clear hw TK4 hb4x
    have NB4 := Lib.hid (show ¬ g42 = w.heap.size ∧ ¬ g42 = w.heap.size + 1 from ⟨nb42.1.ne HY4.out (by omega), nb42.2.ne HY4.out (by omega)⟩)
    go_wp2_with fail
    all_goals
      rw [rounds_succ]
      go_wp2_with fail
      (try simp only [Exit.inBlock, Exit.then])
      refine bodyPost_ret (by simp [results, Tryz.results137, go_sem, p420, p421, p422]; try rfl) rfl ?_
      have HF1 := BytesAt.grown (W := w41) (BytesAt.set (i := 2) (v := .slice (some ⟨g22, o22, none⟩) x.length c22) (BytesAt.set (i := 1) (v := .int .i64 (a : Int)) (BytesAt.set (i := 0) (v := .int .i64 (2 * id)) HY2.out NB2.out.2) NB2.out.2) NB2.out.2) (grown_of (W := w41))
      have HF2 := Lib.hid (HF1.grown (grown_of (w := w41) (W := w42)))
      first
        | (have hlt : a < b := by omega
           rw [show later id (some (a, x)) (some (b, y)) = (2 * id + 1, b, y) by simp [later, hlt]]
           exact ⟨_, rfl, .inr ⟨bp, _, _, _, rfl, hc4x, (by repeat (first | with_reducible exact HY4.out | with_reducible refine BytesAt.set ?_ (by first | exact NB4.out.1 | exact NB4.out.2) | exact HY4.out))⟩, grown_of⟩)
        | (have hlt : ¬ a < b := by omega
           rw [show later id (some (a, x)) (some (b, y)) = (2 * id, a, x) by simp [later, hlt]]
           exact ⟨_, rfl, .inr ⟨ap, _, _, _, rfl, hc2x, (by repeat (first | with_reducible exact HF2.out | with_reducible refine BytesAt.set ?_ (by first | exact NB2.out.1 | exact NB2.out.2) | exact HF2.out))⟩, grown_of⟩)
end Go.Proofs.YtnogfelfgclajaaGreatDoor
end

section
namespace Go.Proofs.YtnogfelfgclajaaGreatDoor
open Go.RowKit
attribute [local go_sem] ext_ext drew_ext ext_drew ext_cell ext_frozen in_lt in_le in_ne in_en in_ne1 in_en1 in_le1 in_ltn in_len in_nen in_enn size_le ite_max ite_min
set_option linter.unusedVariables false
set_option linter.unusedSimpArgs false

theorem storemay_any (id : Int) (h0 : 0 ≤ id) (h1 : id ≤ 1099511627776) (w : World) : Calls Tryz.prog 136 #[.int .i64 id] w fun e w' => e = .returned (.bool true) ∧ w = w' := by
  go_enter Tryz.func136, Tryz.ntmps136
  go_wp2
  go_ret
  exact ⟨rfl, rfl⟩
theorem BodyV.below {w W : World} {bv : Value} {x : List Nat} (h : BodyV w bv x) (hW : Below w.heap.size w W) : BodyV W bv x := by
  rcases h with h | ⟨h0, g, o, cap, e, hc, hb⟩
  · exact .inl h
  · exact .inr ⟨h0, g, o, cap, e, hc, hb.below hW⟩
theorem BodyV.form {w : World} {bv : Value} {x : List Nat} (h : BodyV w bv x) : ∃ og cap, bv = .slice og x.length cap := by
  rcases h with ⟨rfl, rfl⟩ | ⟨_, g, o, cap, rfl, _⟩
  · exact ⟨_, _, rfl⟩
  · exact ⟨_, _, rfl⟩
/-- What is told of an id. -/
def Loaded (v : Nat) (x : List Nat) (w : World) (e : Ending) (w' : World) : Prop := ∃ bv, e = .returned (.tuple #[bv, .int .i64 (v : Int), .bool (decide (0 < v))]) ∧ BodyV w' bv x ∧ ∃ f, w' = ext w f
set_option maxRecDepth 100000 in
set_option maxHeartbeats 4000000 in
theorem storeload_any (B d mb s : Nat) (D : Int → Option (List Nat)) (N : Nat) (id : Int) (v : Nat) (x : List Nat) (w : World) (h : DiskAt B w d mb D N) (hs : w.cell? ⟨s, 0, none⟩ = some (.pointer (some ⟨d, 0, none⟩)))
    (i0 : 0 ≤ id) (i1 : id ≤ 1099511627776) (hr : HasRec D id v x) :
    Calls Tryz.prog 94 #[.pointer (some ⟨s, 0, none⟩), .int .i64 id] w (Loaded v x w) := by
  obtain ⟨r0, r1, hr, e⟩ := hr
  have OF := storeof_any B d mb s D N id r0 r1 w h hs i0 i1 hr.k0 hr.k1 hr.o0 hr.o1
  obtain ⟨e1, e2⟩ : (later id r0 r1).2.1 = v ∧ (later id r0 r1).2.2 = x := by rw [e]; exact ⟨rfl, rfl⟩
  unfold OfDone at OF
  rw [e1, e2] at OF
  generalize (later id r0 r1).1 = sl at OF
  haveI := in_of_cell hs
  clear e1 e2 e hr h
  go_enter Tryz.func94, Tryz.ntmps94
  go_wp2_with (go_at_call 136; refine (storemay_any id i0 i1 _).mono ?_; rintro e w1 ⟨rfl, rfl⟩)
  refine OF.mono ?_
  rintro e w1 ⟨bv, rfl, hb, _t, hw⟩
  haveI hb1 := named_below (w := w) hw
  have hc1 := named_cell hw
  have hz1 := named_frozen hw
  haveI hi1 := named_in hw
  obtain ⟨og, cap, rfl⟩ := hb.form
  have HB := Lib.hid hb
  clear hw hb OF
  go_wp2_with fail
  refine wp_region_ext ?_ ?_ ?_
  · kernel_rfl
  · kernel_rfl
  repeat (go_big_quiet_step (first | fail))
  refine wpQuiet_nil ?_
  rintro w2 ⟨_t, hw⟩
  haveI hb2_1 := named_below (w := w1) hw
  have hc2 := named_cell hw
  have hz2 := named_frozen hw
  have hh2 := named_heap hw
  haveI hi2 := named_in hw
  haveI hb2 := named_below (w := w) hw
  clear hw
  have HB2 := Lib.hid (HB.out.below (grown_now (w := w1) (W := w2)))
  go_wp2_with fail
  go_ret3
  exact ⟨_, rfl, HB2.out, grown_of⟩
/-- A record saved. -/
def Saved (B d : Nat) (D : Int → Option (List Nat)) (N : Nat) (id : Int) (v : Nat) (y : List Nat) (w : World) (e : Ending) (w' : World) : Prop :=
  e = .returned (.int .i64 0) ∧ (∃ mb' D', DiskAt B w' d mb' D' (N + 1) ∧ HasRec D' id (v + 1) y ∧ (∀ id' v' x', id' ≠ id → HasRec D id' v' x' → HasRec D' id' v' x') ∧ w.heap.size ≤ mb') ∧ Turn (Ty B tyDisk w) w w'
set_option maxRecDepth 100000 in
set_option maxHeartbeats 4000000 in
theorem storesave_any (B d mb s : Nat) (D : Int → Option (List Nat)) (N : Nat) (id : Int) (v : Nat) (x : List Nat) (g o cap : Nat) (y : List Nat) (w : World) (hB : B ≤ w.heap.size) (h : DiskAt B w d mb D N) (hN : N ≤ 29)
    (hs : w.heap[s]? = some (.cells #[.pointer (some ⟨d, 0, none⟩)] 160 (0, 0))) (i0 : 0 ≤ id) (i1 : id ≤ 1099511627776) (hr : HasRec D id v x) (hv : v ≤ 999) (y0 : 0 < y.length) (y1 : y.length ≤ 6500) (yb : Bytes y) (hc : BytesAt w g o y) :
    Calls Tryz.prog 141 #[.pointer (some ⟨s, 0, none⟩), .int .i64 id, .slice (some ⟨g, o, none⟩) y.length cap] w (Saved B d D N id v y w) := by
  obtain ⟨r0, r1, hr, e⟩ := hr
  have c0 := cell_of_block (i := 0) hs rfl
  have OF := storeof_any B d mb s D N id r0 r1 w h c0 i0 i1 hr.k0 hr.k1 hr.o0 hr.o1
  have XO := other_xor id r0 r1 i0 i1
  obtain ⟨e1, e2⟩ : (later id r0 r1).2.1 = v ∧ (later id r0 r1).2.2 = x := by rw [e]; exact ⟨rfl, rfl⟩
  have HP := Lib.hid (show RecOk (v + 1) y → HasRec (dput D (otherSlot id r0 r1) (blobW (v + 1) y)) id (v + 1) y from fun hy => by
    have := HasRec.put hr (y := y)
    rw [e1] at this
    exact this hy)
  have HF := Lib.hid (show ∀ id' v' x' l, id' ≠ id → HasRec D id' v' x' → HasRec (dput D (otherSlot id r0 r1) l) id' v' x' from fun id' v' x' l hne h => h.far hne r0 r1 l)
  unfold OfDone at OF
  rw [e1, e2] at OF
  generalize (later id r0 r1).1 = sl at *
  generalize otherSlot id r0 r1 = ot at *
  haveI := in_of_cell c0
  have HD := Lib.hid h
  have HS := Lib.hid hs
  have HB := Lib.hid hB
  have HC := Lib.hid hc
  have HY := Lib.hid (And.intro y0 (And.intro y1 yb))
  have HN := Lib.hid hN
  have n0 : (0 : Int) ≤ (v : Int) := by omega
  have n1 : (v : Int) ≤ 999 := by omega
  clear e1 e2 e hr h hs hB hc y0 y1 yb hN
  go_enter Tryz.func141, Tryz.ntmps141
  go_wp2_with (go_at_call 136; refine (storemay_any id i0 i1 _).mono ?_; rintro e w1 ⟨rfl, rfl⟩)
  refine OF.mono ?_
  rintro e w1 ⟨bv, rfl, hb, _t, hw⟩
  haveI hb1 := named_below (w := w) hw
  have hc1 := named_cell hw
  have hz1 := named_frozen hw
  haveI hi1 := named_in hw
  obtain ⟨og, cp, rfl⟩ := hb.form
  clear hw hb OF
  have WR := fun W (hW : BytesAt W g o y) => storewrite_any (v + 1) y g o cap W (by omega) (by omega) HY.out.1 (by have := HY.out.2.1; omega) HY.out.2.2 hW
  rw [show (((v + 1 : Nat)) : Int) = (v : Int) + 1 from rfl] at WR
  go_wp2_with fail
  refine (WR _ (HC.out.grown (by exact grown_of))).mono ?_
  rintro e w2 ⟨v2, rfl, ho2, _t, hw⟩
  haveI hb2 := named_below (w := w) hw
  haveI hb21 := named_below (w := w1) hw
  have hc2 := named_cell hw
  have hz2 := named_frozen hw
  haveI hi2 := named_in hw
  clear hw WR
  obtain ⟨g2, c2, rfl, _t, _t, _t, _t⟩ := owns_some ho2 (by rw [blobW_len]; omega)
  have O2 := Lib.hid (owns_bytes ho2)
  clear ho2
  go_wp2_with fail
  refine wp_region_ext_tail 9 ?_ ?_ ?_
  · kernel_rfl
  · kernel_rfl
  simp only [List.take_succ_cons, List.take_zero, List.drop_succ_cons, List.drop_zero]
  repeat (go_big_quiet_step (first | fail))
  refine wpQuiet_nil ?_
  rintro w3 ⟨_t, hw⟩
  haveI hb3_1 := named_below (w := w1) hw
  haveI hb3_2 := named_below (w := w2) hw
  have hc3 := named_cell hw
  have hz3 := named_frozen hw
  have hh3 := named_heap hw
  haveI hi3 := named_in hw
  haveI hb3 := named_below (w := w) hw
  clear hw
  have B3 := Lib.hid (grown_now (w := w) (W := w3))
  have PU := put_any B d mb D N ot (blobW (v + 1) y) g2 0 c2 w3 (by have := HB.out; have := B3.out.size; omega) (HD.out.grown B3.out) HN.out (by rw [blobW_len]; omega) (by rw [blobW_len]; have := HY.out.2.1; omega) (O2.out.below (grown_now (w := w2) (W := w3)))
  go_wp2_with fail
  refine PU.mono ?_
  rintro e w4 ⟨rfl, hone, hT⟩
  have hTw : Turn (Ty B tyDisk w) w w4 := (turn_below B3.out).ty hT
  have s4 := (hTw.block s (lt_of_block HS.out) (ty_no HS.out (by decide))).trans HS.out
  have c4 := cell_of_block (i := 0) s4 rfl
  haveI := in_of_cell c4
  have SY := sync_any B d mb D N ot (blobW (v + 1) y) w4 (by have := HB.out; have := hTw.size; omega) hone
  have HT := Lib.hid hTw
  clear hT hTw hone PU s4
  go_wp2_with fail
  refine SY.mono ?_
  rintro e w5 ⟨rfl, ⟨mb', hd, hm⟩, hT⟩
  have HE := Lib.hid (And.intro hd (And.intro hm hT))
  clear hd hm hT SY
  go_wp2_with fail
  go_ret
  refine ⟨rfl, ⟨mb', _, HE.out.1, HP.out ⟨by omega, by omega, HY.out.1, HY.out.2.1, HY.out.2.2⟩, fun id' v' x' hne h => HF.out id' v' x' _ hne h, ?_⟩, HT.out.ty HE.out.2.2⟩
  have := HE.out.2.1
  have := HT.out.size
  omega
#print axioms storesave_any
end Go.Proofs.YtnogfelfgclajaaGreatDoor
end

section
namespace Go.Proofs.YtnogfelfgclajaaGreatDoor
open Go.RowKit
attribute [local go_sem] ext_ext drew_ext ext_drew ext_cell ext_frozen in_lt in_le in_ne in_en in_ne1 in_en1 in_le1 in_ltn in_len in_nen in_enn size_le ite_max ite_min
set_option linter.unusedVariables false
set_option linter.unusedSimpArgs false

theorem ne_ty {w : World} {b : Nat} {c : Array Value} {T : TypeId} {fz : Nat × Nat} (hb : w.heap[b]? = some (.cells c T fz)) {g : Nat} {c' : Array Value} {T' : TypeId} {fz' : Nat × Nat} (hg : w.heap[g]? = some (.cells c' T' fz')) (h : T' ≠ T) : ¬ g = b := by
  rintro rfl
  rw [hb] at hg
  injection hg with hg
  injection hg with _ hg
  exact h hg.symm
theorem MapB.cells {B : Nat} {w : World} {b : Nat} {D : Int → Option (List Nat)} {N : Nat} (h : MapB B w b D N) {g : Nat} {c : Array Value} {T : TypeId} {fz : Nat × Nat} (hg : w.heap[g]? = some (.cells c T fz)) : ¬ b = g := by
  rintro rfl
  obtain ⟨mv, ⟨es, cl, h5, _⟩, _⟩ := h
  rw [hg] at h5
  cases h5
theorem tabid_any (p : Ps) (h : Close p) (w : World) : Calls Tryz.prog 91 #[.agg #[.int .i64 p.1, .int .i64 p.2]] w fun e w' => e = .returned (.tuple #[.int .i64 (idP p), .bool true]) ∧ ∃ f, w' = ext w f := id_any p.1 p.2 h.x0 h.x1 h.z0 h.z1 w
set_option maxRecDepth 100000 in
set_option maxHeartbeats 1000000 in
theorem save_clean (t it : Nat) (B k : Nat) (p : Ps) (rs : List Rn) (rv : Value) (w : World) (h : ItemAt B w it k p false rs rv) :
    Calls Tryz.prog 97 #[.pointer (some ⟨t, 0, none⟩), .pointer (some ⟨it, 0, none⟩)] w fun e w' => e = .returned (.int .i64 0) ∧ w = w' := by
  have c1 := cell_of_block (i := 1) h.blk rfl
  clear h
  go_enter Tryz.func97, Tryz.ntmps97
  go_wp2_with fail
  go_ret
  exact ⟨rfl, rfl⟩
/-- A chunk saved: it is clean, its record lies on the disk. -/
def SaveDone (B it k d : Nat) (p : Ps) (rs : List Rn) (rv : Value) (D : Int → Option (List Nat)) (N v : Nat) (w : World) (e : Ending) (w' : World) : Prop :=
  e = .returned (.int .i64 0) ∧ ItemAt B w' it k p false rs rv ∧ (∃ mb' D', DiskAt B w' d mb' D' (N + 1) ∧ HasRec D' (idP p) (v + 1) (codeW rs) ∧ (∀ id' v' x', id' ≠ idP p → HasRec D id' v' x' → HasRec D' id' v' x') ∧ w.heap.size ≤ mb') ∧ Turn (fun j => Ty B tyDisk w j ∨ j = it) w w'
set_option maxRecDepth 100000 in
set_option maxHeartbeats 4000000 in
theorem save_dirty (B t it k st d mb : Nat) (p : Ps) (rs : List Rn) (rv : Value) (D : Int → Option (List Nat)) (N v : Nat) (x : List Nat) (w : World) (hB : B ≤ w.heap.size) (h : ItemAt B w it k p true rs rv) (hd : DiskAt B w d mb D N) (hN : N ≤ 29)
    (ht : w.cell? ⟨t, 0, none⟩ = some (.pointer (some ⟨st, 0, none⟩))) (hs : w.heap[st]? = some (.cells #[.pointer (some ⟨d, 0, none⟩)] 160 (0, 0))) (hp : Close p) (hr : HasRec D (idP p) v x) (hv : v ≤ 999) (hl : (codeW rs).length ≤ 6500) :
    Calls Tryz.prog 97 #[.pointer (some ⟨t, 0, none⟩), .pointer (some ⟨it, 0, none⟩)] w (SaveDone B it k d p rs rv D N v w) := by
  have c0 := cell_of_block (i := 0) h.blk rfl
  have c1 := cell_of_block (i := 1) h.blk rfl
  have k0 := cell_of_block (i := 0) h.chunk.blk rfl
  have k1 := cell_of_block (i := 1) h.chunk.blk rfl
  haveI := in_of_cell c0
  haveI := in_of_cell k0
  haveI := in_of_cell ht
  haveI := in_of_block hs
  have HI := Lib.hid h
  have HD := Lib.hid hd
  have HS := Lib.hid hs
  have HP := Lib.hid hp
  have HR := Lib.hid (And.intro hr (And.intro hv (And.intro hl hN)))
  have HB := Lib.hid hB
  clear h hd hs hp hr hv hl hN hB
  go_enter Tryz.func97, Tryz.ntmps97
  go_wp2_with fail
  refine (place_any _ _ _).mono ?_
  rintro e w1 ⟨rfl, _t, hw⟩
  have hc1 := named_cell hw
  have hz1 := named_frozen hw
  have hh1 := named_heap hw
  haveI hi1 := named_in hw
  haveI hb1 := named_below (w := w) hw
  clear hw
  go_wp2_with fail
  refine (tabid_any p HP.out _).mono ?_
  rintro e w2 ⟨rfl, _t, hw⟩
  haveI hb2_1 := named_below (w := w1) hw
  have hc2 := named_cell hw
  have hz2 := named_frozen hw
  have hh2 := named_heap hw
  haveI hi2 := named_in hw
  haveI hb2 := named_below (w := w) hw
  clear hw
  go_wp2_with fail
  have B2 := Lib.hid (grown_now (w := w) (W := w2))
  go_region_law
    (first
      | (go_simp; go_at_call 142; refine (chunkbytes_any B k p rs rv _ (HI.out.chunk.grown (by exact grown_now))).mono ?_; rintro e w3 ⟨v3, rfl, ho3, _t, hw⟩
         haveI hg3 := named_grown hw
         haveI hb3 := named_below (w := w) hw
         (try haveI hb32 := named_below (w := w2) hw)
         have hc3 := named_cell hw
         have hz3 := named_frozen hw
         haveI hi3 := named_in hw
         clear hw
         obtain ⟨g3, cp3, rfl, hb3, hn3, hm3, hcell3⟩ := owns_some ho3 (codeW_pos HI.out.chunk.fine)
         have O3 := Lib.hid (owns_bytes ho3)
         clear ho3 hb3 hn3 hm3 hcell3)
      | (go_simp; go_at_call 141; refine (storesave_any B d mb st D N (idP p) v x g3 0 cp3 (codeW rs) _ (by have := HB.out; have := (grown_now (w := w) (W := w3)).size; first | exact Nat.le_trans HB.out this | omega) (HD.out.grown (by exact grown_now)) HR.out.2.2.2 (((grown_now (w := w)).block _ (lt_of_block HS.out)).trans HS.out) (idP_bd HP.out).1 (idP_bd HP.out).2 HR.out.1 HR.out.2.1 (codeW_pos HI.out.chunk.fine) HR.out.2.2.1 (codeW_bytes HI.out.chunk.fine) (O3.out.grown (by exact grown_of))).mono ?_; rintro e w4 ⟨rfl, ⟨mb4, D4, hd4, hr4, hf4, hm4⟩, hT⟩
         have hTw := (turn_below (F := Ty B tyDisk w) (by exact grown_now (w := w))).ty hT
         have I4 := HI.out.turn hTw (fun g c fz hg => ty_no hg (by decide)) (fun g c fz hg => ty_no hg (by decide)) (fun g c fz hg => ty_no hg (by decide))
         have d0 := cell_of_block (i := 0) I4.blk rfl
         have d1 := cell_of_block (i := 1) I4.blk rfl
         have e1 := free_of_block 1 I4.blk
         haveI := in_of_cell d0
         have J4 := Lib.hid I4
         have T4 := Lib.hid hTw
         have E4 := Lib.hid (And.intro hd4 (And.intro hr4 (And.intro hf4 (Nat.le_trans (by exact (grown_now (w := w)).size) hm4))))
         clear hTw hT I4 hd4 hr4 hf4 hm4))
  all_goals
    go_wp2_with fail
    go_ret
    have hS : Turn (fun j => j = it) w4 (w4.setCell ⟨it, 1, none⟩ (.bool false)) := (Turn.refl (fun j => j = it) w4).setIn rfl _
    have hb := J4.out.blk
    refine ⟨rfl, ⟨block_set hb _ (by simp), J4.out.lo, J4.out.chunk.turn hS (fun g c fz hg => ne_ty hb hg (by decide)) (fun g c fz hg => ne_ty hb hg (by decide))⟩, ⟨mb4, D4, E4.out.1.turn hS (ne_ty hb E4.out.1.blk (by decide)) (E4.out.1.map.cells hb) (fun g c fz hg => ne_ty hb hg (by decide)), E4.out.2.1, E4.out.2.2.1, E4.out.2.2.2⟩, ?_⟩
    exact (T4.out.mono (fun j _ hj => .inl hj)).setIn (.inr rfl) _
#print axioms save_dirty
end Go.Proofs.YtnogfelfgclajaaGreatDoor
end
