/-
  A block's name; the block of a name; whether there is a block.
  What blocks are (the Top seat).
  Whether runs may be.
  Runs filled; a cell of them set.
  No Go in sight. How many runs there are; how many bytes runs have.
  A number's bytes.
-/
import Derived.Test.YtnogfelfgclajaaGreatDoorMb05
import Derived.Test.YtnogfelfgclajaaGreatDoorMb02
import Derived.Test.YtnogfelfgclajaaGreatDoorMb04
import Derived.Test.YtnogfelfgclajaaGreatDoorMb03
section
namespace Go.Proofs.YtnogfelfgclajaaGreatDoor
open Go.RowKit
attribute [local go_sem] ext_ext drew_ext ext_drew ext_cell ext_frozen in_lt in_le in_ne in_en in_ne1 in_en1 in_le1 in_ltn in_len in_nen in_enn size_le ite_max ite_min
set_option linter.unusedVariables false
set_option linter.unusedSimpArgs false

structure GoodB (b : Int) : Prop where
  lo : 0 ≤ b
  hi : b ≤ 15
  n6 : b ≠ 6
  n7 : b ≠ 7
theorem GoodB.cases {b : Int} (h : GoodB b) : b = 0 ∨ b = 1 ∨ b = 2 ∨ b = 3 ∨ b = 4 ∨ b = 5 ∨ b = 8 ∨ b = 9 ∨ b = 10 ∨ b = 11 ∨ b = 12 ∨ b = 13 ∨ b = 14 ∨ b = 15 := by
  have := h.lo; have := h.hi; have := h.n6; have := h.n7; omega
def nmB (b : Int) : ByteArray := match (nmK 8)[b.toNat]? with | some (.string s) => s | _ => ⟨#[]⟩
theorem nm_ix0 (w : World) : (Instr.index 222 (.agg (nmK 8)) (.int .i64 (0 : Nat))).run Tryz.prog w = .ok (.string (nmB (0 : Nat))) w := by kernel_rfl
theorem nm_ix1 (w : World) : (Instr.index 222 (.agg (nmK 8)) (.int .i64 (1 : Nat))).run Tryz.prog w = .ok (.string (nmB (1 : Nat))) w := by kernel_rfl
theorem nm_ix2 (w : World) : (Instr.index 222 (.agg (nmK 8)) (.int .i64 (2 : Nat))).run Tryz.prog w = .ok (.string (nmB (2 : Nat))) w := by kernel_rfl
theorem nm_ix3 (w : World) : (Instr.index 222 (.agg (nmK 8)) (.int .i64 (3 : Nat))).run Tryz.prog w = .ok (.string (nmB (3 : Nat))) w := by kernel_rfl
theorem nm_ix4 (w : World) : (Instr.index 222 (.agg (nmK 8)) (.int .i64 (4 : Nat))).run Tryz.prog w = .ok (.string (nmB (4 : Nat))) w := by kernel_rfl
theorem nm_ix5 (w : World) : (Instr.index 222 (.agg (nmK 8)) (.int .i64 (5 : Nat))).run Tryz.prog w = .ok (.string (nmB (5 : Nat))) w := by kernel_rfl
theorem nm_ix6 (w : World) : (Instr.index 222 (.agg (nmK 8)) (.int .i64 (6 : Nat))).run Tryz.prog w = .ok (.string (nmB (6 : Nat))) w := by kernel_rfl
theorem nm_ix7 (w : World) : (Instr.index 222 (.agg (nmK 8)) (.int .i64 (7 : Nat))).run Tryz.prog w = .ok (.string (nmB (7 : Nat))) w := by kernel_rfl
theorem nm_ix8 (w : World) : (Instr.index 222 (.agg (nmK 8)) (.int .i64 (8 : Nat))).run Tryz.prog w = .ok (.string (nmB (8 : Nat))) w := by kernel_rfl
theorem nm_ix9 (w : World) : (Instr.index 222 (.agg (nmK 8)) (.int .i64 (9 : Nat))).run Tryz.prog w = .ok (.string (nmB (9 : Nat))) w := by kernel_rfl
theorem nm_ix10 (w : World) : (Instr.index 222 (.agg (nmK 8)) (.int .i64 (10 : Nat))).run Tryz.prog w = .ok (.string (nmB (10 : Nat))) w := by kernel_rfl
theorem nm_ix11 (w : World) : (Instr.index 222 (.agg (nmK 8)) (.int .i64 (11 : Nat))).run Tryz.prog w = .ok (.string (nmB (11 : Nat))) w := by kernel_rfl
theorem nm_ix12 (w : World) : (Instr.index 222 (.agg (nmK 8)) (.int .i64 (12 : Nat))).run Tryz.prog w = .ok (.string (nmB (12 : Nat))) w := by kernel_rfl
theorem nm_ix13 (w : World) : (Instr.index 222 (.agg (nmK 8)) (.int .i64 (13 : Nat))).run Tryz.prog w = .ok (.string (nmB (13 : Nat))) w := by kernel_rfl
theorem nm_ix14 (w : World) : (Instr.index 222 (.agg (nmK 8)) (.int .i64 (14 : Nat))).run Tryz.prog w = .ok (.string (nmB (14 : Nat))) w := by kernel_rfl
theorem nm_ix15 (w : World) : (Instr.index 222 (.agg (nmK 8)) (.int .i64 (15 : Nat))).run Tryz.prog w = .ok (.string (nmB (15 : Nat))) w := by kernel_rfl
theorem nm_ix (b : Nat) (hb : b < 16) (w : World) : (Instr.index 222 (.agg (nmK 8)) (.int .i64 (b : Int))).run Tryz.prog w = .ok (.string (nmB b)) w := by
  have : ∀ b : Nat, b < 16 → b = 0 ∨ b = 1 ∨ b = 2 ∨ b = 3 ∨ b = 4 ∨ b = 5 ∨ b = 6 ∨ b = 7 ∨ b = 8 ∨ b = 9 ∨ b = 10 ∨ b = 11 ∨ b = 12 ∨ b = 13 ∨ b = 14 ∨ b = 15 := fun b h => by omega
  obtain rfl | rfl | rfl | rfl | rfl | rfl | rfl | rfl | rfl | rfl | rfl | rfl | rfl | rfl | rfl | rfl := this b hb
  · exact nm_ix0 w
  · exact nm_ix1 w
  · exact nm_ix2 w
  · exact nm_ix3 w
  · exact nm_ix4 w
  · exact nm_ix5 w
  · exact nm_ix6 w
  · exact nm_ix7 w
  · exact nm_ix8 w
  · exact nm_ix9 w
  · exact nm_ix10 w
  · exact nm_ix11 w
  · exact nm_ix12 w
  · exact nm_ix13 w
  · exact nm_ix14 w
  · exact nm_ix15 w

set_option maxRecDepth 100000 in
set_option maxHeartbeats 2000000 in
theorem name_any (b : Int) (h0 : 0 ≤ b) (h1 : b ≤ 15) (w : World) : Calls Tryz.prog 113 #[.int .i64 b] w fun e w' => e = .returned (.string (nmB b)) ∧ ∃ f, w' = ext w f := by
  have hi : ∀ w, (Instr.index 222 (.agg (nmK 8)) (.int .i64 b)).run Tryz.prog w = .ok (.string (nmB b)) w := fun w => by
    have := nm_ix b.toNat (by omega) w
    rwa [show ((b.toNat : Nat) : Int) = b by omega] at this
  go_enter Tryz.func113, Tryz.ntmps113
  go_wp2_with (go_at_call 162; refine (names_any _).mono ?_; rintro e w1 ⟨rfl, t1, rfl⟩)
  go_ret
  exact ⟨rfl, grown_of⟩

set_option maxRecDepth 100000 in
set_option maxHeartbeats 2000000 in
theorem may_any (b : Int) (h : GoodB b) (w : World) : Calls Tryz.prog 157 #[.int .i64 b] w fun e w' => e = .returned (.bool true) ∧ ∃ f, w' = ext w f := by
  have hn := fun W => name_any b h.lo h.hi W
  obtain rfl | rfl | rfl | rfl | rfl | rfl | rfl | rfl | rfl | rfl | rfl | rfl | rfl | rfl := h.cases
  all_goals
    clear h
    go_enter Tryz.func157, Tryz.ntmps157
    go_wp2_with (go_at_call 113; refine (hn _).mono ?_; rintro e w1 ⟨rfl, t1, rfl⟩)
    go_ret
    exact ⟨ret_bool (by decide +kernel), grown_of⟩
end Go.Proofs.YtnogfelfgclajaaGreatDoor
end

section
namespace Go.Proofs.YtnogfelfgclajaaGreatDoor
open Go.RowKit
attribute [local go_sem] ext_ext drew_ext ext_drew ext_cell ext_frozen in_lt in_le in_ne in_en in_ne1 in_en1 in_le1 in_ltn in_len in_nen in_enn size_le ite_max ite_min
set_option linter.unusedVariables false
set_option linter.unusedSimpArgs false

/-- A block flows. -/
def wetB (b : Int) : Bool := decide (8 ≤ b ∧ b ≤ 15)
/-- A block gives way. -/
def yldB (b : Int) : Bool := decide (b = 0 ∨ 8 ≤ b ∧ b ≤ 15)
def mayB (b : Int) : Bool := decide (0 ≤ b ∧ b ≤ 15 ∧ b ≠ 6 ∧ b ≠ 7)
def lvlS (b : Int) : Int := if 8 ≤ b ∧ b ≤ 15 then b - 8 else -1
def watS (l : Int) : Int := 8 + min 7 (max l 0)
def dlyS (b : Int) : Int := if b = 3 then 2 else if 8 ≤ b ∧ b ≤ 15 then 5 else 0
/-- A block, made of any number. -/
def gdS (n : Int) : Int := if 5 < arS n 14 then arS n 14 + 2 else arS n 14
theorem wetB_in {b : Int} (h1 : 8 ≤ b) (h2 : b ≤ 15) : wetB b = true := by simp [wetB, h1, h2]
theorem wetB_lo {b : Int} (h1 : b < 8) : wetB b = false := by unfold wetB; rw [decide_eq_false_iff_not]; omega
theorem wetB_hi {b : Int} (h1 : 15 < b) : wetB b = false := by unfold wetB; rw [decide_eq_false_iff_not]; omega
theorem ret_boolv {a b : Bool} (h : a = b) : Ending.returned (.bool a) = .returned (.bool b) := by rw [h]


theorem wet_any (b : Int) (w : World) : Calls Tryz.prog 274 #[.int .i64 b] w fun e w' => e = .returned (.bool (wetB b)) ∧ w = w' := by
  by_cases h1 : b < 8
  · have H := Lib.hid (wetB_lo h1)
    go_enter Tryz.func274, Tryz.ntmps274
    go_wp2
    go_ret
    exact ⟨ret_boolv (by rw [H.out] <;> first | rfl | (simp <;> omega)), rfl⟩
  · by_cases h2 : 15 < b
    · have H := Lib.hid (wetB_hi h2)
      go_enter Tryz.func274, Tryz.ntmps274
      go_wp2
      go_ret
      exact ⟨ret_boolv (by rw [H.out] <;> first | rfl | (simp <;> omega)), rfl⟩
    · have H := Lib.hid (wetB_in (b := b) (by omega) (by omega))
      go_enter Tryz.func274, Tryz.ntmps274
      go_wp2
      go_ret
      exact ⟨ret_boolv (by rw [H.out] <;> first | rfl | (simp <;> omega)), rfl⟩
theorem yld_any (b : Int) (w : World) : Calls Tryz.prog 209 #[.int .i64 b] w fun e w' => e = .returned (.bool (yldB b)) ∧ w = w' := by
  by_cases h1 : b = 0
  · have H := Lib.hid (show yldB b = true by simp [yldB, h1])
    have h2 : (b == 0) = true := by simp [h1]
    clear h1
    go_enter Tryz.func209, Tryz.ntmps209
    go_wp2
    go_ret
    exact ⟨ret_boolv (by rw [H.out] <;> first | rfl | (simp <;> omega)), rfl⟩
  · have H := Lib.hid (show yldB b = wetB b by unfold yldB wetB; simp [h1])
    have h2 : (b == 0) = false := by simp [h1]
    clear h1
    go_enter Tryz.func209, Tryz.ntmps209
    go_wp2_with (first | (go_at_call 274; refine (wet_any _ _).mono ?_; rintro e w1 ⟨rfl, rfl⟩))
    go_ret
    exact ⟨ret_boolv (by rw [H.out] <;> first | rfl | (simp <;> omega)), rfl⟩
theorem falls_any (b : Int) (w : World) : Calls Tryz.prog 290 #[.int .i64 b] w fun e w' => e = .returned (.bool (b == 3)) ∧ w = w' := by
  go_enter Tryz.func290, Tryz.ntmps290
  go_wp2
  go_ret
  exact ⟨rfl, rfl⟩
theorem delay_any (b : Int) (w : World) : Calls Tryz.prog 266 #[.int .i64 b] w fun e w' => e = .returned (.int .i64 (dlyS b)) ∧ w = w' := by
  by_cases h : b = 3
  · have H := Lib.hid (show dlyS b = 2 by unfold dlyS; rw [if_pos h])
    have h2 : (b == 3) = true := by simp [h]
    clear h
    go_enter Tryz.func266, Tryz.ntmps266
    go_wp2_with (first | (go_at_call 290; refine (falls_any _ _).mono ?_; rintro e w1 ⟨rfl, rfl⟩))
    go_ret
    exact ⟨ret_int H.out.symm, rfl⟩
  · have h2 : (b == 3) = false := by simp [h]
    by_cases h1 : 8 ≤ b ∧ b ≤ 15
    · have H := Lib.hid (show dlyS b = 5 by unfold dlyS; rw [if_neg h, if_pos h1])
      have h4 := wetB_in h1.1 h1.2
      clear h h1
      go_enter Tryz.func266, Tryz.ntmps266
      go_wp2_with (first | (go_at_call 290; refine (falls_any _ _).mono ?_; rintro e w1 ⟨rfl, rfl⟩) | (go_at_call 274; refine (wet_any _ _).mono ?_; rintro e w1 ⟨rfl, rfl⟩))
      go_ret
      exact ⟨ret_int H.out.symm, rfl⟩
    · have H := Lib.hid (show dlyS b = 0 by unfold dlyS; rw [if_neg h, if_neg h1])
      have h4 : wetB b = false := by unfold wetB; rw [decide_eq_false_iff_not]; exact h1
      clear h h1
      go_enter Tryz.func266, Tryz.ntmps266
      go_wp2_with (first | (go_at_call 290; refine (falls_any _ _).mono ?_; rintro e w1 ⟨rfl, rfl⟩) | (go_at_call 274; refine (wet_any _ _).mono ?_; rintro e w1 ⟨rfl, rfl⟩))
      go_ret
      exact ⟨ret_int H.out.symm, rfl⟩
theorem gd_bd (n : Int) : 0 ≤ gdS n ∧ gdS n ≤ 15 ∧ gdS n ≠ 6 ∧ gdS n ≠ 7 := by
  have := arS_bd (n := n) (m := 14) (by omega)
  unfold gdS
  split <;> omega
theorem refgood_any (n : Int) (w : World) (hn : Fit n) : Calls Tryz.prog 12 #[.int .i64 n] w fun e w' => e = .returned (.int .i64 (gdS n)) ∧ w = w' := by
  obtain ⟨a1, a2⟩ := arS_bd (n := n) (m := 14) (by omega)
  by_cases h : 5 < arS n 14
  · have H := Lib.hid (show gdS n = arS n 14 + 2 by unfold gdS; rw [if_pos h])
    go_enter Tryz.func12, Tryz.ntmps12
    go_wp2_with (first | (go_at_call 6; refine (around_fit _ _ _ hn (by omega) (by omega)).mono ?_; rintro e w1 ⟨rfl, rfl⟩))
    go_ret
    exact ⟨ret_int H.out.symm, rfl⟩
  · have H := Lib.hid (show gdS n = arS n 14 by unfold gdS; rw [if_neg h])
    go_enter Tryz.func12, Tryz.ntmps12
    go_wp2_with (first | (go_at_call 6; refine (around_fit _ _ _ hn (by omega) (by omega)).mono ?_; rintro e w1 ⟨rfl, rfl⟩))
    go_ret
    exact ⟨ret_int H.out.symm, rfl⟩

theorem gd_good (n : Int) : GoodB (gdS n) := ⟨(gd_bd n).1, (gd_bd n).2.1, (gd_bd n).2.2.1, (gd_bd n).2.2.2⟩
/-- A block, or none (Away). -/
def AnyB (b : Int) : Prop := b = -1 ∨ GoodB b
theorem AnyB.cases {b : Int} (h : AnyB b) : b = -1 ∨ b = 0 ∨ b = 1 ∨ b = 2 ∨ b = 3 ∨ b = 4 ∨ b = 5 ∨ b = 8 ∨ b = 9 ∨ b = 10 ∨ b = 11 ∨ b = 12 ∨ b = 13 ∨ b = 14 ∨ b = 15 := by
  rcases h with h | h
  · exact .inl h
  · exact .inr h.cases
def solB (b : Int) : Bool := decide (b = -1 ∨ b = 1 ∨ b = 2 ∨ b = 3 ∨ b = 5)
set_option maxRecDepth 100000 in
theorem solid_any (b : Int) (h : AnyB b) (w : World) : Calls Tryz.prog 159 #[.int .i64 b] w fun e w' => e = .returned (.bool (solB b)) ∧ w = w' := by
  obtain rfl | rfl | rfl | rfl | rfl | rfl | rfl | rfl | rfl | rfl | rfl | rfl | rfl | rfl | rfl := h.cases
  all_goals
    clear h
    go_enter Tryz.func159, Tryz.ntmps159
    go_wp2
    go_ret
    exact ⟨ret_bool (by decide +kernel), rfl⟩
set_option maxRecDepth 100000 in
theorem refsolid_any (b : Int) (h : AnyB b) (w : World) : Calls Tryz.prog 23 #[.int .i64 b] w fun e w' => e = .returned (.bool (solB b)) ∧ w = w' := by
  obtain rfl | rfl | rfl | rfl | rfl | rfl | rfl | rfl | rfl | rfl | rfl | rfl | rfl | rfl | rfl := h.cases
  all_goals
    clear h
    go_enter Tryz.func23, Tryz.ntmps23
    go_wp2
    go_ret
    exact ⟨ret_bool (by decide +kernel), rfl⟩
theorem nm_water (k : Nat) (hk : k < 8) : (⟨#[119, 97, 116, 101, 114]⟩ : ByteArray) ++ (⟨#[48, 49, 50, 51, 52, 53, 54, 55]⟩ : ByteArray).extract k (k + 1) = nmB (8 + (k : Int)) := by
  rcases k with _ | _ | _ | _ | _ | _ | _ | _ | k
  all_goals first | omega | decide +kernel
set_option maxRecDepth 100000 in
set_option maxHeartbeats 1000000 in
theorem refname_any (b : Int) (h : GoodB b) (w : World) : Calls Tryz.prog 14 #[.int .i64 b] w fun e w' => e = .returned (.string (nmB b)) ∧ ∃ f, w' = ext w f := by
  obtain rfl | rfl | rfl | rfl | rfl | rfl | rfl | rfl | rfl | rfl | rfl | rfl | rfl | rfl := h.cases
  all_goals
    clear h
    go_enter Tryz.func14, Tryz.ntmps14
    go_wp2
    go_ret
    exact ⟨ret_str (by decide +kernel), grown_of⟩
end Go.Proofs.YtnogfelfgclajaaGreatDoor
end

section
namespace Go.Proofs.YtnogfelfgclajaaGreatDoor
open Go.RowKit
attribute [local go_sem] ext_ext drew_ext ext_drew ext_cell ext_frozen in_lt in_le in_ne in_en in_ne1 in_en1 in_le1 in_ltn in_len in_nen in_enn size_le ite_max ite_min
set_option linter.unusedVariables false
set_option linter.unusedSimpArgs false

theorem num_eq {a b : Int} (h : a = b) : Value.int .i64 a = .int .i64 b := by rw [h]
theorem canon_adj : ∀ {l : List Rn}, Canon l → ∀ (k : Nat) (h : k + 1 < l.length), l[k].2 ≠ l[k + 1].2
  | [], _, k, h => by simp at h
  | [_], _, k, h => by simp at h
  | (n, b) :: (m, c) :: l, hc, k, h => by
    cases k with
    | zero =>
      cases hc with
      | cons _ _ _ _ _ _ hne _ => exact hne
    | succ k => exact canon_adj hc.tail k (by simpa using h)
theorem lenR_le {l : List Rn} (h : ∀ r ∈ l, 0 ≤ r.1) (k : Nat) : 0 ≤ lenR (l.take k) ∧ lenR (l.take k) ≤ lenR l := by
  have key : ∀ m : List Rn, (∀ r ∈ m, 0 ≤ r.1) → 0 ≤ lenR m := by
    intro m
    induction m with
    | nil => intro _; simp [lenR]
    | cons r m ih =>
      intro hm
      have h3 := hm r (by simp)
      have h4 := ih (fun x hx => hm x (by simp [hx]))
      unfold lenR at h4 ⊢
      simp only [List.map_cons, List.sum_cons]
      omega
  have h1 : lenR l = lenR (l.take k) + lenR (l.drop k) := by
    unfold lenR
    rw [← List.sum_append, ← List.map_append, List.take_append_drop]
  have h2 := key (l.drop k) (fun r hr => h r (List.mem_of_mem_drop hr))
  have h3 := key (l.take k) (fun r hr => h r (List.mem_of_mem_take hr))
  omega
/-- Runs that a chunk may have. -/
structure Fine (l : List Rn) : Prop where
  canon : Canon l
  good : ∀ r ∈ l, GoodB r.2
  len : lenR l = 8192
theorem Fine.pos {l : List Rn} (h : Fine l) : ∀ r ∈ l, 1 ≤ r.1 := h.canon.all
theorem Fine.nonneg {l : List Rn} (h : Fine l) : ∀ r ∈ l, 0 ≤ r.1 := fun r hr => by have := h.pos r hr; omega
theorem Fine.cells {l : List Rn} (h : Fine l) : (cellsR l).length = 8192 := by
  have := lenR_cells h.nonneg
  have := h.len
  omega
theorem Fine.short {l : List Rn} (h : Fine l) : l.length ≤ 8192 := by have := (canon_bd h.canon).1; have := h.cells; omega
theorem Fine.full {l : List Rn} (h : Fine l) : 0 < l.length := by
  cases l with
  | nil => have := h.len; simp [lenR] at this
  | cons => simp
theorem Fine.each {l : List Rn} (h : Fine l) : ∀ r ∈ l, 1 ≤ r.1 ∧ r.1 ≤ 8192 := fun r hr => by
  have := (canon_bd h.canon).2 r hr
  have := h.cells
  omega
theorem Fine.rb {l : List Rn} (h : Fine l) : RB l := ⟨by have := h.short; omega, fun r hr => by have := h.each r hr; omega⟩

set_option maxRecDepth 100000 in
set_option maxHeartbeats 4000000 in
theorem runsmay_any (l : List Rn) (g cap : Nat) (w : World) (h : Fine l) (hc : RunsAt w g l) :
    Calls Tryz.prog 181 #[.slice (some ⟨g, 0, none⟩) l.length cap, .int .i64 8192] w fun e w' => e = .returned (.bool true) ∧ ∃ f, w' = ext w f := by
  have HC := Lib.hid hc
  have HF := Lib.hid h
  haveI := in_of_cell (hc 0 _ (rV_at l 0 h.full).1)
  clear hc h
  go_enter Tryz.func181, Tryz.ntmps181
  go_wp2_with fail
  go_loopw [5, 11] (fun n i wr => ∃ k : Nat, k ≤ l.length ∧ i = .int .i64 k ∧ n = .int .i64 (8192 - lenR (l.take k)) ∧ ∃ f, wr = ext w f) (fun _ i _ => l.length - (intOf i).toNat)
  case atStart => exact ⟨0, by omega, rfl, rfl, grown_of⟩
  case round =>
    obtain ⟨k, hk, rfl, rfl, _, hw⟩ := hrel
    rename World => w1
    haveI hg1 := named_grown hw
    have hc1 := named_cell hw
    have hz1 := named_frozen hw
    have hh1 := named_heap hw
    haveI hi1 := named_in hw
    haveI hb1 := named_below (w := w) hw
    clear hw
    by_cases hlt : k < l.length
    · obtain ⟨x0, x1⟩ := rV_at l k hlt
      have d0 := HC.out _ _ x0
      have d1 := HC.out _ _ x1
      haveI := in_of_cell d0
      have HT := Lib.hid (lenR_take l k hlt)
      have HK := Lib.hid hlt
      obtain ⟨b1, _⟩ := lenR_le HF.out.nonneg k
      have b2 := (lenR_le HF.out.nonneg (k + 1)).2
      rw [HT.out, HF.out.len] at b2
      obtain ⟨e1, e2⟩ := HF.out.each l[k] (List.getElem_mem hlt)
      have k1 : (k : Int) < (l.length : Int) := by omega
      have k2 : (l.length : Int) ≤ 8192 := by have := HF.out.short; omega
      have GB := HF.out.good l[k] (List.getElem_mem hlt)
      have MB := fun W => may_any l[k].2 GB W
      rcases k with _ | j
      · clear x0 x1 GB
        generalize l[0].1 = a at *
        generalize l[0].2 = b at *
        generalize lenR (l.take 0) = s at *
        have t1 : decide (a < 1) = false := by simp; omega
        have t2 : decide (8192 - s < a) = false := by simp; omega
        have t3 : a ≤ 8192 - s := by omega
        go_wp2_with fail
        refine wp_region_ext ?_ ?_ ?_
        · kernel_rfl
        · kernel_rfl
        repeat (go_big_quiet_step (first | (go_at_call 157; exact ext_call (MB _))))
        refine wpQuiet_nil ?_
        rintro w2 ⟨_t, hw⟩
        haveI hg2 := named_grown hw
        haveI hb2_1 := named_below (w := w1) hw
        have hc2 := named_cell hw
        have hz2 := named_frozen hw
        have hh2 := named_heap hw
        haveI hi2 := named_in hw
        haveI hb2 := named_below (w := w) hw
        clear hw
        go_wp2_with fail
        go_roundw
        case rel => exact ⟨0 + 1, HK.out, by go_num, by rw [HT.out]; exact num_eq (by omega), grown_of⟩
        case measure => have := HK.out; simp [intOf]; omega
      · have hj : j < l.length := by omega
        obtain ⟨y0, y1⟩ := rV_at l j hj
        have p1 := HC.out _ _ y1
        have hne := canon_adj HF.out.canon j hlt
        have tne : (l[j].2 == l[j + 1].2) = false := beq_eq_false_iff_ne.2 hne
        clear x0 x1 y0 y1 GB hne
        generalize l[j + 1].1 = a at *
        generalize l[j + 1].2 = b at *
        generalize l[j].2 = c at *
        generalize lenR (l.take (j + 1)) = s at *
        have t1 : decide (a < 1) = false := by simp; omega
        have t2 : decide (8192 - s < a) = false := by simp; omega
        have t3 : a ≤ 8192 - s := by omega
        go_wp2_with fail
        refine wp_region_ext ?_ ?_ ?_
        · kernel_rfl
        · kernel_rfl
        repeat (go_big_quiet_step (first | (go_at_call 157; exact ext_call (MB _))))
        refine wpQuiet_nil ?_
        rintro w2 ⟨_t, hw⟩
        haveI hg2 := named_grown hw
        haveI hb2_1 := named_below (w := w1) hw
        have hc2 := named_cell hw
        have hz2 := named_frozen hw
        have hh2 := named_heap hw
        haveI hi2 := named_in hw
        haveI hb2 := named_below (w := w) hw
        clear hw
        go_wp2_with fail
        go_roundw
        case rel => exact ⟨j + 1 + 1, HK.out, by go_num, by rw [HT.out]; exact num_eq (by omega), grown_of⟩
        case measure => have := HK.out; simp [intOf]; omega
    · have k1 : ¬ (k : Int) < (l.length : Int) := by omega
      have HE : Hid (lenR (l.take k) = 8192) := Lib.hid (by rw [List.take_of_length_le (by omega)]; exact HF.out.len)
      rw [HE.out]
      go_wp2_with fail
      go_ret
      exact ⟨rfl, grown_of⟩
end Go.Proofs.YtnogfelfgclajaaGreatDoor
end

section
namespace Go.Proofs.YtnogfelfgclajaaGreatDoor
open Go.RowKit
attribute [local go_sem] ext_ext drew_ext ext_drew ext_cell ext_frozen in_lt in_le in_ne in_en in_ne1 in_en1 in_le1 in_ltn in_len in_nen in_enn size_le ite_max ite_min
set_option linter.unusedVariables false
set_option linter.unusedSimpArgs false

theorem canon_rb {l : List Rn} (h : Canon l) (hl : (cellsR l).length ≤ 10000) : RB l := by
  obtain ⟨h1, h2⟩ := canon_bd h
  exact ⟨by omega, fun r hr => by have := h2 r hr; omega⟩
theorem cut_len {l : List Rn} (h : Fine l) (s t : Int) (h0 : 0 ≤ s) : (cellsR (cutG [] s t l 0)).length ≤ 8192 ∧ (cellsR (cutG [] s t l 0)).length ≤ (t - s).toNat := by
  rw [cutG_cells l h.nonneg 0 [] .nil (Int.le_refl 0), cellsR_nil, List.nil_append, List.length_drop, List.length_take]
  have := h.cells
  omega
theorem one_len (b : Int) : (cellsR (pushG [] 1 b)).length = 1 := by rw [pushG_cells _ _ .nil]; simp [cellsR]

set_option maxRecDepth 100000 in
set_option maxHeartbeats 4000000 in
theorem runsfill_any (l : List Rn) (i : Nat) (b : Int) (g cap : Nat) (w : World) (h : Fine l) (hi : i < 8192) (hb : GoodB b) (hc : RunsAt w g l) :
    Calls Tryz.prog 369 #[.slice (some ⟨g, 0, none⟩) l.length cap, .int .i64 i, .int .i64 ((i : Int) + 1), .int .i64 b] w (MadeRow 235 2 (fillG l i (i + 1) b).length (rV (fillG l i (i + 1) b)) w) := by
  have HC := Lib.hid hc
  have HF := Lib.hid h
  have LN := fun W (hW : ∃ f, W = ext w f) => len_any l g cap W h.rb h.full (hc.grown hW)
  rw [h.len] at LN
  have MB := fun W => may_any b hb W
  have i0 : (0 : Int) ≤ (i : Int) := by omega
  have i1 : (i : Int) < 8192 := by omega
  have i2 : (i : Int) + 1 ≤ 8192 := by omega
  clear hc h hi hb
  go_enter Tryz.func369, Tryz.ntmps369
  go_wp2_with fail
  refine (LN _ ⟨id, by unfold ext; split <;> rfl⟩).mono ?_
  rintro e w1 ⟨rfl, _t, hw⟩
  have hc1 := named_cell hw
  have hz1 := named_frozen hw
  have hh1 := named_heap hw
  haveI hi1 := named_in hw
  haveI hb1 := named_below (w := w) hw
  clear hw
  go_wp2_with fail
  refine (MB _).mono ?_
  rintro e w2 ⟨rfl, _t, hw⟩
  haveI hb2_1 := named_below (w := w1) hw
  have hc2 := named_cell hw
  have hz2 := named_frozen hw
  have hh2 := named_heap hw
  haveI hi2 := named_in hw
  haveI hb2 := named_below (w := w) hw
  clear hw
  go_wp2_with fail
  have B2 := Lib.hid (grown_now (w := w) (W := w2))
  refine (runscut_any l 0 i g cap w2 HF.out.rb (by rw [HF.out.len]; omega) HF.out.full (HC.out.grown (ext_of B2.out)) (by omega) (by omega) (by omega) (by omega)).mono ?_
  rintro e w3 ⟨v3, rfl, ho3, _t, hw⟩
  haveI hb3_2 := named_below (w := w2) hw
  have hc3 := named_cell hw
  have hz3 := named_frozen hw
  have hh3 := named_heap hw
  haveI hi3 := named_in hw
  haveI hb3 := named_below (w := w) hw
  clear hw
  have O3 := Lib.hid ho3
  clear ho3
  obtain ⟨og3, cp3, rfl⟩ := owns_form O3.out
  go_wp2_with fail
  refine (runsmake_any _ b (by omega) w3).mono ?_
  rintro e w4 ⟨v4, rfl, ho4, _t, hw⟩
  haveI hb4_2 := named_below (w := w2) hw
  haveI hb4_3 := named_below (w := w3) hw
  have hc4 := named_cell hw
  have hz4 := named_frozen hw
  have hh4 := named_heap hw
  haveI hi4 := named_in hw
  haveI hb4 := named_below (w := w) hw
  clear hw
  have O4 := Lib.hid ho4
  clear ho4
  obtain ⟨og4, cp4, rfl⟩ := owns_form O4.out
  go_wp2_with fail
  have B4 := Lib.hid (grown_now (w := w) (W := w4))
  refine (runscut_any l (i + 1) 8192 g cap w4 HF.out.rb (by rw [HF.out.len]; omega) HF.out.full (HC.out.grown (ext_of B4.out)) (by omega) (by omega) (by omega) (by omega)).mono ?_
  rintro e w5 ⟨v5, rfl, ho5, _t, hw⟩
  haveI hb5_2 := named_below (w := w2) hw
  haveI hb5_3 := named_below (w := w3) hw
  haveI hb5_4 := named_below (w := w4) hw
  have hc5 := named_cell hw
  have hz5 := named_frozen hw
  have hh5 := named_heap hw
  haveI hi5 := named_in hw
  haveI hb5 := named_below (w := w) hw
  clear hw
  have O5 := Lib.hid ho5
  clear ho5
  obtain ⟨og5, cp5, rfl⟩ := owns_form O5.out
  go_wp2_with fail
  have FE := Lib.hid (show List.foldl joinG [] [cutG [] 0 i l 0, pushG [] ((i : Int) + 1 - i) b, cutG [] ((i : Int) + 1) 8192 l 0] = fillG l i (i + 1) b by unfold fillG; rw [HF.out.len]; rfl)
  have RA : ∀ o : Obj, o = .cells #[.slice og3 (cutG [] 0 i l 0).length cp3, .slice og4 (pushG [] ((i : Int) + 1 - i) b).length cp4, .slice og5 (cutG [] ((i : Int) + 1) 8192 l 0).length cp5] 185 →
      RowsAt (w5.alloc o) w5.heap.size [cutG [] 0 i l 0, pushG [] ((i : Int) + 1 - i) b, cutG [] ((i : Int) + 1) 8192 l 0] [.slice og3 (cutG [] 0 i l 0).length cp3, .slice og4 (pushG [] ((i : Int) + 1 - i) b).length cp4, .slice og5 (cutG [] ((i : Int) + 1) 8192 l 0).length cp5] := by
    rintro o rfl
    refine ⟨rfl, fun k h h' => ?_⟩
    rcases k with _ | _ | _ | k
    · exact ⟨World.cell?_alloc_new .., owns_base (owns_grown O3.out (by exact grown_of)) (Nat.zero_le _)⟩
    · exact ⟨World.cell?_alloc_new .., owns_base (owns_grown O4.out (by exact grown_of)) (Nat.zero_le _)⟩
    · exact ⟨World.cell?_alloc_new .., owns_base (owns_grown O5.out (by exact grown_of)) (Nat.zero_le _)⟩
    · simp at h; omega
  obtain ⟨c1, c1'⟩ := cut_len HF.out 0 i (by omega)
  obtain ⟨c2, c2'⟩ := cut_len HF.out ((i : Int) + 1) 8192 (by omega)
  have n1 : Canon (cutG [] 0 i l 0) := cutG_canon _ _ .nil
  have n2 : Canon (cutG [] ((i : Int) + 1) 8192 l 0) := cutG_canon _ _ .nil
  have e1 : (i : Int) + 1 - i = 1 := by omega
  have c3 : (cellsR (pushG [] ((i : Int) + 1 - i) b)).length = 1 := by rw [e1]; exact one_len b
  have n3 : Canon (pushG [] ((i : Int) + 1 - i) b) := pushG_canon _ _ .nil
  have JN := runsjoin_any [cutG [] 0 i l 0, pushG [] ((i : Int) + 1 - i) b, cutG [] ((i : Int) + 1) 8192 l 0] _ w5.heap.size 3 _ (RA _ rfl) (by simp) (by simp) (fun m hm => by
    simp only [List.mem_cons, List.mem_nil_iff, or_false] at hm
    rcases hm with rfl | rfl | rfl
    · exact canon_rb n1 (by omega)
    · exact canon_rb n3 (by omega)
    · exact canon_rb n2 (by omega)) (fun k h j => by
    have tk : ∀ (m : List Rn) j, (cellsR (m.take j)).length ≤ (cellsR m).length := fun m j => by
      conv => rhs; rw [← List.take_append_drop j m, cellsR_append]
      simp
    rcases k with _ | _ | _ | k
    · have := tk (cutG [] 0 i l 0) j
      simp only [List.take_zero, List.foldl_nil, List.getElem_cons_zero]
      rw [joinG_cells _ .nil, List.length_append]
      simp only [cellsR_nil, List.length_nil]
      omega
    · have := tk (pushG [] ((i : Int) + 1 - i) b) j
      simp only [List.take_succ_cons, List.take_zero, List.foldl_cons, List.foldl_nil, List.getElem_cons_succ, List.getElem_cons_zero]
      rw [joinG_cells _ (joinG_canon _ .nil), joinG_cells _ .nil, List.length_append, List.length_append]
      simp only [cellsR_nil, List.length_nil]
      omega
    · have := tk (cutG [] ((i : Int) + 1) 8192 l 0) j
      simp only [List.take_succ_cons, List.take_zero, List.foldl_cons, List.foldl_nil, List.getElem_cons_succ, List.getElem_cons_zero]
      rw [joinG_cells _ (joinG_canon _ (joinG_canon _ .nil)), joinG_cells _ (joinG_canon _ .nil), joinG_cells _ .nil, List.length_append, List.length_append, List.length_append]
      simp only [cellsR_nil, List.length_nil]
      omega
    · simp at h; omega)
  rw [FE.out] at JN
  have JH := Lib.hid JN
  clear JN RA c1 c2 c1' c2' c3 n1 n2 n3 e1
  refine (JH.out).mono ?_
  rintro e w6 ⟨v6, rfl, ho6, _t, hw⟩
  haveI hb6_2 := named_below (w := w2) hw
  have hc6 := named_cell hw
  have hz6 := named_frozen hw
  have hh6 := named_heap hw
  haveI hi6 := named_in hw
  haveI hb6 := named_below (w := w) hw
  clear hw
  have O6 := Lib.hid ho6
  clear ho6
  go_wp2_with fail
  go_ret
  exact ⟨_, rfl, owns_base O6.out (by have := (grown_now (w := w) (W := w5)).size; simp; omega), grown_of⟩

theorem fill_fine {l : List Rn} (h : Fine l) (i : Nat) (b : Int) (hi : i < 8192) (hb : GoodB b) : Fine (fillG l i (i + 1) b) := by
  have hc := fillG_canon l i (i + 1) b
  have he := setG_cells l h.nonneg i b (by rw [h.len]; omega)
  refine ⟨hc, fun r hr => ?_, ?_⟩
  · have h1 := hc.all r hr
    have h2 : r.2 ∈ cellsR (fillG l i (i + 1) b) := by
      unfold cellsR
      rw [List.mem_flatMap]
      exact ⟨r, hr, by rw [List.mem_replicate]; exact ⟨by omega, rfl⟩⟩
    rw [he] at h2
    rcases List.mem_or_eq_of_mem_set h2 with h3 | h3
    · unfold cellsR at h3
      rw [List.mem_flatMap] at h3
      obtain ⟨q, hq, h4⟩ := h3
      rw [(List.mem_replicate.1 h4).2]
      exact h.good q hq
    · rw [h3]; exact hb
  · rw [lenR_cells (fun r hr => by have := hc.all r hr; omega), he, List.length_set, h.cells]
    rfl

set_option maxRecDepth 100000 in
set_option maxHeartbeats 4000000 in
theorem runsset_any (l : List Rn) (i : Nat) (b : Int) (g cap : Nat) (w : World) (h : Fine l) (hi : i < 8192) (hb : GoodB b) (hc : RunsAt w g l) :
    Calls Tryz.prog 354 #[.slice (some ⟨g, 0, none⟩) l.length cap, .int .i64 i, .int .i64 b] w (MadeRow 235 2 (fillG l i (i + 1) b).length (rV (fillG l i (i + 1) b)) w) := by
  have LN := fun W (hW : ∃ f, W = ext w f) => len_any l g cap W h.rb h.full (hc.grown hW)
  have FI := fun W (hW : ∃ f, W = ext w f) => runsfill_any l i b g cap W h hi hb (hc.grown hW)
  rw [h.len] at LN
  have i0 : (0 : Int) ≤ (i : Int) := by omega
  have i1 : (i : Int) < 8192 := by omega
  have d0 : decide ((i : Int) < 0) = false := by simp
  have d1 : decide (8192 ≤ (i : Int)) = false := by simp; omega
  clear hc h hi hb
  go_enter Tryz.func354, Tryz.ntmps354
  go_wp2_with fail
  refine (LN _ ⟨id, by unfold ext; split <;> rfl⟩).mono ?_
  rintro e w1 ⟨rfl, _t, hw⟩
  have hc1 := named_cell hw
  have hz1 := named_frozen hw
  have hh1 := named_heap hw
  haveI hi1 := named_in hw
  haveI hb1 := named_below (w := w) hw
  clear hw
  go_wp2_with fail
  have B1 := Lib.hid (grown_now (w := w) (W := w1))
  refine (FI w1 (ext_of B1.out)).mono ?_
  rintro e w2 ⟨v2, rfl, ho2, _t, hw⟩
  haveI hb2_1 := named_below (w := w1) hw
  have hc2 := named_cell hw
  have hz2 := named_frozen hw
  have hh2 := named_heap hw
  haveI hi2 := named_in hw
  haveI hb2 := named_below (w := w) hw
  clear hw
  have O2 := Lib.hid ho2
  clear ho2
  go_wp2_with fail
  go_ret
  exact ⟨_, rfl, owns_base O2.out B1.out.size, grown_of⟩
end Go.Proofs.YtnogfelfgclajaaGreatDoor
end

section
namespace Go.Proofs.YtnogfelfgclajaaGreatDoor
set_option linter.unusedVariables false

/-- How often a cell is of another block than the one ahead of it. -/
def chg : List Int → Nat
  | a :: b :: l => (if a = b then 0 else 1) + chg (b :: l)
  | _ => 0
theorem chg_le (l : List Int) : chg l ≤ l.length - 1 := by
  induction l with
  | nil => exact Nat.le_refl _
  | cons a l ih =>
    cases l with
    | nil => exact Nat.le_refl _
    | cons b l =>
      unfold chg
      simp only [List.length_cons] at ih ⊢
      split <;> omega
theorem chg_cons (a : Int) (l : List Int) : chg (a :: l) ≤ chg l + 1 := by
  cases l with
  | nil => simp [chg]
  | cons b l =>
    show (if a = b then 0 else 1) + chg (b :: l) ≤ chg (b :: l) + 1
    split <;> omega
theorem chg_tail (a : Int) (l : List Int) : chg l ≤ chg (a :: l) := by
  cases l with
  | nil => simp [chg]
  | cons b l => show chg (b :: l) ≤ (if a = b then 0 else 1) + chg (b :: l); omega
theorem chg_append (l m : List Int) : chg (l ++ m) ≤ chg l + chg m + 1 := by
  induction l with
  | nil => show chg m ≤ 0 + chg m + 1; omega
  | cons a l ih =>
    cases l with
    | nil =>
      have := chg_cons a m
      show chg (a :: m) ≤ 0 + chg m + 1
      omega
    | cons b l =>
      show (if a = b then 0 else 1) + chg (b :: (l ++ m)) ≤ (if a = b then 0 else 1) + chg (b :: l) + chg m + 1
      have : chg (b :: (l ++ m)) ≤ chg (b :: l) + chg m + 1 := ih
      omega
theorem chg_replicate (n : Nat) (b : Int) : chg (List.replicate n b) = 0 := by
  induction n with
  | zero => rfl
  | succ n ih =>
    cases n with
    | zero => rfl
    | succ n =>
      show (if b = b then 0 else 1) + chg (List.replicate (n + 1) b) = 0
      rw [ih]; simp
theorem chg_set (l : List Int) (i : Nat) (b : Int) : chg (l.set i b) ≤ chg l + 2 := by
  induction l generalizing i with
  | nil => simp [chg]
  | cons a l ih =>
    cases i with
    | zero =>
      have h1 := chg_cons b l
      have h2 := chg_tail a l
      show chg (b :: l) ≤ chg (a :: l) + 2
      omega
    | succ i =>
      cases l with
      | nil => simp [chg]
      | cons d l =>
        cases i with
        | zero =>
          have h1 := chg_cons a (b :: l)
          have h2 := chg_cons b l
          have h3 := chg_tail d l
          have h4 := chg_tail a (d :: l)
          show chg (a :: b :: l) ≤ chg (a :: d :: l) + 2
          omega
        | succ i =>
          have h := ih (i + 1)
          show (if a = d then 0 else 1) + chg (d :: l.set i b) ≤ (if a = d then 0 else 1) + chg (d :: l) + 2
          have h' : chg (d :: l.set i b) ≤ chg (d :: l) + 2 := h
          omega
/-- Canonical runs are one more than the changes of their cells. -/
theorem canon_chg : ∀ {l : List (Int × Int)}, Canon l → l.length ≤ chg (cellsR l) + 1
  | [], _ => by simp
  | [(n, b)], h => by simp
  | (n, b) :: (m, c) :: l, h => by
    have h1 := h.pos
    have h2 := h.tail
    have h3 := h2.pos
    have ih := canon_chg h2
    simp only at h1 h3
    have hne : b ≠ c := by
      cases h with
      | cons _ _ _ _ _ _ hne _ => exact hne
    obtain ⟨k, hk⟩ : ∃ k, n.toNat = k + 1 := ⟨n.toNat - 1, by omega⟩
    obtain ⟨j, hj⟩ : ∃ j, m.toNat = j + 1 := ⟨m.toNat - 1, by omega⟩
    have e2 : cellsR ((m, c) :: l) = c :: (List.replicate j c ++ cellsR l) := by rw [cellsR_cons, hj, List.replicate_succ]; rfl
    have key : ∀ k, chg (List.replicate (k + 1) b ++ (c :: (List.replicate j c ++ cellsR l))) = 1 + chg (c :: (List.replicate j c ++ cellsR l)) := by
      intro k
      induction k with
      | zero =>
        show (if b = c then 0 else 1) + chg (c :: (List.replicate j c ++ cellsR l)) = _
        rw [if_neg hne]
      | succ k ihk =>
        show (if b = b then 0 else 1) + chg (List.replicate (k + 1) b ++ (c :: (List.replicate j c ++ cellsR l))) = _
        rw [ihk, if_pos rfl]; omega
    rw [e2] at ih
    rw [cellsR_cons, hk, e2, key k]
    simp only [List.length_cons] at ih ⊢
    omega

/-- A number's bytes (below 16384). -/
def numB (n : Nat) : List Nat := if n < 128 then [n] else [n % 128 + 128, n / 128]
theorem numB_len (n : Nat) : (numB n).length ≤ 1 + n / 128 := by
  unfold numB
  split
  · simp
  · simp
    omega
/-- The bytes of runs. -/
def codeW (rs : List (Int × Int)) : List Nat := rs.flatMap fun r => r.2.toNat :: numB r.1.toNat
theorem codeW_cons (n b : Int) (l : List (Int × Int)) : codeW ((n, b) :: l) = b.toNat :: (numB n.toNat ++ codeW l) := by simp [codeW]
theorem codeW_append (l m : List (Int × Int)) : codeW (l ++ m) = codeW l ++ codeW m := by simp [codeW]
theorem codeW_len (l : List (Int × Int)) : (codeW l).length ≤ 2 * l.length + (cellsR l).length / 128 := by
  induction l with
  | nil => simp [codeW]
  | cons r l ih =>
    obtain ⟨n, b⟩ := r
    have h := numB_len n.toNat
    rw [codeW_cons, cellsR_cons]
    simp only [List.length_cons, List.length_append, List.length_replicate]
    omega
end Go.Proofs.YtnogfelfgclajaaGreatDoor
end

section
namespace Go.Proofs.YtnogfelfgclajaaGreatDoor
open Go.RowKit
attribute [local go_sem] ext_ext drew_ext ext_drew ext_cell ext_frozen in_lt in_le in_ne in_en in_ne1 in_en1 in_le1 in_ltn in_len in_nen in_enn size_le ite_max ite_min
set_option linter.unusedVariables false
set_option linter.unusedSimpArgs false

theorem or128 (n : Nat) : bits BinOp.or IntKind.u8 ((n : Int) % 256) 128 = (n : Int) % 128 + 128 := by
  have key : ∀ k : Fin 256, bits BinOp.or IntKind.u8 ((k.val : Nat) : Int) 128 = ((k.val % 128 + 128 : Nat) : Int) := by decide +kernel
  have h2 := key ⟨n % 256, Nat.mod_lt _ (by omega)⟩
  simp only at h2
  rw [show (n : Int) % 256 = ((n % 256 : Nat) : Int) by omega, h2]
  omega

set_option maxRecDepth 100000 in
set_option maxHeartbeats 2000000 in
theorem codenum_any (n : Nat) (h1 : 1 ≤ n) (h2 : n ≤ 8192) (w : World) :
    Calls Tryz.prog 242 #[.int .i64 (n : Int)] w (MadeRow 5 1 (numB n).length (bV (numB n)) w) := by
  obtain ⟨i0, iz0, iz1, iz2, iz3⟩ := info_parts byteInfo
  have n1 : (1 : Int) ≤ (n : Int) := by omega
  have n2 : (n : Int) ≤ 8192 := by omega
  by_cases hn : n < 128
  · have n3 : (n : Int) < 128 := by omega
    have H := Lib.hid (show numB n = [n] by unfold numB; rw [if_pos hn])
    clear h1 h2 hn
    go_enter Tryz.func242, Tryz.ntmps242
    go_wp2_with fail
    refine wp_loop_rounds 1 ?_
    rw [rounds_succ]
    go_wp2_with (at_builtin; refine wpList_append_own _ rfl (.tmp 20) (.tmp 23) 87 rfl w.heap.size 5 i0 _ 1 1 Tryz.underlying87 iz0 iz1 iz2 iz3 rfl (by omega) _ _ _ rfl (World.ownsRow_nil _ w.heap.size 5 1) _ 1 1 [.int .u8 (n : Int)] rfl rfl (World.news_of_block (heap_alloc_new w _)) (by simp [Value.oneCell']) (by unfold maxLen; omega) (by omega) (by simp) ?_; intro v1 w1 ho1 hgr1 hx; clear hx)
    simp only [Nat.zero_add, List.nil_append] at ho1
    go_ret
    refine ⟨_, rfl, ?_, ext_of (((Below.refl _ w).alloc (Nat.le_refl _) _).grown hgr1 (by simp) (fun k hk => by cases hk))⟩
    rw [H.out]
    exact ho1
  · have H := Lib.hid (show bV (numB n) = [.int .u8 ((n : Int) % 128 + 128), .int .u8 ((n : Int) / 128)] ∧ (numB n).length = 2 by unfold numB; rw [if_neg hn]; exact ⟨rfl, rfl⟩)
    have n3 : (128 : Int) ≤ (n : Int) := by omega
    have o8 := or128 n
    have n4 : (n : Int) / 128 < 128 := by omega
    clear h1 h2 hn
    go_enter Tryz.func242, Tryz.ntmps242
    go_wp2_with fail
    refine wp_loop_rounds 2 ?_
    rw [rounds_succ]
    go_wp2_with (at_builtin; refine wpList_append_own _ rfl (.tmp 14) (.tmp 18) 87 rfl w.heap.size 5 i0 _ 1 1 Tryz.underlying87 iz0 iz1 iz2 iz3 rfl (by omega) _ _ _ rfl (World.ownsRow_nil _ w.heap.size 5 1) _ 1 1 [.int .u8 ((n : Int) % 128 + 128)] rfl rfl (World.news_of_block (heap_alloc_new w _)) (by simp [Value.oneCell']) (by unfold maxLen; omega) (by omega) (by simp) ?_; intro v1 w1 ho1 hgr1 hx; clear hx)
    simp only [Nat.zero_add, List.nil_append] at ho1
    have HB := Lib.hid (show Below w.heap.size w w1 from ((Below.refl _ w).alloc (Nat.le_refl _) _).grown hgr1 (by simp) (fun k hk => by cases hk))
    have HO := Lib.hid ho1
    clear ho1 hgr1
    rw [rounds_succ]
    go_wp2_with (at_builtin; refine wpList_append_own _ rfl (.tmp 20) (.tmp 23) 87 rfl w.heap.size 5 i0 _ 1 1 Tryz.underlying87 iz0 iz1 iz2 iz3 rfl (by omega) _ _ _ rfl (HO.out.alloc _) _ 1 1 [.int .u8 ((n : Int) / 128)] rfl rfl (World.news_of_block (heap_alloc_new w1 _)) (by simp [Value.oneCell']) (by unfold maxLen; omega) (by omega) (by have := HB.out.size; simp; omega) ?_; intro v2 w2 ho2 hgr2 hx; clear hx)
    go_ret
    refine ⟨_, rfl, ?_, ext_of ((HB.out.alloc HB.out.size _).grown hgr2 (by have := HB.out.size; simp; omega) (fun k hk => (HO.out.lt k hk).1))⟩
    rw [H.out.1, H.out.2]
    exact ho2
end Go.Proofs.YtnogfelfgclajaaGreatDoor
end
