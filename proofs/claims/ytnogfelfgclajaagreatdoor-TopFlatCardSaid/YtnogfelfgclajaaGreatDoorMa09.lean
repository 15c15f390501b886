/-
  No Go in sight. How many runs there are; how many bytes runs have.
  A number's bytes.
  The number that bytes begin with.
  Runs' bytes.
-/
import Derived.Test.YtnogfelfgclajaaGreatDoorMa04
import Derived.Test.YtnogfelfgclajaaGreatDoorMa08
import Derived.Deep.RegionLaw
section
namespace Go.Proofs.YtnogfelfgclajaaGreatDoor
set_option linter.unusedVariables false

/-- How often a cell is of another block than the one ahead of it. -/
def chg : List Int → Nat
  | a :: b :: l => (if a = b then 0 else 1) + chg (b :: l)
  | _ => 0
theorem chg_le (l : List Int) : chg l ≤ l.length - 1 := by
  induction l with
  | nil => exact Nat.le_refl _
  | cons a l ih =>
    cases l with
    | nil => exact Nat.le_refl _
    | cons b l =>
      unfold chg
      simp only [List.length_cons] at ih ⊢
      split <;> omega
theorem chg_cons (a : Int) (l : List Int) : chg (a :: l) ≤ chg l + 1 := by
  cases l with
  | nil => simp [chg]
  | cons b l =>
    show (if a = b then 0 else 1) + chg (b :: l) ≤ chg (b :: l) + 1
    split <;> omega
theorem chg_tail (a : Int) (l : List Int) : chg l ≤ chg (a :: l) := by
  cases l with
  | nil => simp [chg]
  | cons b l => show chg (b :: l) ≤ (if a = b then 0 else 1) + chg (b :: l); omega
theorem chg_append (l m : List Int) : chg (l ++ m) ≤ chg l + chg m + 1 := by
  induction l with
  | nil => show chg m ≤ 0 + chg m + 1; omega
  | cons a l ih =>
    cases l with
    | nil =>
      have := chg_cons a m
      show chg (a :: m) ≤ 0 + chg m + 1
      omega
    | cons b l =>
      show (if a = b then 0 else 1) + chg (b :: (l ++ m)) ≤ (if a = b then 0 else 1) + chg (b :: l) + chg m + 1
      have : chg (b :: (l ++ m)) ≤ chg (b :: l) + chg m + 1 := ih
      omega
theorem chg_replicate (n : Nat) (b : Int) : chg (List.replicate n b) = 0 := by
  induction n with
  | zero => rfl
  | succ n ih =>
    cases n with
    | zero => rfl
    | succ n =>
      show (if b = b then 0 else 1) + chg (List.replicate (n + 1) b) = 0
      rw [ih]; simp
theorem chg_set (l : List Int) (i : Nat) (b : Int) : chg (l.set i b) ≤ chg l + 2 := by
  induction l generalizing i with
  | nil => simp [chg]
  | cons a l ih =>
    cases i with
    | zero =>
      have h1 := chg_cons b l
      have h2 := chg_tail a l
      show chg (b :: l) ≤ chg (a :: l) + 2
      omega
    | succ i =>
      cases l with
      | nil => simp [chg]
      | cons d l =>
        cases i with
        | zero =>
          have h1 := chg_cons a (b :: l)
          have h2 := chg_cons b l
          have h3 := chg_tail d l
          have h4 := chg_tail a (d :: l)
          show chg (a :: b :: l) ≤ chg (a :: d :: l) + 2
          omega
        | succ i =>
          have h := ih (i + 1)
          show (if a = d then 0 else 1) + chg (d :: l.set i b) ≤ (if a = d then 0 else 1) + chg (d :: l) + 2
          have h' : chg (d :: l.set i b) ≤ chg (d :: l) + 2 := h
          omega
/-- Canonical runs are one more than the changes of their cells. -/
theorem canon_chg : ∀ {l : List (Int × Int)}, Canon l → l.length ≤ chg (cellsR l) + 1
  | [], _ => by simp
  | [(n, b)], h => by simp
  | (n, b) :: (m, c) :: l, h => by
    have h1 := h.pos
    have h2 := h.tail
    have h3 := h2.pos
    have ih := canon_chg h2
    simp only at h1 h3
    have hne : b ≠ c := by
      cases h with
      | cons _ _ _ _ _ _ hne _ => exact hne
    obtain ⟨k, hk⟩ : ∃ k, n.toNat = k + 1 := ⟨n.toNat - 1, by omega⟩
    obtain ⟨j, hj⟩ : ∃ j, m.toNat = j + 1 := ⟨m.toNat - 1, by omega⟩
    have e2 : cellsR ((m, c) :: l) = c :: (List.replicate j c ++ cellsR l) := by rw [cellsR_cons, hj, List.replicate_succ]; rfl
    have key : ∀ k, chg (List.replicate (k + 1) b ++ (c :: (List.replicate j c ++ cellsR l))) = 1 + chg (c :: (List.replicate j c ++ cellsR l)) := by
      intro k
      induction k with
      | zero =>
        show (if b = c then 0 else 1) + chg (c :: (List.replicate j c ++ cellsR l)) = _
        rw [if_neg hne]
      | succ k ihk =>
        show (if b = b then 0 else 1) + chg (List.replicate (k + 1) b ++ (c :: (List.replicate j c ++ cellsR l))) = _
        rw [ihk, if_pos rfl]; omega
    rw [e2] at ih
    rw [cellsR_cons, hk, e2, key k]
    simp only [List.length_cons] at ih ⊢
    omega

/-- A number's bytes (below 16384). -/
def numB (n : Nat) : List Nat := if n < 128 then [n] else [n % 128 + 128, n / 128]
theorem numB_len (n : Nat) : (numB n).length ≤ 1 + n / 128 := by
  unfold numB
  split
  · simp
  · simp
    omega
/-- The bytes of runs. -/
def codeW (rs : List (Int × Int)) : List Nat := rs.flatMap fun r => r.2.toNat :: numB r.1.toNat
theorem codeW_cons (n b : Int) (l : List (Int × Int)) : codeW ((n, b) :: l) = b.toNat :: (numB n.toNat ++ codeW l) := by simp [codeW]
theorem codeW_append (l m : List (Int × Int)) : codeW (l ++ m) = codeW l ++ codeW m := by simp [codeW]
theorem codeW_len (l : List (Int × Int)) : (codeW l).length ≤ 2 * l.length + (cellsR l).length / 128 := by
  induction l with
  | nil => simp [codeW]
  | cons r l ih =>
    obtain ⟨n, b⟩ := r
    have h := numB_len n.toNat
    rw [codeW_cons, cellsR_cons]
    simp only [List.length_cons, List.length_append, List.length_replicate]
    omega
end Go.Proofs.YtnogfelfgclajaaGreatDoor
end

section
namespace Go.Proofs.YtnogfelfgclajaaGreatDoor
open Go.RowKit
attribute [local go_sem] ext_ext drew_ext ext_drew ext_cell ext_frozen in_lt in_le in_ne in_en in_ne1 in_en1 in_le1 in_ltn in_len in_nen in_enn size_le ite_max ite_min
set_option linter.unusedVariables false
set_option linter.unusedSimpArgs false

theorem or128 (n : Nat) : bits BinOp.or IntKind.u8 ((n : Int) % 256) 128 = (n : Int) % 128 + 128 := by
  have key : ∀ k : Fin 256, bits BinOp.or IntKind.u8 ((k.val : Nat) : Int) 128 = ((k.val % 128 + 128 : Nat) : Int) := by decide +kernel
  have h2 := key ⟨n % 256, Nat.mod_lt _ (by omega)⟩
  simp only at h2
  rw [show (n : Int) % 256 = ((n % 256 : Nat) : Int) by omega, h2]
  omega

set_option maxRecDepth 100000 in
set_option maxHeartbeats 2000000 in
theorem codenum_any (n : Nat) (h1 : 1 ≤ n) (h2 : n ≤ 8192) (w : World) :
    Calls Tryz.prog 242 #[.int .i64 (n : Int)] w (MadeRow 5 1 (numB n).length (bV (numB n)) w) := by
  obtain ⟨i0, iz0, iz1, iz2, iz3⟩ := info_parts byteInfo
  have n1 : (1 : Int) ≤ (n : Int) := by omega
  have n2 : (n : Int) ≤ 8192 := by omega
  by_cases hn : n < 128
  · have n3 : (n : Int) < 128 := by omega
    have H := Lib.hid (show numB n = [n] by unfold numB; rw [if_pos hn])
    clear h1 h2 hn
    go_enter Tryz.func242, Tryz.ntmps242
    go_wp2_with fail
    refine wp_loop_rounds 1 ?_
    rw [rounds_succ]
    go_wp2_with (at_builtin; refine wpList_append_own _ rfl (.tmp 20) (.tmp 23) 87 rfl w.heap.size 5 i0 _ 1 1 Tryz.underlying87 iz0 iz1 iz2 iz3 rfl (by omega) _ _ _ rfl (World.ownsRow_nil _ w.heap.size 5 1) _ 1 1 [.int .u8 (n : Int)] rfl rfl (World.news_of_block (heap_alloc_new w _)) (by simp [Value.oneCell']) (by unfold maxLen; omega) (by omega) (by simp) ?_; intro v1 w1 ho1 hgr1 hx; clear hx)
    simp only [Nat.zero_add, List.nil_append] at ho1
    go_ret
    refine ⟨_, rfl, ?_, ext_of (((Below.refl _ w).alloc (Nat.le_refl _) _).grown hgr1 (by simp) (fun k hk => by cases hk))⟩
    rw [H.out]
    exact ho1
  · have H := Lib.hid (show bV (numB n) = [.int .u8 ((n : Int) % 128 + 128), .int .u8 ((n : Int) / 128)] ∧ (numB n).length = 2 by unfold numB; rw [if_neg hn]; exact ⟨rfl, rfl⟩)
    have n3 : (128 : Int) ≤ (n : Int) := by omega
    have o8 := or128 n
    have n4 : (n : Int) / 128 < 128 := by omega
    clear h1 h2 hn
    go_enter Tryz.func242, Tryz.ntmps242
    go_wp2_with fail
    refine wp_loop_rounds 2 ?_
    rw [rounds_succ]
    go_wp2_with (at_builtin; refine wpList_append_own _ rfl (.tmp 14) (.tmp 18) 87 rfl w.heap.size 5 i0 _ 1 1 Tryz.underlying87 iz0 iz1 iz2 iz3 rfl (by omega) _ _ _ rfl (World.ownsRow_nil _ w.heap.size 5 1) _ 1 1 [.int .u8 ((n : Int) % 128 + 128)] rfl rfl (World.news_of_block (heap_alloc_new w _)) (by simp [Value.oneCell']) (by unfold maxLen; omega) (by omega) (by simp) ?_; intro v1 w1 ho1 hgr1 hx; clear hx)
    simp only [Nat.zero_add, List.nil_append] at ho1
    have HB := Lib.hid (show Below w.heap.size w w1 from ((Below.refl _ w).alloc (Nat.le_refl _) _).grown hgr1 (by simp) (fun k hk => by cases hk))
    have HO := Lib.hid ho1
    clear ho1 hgr1
    rw [rounds_succ]
    go_wp2_with (at_builtin; refine wpList_append_own _ rfl (.tmp 20) (.tmp 23) 87 rfl w.heap.size 5 i0 _ 1 1 Tryz.underlying87 iz0 iz1 iz2 iz3 rfl (by omega) _ _ _ rfl (HO.out.alloc _) _ 1 1 [.int .u8 ((n : Int) / 128)] rfl rfl (World.news_of_block (heap_alloc_new w1 _)) (by simp [Value.oneCell']) (by unfold maxLen; omega) (by omega) (by have := HB.out.size; simp; omega) ?_; intro v2 w2 ho2 hgr2 hx; clear hx)
    go_ret
    refine ⟨_, rfl, ?_, ext_of ((HB.out.alloc HB.out.size _).grown hgr2 (by have := HB.out.size; simp; omega) (fun k hk => (HO.out.lt k hk).1))⟩
    rw [H.out.1, H.out.2]
    exact ho2
end Go.Proofs.YtnogfelfgclajaaGreatDoor
end

section
namespace Go.Proofs.YtnogfelfgclajaaGreatDoor
open Go.RowKit
attribute [local go_sem] ext_ext drew_ext ext_drew ext_cell ext_frozen in_lt in_le in_ne in_en in_ne1 in_en1 in_le1 in_ltn in_len in_nen in_enn size_le ite_max ite_min
set_option linter.unusedVariables false
set_option linter.unusedSimpArgs false

theorem ret_nk0 {a a' k k' : Int} (h : a = a') (h2 : k = k') : Ending.returned (.tuple #[.int .i64 a, .int .i64 k, .int .i64 0]) = .returned (.tuple #[.int .i64 a', .int .i64 k', .int .i64 0]) := by rw [h, h2]
theorem andnot_low (n : Nat) (h : n < 128) : bits BinOp.andNot IntKind.u8 (n : Int) 128 = (n : Int) := by
  have key : ∀ k : Fin 128, bits BinOp.andNot IntKind.u8 ((k.val : Nat) : Int) 128 = ((k.val : Nat) : Int) := by decide +kernel
  exact key ⟨n, h⟩
theorem andnot_high (n : Nat) : bits BinOp.andNot IntKind.u8 ((n : Int) % 128 + 128) 128 = (n : Int) % 128 := by
  have key : ∀ k : Fin 128, bits BinOp.andNot IntKind.u8 (((k.val : Nat) : Int) + 128) 128 = ((k.val : Nat) : Int) := by decide +kernel
  have h2 := key ⟨n % 128, Nat.mod_lt _ (by omega)⟩
  rw [show (n : Int) % 128 = ((n % 128 : Nat) : Int) by omega]
  exact h2
theorem or_zero (n : Nat) (h : n < 128) : bits BinOp.or IntKind.i64 0 (n : Int) = (n : Int) := by
  have key : ∀ k : Fin 128, bits BinOp.or IntKind.i64 0 ((k.val : Nat) : Int) = ((k.val : Nat) : Int) := by decide +kernel
  exact key ⟨n, h⟩

set_option maxRecDepth 100000 in
set_option maxHeartbeats 2000000 in
theorem digits_low (n : Nat) (h1 : 1 ≤ n) (h2 : n < 128) (m g o : Nat) (hm : 1 ≤ m) (hm2 : m ≤ 1000000) (w : World) (hc : w.cell? ⟨g, o, none⟩ = some (.int .u8 (n : Int))) :
    Calls Tryz.prog 180 #[.slice (some ⟨g, o, none⟩) m m] w fun e w' => e = .returned (.tuple #[.int .i64 (n : Int), .int .i64 1, .int .i64 0]) ∧ ∃ f, w' = ext w f := by
  haveI := in_of_cell hc
  have a1 := andnot_low n h2
  have a2 := or_zero n h2
  have n1 : (1 : Int) ≤ (n : Int) := by omega
  have n2 : (n : Int) < 128 := by omega
  have m1 : (1 : Int) ≤ (m : Int) := by omega
  have m2 : (m : Int) ≤ 1000000 := by omega
  have n3 : ((n : Int) == 0) = false := by simp; omega
  clear h1 h2
  go_enter Tryz.func180, Tryz.ntmps180
  go_wp2_with fail
  refine wp_loop_rounds 1 ?_
  rw [rounds_succ]
  go_wp2_with fail
  go_ret3
  exact ⟨rfl, grown_of⟩

theorem or_shift (a b : Nat) (ha : a < 128) (hb : b ≤ 64) : bits BinOp.or IntKind.i64 (a : Int) ((b : Int) * 128) = (a : Int) + (b : Int) * 128 := by
  have key : ∀ k : Fin 128, ∀ j : Fin 65, bits BinOp.or IntKind.i64 ((k.val : Nat) : Int) (((j.val : Nat) : Int) * 128) = ((k.val : Nat) : Int) + ((j.val : Nat) : Int) * 128 := by decide +kernel
  exact key ⟨a, ha⟩ ⟨b, by omega⟩
set_option maxRecDepth 100000 in
set_option maxHeartbeats 2000000 in
theorem digits_high (n : Nat) (h1 : 128 ≤ n) (h2 : n ≤ 8192) (m g o : Nat) (hm : 2 ≤ m) (hm2 : m ≤ 1000000) (w : World) (hc : w.cell? ⟨g, o, none⟩ = some (.int .u8 ((n : Int) % 128 + 128))) (hd : w.cell? ⟨g, o + 1, none⟩ = some (.int .u8 ((n : Int) / 128))) :
    Calls Tryz.prog 180 #[.slice (some ⟨g, o, none⟩) m m] w fun e w' => e = .returned (.tuple #[.int .i64 (n : Int), .int .i64 2, .int .i64 0]) ∧ ∃ f, w' = ext w f := by
  haveI := in_of_cell hc
  have a1 := andnot_high n
  have a2 := or_zero (n % 128) (by omega)
  have a3 := andnot_low (n / 128) (by omega)
  have a4 := or_shift (n % 128) (n / 128) (by omega) (by omega)
  rw [show ((n % 128 : Nat) : Int) = (n : Int) % 128 by omega] at a2 a4
  rw [show ((n / 128 : Nat) : Int) = (n : Int) / 128 by omega] at a3 a4
  have m1 : (2 : Int) ≤ (m : Int) := by omega
  have m2 : (m : Int) ≤ 1000000 := by omega
  have n3 : (((n : Int) / 128) == 0) = false := by simp; omega
  have n4 : 0 ≤ (n : Int) / 128 := by omega
  have n5 : (n : Int) / 128 ≤ 64 := by omega
  have n6 : 0 ≤ (n : Int) % 128 := by omega
  have n7 : (n : Int) % 128 < 128 := by omega
  have HE := Lib.hid (show (n : Int) % 128 + (n : Int) / 128 * 128 = (n : Int) by omega)
  have n8 : (n : Int) % 128 + (n : Int) / 128 * 128 ≤ 8192 := by omega
  clear h1 h2
  go_enter Tryz.func180, Tryz.ntmps180
  go_wp2_with fail
  refine wp_loop_rounds 2 ?_
  rw [rounds_succ]
  go_wp2_with fail
  rw [rounds_succ]
  go_wp2_with fail
  go_ret3
  exact ⟨ret_nk0 HE.out rfl, grown_of⟩

theorem bV_cons (n : Nat) (l : List Nat) : bV (n :: l) = .int .u8 (n : Int) :: bV l := rfl
theorem bV_append (a b : List Nat) : bV (a ++ b) = bV a ++ bV b := by simp [bV]
/-- The number that bytes begin with. -/
theorem digits_any (n : Nat) (h1 : 1 ≤ n) (h2 : n ≤ 8192) (r : List Nat) (g o : Nat) (hr : (numB n ++ r).length ≤ 1000000) (w : World) (hc : BytesAt w g o (numB n ++ r)) :
    Calls Tryz.prog 180 #[.slice (some ⟨g, o, none⟩) (numB n ++ r).length (numB n ++ r).length] w fun e w' => e = .returned (.tuple #[.int .i64 (n : Int), .int .i64 ((numB n).length : Int), .int .i64 0]) ∧ ∃ f, w' = ext w f := by
  by_cases hn : n < 128
  · have H : numB n = [n] := by unfold numB; rw [if_pos hn]
    rw [H] at hc hr ⊢
    exact digits_low n h1 hn _ g o (by simp) hr w (hc 0 _ rfl)
  · have H : numB n = [n % 128 + 128, n / 128] := by unfold numB; rw [if_neg hn]
    rw [H] at hc hr ⊢
    exact digits_high n (by omega) h2 _ g o (by simp) hr w (hc 0 _ rfl) (hc 1 _ rfl)
end Go.Proofs.YtnogfelfgclajaaGreatDoor
end

section
namespace Go.Proofs.YtnogfelfgclajaaGreatDoor
open Go.RowKit
attribute [local go_sem] ext_ext drew_ext ext_drew ext_cell ext_frozen in_lt in_le in_ne in_en in_ne1 in_en1 in_le1 in_ltn in_len in_nen in_enn size_le ite_max ite_min
set_option linter.unusedVariables false
set_option linter.unusedSimpArgs false

theorem codeW_take (l : List Rn) (k : Nat) (hk : k < l.length) : codeW (l.take (k + 1)) = codeW (l.take k) ++ (l[k].2.toNat :: numB l[k].1.toNat) := by
  rw [List.take_succ_eq_append_getElem hk, codeW_append]
  congr 1
  obtain ⟨n, b⟩ := l[k]
  rw [codeW_cons]
  simp [codeW]
theorem codeW_bd {l : List Rn} (h : Fine l) (k : Nat) : (codeW (l.take k)).length ≤ 20000 := by
  have h1 := codeW_len (l.take k)
  have h2 := h.short
  have h3 : (l.take k).length ≤ l.length := List.length_take_le' ..
  have h4 : (cellsR (l.take k)).length ≤ (cellsR l).length := by
    conv => rhs; rw [← List.take_append_drop k l, cellsR_append]
    simp
  have := h.cells
  omega
theorem numB_pos (n : Nat) : 1 ≤ (numB n).length ∧ (numB n).length ≤ 2 := by unfold numB; split <;> simp
/-- What a writer hands back: bytes, and no error. -/
def MadeBytes (l : List Nat) (w : World) (o : Ending) (w' : World) : Prop := ∃ v, o = .returned (.tuple #[v, .int .i64 0]) ∧ w'.ownsRow w.heap.size 5 1 v l.length (bV l) ∧ ∃ f, w' = ext w f

set_option maxRecDepth 100000 in
set_option maxHeartbeats 4000000 in
theorem codewrite_any (l : List Rn) (g cap : Nat) (w : World) (h : Fine l) (hc : RunsAt w g l) :
    Calls Tryz.prog 189 #[.slice (some ⟨g, 0, none⟩) l.length cap] w (MadeBytes (codeW l) w) := by
  obtain ⟨i0, iz0, iz1, iz2, iz3⟩ := info_parts byteInfo
  have HC := Lib.hid hc
  have HF := Lib.hid h
  have LN := fun W (hW : ∃ f, W = ext w f) => len_any l g cap W h.rb h.full (hc.grown hW)
  rw [h.len] at LN
  have MY := fun W (hW : ∃ f, W = ext w f) => runsmay_any l g cap W h (hc.grown hW)
  haveI := in_of_cell (hc 0 _ (rV_at l 0 h.full).1)
  clear hc h
  go_enter Tryz.func189, Tryz.ntmps189
  go_wp2_with fail
  go_loopw [4, 12] (fun n i wr => ∃ k : Nat, k ≤ l.length ∧ i = .int .i64 k ∧ n = .int .i64 (1048576 - lenR (l.take k)) ∧ ∃ f, wr = ext w f) (fun _ i _ => l.length - (intOf i).toNat)
  case atStart => exact ⟨0, by omega, rfl, rfl, grown_of⟩
  case round =>
    obtain ⟨k, hk, rfl, rfl, _, hw⟩ := hrel
    rename World => w1
    haveI hg1 := named_grown hw
    have hc1 := named_cell hw
    have hz1 := named_frozen hw
    have hh1 := named_heap hw
    haveI hi1 := named_in hw
    haveI hb1 := named_below (w := w) hw
    clear hw
    by_cases hlt : k < l.length
    · obtain ⟨x0, x1⟩ := rV_at l k hlt
      have d0 := HC.out _ _ x0
      have d1 := HC.out _ _ x1
      haveI := in_of_cell d0
      have HT := Lib.hid (lenR_take l k hlt)
      have HK := Lib.hid hlt
      obtain ⟨b1, _⟩ := lenR_le HF.out.nonneg k
      have b2 := (lenR_le HF.out.nonneg (k + 1)).2
      rw [HT.out, HF.out.len] at b2
      obtain ⟨e1, e2⟩ := HF.out.each l[k] (List.getElem_mem hlt)
      have k1 : (k : Int) < (l.length : Int) := by omega
      have k2 : (l.length : Int) ≤ 8192 := by have := HF.out.short; omega
      clear x0 x1
      generalize l[k].1 = a at *
      generalize l[k].2 = b at *
      generalize lenR (l.take k) = s at *
      go_wp2_with fail
      go_roundw
      case rel => exact ⟨k + 1, HK.out, by go_num, by rw [HT.out]; exact num_eq (by omega), grown_of⟩
      case measure => have := HK.out; simp [intOf]; omega
    · have k1 : ¬ (k : Int) < (l.length : Int) := by omega
      clear hlt hk
      go_wp2_with fail
      refine (LN _ (grown_of (w := w) (W := w1))).mono ?_
      rintro e w2 ⟨rfl, _t, hw⟩
      haveI hb2_1 := named_below (w := w1) hw
      have hc2 := named_cell hw
      have hz2 := named_frozen hw
      have hh2 := named_heap hw
      haveI hi2 := named_in hw
      haveI hb2 := named_below (w := w) hw
      clear hw
      go_wp2_with fail
      refine (MY _ (grown_of (w := w) (W := w2))).mono ?_
      rintro e w3 ⟨rfl, _t, hw⟩
      haveI hb3_1 := named_below (w := w1) hw
      haveI hb3_2 := named_below (w := w2) hw
      have hc3 := named_cell hw
      have hz3 := named_frozen hw
      have hh3 := named_heap hw
      haveI hi3 := named_in hw
      haveI hb3 := named_below (w := w) hw
      clear hw
      go_wp2_with fail
      go_loopw [7, 35] (fun o i wr => ∃ j : Nat, j ≤ l.length ∧ i = .int .i64 j ∧ wr.ownsRow w.heap.size 5 1 o (codeW (l.take j)).length (bV (codeW (l.take j))) ∧ ∃ f, wr = ext w f) (fun _ i _ => l.length - (intOf i).toNat)
      case atStart => exact ⟨0, by omega, rfl, World.ownsRow_nil .., grown_of⟩
      case round =>
        obtain ⟨j, hj, rfl, ow, _, hw⟩ := hrel
        rename World => w4
        haveI hg4 := named_grown hw
        have hc4 := named_cell hw
        have hz4 := named_frozen hw
        have hh4 := named_heap hw
        haveI hi4 := named_in hw
        haveI hb4 := named_below (w := w) hw
        clear hw
        have OW := Lib.hid ow
        clear ow
        by_cases hlt : j < l.length
        · obtain ⟨x0, x1⟩ := rV_at l j hlt
          have d0 := HC.out _ _ x0
          have d1 := HC.out _ _ x1
          haveI := in_of_cell d0
          have HT := Lib.hid (codeW_take l j hlt)
          have HK := Lib.hid hlt
          have CB := codeW_bd HF.out j
          obtain ⟨e1, e2⟩ := HF.out.each l[j] (List.getElem_mem hlt)
          have GB := HF.out.good l[j] (List.getElem_mem hlt)
          have j1 : (j : Int) < (l.length : Int) := by omega
          have j2 : (l.length : Int) ≤ 8192 := by have := HF.out.short; omega
          have NP := numB_pos l[j].1.toNat
          have NUM : ∀ W, Calls Tryz.prog 242 #[.int .i64 l[j].1] W (MadeRow 5 1 (numB l[j].1.toNat).length (bV (numB l[j].1.toNat)) W) := fun W => by
            have := codenum_any l[j].1.toNat (by omega) (by omega) W
            rwa [Int.toNat_of_nonneg (by omega)] at this
          have b0 := GB.lo
          have b1 := GB.hi
          have HB := Lib.hid (show ((l[j].2.toNat : Nat) : Int) = l[j].2 by omega)
          clear x0 x1 GB
          generalize hN : numB l[j].1.toNat = nb at *
          have HNB := Lib.hid hN
          generalize l[j].1 = a at *
          generalize l[j].2 = b at *
          generalize codeW (l.take j) = cw at *
          obtain ⟨og, cp, rfl⟩ := owns_form OW.out
          clear hN hlt hj
          go_wp2_with fail
          obtain ⟨w5, hw5⟩ : ∃ W, W = w4.alloc (.cells #[.int .i64 a, .int .i64 b] 235) := ⟨_, rfl⟩
          rw [← hw5]
          have r0 : w5.cell? ⟨w4.heap.size, 0, none⟩ = some (.int .i64 a) := by rw [hw5]; exact World.cell?_alloc_new ..
          have r1 : w5.cell? ⟨w4.heap.size, 1, none⟩ = some (.int .i64 b) := by rw [hw5]; exact World.cell?_alloc_new ..
          have O5 := Lib.hid (show w5.ownsRow w.heap.size 5 1 (.slice og cw.length cp) cw.length (bV cw) by rw [hw5]; exact OW.out.alloc _)
          have LT := Lib.hid (fun q hq => (OW.out.lt q hq).2)
          haveI hb5 : Nonempty (Below w.heap.size w w5) := by rw [hw5]; infer_instance
          have R4 := Lib.hid (show w4.heap.size < w5.heap.size by rw [hw5]; simp)
          haveI hi5 : Nonempty (In w4.heap.size w5) := ⟨R4.out⟩
          have nrb : some w4.heap.size ≠ (Value.slice og cw.length cp).ownBlock := fun e => Nat.lt_irrefl _ (LT.out _ e.symm)
          have wb : IntKind.u8.wrap b = b := by simp only [IntKind.wrap, IntKind.bits, IntKind.signed]; first | omega | (simp; omega)
          clear hw5 OW hc4 hz4 hh4
          generalize w4.heap.size = rb at *
          go_region_law
            (first
              | (go_simp; go_at_call 242; refine (NUM _).mono ?_; rintro e w7 ⟨v7, rfl, ho7, _t, hw⟩
                 haveI hg7 := named_grown hw
                 (try haveI hbx7 := named_below (w := w5) hw)
                 haveI hby7 := named_below (w := w) hw
                 have hc7 := named_cell hw
                 haveI hi7 := named_in hw
                 clear hw
                 obtain ⟨g7, c7, rfl, hb7, hn7, hm7, hcell7⟩ := owns_some ho7 (by omega)
                 have HC7 := Lib.hid hcell7
                 have G7 := Lib.hid (Nat.lt_of_lt_of_le (of_eq_true (in_lt (b := rb))) hb7)
                 clear ho7 hb7 hcell7 hn7 hm7)
              | (have GG := G7.out; clear GG
                 refine step_append_lies _ (by rfl) (.tmp 39) (.tmp 43) 87 (by rfl) w.heap.size 5 i0 _ 1 1 Tryz.underlying87 iz0 iz1 iz2 iz3 rfl (by omega) (.slice og cw.length cp) cw.length (bV cw) (by rfl) (by exact owns_grown O5.out (by exact grown_of)) _ 1 1 [.int .u8 b] (by rfl) (by rfl) (by intro q u hu; rcases q with _ | q <;> first | (obtain rfl := Option.some.inj hu; rw [addr_add]; go_simp; done) | exact absurd hu (by simp)) (by simp [Value.oneCell']) (by omega) (by unfold maxLen; omega) (by omega) (by exact (grown_now (w := w)).size) _ rfl ?_; intro g6 cap6 w6 ho6 hgr6 hat6 hlt6
                 have q0 : w6.cell? ⟨rb, 0, none⟩ = some (.int .i64 a) := (hgr6.cell_far _ (of_eq_true in_lt) nrb).trans (by go_simp)
                 haveI hb6 : Nonempty (Below w.heap.size w w6) := ⟨(grown_now (w := w)).grown hgr6 (grown_now (w := w)).size (fun k hk => (O5.out.lt k hk).1)⟩
                 haveI hir6 : Nonempty (In rb w6) := in_of_cell q0
                 have HO6 := Lib.hid ho6
                 have HC8 := Lib.hid (fun q u (hu : (bV nb)[q]? = some u) => (hgr6.cell_far ⟨g7, q, none⟩ (World.block_lt_of_cell? _ _ (((grown_now (w := w7)).cell (World.block_lt_of_cell? w7 _ (HC7.out q u hu))).trans (HC7.out q u hu))) (fun e => Nat.lt_asymm G7.out (LT.out _ e.symm))).trans (((grown_now (w := w7)).cell (World.block_lt_of_cell? w7 _ (HC7.out q u hu))).trans (HC7.out q u hu)))
                 clear ho6 hgr6 hat6 hlt6)
              | (refine step_append_lies _ (by rfl) (.tmp 39) (.tmp 43) 87 (by rfl) w.heap.size 5 i0 _ 1 1 Tryz.underlying87 iz0 iz1 iz2 iz3 rfl (by omega) (.slice og cw.length cp) cw.length (bV cw) (by rfl) (by exact owns_grown O5.out (by exact grown_of)) _ 1 1 [.int .u8 b] (by rfl) (by rfl) (by intro q u hu; rcases q with _ | q <;> first | (obtain rfl := Option.some.inj hu; rw [addr_add]; go_simp; done) | exact absurd hu (by simp)) (by simp [Value.oneCell']) (by omega) (by unfold maxLen; omega) (by omega) (by exact (grown_now (w := w)).size) _ rfl ?_; intro g6 cap6 w6 ho6 hgr6 hat6 hlt6
                 have q0 : w6.cell? ⟨rb, 0, none⟩ = some (.int .i64 a) := (hgr6.cell_far _ (of_eq_true in_lt) nrb).trans (by go_simp)
                 haveI hb6 : Nonempty (Below w.heap.size w w6) := ⟨(grown_now (w := w)).grown hgr6 (grown_now (w := w)).size (fun k hk => (O5.out.lt k hk).1)⟩
                 haveI hir6 : Nonempty (In rb w6) := in_of_cell q0
                 have HO6 := Lib.hid ho6
                 clear ho6 hgr6 hat6 hlt6)
              | (refine step_append_lies _ (by rfl) (.tmp 44) (.tmp 47) 87 (by rfl) w.heap.size 5 i0 _ 1 1 Tryz.underlying87 iz0 iz1 iz2 iz3 rfl (by omega) (.slice (some ⟨g6, 0, none⟩) (cw.length + 1) cap6) (cw.length + 1) (bV cw ++ [.int .u8 b]) (by rfl) (by exact owns_grown HO6.out (by exact grown_of)) ⟨g7, 0, none⟩ nb.length c7 (bV nb) (by rfl) (by rw [bV_length, Nat.mul_one]) (by intro q u hu; rw [addr_add, Nat.zero_add]; first | exact HC8.out q u hu | exact HC7.out q u hu) (by intro u hu; simp only [bV, List.mem_map] at hu; obtain ⟨x, _, rfl⟩ := hu; rfl) (by omega) (by unfold maxLen; omega) (by omega) (by exact (grown_now (w := w)).size) _ rfl ?_; intro g9 cap9 w9 ho9 hgr9 hat9 hlt9
                 haveI hb9 : Nonempty (Below w.heap.size w w9) := ⟨(grown_now (w := w)).grown hgr9 (grown_now (w := w)).size (fun k hk => (HO6.out.lt k hk).1)⟩
                 have HO9 := Lib.hid ho9
                 clear ho9 hgr9 hat9 hlt9))
          all_goals
            have HE := Lib.hid (show w9.ownsRow w.heap.size 5 1 (.slice (some ⟨g9, 0, none⟩) (cw.length + 1 + nb.length) cap9) (codeW (l.take (j + 1))).length (bV (codeW (l.take (j + 1)))) by
              rw [HT.out, show (cw ++ (b.toNat :: nb)).length = cw.length + 1 + nb.length by simp; omega, bV_append, bV_cons, HB.out]
              have := HO9.out
              rw [List.append_assoc] at this
              exact this)
            have HB9 := Lib.hid (grown_now (w := w) (W := w9))
            clear HO9 HO6
            go_wp2_with fail
            go_roundw
            case rel => exact ⟨j + 1, HK.out, by go_num, HE.out, ext_of HB9.out⟩
            case measure => have := HK.out; simp [intOf]; omega
        · have k1 : ¬ (j : Int) < (l.length : Int) := by omega
          rw [List.take_of_length_le (show l.length ≤ j by omega)] at OW
          go_wp2_with fail
          go_ret2
          exact ⟨_, rfl, OW.out, grown_of⟩
end Go.Proofs.YtnogfelfgclajaaGreatDoor
end
