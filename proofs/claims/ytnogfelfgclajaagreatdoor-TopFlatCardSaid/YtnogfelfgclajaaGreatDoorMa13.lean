/-
  A number's bytes, the highest first; and back.
  The number of some bytes, the highest first.
  A record's bytes; the record of bytes.
-/
import Derived.Test.YtnogfelfgclajaaGreatDoorMa12
section
namespace Go.Proofs.YtnogfelfgclajaaGreatDoor
open Go.RowKit
attribute [local go_sem] ext_ext drew_ext ext_drew ext_cell ext_frozen in_lt in_le in_ne in_en in_ne1 in_en1 in_le1 in_ltn in_len in_nen in_enn size_le ite_max ite_min
set_option linter.unusedVariables false
set_option linter.unusedSimpArgs false

def be3 (n : Nat) : List Nat := [n / 65536 % 256, n / 256 % 256, n % 256]
def be4 (n : Nat) : List Nat := [n / 16777216, n / 65536 % 256, n / 256 % 256, n % 256]
theorem be3_bytes (n : Nat) : Bytes (be3 n) := by intro x hx; simp only [be3, List.mem_cons, List.mem_nil_iff, or_false] at hx; rcases hx with rfl | rfl | rfl <;> omega
theorem be4_bytes (n : Nat) (hn : n ≤ 1073741824) : Bytes (be4 n) := by intro x hx; simp only [be4, List.mem_cons, List.mem_nil_iff, or_false] at hx; rcases hx with rfl | rfl | rfl | rfl <;> omega
theorem be3_V (n : Nat) : bV (be3 n) = [.int .u8 ((n : Int) / 65536 % 256), .int .u8 ((n : Int) / 256 % 256), .int .u8 ((n : Int) % 256)] := rfl
theorem be4_V (n : Nat) : bV (be4 n) = [.int .u8 ((n : Int) / 16777216), .int .u8 ((n : Int) / 65536 % 256), .int .u8 ((n : Int) / 256 % 256), .int .u8 ((n : Int) % 256)] := rfl

set_option maxRecDepth 100000 in
set_option maxHeartbeats 4000000 in
theorem storeput4_any (l : List Nat) (v : Value) (n base : Nat) (w : World) (hn : n ≤ 1073741824) (hl : l.length ≤ 100000) (hb : base ≤ w.heap.size) (ho : w.ownsRow base 5 1 v l.length (bV l)) :
    Calls Tryz.prog 236 #[v, .int .i64 (n : Int), .int .i64 4] w fun e w' => ∃ v', e = .returned v' ∧ w'.ownsRow base 5 1 v' (l ++ be4 n).length (bV (l ++ be4 n)) ∧ Turn (fun k => base ≤ k) w w' := by
  obtain ⟨i0, iz0, iz1, iz2, iz3⟩ := info_parts byteInfo
  have n0 : (0 : Int) ≤ (n : Int) := by omega
  have n1 : (n : Int) ≤ 1073741824 := by omega
  have O0 := Lib.hid ho
  have BA := Lib.hid hb
  have HL := Lib.hid hl
  have HV := Lib.hid (show bV (l ++ be4 n) = bV l ++ bV (be4 n) from bV_append _ _)
  have HN := Lib.hid (show (l ++ be4 n).length = l.length + 4 by simp [be4])
  obtain ⟨og, cp, rfl⟩ := owns_form ho
  have T0 := Lib.hid (Turn.refl (fun k => base ≤ k) w)
  clear ho hb hl
  go_enter Tryz.func236, Tryz.ntmps236
  go_wp2_with fail
  refine wp_loop_rounds 5 ?_
  rw [rounds_succ]
  go_wp2_with (at_builtin; refine wpList_append_own _ rfl (.tmp 14) (.tmp 20) 87 rfl base 5 i0 _ 1 1 Tryz.underlying87 iz0 iz1 iz2 iz3 rfl (by omega) (.slice og l.length cp) (l.length) (bV l) rfl (O0.out.alloc _) _ 1 1 [.int .u8 ((n : Int) / 16777216)] rfl rfl (World.news_of_block (heap_alloc_new w _)) (by simp [Value.oneCell']) (by have := HL.out; unfold maxLen; omega) (by have := HL.out; omega) (by have := BA.out; have := T0.out.size; simp; omega) ?_; intro v1 w1 ho1 hgr1 hx; clear hx)
  have O1 := Lib.hid ho1
  have T1 := Lib.hid (show Turn (fun k => base ≤ k) w w1 from (T0.out.trans (turn_alloc _ _ _) (fun _ _ h => h)).trans (turn_by hgr1) (fun i _ hi => (O0.out.lt i hi).1))
  clear ho1 hgr1
  rw [rounds_succ]
  go_wp2_with (at_builtin; refine wpList_append_own _ rfl (.tmp 14) (.tmp 20) 87 rfl base 5 i0 _ 1 1 Tryz.underlying87 iz0 iz1 iz2 iz3 rfl (by omega) v1 (l.length + 1) (bV l ++ [.int .u8 ((n : Int) / 16777216)]) rfl (O1.out.alloc _) _ 1 1 [.int .u8 ((n : Int) / 65536 % 256)] rfl rfl (World.news_of_block (heap_alloc_new w1 _)) (by simp [Value.oneCell']) (by have := HL.out; unfold maxLen; omega) (by have := HL.out; omega) (by have := BA.out; have := T1.out.size; simp; omega) ?_; intro v2 w2 ho2 hgr2 hx; clear hx)
  have O2 := Lib.hid ho2
  have T2 := Lib.hid (show Turn (fun k => base ≤ k) w w2 from (T1.out.trans (turn_alloc _ _ _) (fun _ _ h => h)).trans (turn_by hgr2) (fun i _ hi => (O1.out.lt i hi).1))
  clear ho2 hgr2
  rw [rounds_succ]
  go_wp2_with (at_builtin; refine wpList_append_own _ rfl (.tmp 14) (.tmp 20) 87 rfl base 5 i0 _ 1 1 Tryz.underlying87 iz0 iz1 iz2 iz3 rfl (by omega) v2 (l.length + 1 + 1) (bV l ++ [.int .u8 ((n : Int) / 16777216)] ++ [.int .u8 ((n : Int) / 65536 % 256)]) rfl (O2.out.alloc _) _ 1 1 [.int .u8 ((n : Int) / 256 % 256)] rfl rfl (World.news_of_block (heap_alloc_new w2 _)) (by simp [Value.oneCell']) (by have := HL.out; unfold maxLen; omega) (by have := HL.out; omega) (by have := BA.out; have := T2.out.size; simp; omega) ?_; intro v3 w3 ho3 hgr3 hx; clear hx)
  have O3 := Lib.hid ho3
  have T3 := Lib.hid (show Turn (fun k => base ≤ k) w w3 from (T2.out.trans (turn_alloc _ _ _) (fun _ _ h => h)).trans (turn_by hgr3) (fun i _ hi => (O2.out.lt i hi).1))
  clear ho3 hgr3
  rw [rounds_succ]
  go_wp2_with (at_builtin; refine wpList_append_own _ rfl (.tmp 14) (.tmp 20) 87 rfl base 5 i0 _ 1 1 Tryz.underlying87 iz0 iz1 iz2 iz3 rfl (by omega) v3 (l.length + 1 + 1 + 1) (bV l ++ [.int .u8 ((n : Int) / 16777216)] ++ [.int .u8 ((n : Int) / 65536 % 256)] ++ [.int .u8 ((n : Int) / 256 % 256)]) rfl (O3.out.alloc _) _ 1 1 [.int .u8 ((n : Int) % 256)] rfl rfl (World.news_of_block (heap_alloc_new w3 _)) (by simp [Value.oneCell']) (by have := HL.out; unfold maxLen; omega) (by have := HL.out; omega) (by have := BA.out; have := T3.out.size; simp; omega) ?_; intro v4 w4 ho4 hgr4 hx; clear hx)
  have O4 := Lib.hid ho4
  have T4 := Lib.hid (show Turn (fun k => base ≤ k) w w4 from (T3.out.trans (turn_alloc _ _ _) (fun _ _ h => h)).trans (turn_by hgr4) (fun i _ hi => (O3.out.lt i hi).1))
  clear ho4 hgr4
  rw [rounds_succ]
  go_wp2_with fail
  go_ret
  refine ⟨_, rfl, ?_, T4.out⟩
  rw [HV.out, HN.out, be4_V]
  have := O4.out
  simpa [Nat.add_assoc] using this

set_option maxRecDepth 100000 in
set_option maxHeartbeats 4000000 in
theorem storeput3_any (l : List Nat) (v : Value) (n base : Nat) (w : World) (hn : n ≤ 1073741824) (hl : l.length ≤ 100000) (hb : base ≤ w.heap.size) (ho : w.ownsRow base 5 1 v l.length (bV l)) :
    Calls Tryz.prog 236 #[v, .int .i64 (n : Int), .int .i64 3] w fun e w' => ∃ v', e = .returned v' ∧ w'.ownsRow base 5 1 v' (l ++ be3 n).length (bV (l ++ be3 n)) ∧ Turn (fun k => base ≤ k) w w' := by
  obtain ⟨i0, iz0, iz1, iz2, iz3⟩ := info_parts byteInfo
  have n0 : (0 : Int) ≤ (n : Int) := by omega
  have n1 : (n : Int) ≤ 1073741824 := by omega
  have O0 := Lib.hid ho
  have BA := Lib.hid hb
  have HL := Lib.hid hl
  have HV := Lib.hid (show bV (l ++ be3 n) = bV l ++ bV (be3 n) from bV_append _ _)
  have HN := Lib.hid (show (l ++ be3 n).length = l.length + 3 by simp [be3])
  obtain ⟨og, cp, rfl⟩ := owns_form ho
  have T0 := Lib.hid (Turn.refl (fun k => base ≤ k) w)
  clear ho hb hl
  go_enter Tryz.func236, Tryz.ntmps236
  go_wp2_with fail
  refine wp_loop_rounds 4 ?_
  rw [rounds_succ]
  go_wp2_with (at_builtin; refine wpList_append_own _ rfl (.tmp 14) (.tmp 20) 87 rfl base 5 i0 _ 1 1 Tryz.underlying87 iz0 iz1 iz2 iz3 rfl (by omega) (.slice og l.length cp) (l.length) (bV l) rfl (O0.out.alloc _) _ 1 1 [.int .u8 ((n : Int) / 65536 % 256)] rfl rfl (World.news_of_block (heap_alloc_new w _)) (by simp [Value.oneCell']) (by have := HL.out; unfold maxLen; omega) (by have := HL.out; omega) (by have := BA.out; have := T0.out.size; simp; omega) ?_; intro v1 w1 ho1 hgr1 hx; clear hx)
  have O1 := Lib.hid ho1
  have T1 := Lib.hid (show Turn (fun k => base ≤ k) w w1 from (T0.out.trans (turn_alloc _ _ _) (fun _ _ h => h)).trans (turn_by hgr1) (fun i _ hi => (O0.out.lt i hi).1))
  clear ho1 hgr1
  rw [rounds_succ]
  go_wp2_with (at_builtin; refine wpList_append_own _ rfl (.tmp 14) (.tmp 20) 87 rfl base 5 i0 _ 1 1 Tryz.underlying87 iz0 iz1 iz2 iz3 rfl (by omega) v1 (l.length + 1) (bV l ++ [.int .u8 ((n : Int) / 65536 % 256)]) rfl (O1.out.alloc _) _ 1 1 [.int .u8 ((n : Int) / 256 % 256)] rfl rfl (World.news_of_block (heap_alloc_new w1 _)) (by simp [Value.oneCell']) (by have := HL.out; unfold maxLen; omega) (by have := HL.out; omega) (by have := BA.out; have := T1.out.size; simp; omega) ?_; intro v2 w2 ho2 hgr2 hx; clear hx)
  have O2 := Lib.hid ho2
  have T2 := Lib.hid (show Turn (fun k => base ≤ k) w w2 from (T1.out.trans (turn_alloc _ _ _) (fun _ _ h => h)).trans (turn_by hgr2) (fun i _ hi => (O1.out.lt i hi).1))
  clear ho2 hgr2
  rw [rounds_succ]
  go_wp2_with (at_builtin; refine wpList_append_own _ rfl (.tmp 14) (.tmp 20) 87 rfl base 5 i0 _ 1 1 Tryz.underlying87 iz0 iz1 iz2 iz3 rfl (by omega) v2 (l.length + 1 + 1) (bV l ++ [.int .u8 ((n : Int) / 65536 % 256)] ++ [.int .u8 ((n : Int) / 256 % 256)]) rfl (O2.out.alloc _) _ 1 1 [.int .u8 ((n : Int) % 256)] rfl rfl (World.news_of_block (heap_alloc_new w2 _)) (by simp [Value.oneCell']) (by have := HL.out; unfold maxLen; omega) (by have := HL.out; omega) (by have := BA.out; have := T2.out.size; simp; omega) ?_; intro v3 w3 ho3 hgr3 hx; clear hx)
  have O3 := Lib.hid ho3
  have T3 := Lib.hid (show Turn (fun k => base ≤ k) w w3 from (T2.out.trans (turn_alloc _ _ _) (fun _ _ h => h)).trans (turn_by hgr3) (fun i _ hi => (O2.out.lt i hi).1))
  clear ho3 hgr3
  rw [rounds_succ]
  go_wp2_with fail
  go_ret
  refine ⟨_, rfl, ?_, T3.out⟩
  rw [HV.out, HN.out, be3_V]
  have := O3.out
  simpa [Nat.add_assoc] using this
end Go.Proofs.YtnogfelfgclajaaGreatDoor
end

section
namespace Go.Proofs.YtnogfelfgclajaaGreatDoor
open Go.RowKit
attribute [local go_sem] ext_ext drew_ext ext_drew ext_cell ext_frozen in_lt in_le in_ne in_en in_ne1 in_en1 in_le1 in_ltn in_len in_nen in_enn size_le ite_max ite_min
set_option linter.unusedVariables false
set_option linter.unusedSimpArgs false

theorem or256 (x c : Nat) (hx : x ≤ 1099511627776) (hc : c < 256) : bits BinOp.or IntKind.i64 ((x : Int) * 256) (c : Int) = (x : Int) * 256 + (c : Int) := by
  show IntKind.i64.wrap ((BitVec.ofInt 64 ((x : Int) * 256) ||| BitVec.ofInt 64 (c : Int)).toNat : Nat) = _
  have e1 : (BitVec.ofInt 64 ((x : Int) * 256)).toNat = x <<< 8 := by rw [BitVec.toNat_ofInt, Nat.shiftLeft_eq]; omega
  have e2 : (BitVec.ofInt 64 (c : Int)).toNat = c := by rw [BitVec.toNat_ofInt]; omega
  rw [BitVec.toNat_or, e1, e2, ← Nat.shiftLeft_add_eq_or_of_lt (i := 8) (by omega), Nat.shiftLeft_eq, IntKind.wrap_i64]
  omega
theorem or0 (c : Nat) (hc : c < 256) : bits BinOp.or IntKind.i64 0 (c : Int) = (c : Int) := by
  have := or256 0 c (by omega) hc
  simpa using this

set_option maxRecDepth 100000 in
set_option maxHeartbeats 2000000 in
theorem storetake4 (c0 c1 c2 c3 : Nat) (h0 : c0 < 256) (h1 : c1 < 256) (h2 : c2 < 256) (h3 : c3 < 256) (g o cap : Nat) (w : World) (d0 : w.cell? ⟨g, o, none⟩ = some (.int .u8 (c0 : Int))) (d1 : w.cell? ⟨g, o + 1, none⟩ = some (.int .u8 (c1 : Int))) (d2 : w.cell? ⟨g, o + 2, none⟩ = some (.int .u8 (c2 : Int))) (d3 : w.cell? ⟨g, o + 3, none⟩ = some (.int .u8 (c3 : Int))) :
    Calls Tryz.prog 230 #[.slice (some ⟨g, o, none⟩) 4 cap] w fun e w' => e = .returned (.int .i64 ((((c0 : Int) * 256 + (c1 : Int)) * 256 + (c2 : Int)) * 256 + (c3 : Int))) ∧ w = w' := by
  have z0 := or0 c0 h0
  have z1 : bits BinOp.or IntKind.i64 ((c0 : Int) * 256) (c1 : Int) = (c0 : Int) * 256 + (c1 : Int) := by
    have := or256 (c0) c1 (by omega) h1
    simpa using this
  have z2 : bits BinOp.or IntKind.i64 (((c0 : Int) * 256 + (c1 : Int)) * 256) (c2 : Int) = ((c0 : Int) * 256 + (c1 : Int)) * 256 + (c2 : Int) := by
    have := or256 ((c0 * 256 + c1)) c2 (by omega) h2
    simpa using this
  have z3 : bits BinOp.or IntKind.i64 ((((c0 : Int) * 256 + (c1 : Int)) * 256 + (c2 : Int)) * 256) (c3 : Int) = (((c0 : Int) * 256 + (c1 : Int)) * 256 + (c2 : Int)) * 256 + (c3 : Int) := by
    have := or256 (((c0 * 256 + c1) * 256 + c2)) c3 (by omega) h3
    simpa using this
  have a0 : (c0 : Int) < 256 := by omega
  have a1 : (c1 : Int) < 256 := by omega
  have a2 : (c2 : Int) < 256 := by omega
  have a3 : (c3 : Int) < 256 := by omega
  clear h0 h1 h2 h3
  go_enter Tryz.func230, Tryz.ntmps230
  go_wp2_with fail
  refine wp_loop_rounds 5 ?_
  rw [rounds_succ]
  go_wp2_with fail
  rw [rounds_succ]
  go_wp2_with fail
  rw [rounds_succ]
  go_wp2_with fail
  rw [rounds_succ]
  go_wp2_with fail
  rw [rounds_succ]
  go_wp2_with fail
  go_ret
  exact ⟨rfl, rfl⟩

set_option maxRecDepth 100000 in
set_option maxHeartbeats 2000000 in
theorem storetake3 (c0 c1 c2 : Nat) (h0 : c0 < 256) (h1 : c1 < 256) (h2 : c2 < 256) (g o cap : Nat) (w : World) (d0 : w.cell? ⟨g, o, none⟩ = some (.int .u8 (c0 : Int))) (d1 : w.cell? ⟨g, o + 1, none⟩ = some (.int .u8 (c1 : Int))) (d2 : w.cell? ⟨g, o + 2, none⟩ = some (.int .u8 (c2 : Int))) :
    Calls Tryz.prog 230 #[.slice (some ⟨g, o, none⟩) 3 cap] w fun e w' => e = .returned (.int .i64 (((c0 : Int) * 256 + (c1 : Int)) * 256 + (c2 : Int))) ∧ w = w' := by
  have z0 := or0 c0 h0
  have z1 : bits BinOp.or IntKind.i64 ((c0 : Int) * 256) (c1 : Int) = (c0 : Int) * 256 + (c1 : Int) := by
    have := or256 (c0) c1 (by omega) h1
    simpa using this
  have z2 : bits BinOp.or IntKind.i64 (((c0 : Int) * 256 + (c1 : Int)) * 256) (c2 : Int) = ((c0 : Int) * 256 + (c1 : Int)) * 256 + (c2 : Int) := by
    have := or256 ((c0 * 256 + c1)) c2 (by omega) h2
    simpa using this
  have a0 : (c0 : Int) < 256 := by omega
  have a1 : (c1 : Int) < 256 := by omega
  have a2 : (c2 : Int) < 256 := by omega
  clear h0 h1 h2
  go_enter Tryz.func230, Tryz.ntmps230
  go_wp2_with fail
  refine wp_loop_rounds 4 ?_
  rw [rounds_succ]
  go_wp2_with fail
  rw [rounds_succ]
  go_wp2_with fail
  rw [rounds_succ]
  go_wp2_with fail
  rw [rounds_succ]
  go_wp2_with fail
  go_ret
  exact ⟨rfl, rfl⟩

theorem be4_back (n : Nat) (hn : n ≤ 1073741824) : (((((n / 16777216 : Nat) : Int) * 256 + ((n / 65536 % 256 : Nat) : Int)) * 256 + ((n / 256 % 256 : Nat) : Int)) * 256 + ((n % 256 : Nat) : Int)) = (n : Int) := by omega
theorem be3_back (n : Nat) (hn : n < 16777216) : ((((n / 65536 % 256 : Nat) : Int) * 256 + ((n / 256 % 256 : Nat) : Int)) * 256 + ((n % 256 : Nat) : Int)) = (n : Int) := by omega
theorem take_be4 (n : Nat) (hn : n ≤ 1073741824) (g o cap : Nat) (w : World) (hc : BytesAt w g o (be4 n)) :
    Calls Tryz.prog 230 #[.slice (some ⟨g, o, none⟩) 4 cap] w fun e w' => e = .returned (.int .i64 (n : Int)) ∧ w = w' := by
  have := storetake4 (n / 16777216) (n / 65536 % 256) (n / 256 % 256) (n % 256) (by omega) (by omega) (by omega) (by omega) g o cap w (hc 0 _ rfl) (hc 1 _ rfl) (hc 2 _ rfl) (hc 3 _ rfl)
  rwa [be4_back n hn] at this
theorem take_be3 (n : Nat) (hn : n < 16777216) (g o cap : Nat) (w : World) (hc : BytesAt w g o (be3 n)) :
    Calls Tryz.prog 230 #[.slice (some ⟨g, o, none⟩) 3 cap] w fun e w' => e = .returned (.int .i64 (n : Int)) ∧ w = w' := by
  have := storetake3 (n / 65536 % 256) (n / 256 % 256) (n % 256) (by omega) (by omega) (by omega) g o cap w (hc 0 _ rfl) (hc 1 _ rfl) (hc 2 _ rfl)
  rwa [be3_back n hn] at this
end Go.Proofs.YtnogfelfgclajaaGreatDoor
end

section
namespace Go.Proofs.YtnogfelfgclajaaGreatDoor
open Go.RowKit
attribute [local go_sem] ext_ext drew_ext ext_drew ext_cell ext_frozen in_lt in_le in_ne in_en in_ne1 in_en1 in_le1 in_ltn in_len in_nen in_enn size_le ite_max ite_min
set_option linter.unusedVariables false
set_option linter.unusedSimpArgs false

/-- What is checked of a record. -/
def recW (v : Nat) (body : List Nat) : List Nat := be4 v ++ be3 body.length ++ body
theorem recW_len (v : Nat) (body : List Nat) : (recW v body).length = body.length + 7 := by simp [recW, be4, be3]
theorem recW_bytes {v : Nat} {body : List Nat} (hv : v ≤ 1073741824) (h : Bytes body) : Bytes (recW v body) := by
  intro n hn
  simp only [recW, List.mem_append] at hn
  rcases hn with (hn | hn) | hn
  · exact be4_bytes v hv n hn
  · exact be3_bytes _ n hn
  · exact h n hn
/-- A record's bytes. -/
def blobW (v : Nat) (body : List Nat) : List Nat := crcP (recW v body)
theorem blobW_len (v : Nat) (body : List Nat) : (blobW v body).length = body.length + 9 := by unfold blobW; rw [crcP_len, recW_len]

set_option maxRecDepth 100000 in
set_option maxHeartbeats 2000000 in
theorem storewrite_any (v : Nat) (body : List Nat) (g o cap : Nat) (w : World) (v1 : 1 ≤ v) (v2 : v ≤ 1073741824) (h0 : 0 < body.length) (hl : body.length ≤ 65536) (hb : Bytes body) (hc : BytesAt w g o body) :
    Calls Tryz.prog 186 #[.int .i64 (v : Int), .slice (some ⟨g, o, none⟩) body.length cap] w (MadeBytes (blobW v body) w) := by
  have HC := Lib.hid hc
  have HB := Lib.hid (recW_bytes v2 hb)
  have n1 : (1 : Int) ≤ (v : Int) := by omega
  have n2 : (v : Int) ≤ 1073741824 := by omega
  have n3 : (body.length : Int) ≤ 65536 := by omega
  clear hc hb
  go_enter Tryz.func186, Tryz.ntmps186
  go_wp2_with fail
  refine (storeput4_any [] _ v w.heap.size _ v2 (by simp) (Nat.le_refl _) (World.ownsRow_nil ..)).mono ?_
  rintro e w1 ⟨r1, rfl, ho1, hT⟩
  have B1 := Lib.hid (hT.below (B := w.heap.size) (fun _ _ h => h) (Nat.le_refl _))
  have O1 := Lib.hid ho1
  clear ho1 hT
  go_wp2_with fail
  refine (storeput3_any (be4 v) _ body.length w.heap.size _ (by omega) (by simp [be4]) B1.out.size (by simpa using O1.out)).mono ?_
  rintro e w2 ⟨r2, rfl, ho2, hT⟩
  have B2 := Lib.hid (B1.out.trans (hT.below (B := w.heap.size) (fun _ _ h => h) B1.out.size))
  obtain ⟨g2, c2, rfl, hb2, _, _, _⟩ := owns_some ho2 (by simp [be3, be4])
  have O2 := Lib.hid (owns_bytes ho2)
  clear ho2 hT
  obtain ⟨_, hw⟩ := ext_of B2.out
  have hc2 := named_cell hw
  haveI hi2 := named_in hw
  haveI hb2x := named_below (w := w) hw
  clear hw
  have C2 := Lib.hid (HC.out.below B2.out)
  have e7 : (be4 v ++ be3 body.length).length = 7 := by simp [be4, be3]
  go_wp2_with fail
  have CT : ∀ W, W = w2.alloc (.cells #[.slice (some ⟨g2, 0, none⟩) 7 c2, .slice (some ⟨g, o, none⟩) body.length cap] 87) →
      Calls Tryz.prog 238 #[.slice (some ⟨w2.heap.size, 0, none⟩) 2 2] W (MadeRow 5 1 (recW v body).length (bV (recW v body)) W) := by
    rintro W rfl
    refine concat2_any (be4 v ++ be3 body.length) body w2.heap.size 2 g2 0 c2 g o cap _ (by rw [e7]; omega) h0 (by rw [e7]; omega) ?_ ?_ (O2.out.grown (by exact grown_of)) (C2.out.grown (by exact grown_of))
    · exact (World.cell?_alloc_new ..).trans rfl
    · exact (World.cell?_alloc_new ..).trans rfl
  have CT1 := CT _ rfl
  clear CT
  refine (CT1).mono ?_
  rintro e w3 ⟨v3, rfl, ho3, _t, hw⟩
  haveI hb3_2 := named_below (w := w2) hw
  have hc3 := named_cell hw
  have hz3 := named_frozen hw
  have hh3 := named_heap hw
  haveI hi3 := named_in hw
  haveI hb3 := named_below (w := w) hw
  clear hw
  have B3 := Lib.hid (grown_now (w := w) (W := w3))
  obtain ⟨g3, c3, rfl, _, _, _, _⟩ := owns_some ho3 (by rw [recW_len]; omega)
  have P3 := Lib.hid (crcput_any (recW v body) g3 0 c3 w3 (by rw [recW_len]; omega) (by rw [recW_len]; omega) HB.out (owns_bytes ho3))
  clear ho3 CT1
  go_wp2_with fail
  refine (P3.out).mono ?_
  rintro e w4 ⟨v4, rfl, ho4, _t, hw⟩
  haveI hb4_3 := named_below (w := w3) hw
  have hc4 := named_cell hw
  have hz4 := named_frozen hw
  have hh4 := named_heap hw
  haveI hi4 := named_in hw
  haveI hb4 := named_below (w := w) hw
  clear hw
  have O4 := Lib.hid ho4
  clear ho4
  go_wp2_with fail
  go_ret2
  exact ⟨_, rfl, owns_base O4.out B3.out.size, grown_of⟩

/-- What a reader of records hands back: the version, the body (part of a row of the call's own), no error. -/
def MadeRec (v : Nat) (body : List Nat) (w : World) (e : Ending) (w' : World) : Prop :=
  ∃ g o cap, e = .returned (.tuple #[.int .i64 (v : Int), .slice (some ⟨g, o, none⟩) body.length cap, .int .i64 0]) ∧ body.length ≤ cap ∧ BytesAt w' g o body ∧ ∃ f, w' = ext w f

set_option maxRecDepth 100000 in
set_option maxHeartbeats 4000000 in
theorem storeread_any (v : Nat) (body : List Nat) (g o cap : Nat) (w : World) (v1 : 1 ≤ v) (v2 : v ≤ 1073741824) (h0 : 0 < body.length) (hl : body.length ≤ 65536) (hcap : (blobW v body).length ≤ cap) (hb : Bytes body) (hc : BytesAt w g o (blobW v body)) :
    Calls Tryz.prog 179 #[.slice (some ⟨g, o, none⟩) (blobW v body).length cap] w (MadeRec v body w) := by
  have TK := crctake_any (recW v body) g o cap w (by rw [recW_len]; omega) (by rw [recW_len]; omega) hcap (recW_bytes v2 hb) hc
  have e1 : (crcP (recW v body)).length = body.length + 9 := blobW_len v body
  rw [e1] at TK
  rw [blobW_len]
  have n1 : (1 : Int) ≤ (v : Int) := by omega
  have n2 : (v : Int) ≤ 1073741824 := by omega
  have n3 : (body.length : Int) ≤ 65536 := by omega
  have n4 : (0 : Int) < (body.length : Int) := by omega
  clear hb hc
  go_enter Tryz.func179, Tryz.ntmps179
  go_wp2_with fail
  refine TK.mono ?_
  rintro e w1 ⟨r1, rfl, ho1, _t, hw⟩
  have hc1 := named_cell hw
  haveI hi1 := named_in hw
  haveI hb1 := named_below (w := w) hw
  clear hw
  rw [recW_len] at ho1
  obtain ⟨g1, c1, rfl, _, hn1, hm1, _⟩ := owns_some ho1 (by omega)
  have O1 := Lib.hid (owns_bytes ho1)
  have A4 := Lib.hid (show BytesAt w1 g1 0 (be4 v) from fun j u hu => O1.out j u (by
    unfold recW
    rw [bV_append, List.getElem?_append_left (by rw [bV_append, List.length_append]; have := (List.getElem?_eq_some_iff.1 hu).1; omega), bV_append, List.getElem?_append_left (List.getElem?_eq_some_iff.1 hu).1]
    exact hu))
  have A3 := Lib.hid (show BytesAt w1 g1 4 (be3 body.length) from fun j u hu => by
    have h1 := O1.out (4 + j) u (by
      unfold recW
      have hj := (List.getElem?_eq_some_iff.1 hu).1
      have l4 : (bV (be4 v)).length = 4 := rfl
      rw [bV_append, List.getElem?_append_left (by rw [bV_append, List.length_append, l4]; omega), bV_append, List.getElem?_append_right (by rw [l4]; omega), l4, Nat.add_sub_cancel_left]
      exact hu)
    rwa [Nat.zero_add] at h1)
  have A7 := Lib.hid (show BytesAt w1 g1 7 body from fun j u hu => by
    have h1 := O1.out (7 + j) u (by
      unfold recW
      have l7 : (bV (be4 v ++ be3 body.length)).length = 7 := rfl
      rw [bV_append, List.getElem?_append_right (by rw [l7]; omega), l7, Nat.add_sub_cancel_left]
      exact hu)
    rwa [Nat.zero_add] at h1)
  clear ho1
  have T4 := fun W (hW : Below w1.heap.size w1 W) (c : Nat) => take_be4 v v2 g1 0 c W (A4.out.below hW)
  have T3 := fun W (hW : Below w1.heap.size w1 W) (c : Nat) => take_be3 body.length (by omega) g1 4 c W (A3.out.below hW)
  generalize hbl : body.length = bl at *
  have HBL := Lib.hid hbl
  clear hbl
  have m1 : (7 : Int) ≤ (bl : Int) + 7 := by omega
  have hcc : bl + 7 ≤ c1 := hn1
  have hc7 : ¬ c1 = 7 := by omega
  have hc4 : ¬ c1 = 4 := by omega
  go_wp2_with fail
  refine wp_region_ext ?_ ?_ ?_
  · kernel_rfl
  · kernel_rfl
  repeat (go_big_quiet_step (first | (go_at_call 230; with_reducible exact ext_same (T4 _ (ext_below w1 _) _)) | (go_at_call 230; with_reducible exact ext_same (T3 _ (ext_below w1 _) _))))
  refine wpQuiet_nil ?_
  rintro w2 ⟨_t, hw⟩
  haveI hb2_1 := named_below (w := w1) hw
  have hc2 := named_cell hw
  have hz2 := named_frozen hw
  have hh2 := named_heap hw
  haveI hi2 := named_in hw
  haveI hb2 := named_below (w := w) hw
  clear hw
  have A72 := Lib.hid (A7.out.below (grown_now (w := w1) (W := w2)))
  go_wp2_with fail
  go_ret3
  refine ⟨g1, 7, c1 - 7, ?_, ?_, A72.out, grown_of⟩
  · rw [HBL.out]; rfl
  · rw [HBL.out]; omega
theorem storeread_nil (w : World) : Calls Tryz.prog 179 #[.slice none 0 0] w fun e w' => e = .returned (.tuple #[.int .i64 0, .slice none 0 0, .int .i64 3]) ∧ w = w' := by
  go_enter Tryz.func179, Tryz.ntmps179
  go_wp2_with (go_at_call 229; refine (crctake_nil _).mono ?_; rintro e w1 ⟨rfl, rfl⟩)
  go_ret3
  exact ⟨rfl, rfl⟩
end Go.Proofs.YtnogfelfgclajaaGreatDoor
end
