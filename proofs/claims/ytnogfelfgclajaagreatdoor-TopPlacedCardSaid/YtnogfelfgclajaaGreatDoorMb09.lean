/-
  Checked bytes.
  A number's bytes, the highest first; and back.
  The number of some bytes, the highest first.
  A record's bytes; the record of bytes.
  No Go in sight. A map of numbers, entry by entry.
-/
import Derived.Test.YtnogfelfgclajaaGreatDoorMb08
import Derived.Test.YtnogfelfgclajaaGreatDoorMb01
import Derived.MapKept
import Derived.Laws.Externs
section
namespace Go.Proofs.YtnogfelfgclajaaGreatDoor
open Go.RowKit
attribute [local go_sem] ext_ext drew_ext ext_drew ext_cell ext_frozen in_lt in_le in_ne in_en in_ne1 in_en1 in_le1 in_ltn in_len in_nen in_enn size_le ite_max ite_min
set_option linter.unusedVariables false
set_option linter.unusedSimpArgs false

/-- Bytes, and their word behind them. -/
def crcP (l : List Nat) : List Nat := l ++ crcT (crcOf l)
theorem crcP_len (l : List Nat) : (crcP l).length = l.length + 2 := by simp [crcP, crcT]
theorem crcP_zero (l : List Nat) : crcOf (crcP l) = 0 := by
  have h := crc_own (crcOf_u16 l)
  have e : crcP l = (l ++ [(crcOf l / 256).toNat]) ++ [(crcOf l % 256).toNat] := by simp [crcP, crcT]
  unfold crcOf
  rw [e, crcW_snoc, crcW_snoc]
  exact h
theorem crcT_bytes {c : Int} (h : U16 c) : Bytes (crcT c) := by
  obtain ⟨h1, h2⟩ := h
  intro n hn
  simp only [crcT, List.mem_cons, List.mem_nil_iff, or_false] at hn
  rcases hn with rfl | rfl <;> omega
theorem crcP_bytes {l : List Nat} (h : Bytes l) : Bytes (crcP l) := by
  intro n hn
  rcases List.mem_append.1 hn with hn | hn
  · exact h n hn
  · exact crcT_bytes (crcOf_u16 l) n hn

set_option maxRecDepth 100000 in
set_option maxHeartbeats 1000000 in
theorem crcput_any (l : List Nat) (g o cap : Nat) (w : World) (hl : l.length ≤ 100000) (h0 : 0 < l.length) (hb : Bytes l) (hc : BytesAt w g o l) :
    Calls Tryz.prog 237 #[.slice (some ⟨g, o, none⟩) l.length cap] w (MadeRow 5 1 (crcP l).length (bV (crcP l)) w) := by
  have OF := crcof_any l g o cap w (by omega) h0 hb hc
  have HC := Lib.hid hc
  have HU := Lib.hid (crcOf_u16 l)
  have HE := Lib.hid (show bV (crcT (crcOf l)) = [.int .u8 (crcOf l / 256), .int .u8 (crcOf l % 256)] by
    obtain ⟨h1, h2⟩ := crcOf_u16 l
    simp only [crcT, bV, List.map_cons, List.map_nil]
    rw [show (((crcOf l / 256).toNat : Nat) : Int) = crcOf l / 256 by omega, show (((crcOf l % 256).toNat : Nat) : Int) = crcOf l % 256 by omega])
  clear hc hb
  go_enter Tryz.func237, Tryz.ntmps237
  go_wp2_with fail
  refine (OF).mono ?_
  rintro e w1 ⟨rfl, _t, hw⟩
  have hc1 := named_cell hw
  have hz1 := named_frozen hw
  have hh1 := named_heap hw
  haveI hi1 := named_in hw
  haveI hb1 := named_below (w := w) hw
  clear hw
  go_wp2_with fail
  refine (crcbytes_any _ HU.out _).mono ?_
  rintro e w2 ⟨rfl, _t, hw⟩
  haveI hb2_1 := named_below (w := w1) hw
  have hc2 := named_cell hw
  have hz2 := named_frozen hw
  have hh2 := named_heap hw
  haveI hi2 := named_in hw
  haveI hb2 := named_below (w := w) hw
  clear hw
  go_wp2_with fail
  have B2 := Lib.hid (grown_now (w := w) (W := w2))
  have CT : ∀ W, W = (w2.alloc (.cells #[.int .u8 (crcOf l / 256), .int .u8 (crcOf l % 256)] 347)).alloc (.cells #[.slice (some ⟨g, o, none⟩) l.length cap, .slice (some ⟨w2.heap.size, 0, none⟩) 2 2] 87) →
      Calls Tryz.prog 238 #[.slice (some ⟨w2.heap.size + 1, 0, none⟩) 2 2] W (MadeRow 5 1 (crcP l).length (bV (crcP l)) W) := by
    rintro W rfl
    refine concat2_any l (crcT (crcOf l)) (w2.heap.size + 1) 2 g o cap w2.heap.size 0 2 _ h0 (by simp [crcT]) (by simp [crcT]; omega) ?_ ?_ (HC.out.grown (by exact grown_of)) ?_
    · exact (World.cell?_alloc_at _ _ _ _ (by simp)).trans rfl
    · exact (World.cell?_alloc_at _ _ _ _ (by simp)).trans rfl
    · intro j u hu
      rw [HE.out] at hu
      rw [World.cell?_alloc_past _ _ _ (by simp), World.cell?_alloc_new]
      rw [Nat.zero_add]
      simpa using hu
  have CT1 := CT _ rfl
  clear CT
  refine (CT1).mono ?_
  rintro e w3 ⟨v3, rfl, ho3, _t, hw⟩
  haveI hb3_1 := named_below (w := w1) hw
  haveI hb3_2 := named_below (w := w2) hw
  have hc3 := named_cell hw
  have hz3 := named_frozen hw
  have hh3 := named_heap hw
  haveI hi3 := named_in hw
  haveI hb3 := named_below (w := w) hw
  clear hw
  have O3 := Lib.hid ho3
  clear ho3
  go_wp2_with fail
  go_ret
  exact ⟨_, rfl, owns_base O3.out (by have := B2.out.size; simp; omega), grown_of⟩

set_option maxRecDepth 100000 in
set_option maxHeartbeats 1000000 in
theorem crcgood_any (l : List Nat) (g o cap : Nat) (w : World) (hl : l.length ≤ 100000) (hb : Bytes l) (hc : BytesAt w g o (crcP l)) :
    Calls Tryz.prog 304 #[.slice (some ⟨g, o, none⟩) (crcP l).length cap] w fun e w' => e = .returned (.bool true) ∧ ∃ f, w' = ext w f := by
  have OF := crcof_any (crcP l) g o cap w (by rw [crcP_len]; omega) (by rw [crcP_len]; omega) (crcP_bytes hb) hc
  rw [crcP_zero] at OF
  have h2 : (2 : Int) ≤ ((crcP l).length : Int) := by rw [crcP_len]; omega
  have h3 : ((crcP l).length : Int) ≤ 200000 := by rw [crcP_len]; omega
  clear hb hc
  go_enter Tryz.func304, Tryz.ntmps304
  go_wp2_with fail
  refine (OF).mono ?_
  rintro e w1 ⟨rfl, _t, hw⟩
  have hc1 := named_cell hw
  have hz1 := named_frozen hw
  have hh1 := named_heap hw
  haveI hi1 := named_in hw
  haveI hb1 := named_below (w := w) hw
  clear hw
  go_wp2_with fail
  go_ret
  exact ⟨rfl, grown_of⟩

set_option maxRecDepth 100000 in
set_option maxHeartbeats 1000000 in
theorem crctake_any (l : List Nat) (g o cap : Nat) (w : World) (h0 : 0 < l.length) (hl : l.length ≤ 100000) (hcap : (crcP l).length ≤ cap) (hb : Bytes l) (hc : BytesAt w g o (crcP l)) :
    Calls Tryz.prog 229 #[.slice (some ⟨g, o, none⟩) (crcP l).length cap] w (MadeBytes l w) := by
  have GD := crcgood_any l g o cap w hl hb hc
  have CL := fun W (hW : ∃ f, W = ext w f) => clonebytes_any l g o cap W h0 (by omega) (show BytesAt W g o l from fun j u hu => (hc.grown hW) j u (by
    unfold crcP
    rw [bV_append, List.getElem?_append_left (List.getElem?_eq_some_iff.1 hu).1]
    exact hu))
  have hlen := crcP_len l
  generalize crcP l = p at *
  obtain ⟨n, hn⟩ : ∃ n, n = l.length := ⟨_, rfl⟩
  obtain ⟨m, hm⟩ : ∃ m, m = p.length := ⟨_, rfl⟩
  rw [← hm] at GD hlen hcap ⊢
  rw [← hn] at CL hlen h0 hl
  obtain rfl := hlen
  have HN := Lib.hid hn
  have h3 : (n : Int) ≤ 100000 := by omega
  have h4 : ((n + 2 : Nat) : Int) - 2 = (n : Int) := by omega
  clear hb hc hm hn
  go_enter Tryz.func229, Tryz.ntmps229
  go_wp2_with fail
  refine (GD).mono ?_
  rintro e w1 ⟨rfl, _t, hw⟩
  have hc1 := named_cell hw
  have hz1 := named_frozen hw
  have hh1 := named_heap hw
  haveI hi1 := named_in hw
  haveI hb1 := named_below (w := w) hw
  clear hw
  go_wp2_with fail
  have B1 := Lib.hid (grown_now (w := w) (W := w1))
  refine (CL w1 (ext_of B1.out)).mono ?_
  rintro e w2 ⟨v2, rfl, ho2, _t, hw⟩
  haveI hb2_1 := named_below (w := w1) hw
  have hc2 := named_cell hw
  have hz2 := named_frozen hw
  have hh2 := named_heap hw
  haveI hi2 := named_in hw
  haveI hb2 := named_below (w := w) hw
  clear hw
  have O2 := Lib.hid ho2
  clear ho2
  go_wp2_with fail
  go_ret2
  refine ⟨_, rfl, ?_, grown_of⟩
  rw [← HN.out]
  exact owns_base O2.out B1.out.size
theorem crctake_nil (w : World) : Calls Tryz.prog 229 #[.slice none 0 0] w fun e w' => e = .returned (.tuple #[.slice none 0 0, .int .i64 3]) ∧ w = w' := by
  go_enter Tryz.func229, Tryz.ntmps229
  go_wp2_with fail
  go_ret2
  exact ⟨rfl, rfl⟩
end Go.Proofs.YtnogfelfgclajaaGreatDoor
end

section
namespace Go.Proofs.YtnogfelfgclajaaGreatDoor
open Go.RowKit
attribute [local go_sem] ext_ext drew_ext ext_drew ext_cell ext_frozen in_lt in_le in_ne in_en in_ne1 in_en1 in_le1 in_ltn in_len in_nen in_enn size_le ite_max ite_min
set_option linter.unusedVariables false
set_option linter.unusedSimpArgs false

def be3 (n : Nat) : List Nat := [n / 65536 % 256, n / 256 % 256, n % 256]
def be4 (n : Nat) : List Nat := [n / 16777216, n / 65536 % 256, n / 256 % 256, n % 256]
theorem be3_bytes (n : Nat) : Bytes (be3 n) := by intro x hx; simp only [be3, List.mem_cons, List.mem_nil_iff, or_false] at hx; rcases hx with rfl | rfl | rfl <;> omega
theorem be4_bytes (n : Nat) (hn : n ≤ 1073741824) : Bytes (be4 n) := by intro x hx; simp only [be4, List.mem_cons, List.mem_nil_iff, or_false] at hx; rcases hx with rfl | rfl | rfl | rfl <;> omega
theorem be3_V (n : Nat) : bV (be3 n) = [.int .u8 ((n : Int) / 65536 % 256), .int .u8 ((n : Int) / 256 % 256), .int .u8 ((n : Int) % 256)] := rfl
theorem be4_V (n : Nat) : bV (be4 n) = [.int .u8 ((n : Int) / 16777216), .int .u8 ((n : Int) / 65536 % 256), .int .u8 ((n : Int) / 256 % 256), .int .u8 ((n : Int) % 256)] := rfl

set_option maxRecDepth 100000 in
set_option maxHeartbeats 4000000 in
theorem storeput4_any (l : List Nat) (v : Value) (n base : Nat) (w : World) (hn : n ≤ 1073741824) (hl : l.length ≤ 100000) (hb : base ≤ w.heap.size) (ho : w.ownsRow base 5 1 v l.length (bV l)) :
    Calls Tryz.prog 236 #[v, .int .i64 (n : Int), .int .i64 4] w fun e w' => ∃ v', e = .returned v' ∧ w'.ownsRow base 5 1 v' (l ++ be4 n).length (bV (l ++ be4 n)) ∧ Turn (fun k => base ≤ k) w w' := by
  obtain ⟨i0, iz0, iz1, iz2, iz3⟩ := info_parts byteInfo
  have n0 : (0 : Int) ≤ (n : Int) := by omega
  have n1 : (n : Int) ≤ 1073741824 := by omega
  have O0 := Lib.hid ho
  have BA := Lib.hid hb
  have HL := Lib.hid hl
  have HV := Lib.hid (show bV (l ++ be4 n) = bV l ++ bV (be4 n) from bV_append _ _)
  have HN := Lib.hid (show (l ++ be4 n).length = l.length + 4 by simp [be4])
  obtain ⟨og, cp, rfl⟩ := owns_form ho
  have T0 := Lib.hid (Turn.refl (fun k => base ≤ k) w)
  clear ho hb hl
  go_enter Tryz.func236, Tryz.ntmps236
  go_wp2_with fail
  refine wp_loop_rounds 5 ?_
  rw [rounds_succ]
  go_wp2_with (at_builtin; refine wpList_append_own _ rfl (.tmp 14) (.tmp 20) 87 rfl base 5 i0 _ 1 1 Tryz.underlying87 iz0 iz1 iz2 iz3 rfl (by omega) (.slice og l.length cp) (l.length) (bV l) rfl (O0.out.alloc _) _ 1 1 [.int .u8 ((n : Int) / 16777216)] rfl rfl (World.news_of_block (heap_alloc_new w _)) (by simp [Value.oneCell']) (by have := HL.out; unfold maxLen; omega) (by have := HL.out; omega) (by have := BA.out; have := T0.out.size; simp; omega) ?_; intro v1 w1 ho1 hgr1 hx; clear hx)
  have O1 := Lib.hid ho1
  have T1 := Lib.hid (show Turn (fun k => base ≤ k) w w1 from (T0.out.trans (turn_alloc _ _ _) (fun _ _ h => h)).trans (turn_by hgr1) (fun i _ hi => (O0.out.lt i hi).1))
  clear ho1 hgr1
  rw [rounds_succ]
  go_wp2_with (at_builtin; refine wpList_append_own _ rfl (.tmp 14) (.tmp 20) 87 rfl base 5 i0 _ 1 1 Tryz.underlying87 iz0 iz1 iz2 iz3 rfl (by omega) v1 (l.length + 1) (bV l ++ [.int .u8 ((n : Int) / 16777216)]) rfl (O1.out.alloc _) _ 1 1 [.int .u8 ((n : Int) / 65536 % 256)] rfl rfl (World.news_of_block (heap_alloc_new w1 _)) (by simp [Value.oneCell']) (by have := HL.out; unfold maxLen; omega) (by have := HL.out; omega) (by have := BA.out; have := T1.out.size; simp; omega) ?_; intro v2 w2 ho2 hgr2 hx; clear hx)
  have O2 := Lib.hid ho2
  have T2 := Lib.hid (show Turn (fun k => base ≤ k) w w2 from (T1.out.trans (turn_alloc _ _ _) (fun _ _ h => h)).trans (turn_by hgr2) (fun i _ hi => (O1.out.lt i hi).1))
  clear ho2 hgr2
  rw [rounds_succ]
  go_wp2_with (at_builtin; refine wpList_append_own _ rfl (.tmp 14) (.tmp 20) 87 rfl base 5 i0 _ 1 1 Tryz.underlying87 iz0 iz1 iz2 iz3 rfl (by omega) v2 (l.length + 1 + 1) (bV l ++ [.int .u8 ((n : Int) / 16777216)] ++ [.int .u8 ((n : Int) / 65536 % 256)]) rfl (O2.out.alloc _) _ 1 1 [.int .u8 ((n : Int) / 256 % 256)] rfl rfl (World.news_of_block (heap_alloc_new w2 _)) (by simp [Value.oneCell']) (by have := HL.out; unfold maxLen; omega) (by have := HL.out; omega) (by have := BA.out; have := T2.out.size; simp; omega) ?_; intro v3 w3 ho3 hgr3 hx; clear hx)
  have O3 := Lib.hid ho3
  have T3 := Lib.hid (show Turn (fun k => base ≤ k) w w3 from (T2.out.trans (turn_alloc _ _ _) (fun _ _ h => h)).trans (turn_by hgr3) (fun i _ hi => (O2.out.lt i hi).1))
  clear ho3 hgr3
  rw [rounds_succ]
  go_wp2_with (at_builtin; refine wpList_append_own _ rfl (.tmp 14) (.tmp 20) 87 rfl base 5 i0 _ 1 1 Tryz.underlying87 iz0 iz1 iz2 iz3 rfl (by omega) v3 (l.length + 1 + 1 + 1) (bV l ++ [.int .u8 ((n : Int) / 16777216)] ++ [.int .u8 ((n : Int) / 65536 % 256)] ++ [.int .u8 ((n : Int) / 256 % 256)]) rfl (O3.out.alloc _) _ 1 1 [.int .u8 ((n : Int) % 256)] rfl rfl (World.news_of_block (heap_alloc_new w3 _)) (by simp [Value.oneCell']) (by have := HL.out; unfold maxLen; omega) (by have := HL.out; omega) (by have := BA.out; have := T3.out.size; simp; omega) ?_; intro v4 w4 ho4 hgr4 hx; clear hx)
  have O4 := Lib.hid ho4
  have T4 := Lib.hid (show Turn (fun k => base ≤ k) w w4 from (T3.out.trans (turn_alloc _ _ _) (fun _ _ h => h)).trans (turn_by hgr4) (fun i _ hi => (O3.out.lt i hi).1))
  clear ho4 hgr4
  rw [rounds_succ]
  go_wp2_with fail
  go_ret
  refine ⟨_, rfl, ?_, T4.out⟩
  rw [HV.out, HN.out, be4_V]
  have := O4.out
  simpa [Nat.add_assoc] using this

set_option maxRecDepth 100000 in
set_option maxHeartbeats 4000000 in
theorem storeput3_any (l : List Nat) (v : Value) (n base : Nat) (w : World) (hn : n ≤ 1073741824) (hl : l.length ≤ 100000) (hb : base ≤ w.heap.size) (ho : w.ownsRow base 5 1 v l.length (bV l)) :
    Calls Tryz.prog 236 #[v, .int .i64 (n : Int), .int .i64 3] w fun e w' => ∃ v', e = .returned v' ∧ w'.ownsRow base 5 1 v' (l ++ be3 n).length (bV (l ++ be3 n)) ∧ Turn (fun k => base ≤ k) w w' := by
  obtain ⟨i0, iz0, iz1, iz2, iz3⟩ := info_parts byteInfo
  have n0 : (0 : Int) ≤ (n : Int) := by omega
  have n1 : (n : Int) ≤ 1073741824 := by omega
  have O0 := Lib.hid ho
  have BA := Lib.hid hb
  have HL := Lib.hid hl
  have HV := Lib.hid (show bV (l ++ be3 n) = bV l ++ bV (be3 n) from bV_append _ _)
  have HN := Lib.hid (show (l ++ be3 n).length = l.length + 3 by simp [be3])
  obtain ⟨og, cp, rfl⟩ := owns_form ho
  have T0 := Lib.hid (Turn.refl (fun k => base ≤ k) w)
  clear ho hb hl
  go_enter Tryz.func236, Tryz.ntmps236
  go_wp2_with fail
  refine wp_loop_rounds 4 ?_
  rw [rounds_succ]
  go_wp2_with (at_builtin; refine wpList_append_own _ rfl (.tmp 14) (.tmp 20) 87 rfl base 5 i0 _ 1 1 Tryz.underlying87 iz0 iz1 iz2 iz3 rfl (by omega) (.slice og l.length cp) (l.length) (bV l) rfl (O0.out.alloc _) _ 1 1 [.int .u8 ((n : Int) / 65536 % 256)] rfl rfl (World.news_of_block (heap_alloc_new w _)) (by simp [Value.oneCell']) (by have := HL.out; unfold maxLen; omega) (by have := HL.out; omega) (by have := BA.out; have := T0.out.size; simp; omega) ?_; intro v1 w1 ho1 hgr1 hx; clear hx)
  have O1 := Lib.hid ho1
  have T1 := Lib.hid (show Turn (fun k => base ≤ k) w w1 from (T0.out.trans (turn_alloc _ _ _) (fun _ _ h => h)).trans (turn_by hgr1) (fun i _ hi => (O0.out.lt i hi).1))
  clear ho1 hgr1
  rw [rounds_succ]
  go_wp2_with (at_builtin; refine wpList_append_own _ rfl (.tmp 14) (.tmp 20) 87 rfl base 5 i0 _ 1 1 Tryz.underlying87 iz0 iz1 iz2 iz3 rfl (by omega) v1 (l.length + 1) (bV l ++ [.int .u8 ((n : Int) / 65536 % 256)]) rfl (O1.out.alloc _) _ 1 1 [.int .u8 ((n : Int) / 256 % 256)] rfl rfl (World.news_of_block (heap_alloc_new w1 _)) (by simp [Value.oneCell']) (by have := HL.out; unfold maxLen; omega) (by have := HL.out; omega) (by have := BA.out; have := T1.out.size; simp; omega) ?_; intro v2 w2 ho2 hgr2 hx; clear hx)
  have O2 := Lib.hid ho2
  have T2 := Lib.hid (show Turn (fun k => base ≤ k) w w2 from (T1.out.trans (turn_alloc _ _ _) (fun _ _ h => h)).trans (turn_by hgr2) (fun i _ hi => (O1.out.lt i hi).1))
  clear ho2 hgr2
  rw [rounds_succ]
  go_wp2_with (at_builtin; refine wpList_append_own _ rfl (.tmp 14) (.tmp 20) 87 rfl base 5 i0 _ 1 1 Tryz.underlying87 iz0 iz1 iz2 iz3 rfl (by omega) v2 (l.length + 1 + 1) (bV l ++ [.int .u8 ((n : Int) / 65536 % 256)] ++ [.int .u8 ((n : Int) / 256 % 256)]) rfl (O2.out.alloc _) _ 1 1 [.int .u8 ((n : Int) % 256)] rfl rfl (World.news_of_block (heap_alloc_new w2 _)) (by simp [Value.oneCell']) (by have := HL.out; unfold maxLen; omega) (by have := HL.out; omega) (by have := BA.out; have := T2.out.size; simp; omega) ?_; intro v3 w3 ho3 hgr3 hx; clear hx)
  have O3 := Lib.hid ho3
  have T3 := Lib.hid (show Turn (fun k => base ≤ k) w w3 from (T2.out.trans (turn_alloc _ _ _) (fun _ _ h => h)).trans (turn_by hgr3) (fun i _ hi => (O2.out.lt i hi).1))
  clear ho3 hgr3
  rw [rounds_succ]
  go_wp2_with fail
  go_ret
  refine ⟨_, rfl, ?_, T3.out⟩
  rw [HV.out, HN.out, be3_V]
  have := O3.out
  simpa [Nat.add_assoc] using this
end Go.Proofs.YtnogfelfgclajaaGreatDoor
end

section
namespace Go.Proofs.YtnogfelfgclajaaGreatDoor
open Go.RowKit
attribute [local go_sem] ext_ext drew_ext ext_drew ext_cell ext_frozen in_lt in_le in_ne in_en in_ne1 in_en1 in_le1 in_ltn in_len in_nen in_enn size_le ite_max ite_min
set_option linter.unusedVariables false
set_option linter.unusedSimpArgs false

theorem or256 (x c : Nat) (hx : x ≤ 1099511627776) (hc : c < 256) : bits BinOp.or IntKind.i64 ((x : Int) * 256) (c : Int) = (x : Int) * 256 + (c : Int) := by
  show IntKind.i64.wrap ((BitVec.ofInt 64 ((x : Int) * 256) ||| BitVec.ofInt 64 (c : Int)).toNat : Nat) = _
  have e1 : (BitVec.ofInt 64 ((x : Int) * 256)).toNat = x <<< 8 := by rw [BitVec.toNat_ofInt, Nat.shiftLeft_eq]; omega
  have e2 : (BitVec.ofInt 64 (c : Int)).toNat = c := by rw [BitVec.toNat_ofInt]; omega
  rw [BitVec.toNat_or, e1, e2, ← Nat.shiftLeft_add_eq_or_of_lt (i := 8) (by omega), Nat.shiftLeft_eq, IntKind.wrap_i64]
  omega
theorem or0 (c : Nat) (hc : c < 256) : bits BinOp.or IntKind.i64 0 (c : Int) = (c : Int) := by
  have := or256 0 c (by omega) hc
  simpa using this

set_option maxRecDepth 100000 in
set_option maxHeartbeats 2000000 in
theorem storetake4 (c0 c1 c2 c3 : Nat) (h0 : c0 < 256) (h1 : c1 < 256) (h2 : c2 < 256) (h3 : c3 < 256) (g o cap : Nat) (w : World) (d0 : w.cell? ⟨g, o, none⟩ = some (.int .u8 (c0 : Int))) (d1 : w.cell? ⟨g, o + 1, none⟩ = some (.int .u8 (c1 : Int))) (d2 : w.cell? ⟨g, o + 2, none⟩ = some (.int .u8 (c2 : Int))) (d3 : w.cell? ⟨g, o + 3, none⟩ = some (.int .u8 (c3 : Int))) :
    Calls Tryz.prog 230 #[.slice (some ⟨g, o, none⟩) 4 cap] w fun e w' => e = .returned (.int .i64 ((((c0 : Int) * 256 + (c1 : Int)) * 256 + (c2 : Int)) * 256 + (c3 : Int))) ∧ w = w' := by
  have z0 := or0 c0 h0
  have z1 : bits BinOp.or IntKind.i64 ((c0 : Int) * 256) (c1 : Int) = (c0 : Int) * 256 + (c1 : Int) := by
    have := or256 (c0) c1 (by omega) h1
    simpa using this
  have z2 : bits BinOp.or IntKind.i64 (((c0 : Int) * 256 + (c1 : Int)) * 256) (c2 : Int) = ((c0 : Int) * 256 + (c1 : Int)) * 256 + (c2 : Int) := by
    have := or256 ((c0 * 256 + c1)) c2 (by omega) h2
    simpa using this
  have z3 : bits BinOp.or IntKind.i64 ((((c0 : Int) * 256 + (c1 : Int)) * 256 + (c2 : Int)) * 256) (c3 : Int) = (((c0 : Int) * 256 + (c1 : Int)) * 256 + (c2 : Int)) * 256 + (c3 : Int) := by
    have := or256 (((c0 * 256 + c1) * 256 + c2)) c3 (by omega) h3
    simpa using this
  have a0 : (c0 : Int) < 256 := by omega
  have a1 : (c1 : Int) < 256 := by omega
  have a2 : (c2 : Int) < 256 := by omega
  have a3 : (c3 : Int) < 256 := by omega
  clear h0 h1 h2 h3
  go_enter Tryz.func230, Tryz.ntmps230
  go_wp2_with fail
  refine wp_loop_rounds 5 ?_
  rw [rounds_succ]
  go_wp2_with fail
  rw [rounds_succ]
  go_wp2_with fail
  rw [rounds_succ]
  go_wp2_with fail
  rw [rounds_succ]
  go_wp2_with fail
  rw [rounds_succ]
  go_wp2_with fail
  go_ret
  exact ⟨rfl, rfl⟩

set_option maxRecDepth 100000 in
set_option maxHeartbeats 2000000 in
theorem storetake3 (c0 c1 c2 : Nat) (h0 : c0 < 256) (h1 : c1 < 256) (h2 : c2 < 256) (g o cap : Nat) (w : World) (d0 : w.cell? ⟨g, o, none⟩ = some (.int .u8 (c0 : Int))) (d1 : w.cell? ⟨g, o + 1, none⟩ = some (.int .u8 (c1 : Int))) (d2 : w.cell? ⟨g, o + 2, none⟩ = some (.int .u8 (c2 : Int))) :
    Calls Tryz.prog 230 #[.slice (some ⟨g, o, none⟩) 3 cap] w fun e w' => e = .returned (.int .i64 (((c0 : Int) * 256 + (c1 : Int)) * 256 + (c2 : Int))) ∧ w = w' := by
  have z0 := or0 c0 h0
  have z1 : bits BinOp.or IntKind.i64 ((c0 : Int) * 256) (c1 : Int) = (c0 : Int) * 256 + (c1 : Int) := by
    have := or256 (c0) c1 (by omega) h1
    simpa using this
  have z2 : bits BinOp.or IntKind.i64 (((c0 : Int) * 256 + (c1 : Int)) * 256) (c2 : Int) = ((c0 : Int) * 256 + (c1 : Int)) * 256 + (c2 : Int) := by
    have := or256 ((c0 * 256 + c1)) c2 (by omega) h2
    simpa using this
  have a0 : (c0 : Int) < 256 := by omega
  have a1 : (c1 : Int) < 256 := by omega
  have a2 : (c2 : Int) < 256 := by omega
  clear h0 h1 h2
  go_enter Tryz.func230, Tryz.ntmps230
  go_wp2_with fail
  refine wp_loop_rounds 4 ?_
  rw [rounds_succ]
  go_wp2_with fail
  rw [rounds_succ]
  go_wp2_with fail
  rw [rounds_succ]
  go_wp2_with fail
  rw [rounds_succ]
  go_wp2_with fail
  go_ret
  exact ⟨rfl, rfl⟩

theorem be4_back (n : Nat) (hn : n ≤ 1073741824) : (((((n / 16777216 : Nat) : Int) * 256 + ((n / 65536 % 256 : Nat) : Int)) * 256 + ((n / 256 % 256 : Nat) : Int)) * 256 + ((n % 256 : Nat) : Int)) = (n : Int) := by omega
theorem be3_back (n : Nat) (hn : n < 16777216) : ((((n / 65536 % 256 : Nat) : Int) * 256 + ((n / 256 % 256 : Nat) : Int)) * 256 + ((n % 256 : Nat) : Int)) = (n : Int) := by omega
theorem take_be4 (n : Nat) (hn : n ≤ 1073741824) (g o cap : Nat) (w : World) (hc : BytesAt w g o (be4 n)) :
    Calls Tryz.prog 230 #[.slice (some ⟨g, o, none⟩) 4 cap] w fun e w' => e = .returned (.int .i64 (n : Int)) ∧ w = w' := by
  have := storetake4 (n / 16777216) (n / 65536 % 256) (n / 256 % 256) (n % 256) (by omega) (by omega) (by omega) (by omega) g o cap w (hc 0 _ rfl) (hc 1 _ rfl) (hc 2 _ rfl) (hc 3 _ rfl)
  rwa [be4_back n hn] at this
theorem take_be3 (n : Nat) (hn : n < 16777216) (g o cap : Nat) (w : World) (hc : BytesAt w g o (be3 n)) :
    Calls Tryz.prog 230 #[.slice (some ⟨g, o, none⟩) 3 cap] w fun e w' => e = .returned (.int .i64 (n : Int)) ∧ w = w' := by
  have := storetake3 (n / 65536 % 256) (n / 256 % 256) (n % 256) (by omega) (by omega) (by omega) g o cap w (hc 0 _ rfl) (hc 1 _ rfl) (hc 2 _ rfl)
  rwa [be3_back n hn] at this
end Go.Proofs.YtnogfelfgclajaaGreatDoor
end

section
namespace Go.Proofs.YtnogfelfgclajaaGreatDoor
open Go.RowKit
attribute [local go_sem] ext_ext drew_ext ext_drew ext_cell ext_frozen in_lt in_le in_ne in_en in_ne1 in_en1 in_le1 in_ltn in_len in_nen in_enn size_le ite_max ite_min
set_option linter.unusedVariables false
set_option linter.unusedSimpArgs false

/-- What is checked of a record. -/
def recW (v : Nat) (body : List Nat) : List Nat := be4 v ++ be3 body.length ++ body
theorem recW_len (v : Nat) (body : List Nat) : (recW v body).length = body.length + 7 := by simp [recW, be4, be3]
theorem recW_bytes {v : Nat} {body : List Nat} (hv : v ≤ 1073741824) (h : Bytes body) : Bytes (recW v body) := by
  intro n hn
  simp only [recW, List.mem_append] at hn
  rcases hn with (hn | hn) | hn
  · exact be4_bytes v hv n hn
  · exact be3_bytes _ n hn
  · exact h n hn
/-- A record's bytes. -/
def blobW (v : Nat) (body : List Nat) : List Nat := crcP (recW v body)
theorem blobW_len (v : Nat) (body : List Nat) : (blobW v body).length = body.length + 9 := by unfold blobW; rw [crcP_len, recW_len]

set_option maxRecDepth 100000 in
set_option maxHeartbeats 2000000 in
theorem storewrite_any (v : Nat) (body : List Nat) (g o cap : Nat) (w : World) (v1 : 1 ≤ v) (v2 : v ≤ 1073741824) (h0 : 0 < body.length) (hl : body.length ≤ 65536) (hb : Bytes body) (hc : BytesAt w g o body) :
    Calls Tryz.prog 186 #[.int .i64 (v : Int), .slice (some ⟨g, o, none⟩) body.length cap] w (MadeBytes (blobW v body) w) := by
  have HC := Lib.hid hc
  have HB := Lib.hid (recW_bytes v2 hb)
  have n1 : (1 : Int) ≤ (v : Int) := by omega
  have n2 : (v : Int) ≤ 1073741824 := by omega
  have n3 : (body.length : Int) ≤ 65536 := by omega
  clear hc hb
  go_enter Tryz.func186, Tryz.ntmps186
  go_wp2_with fail
  refine (storeput4_any [] _ v w.heap.size _ v2 (by simp) (Nat.le_refl _) (World.ownsRow_nil ..)).mono ?_
  rintro e w1 ⟨r1, rfl, ho1, hT⟩
  have B1 := Lib.hid (hT.below (B := w.heap.size) (fun _ _ h => h) (Nat.le_refl _))
  have O1 := Lib.hid ho1
  clear ho1 hT
  go_wp2_with fail
  refine (storeput3_any (be4 v) _ body.length w.heap.size _ (by omega) (by simp [be4]) B1.out.size (by simpa using O1.out)).mono ?_
  rintro e w2 ⟨r2, rfl, ho2, hT⟩
  have B2 := Lib.hid (B1.out.trans (hT.below (B := w.heap.size) (fun _ _ h => h) B1.out.size))
  obtain ⟨g2, c2, rfl, hb2, _, _, _⟩ := owns_some ho2 (by simp [be3, be4])
  have O2 := Lib.hid (owns_bytes ho2)
  clear ho2 hT
  obtain ⟨_, hw⟩ := ext_of B2.out
  have hc2 := named_cell hw
  haveI hi2 := named_in hw
  haveI hb2x := named_below (w := w) hw
  clear hw
  have C2 := Lib.hid (HC.out.below B2.out)
  have e7 : (be4 v ++ be3 body.length).length = 7 := by simp [be4, be3]
  go_wp2_with fail
  have CT : ∀ W, W = w2.alloc (.cells #[.slice (some ⟨g2, 0, none⟩) 7 c2, .slice (some ⟨g, o, none⟩) body.length cap] 87) →
      Calls Tryz.prog 238 #[.slice (some ⟨w2.heap.size, 0, none⟩) 2 2] W (MadeRow 5 1 (recW v body).length (bV (recW v body)) W) := by
    rintro W rfl
    refine concat2_any (be4 v ++ be3 body.length) body w2.heap.size 2 g2 0 c2 g o cap _ (by rw [e7]; omega) h0 (by rw [e7]; omega) ?_ ?_ (O2.out.grown (by exact grown_of)) (C2.out.grown (by exact grown_of))
    · exact (World.cell?_alloc_new ..).trans rfl
    · exact (World.cell?_alloc_new ..).trans rfl
  have CT1 := CT _ rfl
  clear CT
  refine (CT1).mono ?_
  rintro e w3 ⟨v3, rfl, ho3, _t, hw⟩
  haveI hb3_2 := named_below (w := w2) hw
  have hc3 := named_cell hw
  have hz3 := named_frozen hw
  have hh3 := named_heap hw
  haveI hi3 := named_in hw
  haveI hb3 := named_below (w := w) hw
  clear hw
  have B3 := Lib.hid (grown_now (w := w) (W := w3))
  obtain ⟨g3, c3, rfl, _, _, _, _⟩ := owns_some ho3 (by rw [recW_len]; omega)
  have P3 := Lib.hid (crcput_any (recW v body) g3 0 c3 w3 (by rw [recW_len]; omega) (by rw [recW_len]; omega) HB.out (owns_bytes ho3))
  clear ho3 CT1
  go_wp2_with fail
  refine (P3.out).mono ?_
  rintro e w4 ⟨v4, rfl, ho4, _t, hw⟩
  haveI hb4_3 := named_below (w := w3) hw
  have hc4 := named_cell hw
  have hz4 := named_frozen hw
  have hh4 := named_heap hw
  haveI hi4 := named_in hw
  haveI hb4 := named_below (w := w) hw
  clear hw
  have O4 := Lib.hid ho4
  clear ho4
  go_wp2_with fail
  go_ret2
  exact ⟨_, rfl, owns_base O4.out B3.out.size, grown_of⟩

/-- What a reader of records hands back: the version, the body (part of a row of the call's own), no error. -/
def MadeRec (v : Nat) (body : List Nat) (w : World) (e : Ending) (w' : World) : Prop :=
  ∃ g o cap, e = .returned (.tuple #[.int .i64 (v : Int), .slice (some ⟨g, o, none⟩) body.length cap, .int .i64 0]) ∧ body.length ≤ cap ∧ BytesAt w' g o body ∧ ∃ f, w' = ext w f

set_option maxRecDepth 100000 in
set_option maxHeartbeats 4000000 in
theorem storeread_any (v : Nat) (body : List Nat) (g o cap : Nat) (w : World) (v1 : 1 ≤ v) (v2 : v ≤ 1073741824) (h0 : 0 < body.length) (hl : body.length ≤ 65536) (hcap : (blobW v body).length ≤ cap) (hb : Bytes body) (hc : BytesAt w g o (blobW v body)) :
    Calls Tryz.prog 179 #[.slice (some ⟨g, o, none⟩) (blobW v body).length cap] w (MadeRec v body w) := by
  have TK := crctake_any (recW v body) g o cap w (by rw [recW_len]; omega) (by rw [recW_len]; omega) hcap (recW_bytes v2 hb) hc
  have e1 : (crcP (recW v body)).length = body.length + 9 := blobW_len v body
  rw [e1] at TK
  rw [blobW_len]
  have n1 : (1 : Int) ≤ (v : Int) := by omega
  have n2 : (v : Int) ≤ 1073741824 := by omega
  have n3 : (body.length : Int) ≤ 65536 := by omega
  have n4 : (0 : Int) < (body.length : Int) := by omega
  clear hb hc
  go_enter Tryz.func179, Tryz.ntmps179
  go_wp2_with fail
  refine TK.mono ?_
  rintro e w1 ⟨r1, rfl, ho1, _t, hw⟩
  have hc1 := named_cell hw
  haveI hi1 := named_in hw
  haveI hb1 := named_below (w := w) hw
  clear hw
  rw [recW_len] at ho1
  obtain ⟨g1, c1, rfl, _, hn1, hm1, _⟩ := owns_some ho1 (by omega)
  have O1 := Lib.hid (owns_bytes ho1)
  have A4 := Lib.hid (show BytesAt w1 g1 0 (be4 v) from fun j u hu => O1.out j u (by
    unfold recW
    rw [bV_append, List.getElem?_append_left (by rw [bV_append, List.length_append]; have := (List.getElem?_eq_some_iff.1 hu).1; omega), bV_append, List.getElem?_append_left (List.getElem?_eq_some_iff.1 hu).1]
    exact hu))
  have A3 := Lib.hid (show BytesAt w1 g1 4 (be3 body.length) from fun j u hu => by
    have h1 := O1.out (4 + j) u (by
      unfold recW
      have hj := (List.getElem?_eq_some_iff.1 hu).1
      have l4 : (bV (be4 v)).length = 4 := rfl
      rw [bV_append, List.getElem?_append_left (by rw [bV_append, List.length_append, l4]; omega), bV_append, List.getElem?_append_right (by rw [l4]; omega), l4, Nat.add_sub_cancel_left]
      exact hu)
    rwa [Nat.zero_add] at h1)
  have A7 := Lib.hid (show BytesAt w1 g1 7 body from fun j u hu => by
    have h1 := O1.out (7 + j) u (by
      unfold recW
      have l7 : (bV (be4 v ++ be3 body.length)).length = 7 := rfl
      rw [bV_append, List.getElem?_append_right (by rw [l7]; omega), l7, Nat.add_sub_cancel_left]
      exact hu)
    rwa [Nat.zero_add] at h1)
  clear ho1
  have T4 := fun W (hW : Below w1.heap.size w1 W) (c : Nat) => take_be4 v v2 g1 0 c W (A4.out.below hW)
  have T3 := fun W (hW : Below w1.heap.size w1 W) (c : Nat) => take_be3 body.length (by omega) g1 4 c W (A3.out.below hW)
  generalize hbl : body.length = bl at *
  have HBL := Lib.hid hbl
  clear hbl
  have m1 : (7 : Int) ≤ (bl : Int) + 7 := by omega
  have hcc : bl + 7 ≤ c1 := hn1
  have hc7 : ¬ c1 = 7 := by omega
  have hc4 : ¬ c1 = 4 := by omega
  go_wp2_with fail
  refine wp_region_ext ?_ ?_ ?_
  · kernel_rfl
  · kernel_rfl
  repeat (go_big_quiet_step (first | (go_at_call 230; with_reducible exact ext_same (T4 _ (ext_below w1 _) _)) | (go_at_call 230; with_reducible exact ext_same (T3 _ (ext_below w1 _) _))))
  refine wpQuiet_nil ?_
  rintro w2 ⟨_t, hw⟩
  haveI hb2_1 := named_below (w := w1) hw
  have hc2 := named_cell hw
  have hz2 := named_frozen hw
  have hh2 := named_heap hw
  haveI hi2 := named_in hw
  haveI hb2 := named_below (w := w) hw
  clear hw
  have A72 := Lib.hid (A7.out.below (grown_now (w := w1) (W := w2)))
  go_wp2_with fail
  go_ret3
  refine ⟨g1, 7, c1 - 7, ?_, ?_, A72.out, grown_of⟩
  · rw [HBL.out]; rfl
  · rw [HBL.out]; omega
theorem storeread_nil (w : World) : Calls Tryz.prog 179 #[.slice none 0 0] w fun e w' => e = .returned (.tuple #[.int .i64 0, .slice none 0 0, .int .i64 3]) ∧ w = w' := by
  go_enter Tryz.func179, Tryz.ntmps179
  go_wp2_with (go_at_call 229; refine (crctake_nil _).mono ?_; rintro e w1 ⟨rfl, rfl⟩)
  go_ret3
  exact ⟨rfl, rfl⟩
end Go.Proofs.YtnogfelfgclajaaGreatDoor
end

section
namespace Go.Proofs.YtnogfelfgclajaaGreatDoor
open Go.RowKit Go.MapKept
set_option linter.unusedVariables false

/-- What a list of entries holds at a key. -/
def mget {α : Type} (m : List (Int × α)) (k : Int) : Option α := (m.find? (fun p => p.1 == k)).map (·.2)
/-- .. and with an entry laid. -/
def mput {α : Type} : List (Int × α) → Int → α → List (Int × α)
  | [], k, v => [(k, v)]
  | p :: r, k, v => if p.1 = k then (k, v) :: r else p :: mput r k v
theorem mget_put {α : Type} (m : List (Int × α)) (k : Int) (v : α) : mget (mput m k v) k = some v := by
  induction m with
  | nil => simp [mput, mget]
  | cons p r ih =>
    unfold mput
    split
    · simp [mget]
    · next h =>
      unfold mget at ih ⊢
      rw [List.find?_cons_of_neg (by simpa using h)]
      exact ih
theorem mget_other {α : Type} (m : List (Int × α)) {k j : Int} (v : α) (h : j ≠ k) : mget (mput m k v) j = mget m j := by
  induction m with
  | nil => simp [mput, mget, Ne.symm h]
  | cons p r ih =>
    unfold mput
    split
    · next e =>
      unfold mget
      rw [List.find?_cons_of_neg (by simpa using Ne.symm h), List.find?_cons_of_neg (by rw [e]; simpa using Ne.symm h)]
    · unfold mget at ih ⊢
      by_cases e : p.1 = j
      · rw [List.find?_cons_of_pos (by simpa using e), List.find?_cons_of_pos (by simpa using e)]
      · rw [List.find?_cons_of_neg (by simpa using e), List.find?_cons_of_neg (by simpa using e)]
        exact ih
theorem mput_len {α : Type} (m : List (Int × α)) (k : Int) (v : α) : (mput m k v).length ≤ m.length + 1 := by
  induction m with
  | nil => simp [mput]
  | cons p r ih => unfold mput; split <;> simp <;> omega
theorem mput_mem {α : Type} {m : List (Int × α)} {k : Int} {v : α} {p : Int × α} (h : p ∈ mput m k v) : p = (k, v) ∨ p ∈ m := by
  induction m with
  | nil => simp [mput] at h; exact .inl h
  | cons q r ih =>
    unfold mput at h
    split at h
    · rcases List.mem_cons.1 h with h | h
      · exact .inl h
      · exact .inr (List.mem_cons_of_mem _ h)
    · rcases List.mem_cons.1 h with h | h
      · exact .inr (by rw [h]; exact List.mem_cons_self ..)
      · rcases ih h with h | h
        · exact .inl h
        · exact .inr (List.mem_cons_of_mem _ h)
theorem mget_mem {α : Type} {m : List (Int × α)} {k : Int} {v : α} (h : mget m k = some v) : (k, v) ∈ m := by
  unfold mget at h
  cases hf : m.find? (fun p => p.1 == k) with
  | none => rw [hf] at h; cases h
  | some p =>
    rw [hf] at h
    have h1 := List.find?_some hf
    have h2 := List.mem_of_find?_eq_some hf
    simp only [Option.map_some, Option.some.injEq] at h
    simp only [beq_iff_eq] at h1
    obtain ⟨a, b⟩ := p
    simp only at h h1
    subst h h1
    exact h2

/-- Block b is a map of numbers with these entries. -/
def MapI (w : World) (b : Nat) (m : List (Int × Value)) : Prop :=
  ∃ es cl, w.heap[b]? = some (.map es cl) ∧ Stamped es cl ∧ es.toList.map (fun e => (e.key, e.val)) = m.map (fun p => (Value.int .i64 p.1, p.2))
theorem MapI.lt {w : World} {b : Nat} {m : List (Int × Value)} (h : MapI w b m) : b < w.heap.size := by
  obtain ⟨es, cl, h, _⟩ := h; exact lt_of_block h
theorem MapI.keep {w W : World} {b : Nat} {m : List (Int × Value)} (h : MapI w b m) (hW : W.heap[b]? = w.heap[b]?) : MapI W b m := by
  obtain ⟨es, cl, h1, h2⟩ := h; exact ⟨es, cl, hW.trans h1, h2⟩
theorem mapI_made (w : World) : MapI (w.alloc (.map #[] 0)) w.heap.size [] := ⟨#[], 0, heap_alloc_new w _, stamped_empty 0, rfl⟩

section
variable {P : Program} {w : World}
theorem keys_int {es : Array MapEntry} {m : List (Int × Value)} (h : es.toList.map (fun e => (e.key, e.val)) = m.map (fun p => (Value.int .i64 p.1, p.2))) : ∀ x ∈ es.toList, IsKey (.int .i64) x.key := by
  intro x hx
  have h1 : (x.key, x.val) ∈ m.map (fun p => (Value.int .i64 p.1, p.2)) := by rw [← h]; exact List.mem_map.2 ⟨x, hx, rfl⟩
  obtain ⟨p, _, hp⟩ := List.mem_map.1 h1
  have h2 := (Prod.ext_iff.1 hp).1
  simp only at h2
  rw [← h2]
  rfl
theorem find_is {es : List MapEntry} {m : List (Int × Value)} (h : es.map (fun e => (e.key, e.val)) = m.map (fun p => (Value.int .i64 p.1, p.2))) (k : Int) : ∀ i, (Instr.findNow (.int .i64) (.int .i64 k) es i).map (fun o => o.map (·.2)) = some (mget m k) := by
  induction es generalizing m with
  | nil =>
    intro i
    cases m with
    | nil => rfl
    | cons p m => simp at h
  | cons e es ih =>
    intro i
    cases m with
    | nil => simp at h
    | cons p m =>
      simp only [List.map_cons, List.cons.injEq, Prod.mk.injEq] at h
      obtain ⟨⟨h1, h2⟩, h3⟩ := h
      unfold Instr.findNow
      rw [h1]
      simp only [Instr.sameNow, if_true]
      by_cases hk : k = p.1
      · subst hk
        simp [mget, h2]
      · have e1 : (k == p.1) = false := by simpa using hk
        have e2 : (p.1 == k) = false := by simpa using Ne.symm hk
        rw [e1]
        simp only [ih h3, mget, List.find?_cons, e2]
theorem run_lookup_ok {b : Nat} {m : List (Int × Value)} (h : MapI w b m) {T kt et : TypeId} {Z : Value} (hT : P.underlying T = some (.map kt et)) (hk : P.underlying kt = some (.int .i64)) (hz : (zeroValue et).run P w = .ok Z w) (k : Int) :
    (Instr.lookup T (.map (some b)) (.int .i64 k) true).run P w = .ok (.tuple #[(mget m k).getD Z, .bool (mget m k).isSome]) w := by
  obtain ⟨es, cl, h1, h2, h3⟩ := h
  have hf := find_is h3 k 0
  cases hr : Instr.findNow (.int .i64) (.int .i64 k) es.toList 0 with
  | none => rw [hr] at hf; cases hf
  | some o =>
    rw [hr] at hf
    have hf : o.map (·.2) = mget m k := by simpa using hf
    rw [← hf]
    cases o with
    | none => simp [Instr.lookup, run_underlying hT, Go.MapKept.run_getObj_map h1, Go.MapKept.run_checkKey hk (show IsKey (.int .i64) (.int .i64 k) from rfl), Go.MapKept.run_findKey hk hr, hz, Result.andThen]
    | some q => simp [Instr.lookup, run_underlying hT, Go.MapKept.run_getObj_map h1, Go.MapKept.run_checkKey hk (show IsKey (.int .i64) (.int .i64 k) from rfl), Go.MapKept.run_findKey hk hr, Result.andThen]
theorem run_lookup_one {b : Nat} {m : List (Int × Value)} (h : MapI w b m) {T kt et : TypeId} {Z : Value} (hT : P.underlying T = some (.map kt et)) (hk : P.underlying kt = some (.int .i64)) (hz : (zeroValue et).run P w = .ok Z w) (k : Int) :
    (Instr.lookup T (.map (some b)) (.int .i64 k) false).run P w = .ok ((mget m k).getD Z) w := by
  obtain ⟨es, cl, h1, h2, h3⟩ := h
  have hf := find_is h3 k 0
  cases hr : Instr.findNow (.int .i64) (.int .i64 k) es.toList 0 with
  | none => rw [hr] at hf; cases hf
  | some o =>
    rw [hr] at hf
    have hf : o.map (·.2) = mget m k := by simpa using hf
    rw [← hf]
    cases o with
    | none => simp [Instr.lookup, run_underlying hT, Go.MapKept.run_getObj_map h1, Go.MapKept.run_checkKey hk (show IsKey (.int .i64) (.int .i64 k) from rfl), Go.MapKept.run_findKey hk hr, hz, Result.andThen]
    | some q => simp [Instr.lookup, run_underlying hT, Go.MapKept.run_getObj_map h1, Go.MapKept.run_checkKey hk (show IsKey (.int .i64) (.int .i64 k) from rfl), Go.MapKept.run_findKey hk hr, Result.andThen]
open Go.MapKept in
theorem run_update {b : Nat} {m : List (Int × Value)} (h : MapI w b m) {T kt et : TypeId} (hT : P.underlying T = some (.map kt et)) (hk : P.underlying kt = some (.int .i64)) (k : Int) (v : Value) :
    ∃ w', (Instr.mapUpdate T (.map (some b)) (.int .i64 k) v).run P w = .ok () w' ∧ MapI w' b (mput m k v) ∧ Turn (fun j => j = b) w w' ∧ w'.heap.size = w.heap.size := by
  obtain ⟨es, cl, h1, h2, h3⟩ := h
  have hkey : IsKey (.int .i64) (.int .i64 k) := rfl
  have hks := keys_int h3
  have turn : ∀ o, Turn (fun j => j = b) w { w with heap := w.heap.setIfInBounds b o } := fun o => ⟨rfl, rfl, rfl, by simp, fun j _ hj => (Go.MapKept.heap_set h1).2 j hj⟩
  rcases findNow_spec hkey es.toList 0 hks with ⟨f1, f2⟩ | ⟨j, e, f1, f2, f3⟩
  · refine ⟨{ w with heap := w.heap.setIfInBounds b (.map (es.push { key := .int .i64 k, val := v, born := cl }) (cl + 1)) }, ?_, ⟨_, _, (Go.MapKept.heap_set h1).1, stamped_push h2 f2, ?_⟩, turn _, by simp⟩
    · simp [Instr.mapUpdate, run_underlying hT, Go.MapKept.run_getObj_map h1, Go.MapKept.run_checkKey hk hkey, Go.MapKept.run_findKey hk f1, Go.MapKept.run_setObj_map _ h1, Result.andThen]
    · have key : ∀ (es : List MapEntry) (m : List (Int × Value)), es.map (fun e => (e.key, e.val)) = m.map (fun p => (Value.int .i64 p.1, p.2)) → (∀ x ∈ es, x.key ≠ .int .i64 k) → (mput m k v).map (fun p => (Value.int .i64 p.1, p.2)) = es.map (fun e => (e.key, e.val)) ++ [(.int .i64 k, v)] := by
        intro es
        induction es with
        | nil =>
          intro m hm _
          cases m with
          | nil => rfl
          | cons p m => simp at hm
        | cons e es ih =>
          intro m hm hne
          cases m with
          | nil => simp at hm
          | cons p m =>
            simp only [List.map_cons, List.cons.injEq, Prod.mk.injEq] at hm
            obtain ⟨⟨g1, g2⟩, g3⟩ := hm
            have g4 : ¬ p.1 = k := fun e2 => hne e (by simp) (by rw [g1, e2])
            unfold mput
            rw [if_neg g4, List.map_cons, ih m g3 (fun x hx => hne x (by simp [hx])), List.map_cons, List.cons_append, g1, g2]
      rw [Array.toList_push, List.map_append, key _ _ h3 f2]
      rfl
  · have hj : es[j]? = some e := by simpa using f2
    refine ⟨{ w with heap := w.heap.setIfInBounds b (.map (es.modify j fun e => { e with key := .int .i64 k, val := v }) cl) }, ?_, ⟨_, _, (Go.MapKept.heap_set h1).1, ?_, ?_⟩, turn _, by simp⟩
    · simp [Instr.mapUpdate, run_underlying hT, Go.MapKept.run_getObj_map h1, Go.MapKept.run_checkKey hk hkey, Go.MapKept.run_findKey hk f1, hj, f3, run_keyThatStays hkey, Go.MapKept.run_setObj_map _ h1, Result.andThen]
    · exact stamped_modify h2 _ _ (fun _ _ => rfl) (fun e' _ he' => by rw [hj] at he'; cases he'; exact f3.symm)
    · have key : ∀ (es : List MapEntry) (m : List (Int × Value)) (j : Nat) (e : MapEntry), es.map (fun e => (e.key, e.val)) = m.map (fun p => (Value.int .i64 p.1, p.2)) → es[j]? = some e → e.key = .int .i64 k → (es.map (·.key)).Nodup →
          (es.modify j fun e => { e with key := .int .i64 k, val := v }).map (fun e => (e.key, e.val)) = (mput m k v).map (fun p => (Value.int .i64 p.1, p.2)) := by
        intro es
        induction es with
        | nil => intro m j e _ hj; simp at hj
        | cons x es ih =>
          intro m j e hm hj he hnd
          cases m with
          | nil => simp at hm
          | cons p m =>
            simp only [List.map_cons, List.cons.injEq, Prod.mk.injEq] at hm
            obtain ⟨⟨g1, g2⟩, g3⟩ := hm
            cases j with
            | zero =>
              obtain rfl : x = e := by simpa using hj
              have g4 : p.1 = k := by rw [g1] at he; injection he
              unfold mput
              rw [if_pos g4]
              simp [g3]
            | succ j =>
              have hj' : es[j]? = some e := by simpa using hj
              simp only [List.map_cons, List.nodup_cons] at hnd
              have g4 : ¬ p.1 = k := fun e2 => hnd.1 (by
                rw [List.mem_map]
                exact ⟨e, List.mem_of_getElem? hj', by rw [he, g1, e2]⟩)
              unfold mput
              rw [if_neg g4]
              simp only [List.modify_succ_cons, List.map_cons, ih m j e g3 hj' he hnd.2, g1, g2]
      have hnd : (es.toList.map (·.key)).Nodup := h2.2.2
      rw [Array.toList_modify]
      exact key es.toList m j e h3 f2 f3 hnd
theorem run_mapclone {b : Nat} {es : Array MapEntry} {cl : Nat} (T : TypeId) (h : w.heap[b]? = some (.map es cl)) :
    (Extern.MapsClone.clone #[.iface T (.map (some b))]).run P w = .ok (.iface T (.map (some w.heap.size))) (w.alloc (.map es cl)) := by
  have e : Extern.MapsClone.clone #[.iface T (.map (some b))] = (getObj b >>= fun o => match o with
      | .map entries clock => (newObj (.map entries clock) >>= fun n => pure (.iface T (.map (some n))))
      | _ => stuck "maps.clone: a map expected") := rfl
  rw [e]
  simp [Go.MapKept.run_getObj_map h, Result.andThen, go_sem]
end
end Go.Proofs.YtnogfelfgclajaaGreatDoor
end
