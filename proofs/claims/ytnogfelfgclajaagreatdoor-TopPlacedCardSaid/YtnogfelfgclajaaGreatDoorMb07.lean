/-
  The number that bytes begin with.
  Runs' bytes.
  No Go in sight. A region that draws its order: operations that yield one value in whatever world (addresses), which may come up at any time; then operations that yield the same in every grown world, in any order; then a tail in its order. The three are named by lists of numbers.
-/
import Derived.Test.YtnogfelfgclajaaGreatDoorMb06
import Derived.Deep.RegionLaw
import Derived.Test.YtnogfelfgclajaaGreatDoorMb01
section
namespace Go.Proofs.YtnogfelfgclajaaGreatDoor
open Go.RowKit
attribute [local go_sem] ext_ext drew_ext ext_drew ext_cell ext_frozen in_lt in_le in_ne in_en in_ne1 in_en1 in_le1 in_ltn in_len in_nen in_enn size_le ite_max ite_min
set_option linter.unusedVariables false
set_option linter.unusedSimpArgs false

theorem ret_nk0 {a a' k k' : Int} (h : a = a') (h2 : k = k') : Ending.returned (.tuple #[.int .i64 a, .int .i64 k, .int .i64 0]) = .returned (.tuple #[.int .i64 a', .int .i64 k', .int .i64 0]) := by rw [h, h2]
theorem andnot_low (n : Nat) (h : n < 128) : bits BinOp.andNot IntKind.u8 (n : Int) 128 = (n : Int) := by
  have key : ∀ k : Fin 128, bits BinOp.andNot IntKind.u8 ((k.val : Nat) : Int) 128 = ((k.val : Nat) : Int) := by decide +kernel
  exact key ⟨n, h⟩
theorem andnot_high (n : Nat) : bits BinOp.andNot IntKind.u8 ((n : Int) % 128 + 128) 128 = (n : Int) % 128 := by
  have key : ∀ k : Fin 128, bits BinOp.andNot IntKind.u8 (((k.val : Nat) : Int) + 128) 128 = ((k.val : Nat) : Int) := by decide +kernel
  have h2 := key ⟨n % 128, Nat.mod_lt _ (by omega)⟩
  rw [show (n : Int) % 128 = ((n % 128 : Nat) : Int) by omega]
  exact h2
theorem or_zero (n : Nat) (h : n < 128) : bits BinOp.or IntKind.i64 0 (n : Int) = (n : Int) := by
  have key : ∀ k : Fin 128, bits BinOp.or IntKind.i64 0 ((k.val : Nat) : Int) = ((k.val : Nat) : Int) := by decide +kernel
  exact key ⟨n, h⟩

set_option maxRecDepth 100000 in
set_option maxHeartbeats 2000000 in
theorem digits_low (n : Nat) (h1 : 1 ≤ n) (h2 : n < 128) (m g o : Nat) (hm : 1 ≤ m) (hm2 : m ≤ 1000000) (w : World) (hc : w.cell? ⟨g, o, none⟩ = some (.int .u8 (n : Int))) :
    Calls Tryz.prog 180 #[.slice (some ⟨g, o, none⟩) m m] w fun e w' => e = .returned (.tuple #[.int .i64 (n : Int), .int .i64 1, .int .i64 0]) ∧ ∃ f, w' = ext w f := by
  haveI := in_of_cell hc
  have a1 := andnot_low n h2
  have a2 := or_zero n h2
  have n1 : (1 : Int) ≤ (n : Int) := by omega
  have n2 : (n : Int) < 128 := by omega
  have m1 : (1 : Int) ≤ (m : Int) := by omega
  have m2 : (m : Int) ≤ 1000000 := by omega
  have n3 : ((n : Int) == 0) = false := by simp; omega
  clear h1 h2
  go_enter Tryz.func180, Tryz.ntmps180
  go_wp2_with fail
  refine wp_loop_rounds 1 ?_
  rw [rounds_succ]
  go_wp2_with fail
  go_ret3
  exact ⟨rfl, grown_of⟩

theorem or_shift (a b : Nat) (ha : a < 128) (hb : b ≤ 64) : bits BinOp.or IntKind.i64 (a : Int) ((b : Int) * 128) = (a : Int) + (b : Int) * 128 := by
  have key : ∀ k : Fin 128, ∀ j : Fin 65, bits BinOp.or IntKind.i64 ((k.val : Nat) : Int) (((j.val : Nat) : Int) * 128) = ((k.val : Nat) : Int) + ((j.val : Nat) : Int) * 128 := by decide +kernel
  exact key ⟨a, ha⟩ ⟨b, by omega⟩
set_option maxRecDepth 100000 in
set_option maxHeartbeats 2000000 in
theorem digits_high (n : Nat) (h1 : 128 ≤ n) (h2 : n ≤ 8192) (m g o : Nat) (hm : 2 ≤ m) (hm2 : m ≤ 1000000) (w : World) (hc : w.cell? ⟨g, o, none⟩ = some (.int .u8 ((n : Int) % 128 + 128))) (hd : w.cell? ⟨g, o + 1, none⟩ = some (.int .u8 ((n : Int) / 128))) :
    Calls Tryz.prog 180 #[.slice (some ⟨g, o, none⟩) m m] w fun e w' => e = .returned (.tuple #[.int .i64 (n : Int), .int .i64 2, .int .i64 0]) ∧ ∃ f, w' = ext w f := by
  haveI := in_of_cell hc
  have a1 := andnot_high n
  have a2 := or_zero (n % 128) (by omega)
  have a3 := andnot_low (n / 128) (by omega)
  have a4 := or_shift (n % 128) (n / 128) (by omega) (by omega)
  rw [show ((n % 128 : Nat) : Int) = (n : Int) % 128 by omega] at a2 a4
  rw [show ((n / 128 : Nat) : Int) = (n : Int) / 128 by omega] at a3 a4
  have m1 : (2 : Int) ≤ (m : Int) := by omega
  have m2 : (m : Int) ≤ 1000000 := by omega
  have n3 : (((n : Int) / 128) == 0) = false := by simp; omega
  have n4 : 0 ≤ (n : Int) / 128 := by omega
  have n5 : (n : Int) / 128 ≤ 64 := by omega
  have n6 : 0 ≤ (n : Int) % 128 := by omega
  have n7 : (n : Int) % 128 < 128 := by omega
  have HE := Lib.hid (show (n : Int) % 128 + (n : Int) / 128 * 128 = (n : Int) by omega)
  have n8 : (n : Int) % 128 + (n : Int) / 128 * 128 ≤ 8192 := by omega
  clear h1 h2
  go_enter Tryz.func180, Tryz.ntmps180
  go_wp2_with fail
  refine wp_loop_rounds 2 ?_
  rw [rounds_succ]
  go_wp2_with fail
  rw [rounds_succ]
  go_wp2_with fail
  go_ret3
  exact ⟨ret_nk0 HE.out rfl, grown_of⟩

theorem bV_cons (n : Nat) (l : List Nat) : bV (n :: l) = .int .u8 (n : Int) :: bV l := rfl
theorem bV_append (a b : List Nat) : bV (a ++ b) = bV a ++ bV b := by simp [bV]
/-- The number that bytes begin with. -/
theorem digits_any (n : Nat) (h1 : 1 ≤ n) (h2 : n ≤ 8192) (r : List Nat) (g o : Nat) (hr : (numB n ++ r).length ≤ 1000000) (w : World) (hc : BytesAt w g o (numB n ++ r)) :
    Calls Tryz.prog 180 #[.slice (some ⟨g, o, none⟩) (numB n ++ r).length (numB n ++ r).length] w fun e w' => e = .returned (.tuple #[.int .i64 (n : Int), .int .i64 ((numB n).length : Int), .int .i64 0]) ∧ ∃ f, w' = ext w f := by
  by_cases hn : n < 128
  · have H : numB n = [n] := by unfold numB; rw [if_pos hn]
    rw [H] at hc hr ⊢
    exact digits_low n h1 hn _ g o (by simp) hr w (hc 0 _ rfl)
  · have H : numB n = [n % 128 + 128, n / 128] := by unfold numB; rw [if_neg hn]
    rw [H] at hc hr ⊢
    exact digits_high n (by omega) h2 _ g o (by simp) hr w (hc 0 _ rfl) (hc 1 _ rfl)
end Go.Proofs.YtnogfelfgclajaaGreatDoor
end

section
namespace Go.Proofs.YtnogfelfgclajaaGreatDoor
open Go.RowKit
attribute [local go_sem] ext_ext drew_ext ext_drew ext_cell ext_frozen in_lt in_le in_ne in_en in_ne1 in_en1 in_le1 in_ltn in_len in_nen in_enn size_le ite_max ite_min
set_option linter.unusedVariables false
set_option linter.unusedSimpArgs false

theorem codeW_take (l : List Rn) (k : Nat) (hk : k < l.length) : codeW (l.take (k + 1)) = codeW (l.take k) ++ (l[k].2.toNat :: numB l[k].1.toNat) := by
  rw [List.take_succ_eq_append_getElem hk, codeW_append]
  congr 1
  obtain ⟨n, b⟩ := l[k]
  rw [codeW_cons]
  simp [codeW]
theorem codeW_bd {l : List Rn} (h : Fine l) (k : Nat) : (codeW (l.take k)).length ≤ 20000 := by
  have h1 := codeW_len (l.take k)
  have h2 := h.short
  have h3 : (l.take k).length ≤ l.length := List.length_take_le' ..
  have h4 : (cellsR (l.take k)).length ≤ (cellsR l).length := by
    conv => rhs; rw [← List.take_append_drop k l, cellsR_append]
    simp
  have := h.cells
  omega
theorem numB_pos (n : Nat) : 1 ≤ (numB n).length ∧ (numB n).length ≤ 2 := by unfold numB; split <;> simp
/-- What a writer hands back: bytes, and no error. -/
def MadeBytes (l : List Nat) (w : World) (o : Ending) (w' : World) : Prop := ∃ v, o = .returned (.tuple #[v, .int .i64 0]) ∧ w'.ownsRow w.heap.size 5 1 v l.length (bV l) ∧ ∃ f, w' = ext w f

set_option maxRecDepth 100000 in
set_option maxHeartbeats 4000000 in
theorem codewrite_any (l : List Rn) (g cap : Nat) (w : World) (h : Fine l) (hc : RunsAt w g l) :
    Calls Tryz.prog 189 #[.slice (some ⟨g, 0, none⟩) l.length cap] w (MadeBytes (codeW l) w) := by
  obtain ⟨i0, iz0, iz1, iz2, iz3⟩ := info_parts byteInfo
  have HC := Lib.hid hc
  have HF := Lib.hid h
  have LN := fun W (hW : ∃ f, W = ext w f) => len_any l g cap W h.rb h.full (hc.grown hW)
  rw [h.len] at LN
  have MY := fun W (hW : ∃ f, W = ext w f) => runsmay_any l g cap W h (hc.grown hW)
  haveI := in_of_cell (hc 0 _ (rV_at l 0 h.full).1)
  clear hc h
  go_enter Tryz.func189, Tryz.ntmps189
  go_wp2_with fail
  go_loopw [4, 12] (fun n i wr => ∃ k : Nat, k ≤ l.length ∧ i = .int .i64 k ∧ n = .int .i64 (1048576 - lenR (l.take k)) ∧ ∃ f, wr = ext w f) (fun _ i _ => l.length - (intOf i).toNat)
  case atStart => exact ⟨0, by omega, rfl, rfl, grown_of⟩
  case round =>
    obtain ⟨k, hk, rfl, rfl, _, hw⟩ := hrel
    rename World => w1
    haveI hg1 := named_grown hw
    have hc1 := named_cell hw
    have hz1 := named_frozen hw
    have hh1 := named_heap hw
    haveI hi1 := named_in hw
    haveI hb1 := named_below (w := w) hw
    clear hw
    by_cases hlt : k < l.length
    · obtain ⟨x0, x1⟩ := rV_at l k hlt
      have d0 := HC.out _ _ x0
      have d1 := HC.out _ _ x1
      haveI := in_of_cell d0
      have HT := Lib.hid (lenR_take l k hlt)
      have HK := Lib.hid hlt
      obtain ⟨b1, _⟩ := lenR_le HF.out.nonneg k
      have b2 := (lenR_le HF.out.nonneg (k + 1)).2
      rw [HT.out, HF.out.len] at b2
      obtain ⟨e1, e2⟩ := HF.out.each l[k] (List.getElem_mem hlt)
      have k1 : (k : Int) < (l.length : Int) := by omega
      have k2 : (l.length : Int) ≤ 8192 := by have := HF.out.short; omega
      clear x0 x1
      generalize l[k].1 = a at *
      generalize l[k].2 = b at *
      generalize lenR (l.take k) = s at *
      go_wp2_with fail
      go_roundw
      case rel => exact ⟨k + 1, HK.out, by go_num, by rw [HT.out]; exact num_eq (by omega), grown_of⟩
      case measure => have := HK.out; simp [intOf]; omega
    · have k1 : ¬ (k : Int) < (l.length : Int) := by omega
      clear hlt hk
      go_wp2_with fail
      refine (LN _ (grown_of (w := w) (W := w1))).mono ?_
      rintro e w2 ⟨rfl, _t, hw⟩
      haveI hb2_1 := named_below (w := w1) hw
      have hc2 := named_cell hw
      have hz2 := named_frozen hw
      have hh2 := named_heap hw
      haveI hi2 := named_in hw
      haveI hb2 := named_below (w := w) hw
      clear hw
      go_wp2_with fail
      refine (MY _ (grown_of (w := w) (W := w2))).mono ?_
      rintro e w3 ⟨rfl, _t, hw⟩
      haveI hb3_1 := named_below (w := w1) hw
      haveI hb3_2 := named_below (w := w2) hw
      have hc3 := named_cell hw
      have hz3 := named_frozen hw
      have hh3 := named_heap hw
      haveI hi3 := named_in hw
      haveI hb3 := named_below (w := w) hw
      clear hw
      go_wp2_with fail
      go_loopw [7, 35] (fun o i wr => ∃ j : Nat, j ≤ l.length ∧ i = .int .i64 j ∧ wr.ownsRow w.heap.size 5 1 o (codeW (l.take j)).length (bV (codeW (l.take j))) ∧ ∃ f, wr = ext w f) (fun _ i _ => l.length - (intOf i).toNat)
      case atStart => exact ⟨0, by omega, rfl, World.ownsRow_nil .., grown_of⟩
      case round =>
        obtain ⟨j, hj, rfl, ow, _, hw⟩ := hrel
        rename World => w4
        haveI hg4 := named_grown hw
        have hc4 := named_cell hw
        have hz4 := named_frozen hw
        have hh4 := named_heap hw
        haveI hi4 := named_in hw
        haveI hb4 := named_below (w := w) hw
        clear hw
        have OW := Lib.hid ow
        clear ow
        by_cases hlt : j < l.length
        · obtain ⟨x0, x1⟩ := rV_at l j hlt
          have d0 := HC.out _ _ x0
          have d1 := HC.out _ _ x1
          haveI := in_of_cell d0
          have HT := Lib.hid (codeW_take l j hlt)
          have HK := Lib.hid hlt
          have CB := codeW_bd HF.out j
          obtain ⟨e1, e2⟩ := HF.out.each l[j] (List.getElem_mem hlt)
          have GB := HF.out.good l[j] (List.getElem_mem hlt)
          have j1 : (j : Int) < (l.length : Int) := by omega
          have j2 : (l.length : Int) ≤ 8192 := by have := HF.out.short; omega
          have NP := numB_pos l[j].1.toNat
          have NUM : ∀ W, Calls Tryz.prog 242 #[.int .i64 l[j].1] W (MadeRow 5 1 (numB l[j].1.toNat).length (bV (numB l[j].1.toNat)) W) := fun W => by
            have := codenum_any l[j].1.toNat (by omega) (by omega) W
            rwa [Int.toNat_of_nonneg (by omega)] at this
          have b0 := GB.lo
          have b1 := GB.hi
          have HB := Lib.hid (show ((l[j].2.toNat : Nat) : Int) = l[j].2 by omega)
          clear x0 x1 GB
          generalize hN : numB l[j].1.toNat = nb at *
          have HNB := Lib.hid hN
          generalize l[j].1 = a at *
          generalize l[j].2 = b at *
          generalize codeW (l.take j) = cw at *
          obtain ⟨og, cp, rfl⟩ := owns_form OW.out
          clear hN hlt hj
          go_wp2_with fail
          obtain ⟨w5, hw5⟩ : ∃ W, W = w4.alloc (.cells #[.int .i64 a, .int .i64 b] 235) := ⟨_, rfl⟩
          rw [← hw5]
          have r0 : w5.cell? ⟨w4.heap.size, 0, none⟩ = some (.int .i64 a) := by rw [hw5]; exact World.cell?_alloc_new ..
          have r1 : w5.cell? ⟨w4.heap.size, 1, none⟩ = some (.int .i64 b) := by rw [hw5]; exact World.cell?_alloc_new ..
          have O5 := Lib.hid (show w5.ownsRow w.heap.size 5 1 (.slice og cw.length cp) cw.length (bV cw) by rw [hw5]; exact OW.out.alloc _)
          have LT := Lib.hid (fun q hq => (OW.out.lt q hq).2)
          haveI hb5 : Nonempty (Below w.heap.size w w5) := by rw [hw5]; infer_instance
          have R4 := Lib.hid (show w4.heap.size < w5.heap.size by rw [hw5]; simp)
          haveI hi5 : Nonempty (In w4.heap.size w5) := ⟨R4.out⟩
          have nrb : some w4.heap.size ≠ (Value.slice og cw.length cp).ownBlock := fun e => Nat.lt_irrefl _ (LT.out _ e.symm)
          have wb : IntKind.u8.wrap b = b := by simp only [IntKind.wrap, IntKind.bits, IntKind.signed]; first | omega | (simp; omega)
          clear hw5 OW hc4 hz4 hh4
          generalize w4.heap.size = rb at *
          go_region_law
            (first
              | (go_simp; go_at_call 242; refine (NUM _).mono ?_; rintro e w7 ⟨v7, rfl, ho7, _t, hw⟩
                 haveI hg7 := named_grown hw
                 (try haveI hbx7 := named_below (w := w5) hw)
                 haveI hby7 := named_below (w := w) hw
                 have hc7 := named_cell hw
                 haveI hi7 := named_in hw
                 clear hw
                 obtain ⟨g7, c7, rfl, hb7, hn7, hm7, hcell7⟩ := owns_some ho7 (by omega)
                 have HC7 := Lib.hid hcell7
                 have G7 := Lib.hid (Nat.lt_of_lt_of_le (of_eq_true (in_lt (b := rb))) hb7)
                 clear ho7 hb7 hcell7 hn7 hm7)
              | (have GG := G7.out; clear GG
                 refine step_append_lies _ (by rfl) (.tmp 39) (.tmp 43) 87 (by rfl) w.heap.size 5 i0 _ 1 1 Tryz.underlying87 iz0 iz1 iz2 iz3 rfl (by omega) (.slice og cw.length cp) cw.length (bV cw) (by rfl) (by exact owns_grown O5.out (by exact grown_of)) _ 1 1 [.int .u8 b] (by rfl) (by rfl) (by intro q u hu; rcases q with _ | q <;> first | (obtain rfl := Option.some.inj hu; rw [addr_add]; go_simp; done) | exact absurd hu (by simp)) (by simp [Value.oneCell']) (by omega) (by unfold maxLen; omega) (by omega) (by exact (grown_now (w := w)).size) _ rfl ?_; intro g6 cap6 w6 ho6 hgr6 hat6 hlt6
                 have q0 : w6.cell? ⟨rb, 0, none⟩ = some (.int .i64 a) := (hgr6.cell_far _ (of_eq_true in_lt) nrb).trans (by go_simp)
                 haveI hb6 : Nonempty (Below w.heap.size w w6) := ⟨(grown_now (w := w)).grown hgr6 (grown_now (w := w)).size (fun k hk => (O5.out.lt k hk).1)⟩
                 haveI hir6 : Nonempty (In rb w6) := in_of_cell q0
                 have HO6 := Lib.hid ho6
                 have HC8 := Lib.hid (fun q u (hu : (bV nb)[q]? = some u) => (hgr6.cell_far ⟨g7, q, none⟩ (World.block_lt_of_cell? _ _ (((grown_now (w := w7)).cell (World.block_lt_of_cell? w7 _ (HC7.out q u hu))).trans (HC7.out q u hu))) (fun e => Nat.lt_asymm G7.out (LT.out _ e.symm))).trans (((grown_now (w := w7)).cell (World.block_lt_of_cell? w7 _ (HC7.out q u hu))).trans (HC7.out q u hu)))
                 clear ho6 hgr6 hat6 hlt6)
              | (refine step_append_lies _ (by rfl) (.tmp 39) (.tmp 43) 87 (by rfl) w.heap.size 5 i0 _ 1 1 Tryz.underlying87 iz0 iz1 iz2 iz3 rfl (by omega) (.slice og cw.length cp) cw.length (bV cw) (by rfl) (by exact owns_grown O5.out (by exact grown_of)) _ 1 1 [.int .u8 b] (by rfl) (by rfl) (by intro q u hu; rcases q with _ | q <;> first | (obtain rfl := Option.some.inj hu; rw [addr_add]; go_simp; done) | exact absurd hu (by simp)) (by simp [Value.oneCell']) (by omega) (by unfold maxLen; omega) (by omega) (by exact (grown_now (w := w)).size) _ rfl ?_; intro g6 cap6 w6 ho6 hgr6 hat6 hlt6
                 have q0 : w6.cell? ⟨rb, 0, none⟩ = some (.int .i64 a) := (hgr6.cell_far _ (of_eq_true in_lt) nrb).trans (by go_simp)
                 haveI hb6 : Nonempty (Below w.heap.size w w6) := ⟨(grown_now (w := w)).grown hgr6 (grown_now (w := w)).size (fun k hk => (O5.out.lt k hk).1)⟩
                 haveI hir6 : Nonempty (In rb w6) := in_of_cell q0
                 have HO6 := Lib.hid ho6
                 clear ho6 hgr6 hat6 hlt6)
              | (refine step_append_lies _ (by rfl) (.tmp 44) (.tmp 47) 87 (by rfl) w.heap.size 5 i0 _ 1 1 Tryz.underlying87 iz0 iz1 iz2 iz3 rfl (by omega) (.slice (some ⟨g6, 0, none⟩) (cw.length + 1) cap6) (cw.length + 1) (bV cw ++ [.int .u8 b]) (by rfl) (by exact owns_grown HO6.out (by exact grown_of)) ⟨g7, 0, none⟩ nb.length c7 (bV nb) (by rfl) (by rw [bV_length, Nat.mul_one]) (by intro q u hu; rw [addr_add, Nat.zero_add]; first | exact HC8.out q u hu | exact HC7.out q u hu) (by intro u hu; simp only [bV, List.mem_map] at hu; obtain ⟨x, _, rfl⟩ := hu; rfl) (by omega) (by unfold maxLen; omega) (by omega) (by exact (grown_now (w := w)).size) _ rfl ?_; intro g9 cap9 w9 ho9 hgr9 hat9 hlt9
                 haveI hb9 : Nonempty (Below w.heap.size w w9) := ⟨(grown_now (w := w)).grown hgr9 (grown_now (w := w)).size (fun k hk => (HO6.out.lt k hk).1)⟩
                 have HO9 := Lib.hid ho9
                 clear ho9 hgr9 hat9 hlt9))
          all_goals
            have HE := Lib.hid (show w9.ownsRow w.heap.size 5 1 (.slice (some ⟨g9, 0, none⟩) (cw.length + 1 + nb.length) cap9) (codeW (l.take (j + 1))).length (bV (codeW (l.take (j + 1)))) by
              rw [HT.out, show (cw ++ (b.toNat :: nb)).length = cw.length + 1 + nb.length by simp; omega, bV_append, bV_cons, HB.out]
              have := HO9.out
              rw [List.append_assoc] at this
              exact this)
            have HB9 := Lib.hid (grown_now (w := w) (W := w9))
            clear HO9 HO6
            go_wp2_with fail
            go_roundw
            case rel => exact ⟨j + 1, HK.out, by go_num, HE.out, ext_of HB9.out⟩
            case measure => have := HK.out; simp [intOf]; omega
        · have k1 : ¬ (j : Int) < (l.length : Int) := by omega
          rw [List.take_of_length_le (show l.length ≤ j by omega)] at OW
          go_wp2_with fail
          go_ret2
          exact ⟨_, rfl, OW.out, grown_of⟩
end Go.Proofs.YtnogfelfgclajaaGreatDoor
end

section
namespace Go.Proofs.YtnogfelfgclajaaGreatDoor
set_option linter.unusedVariables false
open Go.RowKit

section
variable {P : Program} {ops : Array Oper} {md : Region.Mode} {C : World → Prop}

/-- The operations that a list names. -/
def pick (l : List Oper) : List Nat → List Oper
  | [] => []
  | i :: is => match l[i]? with
    | some o => o :: pick l is
    | none => pick l is

def closeStep (md : Region.Mode) (ops : Array Oper) (L : List Nat) : List Nat := (List.range ops.size).filter fun i => L.contains i || L.any fun j => Region.waitsFor md ops j i
def closeN (md : Region.Mode) (ops : Array Oper) : Nat → List Nat → List Nat
  | 0, L => L
  | k + 1, L => closeN md ops k (closeStep md ops L)

structure Inv (md : Region.Mode) (ops : Array Oper) (ps : List Nat) (listed : Array Bool) : Prop where
  size : listed.size = ops.size
  closed : ∀ j oj, ops[j]? = some oj → listed.getD j false = true → ∀ e ∈ oj.after, Region.binds md e = true → listed.getD e.on false = true
  pures : ∀ p ∈ ps, listed.getD p false = true

theorem closeN_listed {listed : Array Bool} (hcl : ∀ j oj, ops[j]? = some oj → listed.getD j false = true → ∀ e ∈ oj.after, Region.binds md e = true → listed.getD e.on false = true) :
    ∀ (k : Nat) (L : List Nat), (∀ j ∈ L, listed.getD j false = true) → ∀ i ∈ closeN md ops k L, listed.getD i false = true := by
  intro k
  induction k with
  | zero => intro L h i hi; exact h i hi
  | succ k ih =>
    intro L h i hi
    refine ih (closeStep md ops L) (fun j hj => ?_) i hi
    simp only [closeStep, List.mem_filter, Bool.or_eq_true] at hj
    rcases hj.2 with h1 | h1
    · exact h j (by simpa using h1)
    · obtain ⟨m, hm, hw⟩ := List.any_eq_true.1 h1
      obtain ⟨om, hom, e, he, hb, hon⟩ := Region.waitsFor_spec hw
      rw [← hon]
      exact hcl m om hom (h m hm) e he hb

/-- What is neither pure nor of the head waits, through others or not, for all of the head. -/
def tailB (md : Region.Mode) (ops : Array Oper) (fuel : Nat) (ps hs : List Nat) : Bool :=
  (List.range ops.size).all fun j => ps.contains j || hs.contains j || hs.all fun i => (closeN md ops fuel ((List.range ops.size).filter fun m => Region.waitsFor md ops j m)).contains i

theorem in_head {fuel i j : Nat} {ps hs : List Nat} {listed : Array Bool} (hB : tailB md ops fuel ps hs = true) (inv : Inv md ops ps listed) (hi : i ∈ hs) (hun : listed.getD i true = false)
    (hj : j ∈ Region.ready md ops listed) : j ∈ hs := by
  obtain ⟨hjun, oj, hoj, hall⟩ := mem_ready.1 hj
  have hjs : j < ops.size := (Array.getElem?_eq_some_iff.1 hoj).1
  have h1 := List.all_eq_true.1 hB j (List.mem_range.2 hjs)
  simp only [Bool.or_eq_true] at h1
  rcases h1 with (h1 | h1) | h1
  · have h2 := inv.pures j (by simpa using h1)
    rw [getD_both hjun] at h2
    cases h2
  · simpa using h1
  · have h2 := List.all_eq_true.1 h1 i hi
    have h3 := closeN_listed inv.closed fuel ((List.range ops.size).filter fun m => Region.waitsFor md ops j m) (fun m hm => by
      obtain ⟨o', ho', e, he, hb, hon⟩ := Region.waitsFor_spec (List.mem_filter.1 hm).2
      obtain rfl : o' = oj := Option.some.inj (ho'.symm.trans hoj)
      rw [← hon]
      exact hall e he hb) i (by simpa using h2)
    rw [getD_both hun] at h3
    cases h3

theorem Inv.set {ps : List Nat} {i : Nat} {listed : Array Bool} (inv : Inv md ops ps listed) (hi : i ∈ Region.ready md ops listed) : Inv md ops ps (listed.setIfInBounds i true) := by
  obtain ⟨_, oi, hoi, hall⟩ := mem_ready.1 hi
  refine ⟨by simp [inv.size], fun j oj hj hl e he hb => ?_, fun p hp => getD_set_true (inv.pures p hp)⟩
  by_cases hij : i = j
  · subst hij
    obtain rfl : oj = oi := Option.some.inj (hj.symm.trans hoi)
    exact getD_set_true (hall e he hb)
  · rw [getD_set_ne false hij] at hl
    exact getD_set_true (inv.closed j oj hj hl e he hb)

theorem Inv.add {ps : List Nat} {i : Nat} {listed : Array Bool} (inv : Inv md ops ps listed) (hi : i ∈ Region.ready md ops listed) : Inv md ops (ps ++ [i]) (listed.setIfInBounds i true) := by
  refine ⟨(inv.set hi).size, (inv.set hi).closed, fun p hp => ?_⟩
  rcases List.mem_append.1 hp with h | h
  · exact (inv.set hi).pures p h
  · obtain rfl : p = i := by simpa using h
    obtain ⟨_, oi, hoi, _⟩ := mem_ready.1 hi
    have hlt : p < listed.size := by rw [inv.size]; exact (Array.getElem?_eq_some_iff.1 hoi).1
    simp [hlt]

/-- k operations more come up, all of the head; then L. -/
def upToL (P : Program) (md : Region.Mode) (ops : Array Oper) (C : World → Prop) (hs : List Nat) (L : Array Bool → Act → Prop) : Nat → Array Bool → Act → Prop
  | 0, listed, a => L listed a
  | k + 1, listed, a => Region.ready md ops listed ≠ [] ∧ ∀ i ∈ Region.ready md ops listed, i ∈ hs ∧ qOp P ops C i (upToL P md ops C hs L k (listed.setIfInBounds i true)) a

theorem any_of_upToL {hs : List Nat} {m : Nat} {L : Array Bool → Act → Prop} {Q : Exit → Act → World → Prop} (hL : ∀ listed a, L listed a → ∀ w, C w → wpAny P md ops Q m listed a w) :
    ∀ (k : Nat) (listed : Array Bool) (a : Act), upToL P md ops C hs L k listed a → ∀ w, C w → wpAny P md ops Q (k + m) listed a w := by
  intro k
  induction k with
  | zero => intro listed a h w hw; rw [Nat.zero_add]; exact hL _ _ h w hw
  | succ k ih =>
    intro listed a h w hw
    rw [Nat.add_right_comm]
    exact ⟨fun h0 => absurd h0 h.1, fun i hi => wpOp_of_qOp hw (fun a' w' hw' h' => ih _ a' h' w' hw') (h.2 i hi).2⟩

theorem upToL_first {fuel i : Nat} {ps hs : List Nat} {oi : Oper} {v : Value} {L : Array Bool → Act → Prop} (hi : ops[i]? = some oi) (hsel : ∀ (j : Nat) (o : Oper) cs b, ops[j]? = some o → o.op ≠ .select cs b)
    (hB : tailB md ops fuel ps hs = true) (hin : i ∈ hs) (hdone : ∀ listed a, L listed a → ∀ j ∈ Region.ready md ops listed, j ∉ hs) :
    ∀ (k : Nat) (listed : Array Bool) (a : Act), Inv md ops ps listed →
      (∀ j oj, ops[j]? = some oj → j ≠ i → listed.getD j true = false → (∀ e ∈ oj.after, Region.binds md e = true → e.on ≠ i) → oi.apart ops oj = true) →
      i ∈ Region.ready md ops listed → YieldsIn P ops C oi v a →
      upToL P md ops C hs L k (listed.setIfInBounds i true) (a.put oi.dst v) → upToL P md ops C hs L (k + 1) listed a := by
  intro k
  induction k with
  | zero =>
    intro listed a inv _ hr hy H
    have hun := (mem_ready.1 hr).1
    refine ⟨fun h => (by rw [h] at hr; cases hr), fun j hj => ?_⟩
    have hjh := in_head hB inv hin hun hj
    refine ⟨hjh, ?_⟩
    by_cases hji : j = i
    · subst hji
      exact hy.qOp hi H
    · exact absurd hjh (hdone _ _ H j (ready_mono hj hji))
  | succ k ih =>
    intro listed a inv hfree hr hy H
    have hun := (mem_ready.1 hr).1
    refine ⟨fun h => (by rw [h] at hr; cases hr), fun j hj => ?_⟩
    refine ⟨in_head hB inv hin hun hj, ?_⟩
    by_cases hji : j = i
    · subst hji
      exact hy.qOp hi H
    · obtain ⟨hjun, oj, hoj, hall⟩ := mem_ready.1 hj
      have hnot : ∀ e ∈ oj.after, Region.binds md e = true → e.on ≠ i := fun e he hb heq => by
        have h1 := hall e he hb
        rw [heq, getD_both hun] at h1
        cases h1
      have hfree' : ∀ m om, ops[m]? = some om → m ≠ i → (listed.setIfInBounds j true).getD m true = false →
          (∀ e ∈ om.after, Region.binds md e = true → e.on ≠ i) → oi.apart ops om = true := fun m om hm hmi hun' hno => by
        refine hfree m om hm hmi ?_ hno
        by_cases hjm : j = m
        · subst hjm; exact hjun
        · rw [getD_set_ne true hjm] at hun'; exact hun'
      refine qOp_mono (fun a' h3 => ih _ a' (inv.set hj) hfree' (ready_mono hr (Ne.symm hji)) h3.1 ?_)
        (qOp_put hoj (hfree j oj hoj hji hjun hnot) (fun cs b => hsel i oi cs b hi) (fun cs b => hsel j oj cs b hoj) hy (H.2 j (ready_mono hj hji)).2)
      rw [Array.setIfInBounds_comm _ _ hji]
      exact h3.2

/-- The operations that a list names come up one by one, nothing else being ready. -/
def seqL (md : Region.Mode) (ops : Array Oper) : List Nat → Array Bool → Bool
  | [], listed => (Region.ready md ops listed).isEmpty
  | t :: ts, listed => decide (Region.ready md ops listed = [t]) && seqL md ops ts (listed.setIfInBounds t true)

theorem any_of_seqL {Q' : Exit → Act → World → Prop} : ∀ (ts : List Nat) (l : List Oper) (listed : Array Bool) (a : Act) (w : World), ts.map (ops[·]?) = l.map some →
    seqL md ops ts listed = true → wpList P ops Q' l a w → wpAny P md ops Q' ts.length listed a w
  | [], [], _, _, _, _, hB, h => ⟨by simpa [seqL] using hB, h⟩
  | [], _ :: _, _, _, _, hl, _, _ => by simp at hl
  | _ :: _, [], _, _, _, hl, _, _ => by simp at hl
  | t :: ts, o :: l, listed, a, w, hl, hB, h => by
    simp only [List.map_cons, List.cons.injEq] at hl
    simp only [seqL, Bool.and_eq_true, decide_eq_true_eq] at hB
    refine ⟨fun h1 => (by rw [hB.1] at h1; cases h1), fun i hi => ?_⟩
    rw [hB.1] at hi
    obtain rfl : i = t := by simpa using hi
    have hw : wpOp P ops Q' i (wpList P ops Q' l) a w := by unfold wpOp; simp only [hl.1]; exact h
    exact wpOp_mono (fun a' w' h' => any_of_seqL ts l _ a' w' hl.2 hB.2 h') hw

/-- The operations that a list names, in that order: each may come up when its turn comes, free of what has not come up; then F. -/
def ordB (md : Region.Mode) (ops : Array Oper) (F : Array Bool → Bool) : List Nat → Array Bool → Bool
  | [], listed => F listed
  | i :: is, listed => (Region.ready md ops listed).contains i && Region.free md ops listed i && ordB md ops F is (listed.setIfInBounds i true)

theorem seqL_out {hs ts : List Nat} {listed : Array Bool} (h : seqL md ops ts listed = true) (hd : ts.all (fun t => !hs.contains t) = true) : ∀ j ∈ Region.ready md ops listed, j ∉ hs := by
  cases ts with
  | nil => intro j hj; simp only [seqL, List.isEmpty_iff] at h; rw [h] at hj; cases hj
  | cons t ts =>
    intro j hj
    simp only [seqL, Bool.and_eq_true, decide_eq_true_eq] at h
    rw [h.1] at hj
    obtain rfl : j = t := by simpa using hj
    have := List.all_eq_true.1 hd j (by simp)
    simpa using this

theorem upToL_ord {fuel : Nat} {ps hs ts : List Nat} {T : Act → Prop} (hsel : Region.noSelect ops = true) (hB : tailB md ops fuel ps hs = true) (hd : ts.all (fun t => !hs.contains t) = true) :
    ∀ (is : List Nat) (l : List Oper) (listed : Array Bool) (a : Act), (∀ i ∈ is, i ∈ hs) → is.map (ops[·]?) = l.map some → Inv md ops ps listed → ordB md ops (seqL md ops ts) is listed = true →
    wpQuiet P ops C T l a → upToL P md ops C hs (fun listed' a' => seqL md ops ts listed' = true ∧ T a') is.length listed a := by
  intro is
  induction is with
  | nil =>
    intro l listed a _ hl _ hO h
    cases l with
    | nil => exact ⟨by simpa [ordB] using hO, h⟩
    | cons o l => simp at hl
  | cons i is ih =>
    intro l listed a hin hl inv hO h
    cases l with
    | nil => simp at hl
    | cons o l =>
      simp only [List.map_cons, List.cons.injEq] at hl
      obtain ⟨h0, hl⟩ := hl
      simp only [ordB, Bool.and_eq_true] at hO
      obtain ⟨⟨hr, hf⟩, hO'⟩ := hO
      have hr' : i ∈ Region.ready md ops listed := by simpa using hr
      obtain ⟨v, hy, hK⟩ := yieldsIn_of_qOp (C := C) (K := wpQuiet P ops C T l) h0 (by unfold qOp; simp only [h0]; exact h)
      exact upToL_first h0 (Region.noSelect_spec hsel) hB (hin i (by simp)) (fun _ _ hL => seqL_out hL.1 hd) is.length listed a inv (Region.free_spec h0 hf) hr' hy
        (ih l _ _ (fun j hj => hin j (by simp [hj])) hl (inv.set hr') hO' hK)

/-- One value in whatever world. -/
def wpPure (P : Program) (ops : Array Oper) (Q : Act → Prop) : List Oper → Act → Prop
  | [], a => Q a
  | o :: rest, a => if Region.wanted o (yielded ops a.tmps) then ∃ v, (∀ W, (execOp a.eval o).run P W = .ok (.value v) W) ∧ wpPure P ops Q rest (a.put o.dst v) else wpPure P ops Q rest (a.put o.dst undef)
theorem wpPure_nil {Q : Act → Prop} {a : Act} (h : Q a) : wpPure P ops Q [] a := h
theorem wpPure_step {Q : Act → Prop} {a : Act} {o : Oper} {rest : List Oper}
    (h : ∀ K : Act → Prop, (∀ a, wpPure P ops Q rest a → K a) → if Region.wanted o (yielded ops a.tmps) then ∃ v, (∀ W, (execOp a.eval o).run P W = .ok (.value v) W) ∧ K (a.put o.dst v) else K (a.put o.dst undef)) : wpPure P ops Q (o :: rest) a :=
  h _ fun _ h => h

theorem any_pure {F : Array Bool → Bool} {T : Act → Prop} {Q' : Exit → Act → World → Prop} {n : Nat} {w : World} (hsel : Region.noSelect ops = true)
    (hQ : ∀ d v c a w, Q' (.panic c) (Act.put a d v) w → Q' (.panic c) a w) :
    ∀ (is qs : List Nat) (l : List Oper) (listed : Array Bool) (a : Act), is.map (ops[·]?) = l.map some → Inv md ops qs listed → ordB md ops F is listed = true → wpPure P ops T l a →
    (∀ listed' a', Inv md ops (qs ++ is) listed' → F listed' = true → T a' → wpAny P md ops Q' n listed' a' w) → wpAny P md ops Q' (is.length + n) listed a w := by
  intro is
  induction is with
  | nil =>
    intro qs l listed a hl inv hO h H
    cases l with
    | nil => rw [List.length_nil, Nat.zero_add]; exact H _ _ (by simpa using inv) (by simpa [ordB] using hO) h
    | cons o l => simp at hl
  | cons i is ih =>
    intro qs l listed a hl inv hO h H
    cases l with
    | nil => simp at hl
    | cons o l =>
      simp only [List.map_cons, List.cons.injEq] at hl
      obtain ⟨h0, hl⟩ := hl
      simp only [ordB, Bool.and_eq_true] at hO
      obtain ⟨⟨hr, hf⟩, hO'⟩ := hO
      have hr' : i ∈ Region.ready md ops listed := by simpa using hr
      have key : ∃ v, Yields P ops o v a ∧ wpPure P ops T l (a.put o.dst v) := by
        unfold wpPure at h
        by_cases hw : Region.wanted o (yielded ops a.tmps) = true
        · rw [if_pos hw] at h
          obtain ⟨v, h1, h2⟩ := h
          exact ⟨v, .inl ⟨hw, h1⟩, h2⟩
        · rw [if_neg hw] at h
          exact ⟨undef, .inr ⟨by simpa using hw, rfl⟩, h⟩
      obtain ⟨v, hy, hK⟩ := key
      rw [List.length_cons, Nat.add_right_comm]
      exact wpAny_first h0 (Region.noSelect_spec hsel) (hQ o.dst v) (is.length + n) listed a w (Region.free_spec h0 hf) hr' hy
        (ih (qs ++ [i]) l _ _ hl (inv.add hr') hO' hK (fun listed' a' inv' => H listed' a' (by simpa using inv')))

def mixB (ops : Array Oper) (fuel : Nat) (ps hs ts : List Nat) : Bool :=
  Region.noSelect ops && ts.all (fun t => !hs.contains t) && decide (ps.length + (hs.length + ts.length) = ops.size) && tailB .any ops fuel ps hs &&
  ordB .any ops (ordB .any ops (seqL .any ops ts) hs) ps (Array.replicate ops.size false)
end

theorem pick_map {l : List Oper} : ∀ {is : List Nat}, is.all (fun i => decide (i < l.length)) = true → is.map (l.toArray[·]?) = (pick l is).map some
  | [], _ => rfl
  | i :: is, h => by
    simp only [List.all_cons, Bool.and_eq_true, decide_eq_true_eq] at h
    have := pick_map (l := l) h.2
    simp only [List.map_cons, pick, List.getElem?_toArray]
    rw [List.getElem?_eq_getElem h.1]
    simp only [List.map_cons, List.cons.injEq, true_and]
    simpa using this

theorem wp_region_mix {P : Program} {w : World} {id : Nat} {Q : Exit → Act → World → Prop} {a : Act} {l : List Oper} (fuel : Nat) (ps hs ts : List Nat) (hm : P.follows .mixedOrders = true)
    (hB : mixB l.toArray fuel ps hs ts = true) (hin : (ps ++ hs ++ ts).all (fun i => decide (i < l.length)) = true) (hQ : ∀ d v c a w, Q (.panic c) (Act.put a d v) w → Q (.panic c) a w)
    (h : wpPure P l.toArray (fun a1 => wpQuiet P l.toArray (fun w' => ∃ f, w' = ext w f) (fun a' => ∀ w', (∃ f, w' = ext w f) → wpList P l.toArray Q (pick l ts) a' w') (pick l hs) a1) (pick l ps) a) :
    (Code.region id l.toArray true).wp P Q a w := by
  simp only [mixB, Bool.and_eq_true, decide_eq_true_eq] at hB
  obtain ⟨⟨⟨⟨hsel, hd⟩, hlen⟩, htail⟩, hord⟩ := hB
  simp only [List.all_append, Bool.and_eq_true] at hin
  obtain ⟨⟨hp, hh⟩, ht⟩ := hin
  refine wp_region_any hm ?_
  have key : wpAny P .any l.toArray Q (ps.length + (hs.length + ts.length)) (Array.replicate l.toArray.size false) a { w with drawn := w.drawn + 1 } := ?_
  · rwa [hlen] at key
  refine any_pure (md := .any) (F := ordB .any l.toArray (seqL .any l.toArray ts) hs) hsel hQ ps [] (pick l ps) _ a (pick_map hp) ?_ hord h ?_
  · exact ⟨by simp, fun j oj _ hl => (by rw [getD_replicate_false] at hl; cases hl), fun p hp => by cases hp⟩
  · intro listed' a' inv hF hT
    have H := upToL_ord (md := .any) (ts := ts) hsel htail hd hs (pick l hs) listed' a' (fun _ h => h) (pick_map hh) (by simpa using inv) hF hT
    exact any_of_upToL (Q := Q) (m := ts.length) (fun listed a hL w' hw' => any_of_seqL ts (pick l ts) listed a w' (pick_map ht) hL.1 (hL.2 w' hw')) hs.length _ _ H _ (out_drawn w)

theorem pick_nil (l : List Oper) : pick l [] = [] := rfl
theorem pick_zero (o : Oper) (l : List Oper) (is : List Nat) : pick (o :: l) (0 :: is) = o :: pick (o :: l) is := rfl
theorem pick_some {l : List Oper} {i : Nat} {o : Oper} {is : List Nat} (h : l[i]? = some o) : pick l (i :: is) = o :: pick l is := by simp only [pick, h]
end Go.Proofs.YtnogfelfgclajaaGreatDoor
end
