/-
  TopPlaced: the walk. Printed by gen_ptop.py.
-/
import Derived.Test.YtnogfelfgclajaaGreatDoorMb36
import Derived.Test.YtnogfelfgclajaaGreatDoorMb37
import Derived.Test.YtnogfelfgclajaaGreatDoorMb39
import Derived.Deep.RegionHeld3
section
namespace Go.Proofs.YtnogfelfgclajaaGreatDoor
open Go.RowKit
attribute [local go_sem] ext_ext drew_ext ext_drew ext_cell ext_frozen in_lt in_le in_ne in_en in_ne1 in_en1 in_le1 in_ltn in_len in_nen in_enn size_le ite_max ite_min
set_option linter.unusedVariables false
set_option linter.unusedSimpArgs false
set_option maxRecDepth 1000000
attribute [local go_sem] calm calmUpon viewOf

/-- A row of three numbers. -/
theorem row3_any (a b c : Int) (g cap : Nat) (w : World) (ha : Num a) (hb : Num b) (hc : Num c) (h : w.heap[g]? = some (.cells #[.int .i64 a, .int .i64 b, .int .i64 c] 3 (0, 0))) :
    Calls Tryz.prog 11 #[.slice (some ⟨g, 0, none⟩) 3 cap] w fun e w' => e = .returned (.string (bs (joinW (decs [a, b, c])))) ∧ ∃ f, w' = ext w f :=
  row_any [a, b, c] g cap w (by simp) (by simp) (by simp; exact ⟨small_num ha, small_num hb, small_num hc⟩) (fun k hk => by
    rcases k with _ | _ | _ | k
    · exact cell_of_block (i := 0) h rfl
    · exact cell_of_block (i := 1) h rfl
    · exact cell_of_block (i := 2) h rfl
    · simp at hk; omega)
theorem lg_up {B : Nat} {a b c : World} (h : Below B a b) (hT : Turn (LG B b) b c) (hB : B ≤ b.heap.size) : Below B a c := h.trans (hT.below (fun i _ hi => Nat.le_of_not_lt (fun h => lg_low h hi)) hB)
theorem mem_of_psT {T : List (Ps × Bool)} {p : Ps} (h : p ∈ psT T) : ∃ c ∈ T, c.1 = p := by
  obtain ⟨c, hc, e⟩ := List.mem_map.1 h
  exact ⟨c, hc, e⟩
theorem five_stay {T T' : List (Ps × Bool)} (h : Stay T T') (h5 : Five T) : Five T' :=
  ⟨mem_psT (h _ (mem_of_psT h5.1)), mem_psT (h _ (mem_of_psT h5.2.1)), mem_psT (h _ (mem_of_psT h5.2.2.1)), mem_psT (h _ (mem_of_psT h5.2.2.2.1)), mem_psT (h _ (mem_of_psT h5.2.2.2.2))⟩
theorem good_gd (n : Int) : GoodB (gdS n) := ⟨(gd_bd n).1, (gd_bd n).2.1, (gd_bd n).2.2.1, (gd_bd n).2.2.2⟩
theorem ptmod_bd (n : Int) : -1000000 ≤ n.tmod 1000000 ∧ n.tmod 1000000 ≤ 1000000 := by
  have h1 := Int.tmod_lt_of_pos n (show (0 : Int) < 1000000 by omega)
  have h2 := Int.tmod_lt_of_pos (-n) (show (0 : Int) < 1000000 by omega)
  rw [Int.neg_tmod] at h2
  omega
theorem lst0 : (bs [48]).toList = [48] := by kernel_rfl
theorem lst1 : (bs [49]).toList = [49] := by kernel_rfl
theorem lstE : (bs (errW 1)).toList = [101, 114, 114, 111, 114, 32, 49] := by kernel_rfl
theorem txt_come0 : (⟨#[115, 112, 97, 119, 110, 32, 53, 53, 55, 48, 53, 54, 32, 49, 51, 55, 54, 50, 53, 54, 32, 53, 53, 55, 48, 53, 54, 32, 52, 48, 48, 48, 48, 32, 49, 48, 48, 48, 48, 48]⟩ : ByteArray) = bs (joinW [[115, 112, 97, 119, 110], decI 16 557056, decI 16 1376256, decI 16 557056, decI 16 40000, decI 16 100000]) := by kernel_rfl
theorem txt_come1 : (⟨#[115, 112, 97, 119, 110, 32, 54, 50, 50, 53, 57, 50, 32, 49, 51, 55, 54, 50, 53, 54, 32, 53, 53, 55, 48, 53, 54, 32, 52, 48, 48, 48, 48, 32, 49, 48, 48, 48, 48, 48]⟩ : ByteArray) = bs (joinW [[115, 112, 97, 119, 110], decI 16 622592, decI 16 1376256, decI 16 557056, decI 16 40000, decI 16 100000]) := by kernel_rfl
set_option maxHeartbeats 16000000 in
theorem topplaced_any (seed : Int) (vv bv : Value) (vs : List V3) (ws : List Int) (w : World) (h1 : Fit seed) (h2 : VecsIn w vv vs) (h3 : IntsIn w bv ws) :
    Calls Tryz.prog 4 #[.int .i64 seed, vv, bv] w fun e w' => e = .returned (.bool true) ∧ Below w.heap.size w w' := by
  have HV := Lib.hid h2
  have HW := Lib.hid h3
  obtain ⟨vo, vc, rfl⟩ := h2.form
  obtain ⟨wo, wc, rfl⟩ := h3.form
  have hl9 := h2.small
  have hw9 := h3.small
  have BG := Lib.hid (begin_any seed w h1)
  obtain ⟨sd, hsd⟩ : ∃ sd, arS seed 1000 = sd := ⟨_, rfl⟩
  rw [hsd] at BG
  clear h1 h2 h3 hsd
  go_enter Tryz.func4, Tryz.ntmps4
  go_wp2_with fail
  refine BG.out.mono ?_
  rintro e1 w1 ⟨sh, t, T, rfl, hS, hF, hh, hB⟩
  have S1 := Lib.hid hS
  have F1 := Lib.hid (And.intro hF hh)
  have b1 := Lib.hid hB
  clear hS hF hh hB BG
  go_wp2_with fail
  rw [txt_stone]
  refine (sayedit_any S1.out (by omega) 8 20 8 1 ⟨by omega, by omega⟩ ⟨by omega, by omega⟩ (by omega) (by omega) ⟨by omega, by omega, by omega, by omega⟩ (by omega) (by have := F1.out.2; exact this) 5256 (by decide +kernel)).mono ?_
  rintro e2 w2 ⟨⟨_, rfl, rfl⟩, ⟨T2, hS2, hk2⟩, hT2⟩
  have S2 := Lib.hid (show SysOf w.heap.size w2 sh t sd 9 1 8 (G1 sd) T2 from hS2)
  have b2 := Lib.hid (lg_up b1.out (lg_lf hT2) b1.out.size)
  have F2 := Lib.hid (show Five T2 ∧ ∃ c ∈ T2, c.1 = ((0, 0) : Ps) from ⟨five_stay hk2.1 F1.out.1, hk2.1 _ F1.out.2⟩)
  clear hS2 hT2 hk2 S1 F1 b1
  go_wp2_with fail
  rw [txt_come0]
  refine (saycome0 S2.out (free_start sd) F2.out.1 F2.out.2).mono ?_
  rintro e3 w3 ⟨⟨_, rfl, rfl⟩, hS3, hT3⟩
  have S3 := Lib.hid hS3
  have b3 := Lib.hid (lg_up b2.out hT3 b2.out.size)
  clear hS3 hT3 S2 b2
  have q0 := lst0
  have q1 := lst1
  go_wp2_with fail
  rw [txt_come1]
  refine (saycome1 S3.out (free_start sd) F2.out.1 F2.out.2).mono ?_
  rintro e4 w4 ⟨⟨_, rfl, rfl⟩, hS4, hT4⟩
  have S4 := Lib.hid (show SysUp w.heap.size w4 sh t sd 9 1 8 from ⟨1, 8, Nat.le_refl _, Nat.le_refl _, hS4⟩)
  have b4 := Lib.hid (lg_up b3.out hT4 b3.out.size)
  clear hS4 hT4 S3 b3 F2
  go_wp2_with fail
  go_loopw [8] (fun s8 wr => ∃ k : Nat, k ≤ 10 ∧ s8 = .int .i64 (k : Int) ∧ Hid (SysUp w.heap.size wr sh t sd 9 (1 + k) (8 + 8 * k)) ∧ Hid (Below w.heap.size w wr)) (fun s8 _ => 10 - (intOf s8).toNat)
  case atStart => exact ⟨0, by omega, rfl, S4, b4⟩
  case round =>
    obtain ⟨k, hk10, rfl, S5, b5⟩ := hrel
    rename World => w5
    clear S4 b4 w4 q0 q1
    have k0 : (0 : Int) ≤ (k : Int) := Int.natCast_nonneg _
    by_cases hgo : k < vs.length ∧ k < ws.length ∧ k < 10
    · obtain ⟨hv, hw, hk⟩ := hgo
      obtain ⟨g, fo, rfl, d0, d1, d2⟩ := HV.out.at k hv
      obtain ⟨g2, fo2, rfl, d3⟩ := HW.out.at k hw
      obtain ⟨fa, fb, fc⟩ := HV.out.fit vs[k] (List.getElem_mem hv)
      have fd := HW.out.fit ws[k] (List.getElem_mem hw)
      have e0 := (b5.out.cell (p := ⟨g, fo + k * 3, none⟩) (World.block_lt_of_cell? w _ d0)).trans d0
      have e1 := (b5.out.cell (p := ⟨g, fo + k * 3 + 1, none⟩) (World.block_lt_of_cell? w _ d1)).trans d1
      have e2 := (b5.out.cell (p := ⟨g, fo + k * 3 + 2, none⟩) (World.block_lt_of_cell? w _ d2)).trans d2
      have e3 := (b5.out.cell (p := ⟨g2, fo2 + k, none⟩) (World.block_lt_of_cell? w _ d3)).trans d3
      haveI := in_of_cell e0
      haveI := in_of_cell e3
      have HK := Lib.hid (And.intro hv (And.intro hw hk))
      have GB := Lib.hid (fun W => refgood_any ws[k] W fd)
      have HG := Lib.hid (good_gd ws[k])
      have NM := Lib.hid (fun W => refname_any (gdS ws[k]) (good_gd ws[k]) W)
      have tx := ptmod_bd vs[k].1
      have ty := ptmod_bd vs[k].2.1
      have tz := ptmod_bd vs[k].2.2
      have k1 : (k : Int) < (vs.length : Int) := by omega
      have k2 : (k : Int) < (ws.length : Int) := by omega
      have k3 : (k : Int) < 10 := by omega
      clear d0 d1 d2 d3 fd
      generalize gdS ws[k] = gb at *
      generalize ws[k] = wk at *
      generalize vs[k].1 = va at *
      generalize vs[k].2.1 = vb at *
      generalize vs[k].2.2 = vc2 at *
      have wx : IntKind.i64.wrap (va.tmod 1000000) = va.tmod 1000000 := IntWalk.i64_in _ (by omega)
      have wy : IntKind.i64.wrap (vb.tmod 1000000) = vb.tmod 1000000 := IntWalk.i64_in _ (by omega)
      have wz : IntKind.i64.wrap (vc2.tmod 1000000) = vc2.tmod 1000000 := IntWalk.i64_in _ (by omega)
      clear fa fb fc
      haveI : Nonempty (Below w.heap.size w w5) := ⟨b5.out⟩
      go_wp2_with (go_at_call 12; refine (GB.out _).mono ?_; rintro e w1 ⟨rfl, rfl⟩)
      refine wp_region_free_named 19 10 46 #[.int .i64 0, .int .i64 0, .int .i64 0] (by kernel_rfl) (by kernel_rfl) rfl rfl rfl rfl (by intro a W; go_simp) ?_
      simp only [List.take_succ_cons, List.take_zero, List.drop_succ_cons, List.drop_zero]
      repeat (refine wpCalm_step (fun K hK => ?_); go_simp; first | (refine hK _ ?_; clear hK K) | (apply Exists.intro; refine ⟨fun _ => ?_, hK _ ?_⟩; (first | rfl | fail); clear hK K))
      refine wpCalm_nil ?_
      rintro w6 ⟨_t, hw⟩ w7 ⟨_t2, hw2⟩
      have hc6 := named_cell hw
      have hz6 := named_frozen hw
      have hh6 := named_heap hw
      haveI hi6 := named_in hw
      haveI hb6 := named_below (w := w5) hw
      clear hw
      have hc7 := named_cell hw2
      have hz7 := named_frozen hw2
      have hh7 := named_heap hw2
      haveI hi7 := named_in hw2
      haveI hb7 := named_below (w := w5) hw2
      clear hw2
      go_wp2_with fail
      generalize va.tmod 1000000 = ax at *
      generalize vb.tmod 1000000 = ay at *
      generalize vc2.tmod 1000000 = az at *
      clear wx wy wz
      have X8 := heap_alloc_new (((w7.setCell ⟨w6.heap.size, 0, none⟩ (.int .i64 ax)).setCell ⟨w6.heap.size, 1, none⟩ (.int .i64 ay)).setCell ⟨w6.heap.size, 2, none⟩ (.int .i64 az)) (.cells #[.int .i64 ax, .int .i64 ay, .int .i64 az] 3)
      rw [show (((w7.setCell ⟨w6.heap.size, 0, none⟩ (.int .i64 ax)).setCell ⟨w6.heap.size, 1, none⟩ (.int .i64 ay)).setCell ⟨w6.heap.size, 2, none⟩ (.int .i64 az)).heap.size = w7.heap.size by simp] at X8
      have B8 := Lib.hid (show Below w5.heap.size w5 ((((w7.setCell ⟨w6.heap.size, 0, none⟩ (.int .i64 ax)).setCell ⟨w6.heap.size, 1, none⟩ (.int .i64 ay)).setCell ⟨w6.heap.size, 2, none⟩ (.int .i64 az)).alloc (.cells #[.int .i64 ax, .int .i64 ay, .int .i64 az] 3)) from grown_now)
      generalize (((w7.setCell ⟨w6.heap.size, 0, none⟩ (.int .i64 ax)).setCell ⟨w6.heap.size, 1, none⟩ (.int .i64 ay)).setCell ⟨w6.heap.size, 2, none⟩ (.int .i64 az)).alloc (.cells #[.int .i64 ax, .int .i64 ay, .int .i64 az] 3) = w8 at *
      clear hc6 hz6 hh6 hi6 hc7 hz7 hh7 hi7 hb6 hb7 e0 e1 e2 e3
      refine (row3_any ax ay az _ _ w8 ⟨by omega, by omega⟩ ⟨by omega, by omega⟩ ⟨by omega, by omega⟩ X8).mono ?_
      rintro e9 w9 ⟨rfl, f, hw⟩
      have B9 := Lib.hid (show Below w5.heap.size w5 w9 from by rw [hw]; exact B8.out.trans ((ext_below w8 f).mono B8.out.size))
      clear hw X8 B8
      have g1 : (bs (joinW (decs [ax, ay, az]))).size ≤ 60 := by rw [bs_size]; have := decs_len [ax, ay, az]; simpa using this
      have g2 : ((⟨#[112, 108, 97, 99, 101, 32, 48, 32]⟩ : ByteArray) ++ bs (joinW (decs [ax, ay, az]))).size ≤ 68 := by rw [ByteArray.size_append]; exact Nat.add_le_add (Nat.le_refl 8) g1
      have g3 : (((⟨#[112, 108, 97, 99, 101, 32, 48, 32]⟩ : ByteArray) ++ bs (joinW (decs [ax, ay, az]))) ++ (⟨#[32]⟩ : ByteArray)).size ≤ 69 := by rw [ByteArray.size_append]; exact Nat.add_le_add g2 (Nat.le_refl 1)
      have g4 := nmB_size HG.out.lo HG.out.hi
      go_wp2_with fail
      refine (NM.out w9).mono ?_
      rintro e10 w10 ⟨rfl, f, hw⟩
      have B10 := Lib.hid (show Below w5.heap.size w5 w10 from by rw [hw]; exact B9.out.trans ((ext_below w9 f).mono B9.out.size))
      clear hw B9 NM
      go_wp2_with fail
      rw [txt_place]
      refine (sayplace_any (S5.out.grown B10.out) (by omega) (by omega) ax ay az gb (by omega) (by omega) (by omega) HG.out).mono ?_
      rintro e11 w11 ⟨⟨ans, rfl, hans⟩, hS11, hT11⟩
      have S11 := Lib.hid hS11
      have b11 := Lib.hid (lg_up (b5.out.trans (B10.out.mono b5.out.size)) hT11 (Nat.le_trans b5.out.size B10.out.size))
      clear hT11 B10 S5 g1 g2 g3 g4
      obtain ⟨e', c', he', hc', en, sm, qu, mq, wo2, bud, oc, dr, l0, l1, G, T5, hsh, hE⟩ := hS11
      obtain ⟨k0e, k1e, k2e, _⟩ := hE.liv.cells
      have ks := cell_of_block (i := 0) hsh.blk rfl
      have km := cell_of_block (i := 1) hE.sim.blk rfl
      have kw := wld_cell hE.wld
      obtain ⟨st0, hl0⟩ := hE.liv.a
      obtain ⟨st1, hl1⟩ := hE.liv.b
      haveI := in_of_cell ks
      haveI := in_of_cell k0e
      haveI := in_of_cell km
      haveI := in_of_cell kw
      have BD0 := Lib.hid (fun W (hW : Below w11.heap.size w11 W) => body_any (w := W) (en := en) (lp := l0) 0 557056 1376256 557056 st0 (fun W2 hW2 => at0_any ((hW2.cell (p := ⟨en, 1, none⟩) (Nat.lt_of_lt_of_le (World.block_lt_of_cell? w11 _ k1e) hW.size)).trans ((hW.cell (p := ⟨en, 1, none⟩) (World.block_lt_of_cell? w11 _ k1e)).trans k1e))) ((hW.block _ (lt_of_block hl0)).trans hl0))
      have BD1 := Lib.hid (fun W (hW : Below w11.heap.size w11 W) => body_any (w := W) (en := en) (lp := l1) 1 622592 1376256 557056 st1 (fun W2 hW2 => at1_any ((hW2.cell (p := ⟨en, 2, none⟩) (Nat.lt_of_lt_of_le (World.block_lt_of_cell? w11 _ k2e) hW.size)).trans ((hW.cell (p := ⟨en, 2, none⟩) (World.block_lt_of_cell? w11 _ k2e)).trans k2e))) ((hW.block _ (lt_of_block hl1)).trans hl1))
      have TA := Lib.hid hE.tab
      obtain ⟨u0, hu0⟩ : ∃ u, viewT G T5 8 21 8 = u := ⟨_, rfl⟩
      have VA0 := Lib.hid (fun W (hW : Below w11.heap.size w11 W) => (show Calls Tryz.prog 41 #[.pointer (some ⟨t, 0, none⟩), .agg #[.int .i64 8, .int .i64 21, .int .i64 8]] W fun e w' => e = .returned (.int .i64 u0) ∧ ∃ f, w' = ext W f from by
        obtain ⟨st, dd, mb, lv, its, D, N, h⟩ := hE.tab.grown hW
        exact hu0 ▸ tabat_any h 8 21 8 (show Fit (8 : Int) from ⟨by omega, by omega⟩) (show Fit (8 : Int) from ⟨by omega, by omega⟩)))
      have VS0 := Lib.hid (fun W => (show Calls Tryz.prog 23 #[.int .i64 u0] W fun e w' => e = .returned (.bool false) ∧ W = w' from by
        have hv := view00 (G := G) hE.here 8 21 8 (by omega) (by omega)
        have hs : solB u0 = false := by rw [← hu0, hv]; exact hE.free.a
        have := refsolid_any u0 (by rw [← hu0, hv]; exact (cellG_good hE.tab 8 21 8 (by omega) (by omega) (by omega)).any) W
        rwa [hs] at this))
      obtain ⟨u1, hu1⟩ : ∃ u, viewT G T5 8 22 8 = u := ⟨_, rfl⟩
      have VA1 := Lib.hid (fun W (hW : Below w11.heap.size w11 W) => (show Calls Tryz.prog 41 #[.pointer (some ⟨t, 0, none⟩), .agg #[.int .i64 8, .int .i64 22, .int .i64 8]] W fun e w' => e = .returned (.int .i64 u1) ∧ ∃ f, w' = ext W f from by
        obtain ⟨st, dd, mb, lv, its, D, N, h⟩ := hE.tab.grown hW
        exact hu1 ▸ tabat_any h 8 22 8 (show Fit (8 : Int) from ⟨by omega, by omega⟩) (show Fit (8 : Int) from ⟨by omega, by omega⟩)))
      have VS1 := Lib.hid (fun W => (show Calls Tryz.prog 23 #[.int .i64 u1] W fun e w' => e = .returned (.bool false) ∧ W = w' from by
        have hv := view00 (G := G) hE.here 8 22 8 (by omega) (by omega)
        have hs : solB u1 = false := by rw [← hu1, hv]; exact hE.free.b
        have := refsolid_any u1 (by rw [← hu1, hv]; exact (cellG_good hE.tab 8 22 8 (by omega) (by omega) (by omega)).any) W
        rwa [hs] at this))
      obtain ⟨u2, hu2⟩ : ∃ u, viewT G T5 9 21 8 = u := ⟨_, rfl⟩
      have VA2 := Lib.hid (fun W (hW : Below w11.heap.size w11 W) => (show Calls Tryz.prog 41 #[.pointer (some ⟨t, 0, none⟩), .agg #[.int .i64 9, .int .i64 21, .int .i64 8]] W fun e w' => e = .returned (.int .i64 u2) ∧ ∃ f, w' = ext W f from by
        obtain ⟨st, dd, mb, lv, its, D, N, h⟩ := hE.tab.grown hW
        exact hu2 ▸ tabat_any h 9 21 8 (show Fit (9 : Int) from ⟨by omega, by omega⟩) (show Fit (8 : Int) from ⟨by omega, by omega⟩)))
      have VS2 := Lib.hid (fun W => (show Calls Tryz.prog 23 #[.int .i64 u2] W fun e w' => e = .returned (.bool false) ∧ W = w' from by
        have hv := view00 (G := G) hE.here 9 21 8 (by omega) (by omega)
        have hs : solB u2 = false := by rw [← hu2, hv]; exact hE.free.c
        have := refsolid_any u2 (by rw [← hu2, hv]; exact (cellG_good hE.tab 9 21 8 (by omega) (by omega) (by omega)).any) W
        rwa [hs] at this))
      obtain ⟨u3, hu3⟩ : ∃ u, viewT G T5 9 22 8 = u := ⟨_, rfl⟩
      have VA3 := Lib.hid (fun W (hW : Below w11.heap.size w11 W) => (show Calls Tryz.prog 41 #[.pointer (some ⟨t, 0, none⟩), .agg #[.int .i64 9, .int .i64 22, .int .i64 8]] W fun e w' => e = .returned (.int .i64 u3) ∧ ∃ f, w' = ext W f from by
        obtain ⟨st, dd, mb, lv, its, D, N, h⟩ := hE.tab.grown hW
        exact hu3 ▸ tabat_any h 9 22 8 (show Fit (9 : Int) from ⟨by omega, by omega⟩) (show Fit (8 : Int) from ⟨by omega, by omega⟩)))
      have VS3 := Lib.hid (fun W => (show Calls Tryz.prog 23 #[.int .i64 u3] W fun e w' => e = .returned (.bool false) ∧ W = w' from by
        have hv := view00 (G := G) hE.here 9 22 8 (by omega) (by omega)
        have hs : solB u3 = false := by rw [← hu3, hv]; exact hE.free.d
        have := refsolid_any u3 (by rw [← hu3, hv]; exact (cellG_good hE.tab 9 22 8 (by omega) (by omega) (by omega)).any) W
        rwa [hs] at this))
      clear hu0 hu1 hu2 hu3 TA hl0 hl1 hE k1e k2e
      have RB0 := Lib.hid (fun W => refbox0 st0 W)
      have RB1 := Lib.hid (fun W => refbox1 st1 W)
      have RC0 := Lib.hid (fun W => refcells0 W)
      have RC1 := Lib.hid (fun W => refcells1 W)
      unfold bodyV at RB0 RB1
      unfold bx0 at RC0
      unfold bx1 at RC1
      have hvf : ∀ args W, (callFunc 41 args).run Tryz.prog W = .ok (.enter 41 args) W := fun args W => by kernel_rfl
      by_cases hg0 : gb = 0
      · obtain rfl := hans hg0
        subst hg0
        have qE := lstE
        go_wp2_with (go_at_call 18; refine (shengine_any _ ks).mono ?_; rintro e w12 ⟨rfl, rfl⟩)
        refine (whole_any _ k0e km kw).mono ?_
        rintro e12 w12 ⟨rfl, rfl⟩
        go_wp2_with fail
        refine wp_loop_rounds 3 ?_
        rw [rounds_succ]
        go_wp2_with fail
        refine (BD0.out _ (by exact grown_now)).mono ?_
        rintro e20 w20 ⟨rfl, f, hw⟩
        haveI hb20 := named_below (w := w11) hw
        have hc20 := named_cell hw
        haveI hi20 := named_in hw
        clear hw
        unfold bodyV
        go_wp2_with fail
        refine (RB0.out _).mono ?_
        rintro e21 w21 ⟨rfl, f, hw⟩
        haveI hb21 := named_below (w := w11) hw
        clear hw
        clear hc20 hi20
        unfold bx0
        go_wp2_with fail
        refine (RC0.out _).mono ?_
        rintro e22 w22 ⟨⟨gc, cc, rfl, y0, y1, y2, y3, y4, y5⟩, hB⟩
        obtain ⟨_, hw⟩ := ext_of hB
        haveI hb22 := named_below (w := w11) hw
        clear hw hB
        haveI := in_of_cell y0
        have z0 := ((grown_now (w := w11) (W := w22)).cell (p := ⟨en, 0, none⟩) (World.block_lt_of_cell? w11 _ k0e)).trans k0e
        have z1 := ((grown_now (w := w11) (W := w22)).cell (p := ⟨sm, 1, none⟩) (World.block_lt_of_cell? w11 _ km)).trans km
        have z2 := ((grown_now (w := w11) (W := w22)).cell (p := ⟨wo2, 0, none⟩) (World.block_lt_of_cell? w11 _ kw)).trans kw
        haveI := in_of_cell z0
        haveI := in_of_cell z1
        haveI := in_of_cell z2
        go_wp2_with fail
        refine wp_loop_rounds 3 ?_
        rw [rounds_succ]
        go_wp2_with fail
        refine wp_region_ext ?_ ?_ ?_
        · kernel_rfl
        · kernel_rfl
        repeat (go_big_quiet_step (first | (go_at_call 24; exact ext_same (simworld_any sm wo2 _ (by go_simp))) | (go_at_call 25; exact ext_same (worldview_any wo2 t _ (by go_simp))) | (go_at_call 41; with_reducible exact ext_call (VA0.out _ (by exact grown_now))) | (go_at_call 23; with_reducible exact ext_same (VS0.out _))))
        refine wpQuiet_nil ?_
        rintro w23 ⟨_t, hw⟩
        have hc23 := named_cell hw
        have hz23 := named_frozen hw
        have hh23 := named_heap hw
        haveI hi23 := named_in hw
        haveI hb23 := named_below (w := w11) hw
        clear hw
        go_wp2_with fail
        rw [rounds_succ]
        go_wp2_with fail
        refine wp_region_ext ?_ ?_ ?_
        · kernel_rfl
        · kernel_rfl
        repeat (go_big_quiet_step (first | (go_at_call 24; exact ext_same (simworld_any sm wo2 _ (by go_simp))) | (go_at_call 25; exact ext_same (worldview_any wo2 t _ (by go_simp))) | (go_at_call 41; with_reducible exact ext_call (VA1.out _ (by exact grown_now))) | (go_at_call 23; with_reducible exact ext_same (VS1.out _))))
        refine wpQuiet_nil ?_
        rintro w24 ⟨_t, hw⟩
        have hc24 := named_cell hw
        have hz24 := named_frozen hw
        have hh24 := named_heap hw
        haveI hi24 := named_in hw
        haveI hb24 := named_below (w := w11) hw
        clear hw
        go_wp2_with fail
        rw [rounds_succ]
        go_wp2_with fail
        rw [rounds_succ]
        go_wp2_with fail
        refine (BD1.out _ (by exact grown_now)).mono ?_
        rintro e30 w30 ⟨rfl, f, hw⟩
        haveI hb30 := named_below (w := w11) hw
        have hc30 := named_cell hw
        haveI hi30 := named_in hw
        clear hw
        unfold bodyV
        go_wp2_with fail
        refine (RB1.out _).mono ?_
        rintro e31 w31 ⟨rfl, f, hw⟩
        haveI hb31 := named_below (w := w11) hw
        clear hw
        clear hc30 hi30
        unfold bx1
        go_wp2_with fail
        refine (RC1.out _).mono ?_
        rintro e32 w32 ⟨⟨gc, cc, rfl, y0, y1, y2, y3, y4, y5⟩, hB⟩
        obtain ⟨_, hw⟩ := ext_of hB
        haveI hb32 := named_below (w := w11) hw
        clear hw hB
        haveI := in_of_cell y0
        have z0 := ((grown_now (w := w11) (W := w32)).cell (p := ⟨en, 0, none⟩) (World.block_lt_of_cell? w11 _ k0e)).trans k0e
        have z1 := ((grown_now (w := w11) (W := w32)).cell (p := ⟨sm, 1, none⟩) (World.block_lt_of_cell? w11 _ km)).trans km
        have z2 := ((grown_now (w := w11) (W := w32)).cell (p := ⟨wo2, 0, none⟩) (World.block_lt_of_cell? w11 _ kw)).trans kw
        haveI := in_of_cell z0
        haveI := in_of_cell z1
        haveI := in_of_cell z2
        go_wp2_with fail
        refine wp_loop_rounds 3 ?_
        rw [rounds_succ]
        go_wp2_with fail
        refine wp_region_ext ?_ ?_ ?_
        · kernel_rfl
        · kernel_rfl
        repeat (go_big_quiet_step (first | (go_at_call 24; exact ext_same (simworld_any sm wo2 _ (by go_simp))) | (go_at_call 25; exact ext_same (worldview_any wo2 t _ (by go_simp))) | (go_at_call 41; with_reducible exact ext_call (VA2.out _ (by exact grown_now))) | (go_at_call 23; with_reducible exact ext_same (VS2.out _))))
        refine wpQuiet_nil ?_
        rintro w33 ⟨_t, hw⟩
        have hc33 := named_cell hw
        have hz33 := named_frozen hw
        have hh33 := named_heap hw
        haveI hi33 := named_in hw
        haveI hb33 := named_below (w := w11) hw
        clear hw
        go_wp2_with fail
        rw [rounds_succ]
        go_wp2_with fail
        refine wp_region_ext ?_ ?_ ?_
        · kernel_rfl
        · kernel_rfl
        repeat (go_big_quiet_step (first | (go_at_call 24; exact ext_same (simworld_any sm wo2 _ (by go_simp))) | (go_at_call 25; exact ext_same (worldview_any wo2 t _ (by go_simp))) | (go_at_call 41; with_reducible exact ext_call (VA3.out _ (by exact grown_now))) | (go_at_call 23; with_reducible exact ext_same (VS3.out _))))
        refine wpQuiet_nil ?_
        rintro w34 ⟨_t, hw⟩
        have hc34 := named_cell hw
        have hz34 := named_frozen hw
        have hh34 := named_heap hw
        haveI hi34 := named_in hw
        haveI hb34 := named_below (w := w11) hw
        clear hw
        go_wp2_with fail
        rw [rounds_succ]
        go_wp2_with fail
        rw [rounds_succ]
        go_wp2_with fail
        have BW := grown_now (w := w11) (W := w34)
        go_roundw
        case rel => exact ⟨k + 1, by have := HK.out.2.2; omega, by go_num, Lib.hid (by rw [show 1 + (k + 1) = 1 + k + 1 by omega, show 8 + 8 * (k + 1) = 8 + 8 * k + 8 by omega]; exact S11.out.grown BW), Lib.hid (b11.out.trans (BW.mono b11.out.size))⟩
        case measure => have := HK.out.2.2; simp [intOf]; omega
      · skip
        go_wp2_with (go_at_call 18; refine (shengine_any _ ks).mono ?_; rintro e w12 ⟨rfl, rfl⟩)
        refine (whole_any _ k0e km kw).mono ?_
        rintro e12 w12 ⟨rfl, rfl⟩
        go_wp2_with fail
        refine wp_loop_rounds 3 ?_
        rw [rounds_succ]
        go_wp2_with fail
        refine (BD0.out _ (by exact grown_now)).mono ?_
        rintro e20 w20 ⟨rfl, f, hw⟩
        haveI hb20 := named_below (w := w11) hw
        have hc20 := named_cell hw
        haveI hi20 := named_in hw
        clear hw
        unfold bodyV
        go_wp2_with fail
        refine (RB0.out _).mono ?_
        rintro e21 w21 ⟨rfl, f, hw⟩
        haveI hb21 := named_below (w := w11) hw
        clear hw
        clear hc20 hi20
        unfold bx0
        go_wp2_with fail
        refine (RC0.out _).mono ?_
        rintro e22 w22 ⟨⟨gc, cc, rfl, y0, y1, y2, y3, y4, y5⟩, hB⟩
        obtain ⟨_, hw⟩ := ext_of hB
        haveI hb22 := named_below (w := w11) hw
        clear hw hB
        haveI := in_of_cell y0
        have z0 := ((grown_now (w := w11) (W := w22)).cell (p := ⟨en, 0, none⟩) (World.block_lt_of_cell? w11 _ k0e)).trans k0e
        have z1 := ((grown_now (w := w11) (W := w22)).cell (p := ⟨sm, 1, none⟩) (World.block_lt_of_cell? w11 _ km)).trans km
        have z2 := ((grown_now (w := w11) (W := w22)).cell (p := ⟨wo2, 0, none⟩) (World.block_lt_of_cell? w11 _ kw)).trans kw
        haveI := in_of_cell z0
        haveI := in_of_cell z1
        haveI := in_of_cell z2
        go_wp2_with fail
        refine wp_loop_rounds 3 ?_
        rw [rounds_succ]
        go_wp2_with fail
        refine wp_region_ext ?_ ?_ ?_
        · kernel_rfl
        · kernel_rfl
        repeat (go_big_quiet_step (first | (go_at_call 24; exact ext_same (simworld_any sm wo2 _ (by go_simp))) | (go_at_call 25; exact ext_same (worldview_any wo2 t _ (by go_simp))) | (go_at_call 41; with_reducible exact ext_call (VA0.out _ (by exact grown_now))) | (go_at_call 23; with_reducible exact ext_same (VS0.out _))))
        refine wpQuiet_nil ?_
        rintro w23 ⟨_t, hw⟩
        have hc23 := named_cell hw
        have hz23 := named_frozen hw
        have hh23 := named_heap hw
        haveI hi23 := named_in hw
        haveI hb23 := named_below (w := w11) hw
        clear hw
        go_wp2_with fail
        rw [rounds_succ]
        go_wp2_with fail
        refine wp_region_ext ?_ ?_ ?_
        · kernel_rfl
        · kernel_rfl
        repeat (go_big_quiet_step (first | (go_at_call 24; exact ext_same (simworld_any sm wo2 _ (by go_simp))) | (go_at_call 25; exact ext_same (worldview_any wo2 t _ (by go_simp))) | (go_at_call 41; with_reducible exact ext_call (VA1.out _ (by exact grown_now))) | (go_at_call 23; with_reducible exact ext_same (VS1.out _))))
        refine wpQuiet_nil ?_
        rintro w24 ⟨_t, hw⟩
        have hc24 := named_cell hw
        have hz24 := named_frozen hw
        have hh24 := named_heap hw
        haveI hi24 := named_in hw
        haveI hb24 := named_below (w := w11) hw
        clear hw
        go_wp2_with fail
        rw [rounds_succ]
        go_wp2_with fail
        rw [rounds_succ]
        go_wp2_with fail
        refine (BD1.out _ (by exact grown_now)).mono ?_
        rintro e30 w30 ⟨rfl, f, hw⟩
        haveI hb30 := named_below (w := w11) hw
        have hc30 := named_cell hw
        haveI hi30 := named_in hw
        clear hw
        unfold bodyV
        go_wp2_with fail
        refine (RB1.out _).mono ?_
        rintro e31 w31 ⟨rfl, f, hw⟩
        haveI hb31 := named_below (w := w11) hw
        clear hw
        clear hc30 hi30
        unfold bx1
        go_wp2_with fail
        refine (RC1.out _).mono ?_
        rintro e32 w32 ⟨⟨gc, cc, rfl, y0, y1, y2, y3, y4, y5⟩, hB⟩
        obtain ⟨_, hw⟩ := ext_of hB
        haveI hb32 := named_below (w := w11) hw
        clear hw hB
        haveI := in_of_cell y0
        have z0 := ((grown_now (w := w11) (W := w32)).cell (p := ⟨en, 0, none⟩) (World.block_lt_of_cell? w11 _ k0e)).trans k0e
        have z1 := ((grown_now (w := w11) (W := w32)).cell (p := ⟨sm, 1, none⟩) (World.block_lt_of_cell? w11 _ km)).trans km
        have z2 := ((grown_now (w := w11) (W := w32)).cell (p := ⟨wo2, 0, none⟩) (World.block_lt_of_cell? w11 _ kw)).trans kw
        haveI := in_of_cell z0
        haveI := in_of_cell z1
        haveI := in_of_cell z2
        go_wp2_with fail
        refine wp_loop_rounds 3 ?_
        rw [rounds_succ]
        go_wp2_with fail
        refine wp_region_ext ?_ ?_ ?_
        · kernel_rfl
        · kernel_rfl
        repeat (go_big_quiet_step (first | (go_at_call 24; exact ext_same (simworld_any sm wo2 _ (by go_simp))) | (go_at_call 25; exact ext_same (worldview_any wo2 t _ (by go_simp))) | (go_at_call 41; with_reducible exact ext_call (VA2.out _ (by exact grown_now))) | (go_at_call 23; with_reducible exact ext_same (VS2.out _))))
        refine wpQuiet_nil ?_
        rintro w33 ⟨_t, hw⟩
        have hc33 := named_cell hw
        have hz33 := named_frozen hw
        have hh33 := named_heap hw
        haveI hi33 := named_in hw
        haveI hb33 := named_below (w := w11) hw
        clear hw
        go_wp2_with fail
        rw [rounds_succ]
        go_wp2_with fail
        refine wp_region_ext ?_ ?_ ?_
        · kernel_rfl
        · kernel_rfl
        repeat (go_big_quiet_step (first | (go_at_call 24; exact ext_same (simworld_any sm wo2 _ (by go_simp))) | (go_at_call 25; exact ext_same (worldview_any wo2 t _ (by go_simp))) | (go_at_call 41; with_reducible exact ext_call (VA3.out _ (by exact grown_now))) | (go_at_call 23; with_reducible exact ext_same (VS3.out _))))
        refine wpQuiet_nil ?_
        rintro w34 ⟨_t, hw⟩
        have hc34 := named_cell hw
        have hz34 := named_frozen hw
        have hh34 := named_heap hw
        haveI hi34 := named_in hw
        haveI hb34 := named_below (w := w11) hw
        clear hw
        go_wp2_with fail
        rw [rounds_succ]
        go_wp2_with fail
        rw [rounds_succ]
        go_wp2_with fail
        have BW := grown_now (w := w11) (W := w34)
        go_roundw
        case rel => exact ⟨k + 1, by have := HK.out.2.2; omega, by go_num, Lib.hid (by rw [show 1 + (k + 1) = 1 + k + 1 by omega, show 8 + 8 * (k + 1) = 8 + 8 * k + 8 by omega]; exact S11.out.grown BW), Lib.hid (b11.out.trans (BW.mono b11.out.size))⟩
        case measure => have := HK.out.2.2; simp [intOf]; omega
    · have hx : ¬ (k : Int) < (vs.length : Int) ∨ ((k : Int) < (vs.length : Int) ∧ ¬ (k : Int) < (ws.length : Int)) ∨ ((k : Int) < (vs.length : Int) ∧ (k : Int) < (ws.length : Int) ∧ ¬ (k : Int) < 10) := by omega
      rcases hx with hx | ⟨hx, hx2⟩ | ⟨hx, hx2, hx3⟩
      all_goals
        go_wp2_with fail
        refine (alive_any _).mono ?_
        rintro e6 w6 ⟨rfl, hb6⟩
        go_wp2_with fail
        go_ret
        exact ⟨rfl, b5.out.trans (hb6.mono b5.out.size)⟩
#print axioms topplaced_any
end Go.Proofs.YtnogfelfgclajaaGreatDoor
end
