/-
  TopFlat: the walk.
-/
import Derived.Test.YtnogfelfgclajaaGreatDoorMa41
import Derived.Deep.RegionHeld3
section
namespace Go.Proofs.YtnogfelfgclajaaGreatDoor
open Go.RowKit
attribute [local go_sem] ext_ext drew_ext ext_drew ext_cell ext_frozen in_lt in_le in_ne in_en in_ne1 in_en1 in_le1 in_ltn in_len in_nen in_enn size_le ite_max ite_min
set_option linter.unusedVariables false
set_option linter.unusedSimpArgs false
set_option maxRecDepth 1000000

theorem flInfo : (Tryz.prog.info? 33).map (fun i => (i.zero, i.size, i.bytes)) = some (some (.agg #[.int .i64 0, .int .i64 0, .int .i64 0, .int .i64 0]), 4, 32) := by kernel_rfl
theorem setK_succ {s : Int} {l : List Fl} {k : Nat} {d : Fl} (h : l[k]? = some d) : setK s l (k + 1) = setC (setK s l k) d := by
  show (match l[k]? with | some d => setC (setK s l k) d | none => setK s l k) = _
  rw [h]
theorem aside_row {B : Nat} {w : World} {v : Value} {n : Nat} {xs : List Value} (h : w.ownsRow B 33 4 v n xs) : Aside w (fun k => v.ownBlock = some k) := by
  rcases h.2 with ⟨rfl, _⟩ | ⟨g, cap, cur, rfl, _, hgg, _⟩
  · exact ⟨(fun _ _ _ _ h => by cases h), (fun _ _ _ _ _ _ h => by cases h)⟩
  · obtain ⟨h1, h2⟩ : Aside w (fun k => k = g) := aside_one hgg (by decide)
    exact ⟨(fun b es cl hb e => h1 b es cl hb (by cases e; rfl)), (fun g' c T fz hg hm e => h2 g' c T fz hg hm (by cases e; rfl))⟩
theorem flat2_any (s x y z : Int) (v : Value) (cs : List Ch) (k B : Nat) (w : World) (hk : k ≤ cs.length) (hk2 : k ≤ 15) (h : FlRow B w v ((mkL cs).take k)) (hx : Fit x) (hz : Fit z) (y1 : 0 ≤ y) (y2 : y ≤ 1000) :
    Calls Tryz.prog 15 #[.int .i64 s, v, .agg #[.int .i64 x, .int .i64 y, .int .i64 z]] w fun e w' => e = .returned (.int .i64 (flatS s (mkL cs) x y z k)) ∧ ∃ f, w' = ext w f := by
  have hl : ((mkL cs).take k).length = k := by rw [List.length_take, mkL_len]; omega
  have := flat_any s x y z v _ w (by omega) h.at hx hz y1 y2
  rwa [hl, flat_take _ _ _ _ _ _ _ (Nat.le_refl k)] at this
theorem ok_list : okS.toList = [111, 107] := by kernel_rfl
set_option maxHeartbeats 16000000 in
theorem topflat_any (seed limit : Int) (lv wv : Value) (cs : List Ch) (ws : List Int) (w : World) (h1 : Fit seed) (h2 : Fit limit) (h3 : ChIn w lv cs) (h5 : IntsIn w wv ws) :
    Calls Tryz.prog 3 #[.int .i64 seed, lv, wv, .int .i64 limit] w fun e w' => e = .returned (.bool true) ∧ Below w.heap.size w w' := by
  have HL := Lib.hid h3
  have HW := Lib.hid h5
  obtain ⟨lo, lc, rfl⟩ := h3.form
  obtain ⟨wo, wc, rfl⟩ := h5.form
  have hl9 := h3.small
  have hw9 := h5.small
  have AR1 := Lib.hid (fun W => around_fit seed 1000 W h1 (by omega) (by omega))
  have AR2 := Lib.hid (fun W => around_fit limit 4 W h2 (by omega) (by omega))
  obtain ⟨a1, a2⟩ := arS_bd (n := seed) (m := 1000) (by omega)
  obtain ⟨a3, a4⟩ := arS_bd (n := limit) (m := 4) (by omega)
  have DC1 := Lib.hid (fun W => dec16_any (arS seed 1000) ⟨by omega, by omega⟩ W)
  have DC2 := Lib.hid (fun W => dec16_any (1 + arS limit 4) ⟨by omega, by omega⟩ W)
  obtain ⟨sd, hsd⟩ : ∃ sd, arS seed 1000 = sd := ⟨_, rfl⟩
  obtain ⟨lm, hlm⟩ : ∃ lm, 1 + arS limit 4 = lm := ⟨_, rfl⟩
  have g1 : (bs (decI 16 sd)).size ≤ 18 := decI_size 16 sd
  have g2 : (bs (decI 16 lm)).size ≤ 18 := decI_size 16 lm
  have g3 : ((⟨#[119, 111, 114, 108, 100, 32]⟩ : ByteArray) ++ bs (decI 16 sd)).size ≤ 24 := by rw [ByteArray.size_append]; exact Nat.add_le_add (Nat.le_refl 6) g1
  have g4 : (((⟨#[119, 111, 114, 108, 100, 32]⟩ : ByteArray) ++ bs (decI 16 sd)) ++ (⟨#[32]⟩ : ByteArray)).size ≤ 25 := by rw [ByteArray.size_append]; exact Nat.add_le_add g3 (Nat.le_refl 1)
  have g5 : ((((⟨#[119, 111, 114, 108, 100, 32]⟩ : ByteArray) ++ bs (decI 16 sd)) ++ (⟨#[32]⟩ : ByteArray)) ++ bs (decI 16 lm)).size ≤ 43 := by rw [ByteArray.size_append]; exact Nat.add_le_add g4 g2
  have hl0 : 1 ≤ lm ∧ lm ≤ 5 := by omega
  have hs0 : 0 ≤ sd ∧ sd < 1000 := by omega
  have hlm' : IntKind.i64.wrap (1 + arS limit 4) = lm := by rw [← hlm]; exact IntWalk.i64_in _ (by omega)
  rw [hsd] at AR1 DC1
  rw [hlm] at DC2
  clear hsd h1 h2 h3 h5
  go_enter Tryz.func3, Tryz.ntmps3
  go_wp2_with fail
  refine (linesnew_any w.heap.size w (Nat.le_refl _)).mono ?_
  rintro e1 w1 ⟨sh, t, rfl, hS, f, hw⟩
  have B1 := Lib.hid (show Below w.heap.size w w1 by rw [hw]; exact ext_below w f)
  have S1 := Lib.hid hS
  clear hw hS
  go_wp2_with (go_at_call 6; refine (AR1.out _).mono ?_; rintro e w1 ⟨rfl, rfl⟩)
  refine (DC1.out w1).mono ?_
  rintro e2 w2 ⟨rfl, f, hw⟩
  have B2 := Lib.hid (show Below w1.heap.size w1 w2 by rw [hw]; exact ext_below w1 f)
  clear hw
  have S2 := Lib.hid (S1.out.grown B2.out)
  have b2 := Lib.hid (B1.out.trans (B2.out.mono B1.out.size))
  clear S1 B1 B2
  go_wp2_with (go_at_call 6; refine (AR2.out _).mono ?_; rintro e w1 ⟨rfl, rfl⟩)
  refine (DC2.out w2).mono ?_
  rintro e3 w3 ⟨rfl, f, hw⟩
  have B3 := Lib.hid (show Below w2.heap.size w2 w3 by rw [hw]; exact ext_below w2 f)
  clear hw
  have S3 := Lib.hid (S2.out.grown B3.out)
  have b3 := Lib.hid (b2.out.trans (B3.out.mono b2.out.size))
  clear S2 b2 B3
  go_wp2_with fail
  rw [txt_world]
  refine (sayworld_any S3.out sd lm 1 lm ⟨by omega, by omega⟩ ⟨by omega, by omega⟩ ⟨by omega, by omega⟩ (by omega)).mono ?_
  rintro e4 w4 ⟨⟨_, rfl, rfl⟩, ⟨t', hS4⟩, hT4⟩
  have S4 := Lib.hid (show SysAny w.heap.size w4 sh t' sd lm 0 0 (setK sd (mkL cs) 0) from ⟨_, hS4⟩)
  have b4 := Lib.hid (b3.out.trans (hT4.below (fun i _ hi => Nat.le_of_not_lt (fun h => lf_low h hi)) b3.out.size))
  clear hS4 hT4 S3 b3 AR1 AR2 DC1 DC2 g1 g2 g3 g4 g5 hlm' hlm t
  clear a1 a2 a3 a4
  go_wp2_with fail
  go_loopw [10, 11] (fun s10 s11 wr => ∃ k : Nat, k ≤ cs.length ∧ k ≤ 15 ∧ s11 = .int .i64 (k : Int) ∧ Hid (SysAny w.heap.size wr sh t' sd lm k (8 * k) (setK sd (mkL cs) k)) ∧ Hid (FlRow w.heap.size wr s10 ((mkL cs).take k)) ∧ Hid (Below w.heap.size w wr)) (fun _ s11 _ => 15 - (intOf s11).toNat)
  case atStart => exact ⟨0, by omega, by omega, rfl, S4, Lib.hid (World.ownsRow_nil ..), b4⟩
  case round =>
    obtain ⟨k, hk, hk15, rfl, S5, R5, b5⟩ := hrel
    rename World => w5
    clear S4 b4 w4
    have k0 : (0 : Int) ≤ (k : Int) := Int.natCast_nonneg _
    by_cases hgo : k < cs.length ∧ k < 15
    · obtain ⟨hlt, hlt15⟩ := hgo
      obtain ⟨g, fo, rfl, d0, d1, d2, d3⟩ := HL.out.at k hlt
      obtain ⟨fa, fb, fc, fd⟩ := HL.out.fit cs[k] (List.getElem_mem hlt)
      have hgw : g < w.heap.size := World.block_lt_of_cell? w _ d0
      have HD := Lib.hid (And.intro hgw (And.intro hlt (And.intro hlt15 (And.intro d0 (And.intro d1 (And.intro d2 d3))))))
      have e0 := (b5.out.cell (p := ⟨g, fo + k * 4, none⟩) hgw).trans d0
      have e1 := (b5.out.cell (p := ⟨g, fo + k * 4 + 1, none⟩) hgw).trans d1
      have e2 := (b5.out.cell (p := ⟨g, fo + k * 4 + 2, none⟩) hgw).trans d2
      haveI := in_of_cell e0
      obtain ⟨D, hD⟩ : ∃ D, gdC cs[k] = D := ⟨_, rfl⟩
      have ND := Lib.hid (show Nice D from hD ▸ gdC_nice cs[k])
      have GD := Lib.hid (fun W => (show Calls Tryz.prog 9 #[.agg #[.int .i64 cs[k].1, .int .i64 cs[k].2.1, .int .i64 cs[k].2.2.1], .int .i64 20] W fun e w' => e = .returned (.agg #[.int .i64 D.x, .int .i64 D.y, .int .i64 D.z]) ∧ ∃ f, w' = ext W f from by rw [← hD]; exact good_any cs[k].1 cs[k].2.1 cs[k].2.2.1 20 W fa fb fc (by omega) (by omega)))
      have GB := Lib.hid (fun W => (show Calls Tryz.prog 12 #[.int .i64 cs[k].2.2.2] W fun e w' => e = .returned (.int .i64 D.b) ∧ W = w' from by rw [← hD]; exact refgood_any cs[k].2.2.2 W fd))
      have HK := Lib.hid (show (mkL cs)[k]? = some D from hD ▸ mkL_at cs k hlt)
      clear hD fa fb fc fd d0 d1 d2 d3
      generalize cs[k].1 = ca at *
      generalize cs[k].2.1 = cb at *
      generalize cs[k].2.2.1 = cc at *
      generalize cs[k].2.2.2 = cd at *
      have k1 : (k : Int) < (cs.length : Int) := by omega
      have k2 : (k : Int) < 15 := by omega
      obtain ⟨px, hpx⟩ : ∃ px, divS D.x 16 = px := ⟨_, rfl⟩
      obtain ⟨pz, hpz⟩ : ∃ pz, divS D.z 16 = pz := ⟨_, rfl⟩
      have HP := Lib.hid (And.intro hpx hpz)
      have CK := Lib.hid (fun W => (show Calls Tryz.prog 10 #[.agg #[.int .i64 D.x, .int .i64 D.y, .int .i64 D.z]] W fun e w' => e = .returned (.agg #[.int .i64 px, .int .i64 pz]) ∧ ∃ f, w' = ext W f from by rw [← hpx, ← hpz]; exact refchunk_any D.x D.y D.z W ⟨by have := ND.out.x0; omega, by have := ND.out.x1; omega⟩ ⟨by have := ND.out.z0; omega, by have := ND.out.z1; omega⟩))
      have NP := Lib.hid (show Num px ∧ Num pz ∧ Close (px, pz) from by
        have h0 := ND.out.x0; have h1 := ND.out.x1; have h2 := ND.out.z0; have h3 := ND.out.z1
        rw [div16] at hpx hpz
        exact ⟨⟨by omega, by omega⟩, ⟨by omega, by omega⟩, ⟨by dsimp only; omega, by dsimp only; omega, by dsimp only; omega, by dsimp only; omega⟩⟩)
      clear hpx hpz
      have AWY := Lib.hid (fun (h : k < ws.length) W => around_fit ws[k] 4 W (HW.out.fit ws[k] (List.getElem_mem h)) (by omega) (by omega))
      go_wp2_with fail
      refine (GD.out _).mono ?_
      rintro e w6 ⟨rfl, _t, hw⟩
      have hc6 := named_cell hw
      have hz6 := named_frozen hw
      have hh6 := named_heap hw
      haveI hi6 := named_in hw
      haveI hb6 := named_below (w := w5) hw
      clear hw
      have B6 := Lib.hid (grown_now (w := w5) (W := w6))
      go_wp2_with fail
      have B7 := Lib.hid (B6.out.alloc B6.out.size (.cells #[.int .i64 D.x, .int .i64 D.y, .int .i64 D.z] 30))
      have X7 := Lib.hid (heap_alloc_new w6 (.cells #[.int .i64 D.x, .int .i64 D.y, .int .i64 D.z] 30))
      generalize w6.alloc (.cells #[.int .i64 D.x, .int .i64 D.y, .int .i64 D.z] 30) = w7 at *
      obtain ⟨bx, hbx⟩ : ∃ bx, w6.heap.size = bx := ⟨_, rfl⟩
      rw [hbx] at X7
      rw [hbx]
      clear hbx hc6 hz6 hh6 B6
      refine (CK.out w7).mono ?_
      rintro e8 w8 ⟨rfl, f, hw⟩
      have B8' := Lib.hid (show Below w7.heap.size w7 w8 by rw [hw]; exact ext_below w7 f)
      clear hw
      have B8 := Lib.hid (B7.out.trans (B8'.out.mono B7.out.size))
      have X8 := Lib.hid ((B8'.out.block bx (lt_of_block X7.out)).trans X7.out)
      clear B7 X7 B8'
      go_wp2_with fail
      have B9' := Lib.hid (((Below.refl w8.heap.size w8).alloc (Nat.le_refl _) (.cells #[.int .i64 px, .int .i64 pz] 35)).alloc (by simp) (.cells #[.int .i64 px, .int .i64 pz] 3))
      have R9 := Lib.hid (show ((w8.alloc (.cells #[.int .i64 px, .int .i64 pz] 35)).alloc (.cells #[.int .i64 px, .int .i64 pz] 3)).heap[w8.heap.size + 1]? = some (.cells #[.int .i64 px, .int .i64 pz] 3 (0, 0)) from by have := heap_alloc_new (w8.alloc (.cells #[.int .i64 px, .int .i64 pz] 35)) (.cells #[.int .i64 px, .int .i64 pz] 3); rw [World.size_alloc] at this; exact this)
      generalize (w8.alloc (.cells #[.int .i64 px, .int .i64 pz] 35)).alloc (.cells #[.int .i64 px, .int .i64 pz] 3) = w9 at *
      refine (row2_any px pz _ _ w9 NP.out.1 NP.out.2.1 R9.out).mono ?_
      rintro e10 w10 ⟨rfl, f, hw⟩
      have B10' := Lib.hid (show Below w9.heap.size w9 w10 by rw [hw]; exact ext_below w9 f)
      clear hw
      have B10 := Lib.hid (B8.out.trans ((B9'.out.trans (B10'.out.mono B9'.out.size)).mono B8.out.size))
      have X10 := Lib.hid (((B9'.out.trans (B10'.out.mono B9'.out.size)).block bx (lt_of_block X8.out)).trans X8.out)
      clear B8 X8 B9' B10' R9 e0 e1 e2
      have S10 := Lib.hid (S5.out.grown B10.out)
      have R10 := Lib.hid (R5.out.grown B10.out)
      have b10 := Lib.hid (b5.out.trans (B10.out.mono b5.out.size))
      clear S5 R5 b5 B10 GD CK
      have z1 : (bs (joinW (decs [px, pz]))).size ≤ 40 := by rw [bs_size]; have := decs_len [px, pz]; simpa using this
      by_cases hq : k < ws.length
      · have q1 : (k : Int) < (ws.length : Int) := by omega
        obtain ⟨gw, fw, rfl, dw⟩ := HW.out.at k hq
        have hgw2 : gw < w.heap.size := World.block_lt_of_cell? w _ dw
        have ew := (b10.out.cell (p := ⟨gw, fw + k, none⟩) hgw2).trans dw
        haveI := in_of_cell ew
        obtain ⟨j, hj⟩ : ∃ j : Nat, arS ws[k] 4 = (j : Int) := ⟨(arS ws[k] 4).toNat, by have := (arS_bd (n := ws[k]) (m := 4) (by omega)).1; omega⟩
        have hj4 : (j : Int) < 4 := by have := (arS_bd (n := ws[k]) (m := 4) (by omega)).2; omega
        have AW := Lib.hid (fun W => hj ▸ AWY.out hq W)
        clear AWY dw hj
        generalize ws[k] = wk at *
        have j0 : (0 : Int) ≤ (j : Int) := Int.natCast_nonneg _
        go_wp2_with fail
        have B11 := Lib.hid ((Below.refl w10.heap.size w10).alloc (Nat.le_refl _) (.cells #[.string (wayS px pz 0), .string (wayS px pz 1), .string (wayS px pz 2), .string (wayS px pz 3)] 9))
        have X11 := Lib.hid (heap_alloc_new w10 (.cells #[.string (wayS px pz 0), .string (wayS px pz 1), .string (wayS px pz 2), .string (wayS px pz 3)] 9))
        have hww : ∀ W : World, W.alloc (.cells #[.string ((⟨#[117, 110, 108, 111, 97, 100, 32]⟩ : ByteArray) ++ bs (joinW (decs [px, pz]))), .string ((⟨#[102, 108, 117, 115, 104, 32]⟩ : ByteArray) ++ bs (joinW (decs [px, pz]))), .string ⟨#[102, 108, 117, 115, 104, 97, 108, 108]⟩, .string ⟨#[108, 111, 97, 100, 32, 48, 32, 48]⟩] 9) = W.alloc (.cells #[.string (wayS px pz 0), .string (wayS px pz 1), .string (wayS px pz 2), .string (wayS px pz 3)] 9) := fun W => rfl
        rw [hww]
        clear hww
        generalize w10.alloc (.cells #[.string (wayS px pz 0), .string (wayS px pz 1), .string (wayS px pz 2), .string (wayS px pz 3)] 9) = w11 at *
        obtain ⟨ba, hba⟩ : ∃ b, w10.heap.size = b := ⟨_, rfl⟩
        rw [hba] at X11
        rw [hba]
        have ew2 := (B11.out.cell (p := ⟨gw, fw + k, none⟩) (World.block_lt_of_cell? w10 _ ew)).trans ew
        have S11 := Lib.hid (S10.out.grown B11.out)
        have R11 := Lib.hid (R10.out.grown B11.out)
        have b11 := Lib.hid (b10.out.trans (B11.out.mono b10.out.size))
        have X11b := Lib.hid ((B11.out.block bx (lt_of_block X10.out)).trans X10.out)
        have ea : w11.cell? ⟨ba, j, none⟩ = some (.string (wayS px pz j)) := cell_of_block (i := j) X11.out (by
          rcases j with _ | _ | _ | _ | j
          · rfl
          · rfl
          · rfl
          · rfl
          · omega)
        haveI := in_of_cell ea
        clear ew hba S10 R10 b10 X10 B11 X11
        go_wp2_with (go_at_call 6; refine (AW.out _).mono ?_; rintro e w1 ⟨rfl, rfl⟩)
        refine (tway_any S11.out px pz NP.out.1 NP.out.2.1 j).mono ?_
        rintro e12 w12 ⟨⟨_, rfl, _⟩, hS12, hT12⟩
        have S12 := Lib.hid hS12
        have R12 := Lib.hid (R11.out.lf hT12 (fun _ _ _ hg => lf_no hg (by decide)))
        have X12 := Lib.hid ((hT12.block bx (lt_of_block X11b.out) (lf_no X11b.out (by decide))).trans X11b.out)
        have b12 := Lib.hid (b11.out.trans (hT12.below (fun i _ hi => Nat.le_of_not_lt (fun h => lf_low h hi)) b11.out.size))
        clear hS12 hT12 S11 R11 X11b b11 ea ew2 AW
        obtain ⟨hgw, hlt, hlt15, d0, d1, d2, d3⟩ := HD.out
        have e3 := (b12.out.cell (p := ⟨g, fo + k * 4 + 3, none⟩) hgw).trans d3
        have x0 := cell_of_block (i := 0) X12.out rfl
        have x1 := cell_of_block (i := 1) X12.out rfl
        have x2 := cell_of_block (i := 2) X12.out rfl
        haveI := in_of_cell e3
        haveI := in_of_cell x0
        clear d0 d1 d2 d3
        go_wp2_with (go_at_call 12; refine (GB.out _).mono ?_; rintro e w1 ⟨rfl, rfl⟩)
        refine (tload_any S12.out px pz NP.out.1 NP.out.2.1 NP.out.2.2).mono ?_
        rintro e13 w13 ⟨⟨_, rfl, rfl⟩, hS13, hT13⟩
        have S13 := Lib.hid hS13
        have R13 := Lib.hid (R12.out.lf hT13 (fun _ _ _ hg => lf_no hg (by decide)))
        have X13 := Lib.hid ((hT13.block bx (lt_of_block X12.out) (lf_no X12.out (by decide))).trans X12.out)
        have b13 := Lib.hid (b12.out.trans (hT13.below (fun i _ hi => Nat.le_of_not_lt (fun h => lf_low h hi)) b12.out.size))
        clear hS13 hT13 S12 R12 X12 b12 e3 x0 x1 x2 GB
        have x0 := cell_of_block (i := 0) X13.out rfl
        have x1 := cell_of_block (i := 1) X13.out rfl
        have x2 := cell_of_block (i := 2) X13.out rfl
        haveI := in_of_cell x0
        have nok := ok_list
        go_wp2_with fail
        refine (topcell_any D.x D.y D.z w13 (small17 (by have := ND.out.x0; omega) (by have := ND.out.x1; omega)) (small17 (by have := ND.out.y0; omega) (by have := ND.out.y1; omega)) (small17 (by have := ND.out.z0; omega) (by have := ND.out.z1; omega))).mono ?_
        rintro e14 w14 ⟨rfl, f, hw⟩
        have B14 := Lib.hid (show Below w13.heap.size w13 w14 by rw [hw]; exact ext_below w13 f)
        clear hw
        have y1 : (bs (joinW (decs [D.x, D.y, D.z]))).size ≤ 60 := by rw [bs_size]; have := decs_len [D.x, D.y, D.z]; simpa using this
        have y2 : ((⟨#[101, 100, 105, 116, 32]⟩ : ByteArray) ++ bs (joinW (decs [D.x, D.y, D.z]))).size ≤ 65 := by rw [ByteArray.size_append]; exact Nat.add_le_add (Nat.le_refl 5) y1
        have y3 : (((⟨#[101, 100, 105, 116, 32]⟩ : ByteArray) ++ bs (joinW (decs [D.x, D.y, D.z]))) ++ (⟨#[32]⟩ : ByteArray)).size ≤ 66 := by rw [ByteArray.size_append]; exact Nat.add_le_add y2 (Nat.le_refl 1)
        have y4 : (nmB D.b).size ≤ 1000000 := nmB_size ND.out.b.lo ND.out.b.hi
        go_wp2_with fail
        refine (refname_any D.b ND.out.b w14).mono ?_
        rintro e15 w15 ⟨rfl, f, hw⟩
        have B15' := Lib.hid (show Below w14.heap.size w14 w15 by rw [hw]; exact ext_below w14 f)
        clear hw
        have B15 := Lib.hid (B14.out.trans (B15'.out.mono B14.out.size))
        have S15 := Lib.hid (show SysAt w.heap.size w15 sh t' sd lm k (8 * k) (setK sd (mkL cs) k) (divS D.x 16, divS D.z 16) from by rw [HP.out.1, HP.out.2]; exact S13.out.grown B15.out)
        have R15 := Lib.hid (R13.out.grown B15.out)
        have X15 := Lib.hid ((B15.out.block bx (lt_of_block X13.out)).trans X13.out)
        have b15 := Lib.hid (b13.out.trans (B15.out.mono b13.out.size))
        clear S13 R13 X13 b13 B14 B15 B15' x0 x1 x2
        go_wp2_with fail
        refine (tedit_any D ND.out S15.out (by omega) (by omega)).mono ?_
        rintro e16 w16 ⟨⟨_, rfl, rfl⟩, hS16, hT16⟩
        have S16 := Lib.hid (show SysAny w.heap.size w16 sh t' sd lm (k + 1) (8 * (k + 1)) (setK sd (mkL cs) (k + 1)) from by rw [setK_succ HK.out]; exact hS16)
        have R16 := Lib.hid (R15.out.lf hT16 (fun _ _ _ hg => lf_no hg (by decide)))
        have X16 := Lib.hid ((hT16.block bx (lt_of_block X15.out) (lf_no X15.out (by decide))).trans X15.out)
        have b16 := Lib.hid (b15.out.trans (hT16.below (fun i _ hi => Nat.le_of_not_lt (fun h => lf_low h hi)) b15.out.size))
        clear hS16 hT16 S15 R15 X15 b15 y1 y2 y3 y4
        have x0 := cell_of_block (i := 0) X16.out rfl
        have x1 := cell_of_block (i := 1) X16.out rfl
        have x2 := cell_of_block (i := 2) X16.out rfl
        haveI := in_of_cell x0
        obtain ⟨i0, iz0, iz1, iz2, iz3⟩ := info_parts flInfo
        have LK := Lib.hid (show ((mkL cs).take k).length = k by rw [List.length_take, mkL_len]; omega)
        have Q16 := Lib.hid (show w16.ownsRow w.heap.size 33 4 u10 k (flV ((mkL cs).take k)) from by have h := R16.out; unfold FlRow at h; rw [LK.out] at h; exact h)
        have HF := Lib.hid (show flV ((mkL cs).take (k + 1)) = flV ((mkL cs).take k) ++ [.int .i64 D.x, .int .i64 D.y, .int .i64 D.z, .int .i64 D.b] from by rw [List.take_add_one, HK.out]; exact flV_snoc _ _)
        clear R16
        generalize flV ((mkL cs).take k) = fv at *
        obtain ⟨og, cp, rfl⟩ := owns_form Q16.out
        go_wp2_with (at_builtin; refine wpList_append_own _ rfl (.tmp 104) (.tmp 108) 22 rfl w.heap.size 33 i0 _ 4 32 Tryz.underlying22 iz0 iz1 iz2 iz3 rfl (by omega) _ _ _ rfl (Q16.out.alloc _) _ 1 1 [.int .i64 D.x, .int .i64 D.y, .int .i64 D.z, .int .i64 D.b] rfl rfl (World.news_of_block (heap_alloc_new w16 _)) (by simp [Value.oneCell']) (by unfold maxLen; omega) (by omega) (by have := b16.out.size; simp; omega) ?_; intro v17 w17 hown17 hgrow17 _)
        have R17 := Lib.hid (show FlRow w.heap.size w17 v17 ((mkL cs).take (k + 1)) from by
          have hl : ((mkL cs).take (k + 1)).length = k + 1 := by rw [List.length_take, mkL_len]; omega
          unfold FlRow
          rw [hl, HF.out]
          exact hown17)
        have b17 := Lib.hid ((b16.out.alloc b16.out.size _).grown hgrow17 (by have := b16.out.size; simp; omega) (fun q hq => (Q16.out.lt q hq).1))
        have S17 := Lib.hid (S16.out.turn (turn_append (Below.refl _ w16) hgrow17) (aside_row Q16.out))
        obtain ⟨og17, cp17, rfl⟩ := owns_form hown17
        clear hown17 hgrow17 S16 Q16 X16 b16 x0 x1 x2 HF iz0 iz1 iz2 iz3 LK fv
        go_wp2_with fail
        go_loopw [17] (fun s17 wr => ∃ j : Nat, j ≤ k + 1 ∧ s17 = .int .i64 (j : Int) ∧ Hid (SysAny w.heap.size wr sh t' sd lm (k + 1) (8 * (k + 1)) (setK sd (mkL cs) (k + 1))) ∧ Hid (FlRow w.heap.size wr (.slice og17 (k + 1) cp17) ((mkL cs).take (k + 1))) ∧ Hid (Below w.heap.size w wr)) (fun s17 _ => k + 1 - (intOf s17).toNat)
        case atStart => exact ⟨0, by omega, rfl, S17, R17, b17⟩
        case round =>
          obtain ⟨j, hj, rfl, S18, R18, b18⟩ := hrel
          rename World => w18
          have j0 : (0 : Int) ≤ (j : Int) := Int.natCast_nonneg _
          by_cases hjk : j < k + 1
          · have j1 : (j : Int) ≤ (k : Int) := by omega
            have j2 : (j : Int) < (cs.length : Int) := by omega
            have hjc : j < cs.length := by omega
            obtain ⟨g2, fo2, hgo2, d0, d1, d2, _⟩ := HL.out.at j hjc
            injection hgo2 with hgo2
            injection hgo2 with hg2 hfo2
            subst hg2 hfo2
            obtain ⟨fa, fb, fc, _⟩ := HL.out.fit cs[j] (List.getElem_mem hjc)
            have e0 := (b18.out.cell (p := ⟨g, fo + j * 4, none⟩) hgw).trans d0
            have e1 := (b18.out.cell (p := ⟨g, fo + j * 4 + 1, none⟩) hgw).trans d1
            have e2 := (b18.out.cell (p := ⟨g, fo + j * 4 + 2, none⟩) hgw).trans d2
            haveI := in_of_cell e0
            obtain ⟨E, hE⟩ : ∃ E, gdC cs[j] = E := ⟨_, rfl⟩
            have NE := Lib.hid (show Nice E from hE ▸ gdC_nice cs[j])
            have GE := Lib.hid (fun W => (show Calls Tryz.prog 9 #[.agg #[.int .i64 cs[j].1, .int .i64 cs[j].2.1, .int .i64 cs[j].2.2.1], .int .i64 20] W fun e w' => e = .returned (.agg #[.int .i64 E.x, .int .i64 E.y, .int .i64 E.z]) ∧ ∃ f, w' = ext W f from by rw [← hE]; exact good_any cs[j].1 cs[j].2.1 cs[j].2.2.1 20 W fa fb fc (by omega) (by omega)))
            clear hE fa fb fc d0 d1 d2
            generalize cs[j].1 = ja at *
            generalize cs[j].2.1 = jb at *
            generalize cs[j].2.2.1 = jc at *
            obtain ⟨qx, hqx⟩ : ∃ qx, divS E.x 16 = qx := ⟨_, rfl⟩
            obtain ⟨qz, hqz⟩ : ∃ qz, divS E.z 16 = qz := ⟨_, rfl⟩
            have fx : Fit E.x := ⟨by have := NE.out.x0; omega, by have := NE.out.x1; omega⟩
            have fz : Fit E.z := ⟨by have := NE.out.z0; omega, by have := NE.out.z1; omega⟩
            have CE := Lib.hid (fun W => (show Calls Tryz.prog 10 #[.agg #[.int .i64 E.x, .int .i64 E.y, .int .i64 E.z]] W fun e w' => e = .returned (.agg #[.int .i64 qx, .int .i64 qz]) ∧ ∃ f, w' = ext W f from by rw [← hqx, ← hqz]; exact refchunk_any E.x E.y E.z W fx fz))
            have NQ := Lib.hid (show Num qx ∧ Num qz ∧ Close (qx, qz) from by
              have h0 := NE.out.x0; have h1 := NE.out.x1; have h2 := NE.out.z0; have h3 := NE.out.z1
              rw [div16] at hqx hqz
              exact ⟨⟨by omega, by omega⟩, ⟨by omega, by omega⟩, ⟨by dsimp only; omega, by dsimp only; omega, by dsimp only; omega, by dsimp only; omega⟩⟩)
            have hup : 0 ≤ E.y ∧ E.y ≤ 31 := ⟨NE.out.y0, NE.out.y1⟩
            have MX : Mid E.x := ⟨by have := NE.out.x0; omega, by have := NE.out.x1; omega⟩
            have MZ : Mid E.z := ⟨by have := NE.out.z0; omega, by have := NE.out.z1; omega⟩
            obtain ⟨v1, hv1⟩ : ∃ v, flatS sd (mkL cs) E.x E.y E.z (k + 1) = v := ⟨_, rfl⟩
            obtain ⟨v2, hv2⟩ : ∃ v, flatS sd (mkL cs) E.x (E.y + 1) E.z (k + 1) = v := ⟨_, rfl⟩
            have NL : ∀ d ∈ mkL cs, 0 ≤ d.y ∧ d.y ≤ 31 := fun d hd => ⟨(mkL_nice hd).y0, (mkL_nice hd).y1⟩
            have NB : ∀ d ∈ mkL cs, GoodB d.b := fun d hd => (mkL_nice hd).b
            have V1 := Lib.hid (show GoodB v1 from hv1 ▸ flatS_good sd (mkL cs) NB E.x E.y E.z (k + 1))
            have V2 := Lib.hid (show GoodB v2 from hv2 ▸ flatS_good sd (mkL cs) NB E.x (E.y + 1) E.z (k + 1))
            have RW := Lib.hid (fun (W : World) (b : Nat) (h : W.heap[b]? = some (.cells #[.int .i64 qx, .int .i64 qz] 3 (0, 0))) => row2_any qx qz b 2 W NQ.out.1 NQ.out.2.1 h)
            have LD := Lib.hid (fun (W : World) (h : SysAny w.heap.size W sh t' sd lm (k + 1) (8 * (k + 1)) (setK sd (mkL cs) (k + 1))) => tload_any h qx qz NQ.out.1 NQ.out.2.1 NQ.out.2.2)
            have A1 := Lib.hid (fun (W : World) (h : SysAt w.heap.size W sh t' sd lm (k + 1) (8 * (k + 1)) (setK sd (mkL cs) (k + 1)) (qx, qz)) => (show Calls Tryz.prog 7 #[.pointer (some ⟨sh, 0, none⟩), .string ((⟨#[97, 116, 32]⟩ : ByteArray) ++ bs (joinW (decs [E.x, E.y, E.z])))] W (Said w.heap.size (fun W => SysAt w.heap.size W sh t' sd lm (k + 1) (8 * (k + 1)) (setK sd (mkL cs) (k + 1)) (qx, qz)) (fun r => r = nmB v1) W) from by
              have h' := h
              rw [← hqx, ← hqz] at h' ⊢
              exact tat_any E.x E.y E.z v1 MX MZ ⟨by omega, by omega⟩ h' ((flat_law sd (mkL cs) NL _ _ _ hup.1 (k + 1)).trans hv1) V1.out))
            have A2 := Lib.hid (fun (W : World) (h : SysAt w.heap.size W sh t' sd lm (k + 1) (8 * (k + 1)) (setK sd (mkL cs) (k + 1)) (qx, qz)) => (show Calls Tryz.prog 7 #[.pointer (some ⟨sh, 0, none⟩), .string ((⟨#[97, 116, 32]⟩ : ByteArray) ++ bs (joinW (decs [E.x, E.y + 1, E.z])))] W (Said w.heap.size (fun W => SysAt w.heap.size W sh t' sd lm (k + 1) (8 * (k + 1)) (setK sd (mkL cs) (k + 1)) (qx, qz)) (fun r => r = nmB v2) W) from by
              have h' := h
              rw [← hqx, ← hqz] at h' ⊢
              exact tat_any E.x (E.y + 1) E.z v2 MX MZ ⟨by omega, by omega⟩ h' ((flat_law sd (mkL cs) NL _ _ _ (by omega) (k + 1)).trans hv2) V2.out))
            have C1 := Lib.hid (fun W => topcell_any E.x E.y E.z W (small17 (by have := MX.1; omega) (by have := MX.2; omega)) (small17 (by omega) (by omega)) (small17 (by have := MZ.1; omega) (by have := MZ.2; omega)))
            have C2 := Lib.hid (fun W => topcell_any E.x (E.y + 1) E.z W (small17 (by have := MX.1; omega) (by have := MX.2; omega)) (small17 (by omega) (by omega)) (small17 (by have := MZ.1; omega) (by have := MZ.2; omega)))
            have F1 := Lib.hid (fun W (h : FlRow w.heap.size W (.slice og17 (k + 1) cp17) ((mkL cs).take (k + 1))) => hv1 ▸ flat2_any sd E.x E.y E.z (.slice og17 (k + 1) cp17) cs (k + 1) w.heap.size W (by omega) (by omega) h fx fz hup.1 (by omega))
            have F2 := Lib.hid (fun W (h : FlRow w.heap.size W (.slice og17 (k + 1) cp17) ((mkL cs).take (k + 1))) => hv2 ▸ flat2_any sd E.x (E.y + 1) E.z (.slice og17 (k + 1) cp17) cs (k + 1) w.heap.size W (by omega) (by omega) h fx fz (by omega) (by omega))
            have N1 := Lib.hid (fun W => refname_any v1 V1.out W)
            have N2 := Lib.hid (fun W => refname_any v2 V2.out W)
            have wy : IntKind.i64.wrap (E.y + 1) = E.y + 1 := IntWalk.i64_in _ (by omega)
            have z2 : (bs (joinW (decs [qx, qz]))).size ≤ 40 := by rw [bs_size]; have := decs_len [qx, qz]; simpa using this
            have z3 : (bs (joinW (decs [E.x, E.y, E.z]))).size ≤ 60 := by rw [bs_size]; have := decs_len [E.x, E.y, E.z]; simpa using this
            have z4 : (bs (joinW (decs [E.x, E.y + 1, E.z]))).size ≤ 60 := by rw [bs_size]; have := decs_len [E.x, E.y + 1, E.z]; simpa using this
            have kk1 : ¬ 9223372036854775807 < 5 + (bs (joinW (decs [qx, qz]))).size := by omega
            have kk2 : ¬ 9223372036854775807 < 3 + (bs (joinW (decs [E.x, E.y, E.z]))).size := by omega
            have kk3 : ¬ 9223372036854775807 < 3 + (bs (joinW (decs [E.x, E.y + 1, E.z]))).size := by omega
            clear z2 z3 z4
            clear hqx hqz hv1 hv2 NL NB MX MZ
            go_wp2_with fail
            refine (GE.out w18).mono ?_
            rintro e19 w19 ⟨rfl, f, hw⟩
            have B19 := Lib.hid (show Below w18.heap.size w18 w19 by rw [hw]; exact ext_below w18 f)
            clear hw
            go_wp2_with fail
            have B20 := Lib.hid (B19.out.alloc B19.out.size (.cells #[.int .i64 E.x, .int .i64 E.y, .int .i64 E.z] 30))
            have X20 := Lib.hid (heap_alloc_new w19 (.cells #[.int .i64 E.x, .int .i64 E.y, .int .i64 E.z] 30))
            generalize w19.alloc (.cells #[.int .i64 E.x, .int .i64 E.y, .int .i64 E.z] 30) = w20 at *
            obtain ⟨bd, hbd⟩ : ∃ b, w19.heap.size = b := ⟨_, rfl⟩
            rw [hbd] at X20
            rw [hbd]
            clear hbd B19
            refine (CE.out w20).mono ?_
            rintro e21 w21 ⟨rfl, f, hw⟩
            have B21' := Lib.hid (show Below w20.heap.size w20 w21 by rw [hw]; exact ext_below w20 f)
            clear hw
            have B21 := Lib.hid (B20.out.trans (B21'.out.mono B20.out.size))
            have X21 := Lib.hid ((B21'.out.block bd (lt_of_block X20.out)).trans X20.out)
            have x0 := cell_of_block (i := 0) X21.out rfl
            have x1 := cell_of_block (i := 1) X21.out rfl
            have x2 := cell_of_block (i := 2) X21.out rfl
            haveI := in_of_cell x0
            clear B20 X20 B21'
            go_upto_region 26 with fail
            have B22 := Lib.hid (B21.out.trans ((((Below.refl w21.heap.size w21).alloc (Nat.le_refl _) (.cells #[.int .i64 qx, .int .i64 qz] 35)).alloc (by simp) (.cells #[.int .i64 E.x, .int .i64 (E.y + 1), .int .i64 E.z] 30)).mono B21.out.size))
            have P22 := Lib.hid (show ((w21.alloc (.cells #[.int .i64 qx, .int .i64 qz] 35)).alloc (.cells #[.int .i64 E.x, .int .i64 (E.y + 1), .int .i64 E.z] 30)).heap[w21.heap.size]? = some (.cells #[.int .i64 qx, .int .i64 qz] 35 (0, 0)) from by rw [heap_alloc_old _ _ (by simp)]; exact heap_alloc_new _ _)
            have U22 := Lib.hid (show ((w21.alloc (.cells #[.int .i64 qx, .int .i64 qz] 35)).alloc (.cells #[.int .i64 E.x, .int .i64 (E.y + 1), .int .i64 E.z] 30)).heap[w21.heap.size + 1]? = some (.cells #[.int .i64 E.x, .int .i64 (E.y + 1), .int .i64 E.z] 30 (0, 0)) from by have := heap_alloc_new (w21.alloc (.cells #[.int .i64 qx, .int .i64 qz] 35)) (.cells #[.int .i64 E.x, .int .i64 (E.y + 1), .int .i64 E.z] 30); rw [World.size_alloc] at this; exact this)
            have X22 := Lib.hid (show ((w21.alloc (.cells #[.int .i64 qx, .int .i64 qz] 35)).alloc (.cells #[.int .i64 E.x, .int .i64 (E.y + 1), .int .i64 E.z] 30)).heap[bd]? = some (.cells #[.int .i64 E.x, .int .i64 E.y, .int .i64 E.z] 30 (0, 0)) from by rw [heap_alloc_old _ _ (by have := lt_of_block X21.out; simp; omega), heap_alloc_old _ _ (lt_of_block X21.out)]; exact X21.out)
            generalize (w21.alloc (.cells #[.int .i64 qx, .int .i64 qz] 35)).alloc (.cells #[.int .i64 E.x, .int .i64 (E.y + 1), .int .i64 E.z] 30) = w22 at *
            obtain ⟨bq, hbq⟩ : ∃ b, w21.heap.size = b := ⟨_, rfl⟩
            rw [hbq] at P22 U22
            rw [hbq]
            clear hbq
            have Y22 := Lib.hid (And.intro X22.out (And.intro P22.out U22.out))
            have S22 := Lib.hid (S18.out.grown B22.out)
            have R22 := Lib.hid (R18.out.grown B22.out)
            have b22 := Lib.hid (b18.out.trans (B22.out.mono b18.out.size))
            clear x0 x1 x2 e0 e1 e2 X21 X22 P22 U22 B21 B22 S18 R18 b18 S17 R17 b17 GE CE
            have p0 := cell_of_block (i := 0) Y22.out.1 rfl; have p1 := cell_of_block (i := 1) Y22.out.1 rfl; have p2 := cell_of_block (i := 2) Y22.out.1 rfl; have p3 := cell_of_block (i := 0) Y22.out.2.1 rfl; have p4 := cell_of_block (i := 1) Y22.out.2.1 rfl; have p5 := cell_of_block (i := 0) Y22.out.2.2 rfl; have p6 := cell_of_block (i := 1) Y22.out.2.2 rfl; have p7 := cell_of_block (i := 2) Y22.out.2.2 rfl; haveI := in_of_cell p0; haveI := in_of_cell p3; haveI := in_of_cell p5
            go_region_held3 (fun w' => w'.cell? ⟨bd, 0, none⟩ = some (.int .i64 E.x) ∧ w'.cell? ⟨bd, 1, none⟩ = some (.int .i64 E.y) ∧ w'.cell? ⟨bd, 2, none⟩ = some (.int .i64 E.z) ∧ w'.cell? ⟨bq, 0, none⟩ = some (.int .i64 qx) ∧ w'.cell? ⟨bq, 1, none⟩ = some (.int .i64 qz) ∧ w'.cell? ⟨bq + 1, 0, none⟩ = some (.int .i64 E.x) ∧ w'.cell? ⟨bq + 1, 1, none⟩ = some (.int .i64 (E.y + 1)) ∧ w'.cell? ⟨bq + 1, 2, none⟩ = some (.int .i64 E.z))
              (((try dsimp only); refine ⟨?_, ?_, ?_, ?_, ?_, ?_, ?_, ?_⟩ <;> first | assumption | go_simp))
              (first
            | (go_at_call 11; refine (RW.out _ _ (by exact heap_alloc_new _ _)).mono ?_; rintro e w23 ⟨rfl, f, hw⟩; have hB : Below w22.heap.size w22 w23 := (by rw [hw]; exact grown_now); clear hw RW; have Y23 := Lib.hid (And.intro ((hB.block _ (lt_of_block Y22.out.1)).trans Y22.out.1) (And.intro ((hB.block _ (lt_of_block Y22.out.2.1)).trans Y22.out.2.1) ((hB.block _ (lt_of_block Y22.out.2.2)).trans Y22.out.2.2))); have S23 := Lib.hid (S22.out.grown hB); have R23 := Lib.hid (R22.out.grown hB); have b23 := Lib.hid (b22.out.trans (hB.mono b22.out.size)); clear hB S22 R22 b22 Y22 p0 p1 p2 p3 p4 p5 p6 p7; have p0 := cell_of_block (i := 0) Y23.out.1 rfl; have p1 := cell_of_block (i := 1) Y23.out.1 rfl; have p2 := cell_of_block (i := 2) Y23.out.1 rfl; have p3 := cell_of_block (i := 0) Y23.out.2.1 rfl; have p4 := cell_of_block (i := 1) Y23.out.2.1 rfl; have p5 := cell_of_block (i := 0) Y23.out.2.2 rfl; have p6 := cell_of_block (i := 1) Y23.out.2.2 rfl; have p7 := cell_of_block (i := 2) Y23.out.2.2 rfl; haveI := in_of_cell p0; haveI := in_of_cell p3; haveI := in_of_cell p5)
            | (go_at_call 7; refine (A2.out w29 S29.out).mono ?_; rintro e w30 ⟨⟨_, rfl, rfl⟩, hS, hT⟩; have Y30 := Lib.hid (And.intro ((hT.block _ (lt_of_block Y29.out.1) (lf_no Y29.out.1 (by decide))).trans Y29.out.1) (And.intro ((hT.block _ (lt_of_block Y29.out.2.1) (lf_no Y29.out.2.1 (by decide))).trans Y29.out.2.1) ((hT.block _ (lt_of_block Y29.out.2.2) (lf_no Y29.out.2.2 (by decide))).trans Y29.out.2.2))); have S30 := Lib.hid hS; have R30 := Lib.hid (R29.out.lf hT (fun _ _ _ hg => lf_no hg (by decide))); have b30 := Lib.hid (b29.out.trans (hT.below (fun i _ hi => Nat.le_of_not_lt (fun h => lf_low h hi)) b29.out.size)); clear hS hT S29 R29 b29 Y29 p0 p1 p2 p3 p4 p5 p6 p7; have p0 := cell_of_block (i := 0) Y30.out.1 rfl; have p1 := cell_of_block (i := 1) Y30.out.1 rfl; have p2 := cell_of_block (i := 2) Y30.out.1 rfl; have p3 := cell_of_block (i := 0) Y30.out.2.1 rfl; have p4 := cell_of_block (i := 1) Y30.out.2.1 rfl; have p5 := cell_of_block (i := 0) Y30.out.2.2 rfl; have p6 := cell_of_block (i := 1) Y30.out.2.2 rfl; have p7 := cell_of_block (i := 2) Y30.out.2.2 rfl; haveI := in_of_cell p0; haveI := in_of_cell p3; haveI := in_of_cell p5; clear A2)
            | (go_at_call 7; refine (A1.out w25 S25.out).mono ?_; rintro e w26 ⟨⟨_, rfl, rfl⟩, hS, hT⟩; have Y26 := Lib.hid (And.intro ((hT.block _ (lt_of_block Y25.out.1) (lf_no Y25.out.1 (by decide))).trans Y25.out.1) (And.intro ((hT.block _ (lt_of_block Y25.out.2.1) (lf_no Y25.out.2.1 (by decide))).trans Y25.out.2.1) ((hT.block _ (lt_of_block Y25.out.2.2) (lf_no Y25.out.2.2 (by decide))).trans Y25.out.2.2))); have S26 := Lib.hid hS; have R26 := Lib.hid (R25.out.lf hT (fun _ _ _ hg => lf_no hg (by decide))); have b26 := Lib.hid (b25.out.trans (hT.below (fun i _ hi => Nat.le_of_not_lt (fun h => lf_low h hi)) b25.out.size)); clear hS hT S25 R25 b25 Y25 p0 p1 p2 p3 p4 p5 p6 p7; have p0 := cell_of_block (i := 0) Y26.out.1 rfl; have p1 := cell_of_block (i := 1) Y26.out.1 rfl; have p2 := cell_of_block (i := 2) Y26.out.1 rfl; have p3 := cell_of_block (i := 0) Y26.out.2.1 rfl; have p4 := cell_of_block (i := 1) Y26.out.2.1 rfl; have p5 := cell_of_block (i := 0) Y26.out.2.2 rfl; have p6 := cell_of_block (i := 1) Y26.out.2.2 rfl; have p7 := cell_of_block (i := 2) Y26.out.2.2 rfl; haveI := in_of_cell p0; haveI := in_of_cell p3; haveI := in_of_cell p5; clear A1)
            | (go_at_call 7; refine (LD.out w23 S23.out).mono ?_; rintro e w24 ⟨⟨_, rfl, rfl⟩, hS, hT⟩; have Y24 := Lib.hid (And.intro ((hT.block _ (lt_of_block Y23.out.1) (lf_no Y23.out.1 (by decide))).trans Y23.out.1) (And.intro ((hT.block _ (lt_of_block Y23.out.2.1) (lf_no Y23.out.2.1 (by decide))).trans Y23.out.2.1) ((hT.block _ (lt_of_block Y23.out.2.2) (lf_no Y23.out.2.2 (by decide))).trans Y23.out.2.2))); have S24 := Lib.hid hS; have R24 := Lib.hid (R23.out.lf hT (fun _ _ _ hg => lf_no hg (by decide))); have b24 := Lib.hid (b23.out.trans (hT.below (fun i _ hi => Nat.le_of_not_lt (fun h => lf_low h hi)) b23.out.size)); clear hS hT S23 R23 b23 Y23 p0 p1 p2 p3 p4 p5 p6 p7; have p0 := cell_of_block (i := 0) Y24.out.1 rfl; have p1 := cell_of_block (i := 1) Y24.out.1 rfl; have p2 := cell_of_block (i := 2) Y24.out.1 rfl; have p3 := cell_of_block (i := 0) Y24.out.2.1 rfl; have p4 := cell_of_block (i := 1) Y24.out.2.1 rfl; have p5 := cell_of_block (i := 0) Y24.out.2.2 rfl; have p6 := cell_of_block (i := 1) Y24.out.2.2 rfl; have p7 := cell_of_block (i := 2) Y24.out.2.2 rfl; haveI := in_of_cell p0; haveI := in_of_cell p3; haveI := in_of_cell p5; clear LD)
            | (go_at_call 13; refine (C2.out w28).mono ?_; rintro e w29 ⟨rfl, f, hw⟩; have hB : Below w28.heap.size w28 w29 := (by rw [hw]; exact ext_below w28 f); clear hw; have Y29 := Lib.hid (And.intro ((hB.block _ (lt_of_block Y28.out.1)).trans Y28.out.1) (And.intro ((hB.block _ (lt_of_block Y28.out.2.1)).trans Y28.out.2.1) ((hB.block _ (lt_of_block Y28.out.2.2)).trans Y28.out.2.2))); have S29 := Lib.hid (S28.out.grown hB); have R29 := Lib.hid (R28.out.grown hB); have b29 := Lib.hid (b28.out.trans (hB.mono b28.out.size)); clear hB S28 R28 b28 Y28 p0 p1 p2 p3 p4 p5 p6 p7; have p0 := cell_of_block (i := 0) Y29.out.1 rfl; have p1 := cell_of_block (i := 1) Y29.out.1 rfl; have p2 := cell_of_block (i := 2) Y29.out.1 rfl; have p3 := cell_of_block (i := 0) Y29.out.2.1 rfl; have p4 := cell_of_block (i := 1) Y29.out.2.1 rfl; have p5 := cell_of_block (i := 0) Y29.out.2.2 rfl; have p6 := cell_of_block (i := 1) Y29.out.2.2 rfl; have p7 := cell_of_block (i := 2) Y29.out.2.2 rfl; haveI := in_of_cell p0; haveI := in_of_cell p3; haveI := in_of_cell p5)
            | (go_at_call 13; refine (C1.out w24).mono ?_; rintro e w25 ⟨rfl, f, hw⟩; have hB : Below w24.heap.size w24 w25 := (by rw [hw]; exact ext_below w24 f); clear hw; have Y25 := Lib.hid (And.intro ((hB.block _ (lt_of_block Y24.out.1)).trans Y24.out.1) (And.intro ((hB.block _ (lt_of_block Y24.out.2.1)).trans Y24.out.2.1) ((hB.block _ (lt_of_block Y24.out.2.2)).trans Y24.out.2.2))); have S25 := Lib.hid (S24.out.grown hB); have R25 := Lib.hid (R24.out.grown hB); have b25 := Lib.hid (b24.out.trans (hB.mono b24.out.size)); clear hB S24 R24 b24 Y24 p0 p1 p2 p3 p4 p5 p6 p7; have p0 := cell_of_block (i := 0) Y25.out.1 rfl; have p1 := cell_of_block (i := 1) Y25.out.1 rfl; have p2 := cell_of_block (i := 2) Y25.out.1 rfl; have p3 := cell_of_block (i := 0) Y25.out.2.1 rfl; have p4 := cell_of_block (i := 1) Y25.out.2.1 rfl; have p5 := cell_of_block (i := 0) Y25.out.2.2 rfl; have p6 := cell_of_block (i := 1) Y25.out.2.2 rfl; have p7 := cell_of_block (i := 2) Y25.out.2.2 rfl; haveI := in_of_cell p0; haveI := in_of_cell p3; haveI := in_of_cell p5)
            | (go_at_call 15; refine (F2.out w30 R30.out).mono ?_; rintro e w31 ⟨rfl, f, hw⟩; have hB : Below w30.heap.size w30 w31 := (by rw [hw]; exact ext_below w30 f); clear hw; have Y31 := Lib.hid (And.intro ((hB.block _ (lt_of_block Y30.out.1)).trans Y30.out.1) (And.intro ((hB.block _ (lt_of_block Y30.out.2.1)).trans Y30.out.2.1) ((hB.block _ (lt_of_block Y30.out.2.2)).trans Y30.out.2.2))); have S31 := Lib.hid (S30.out.grown hB); have R31 := Lib.hid (R30.out.grown hB); have b31 := Lib.hid (b30.out.trans (hB.mono b30.out.size)); clear hB S30 R30 b30 Y30 p0 p1 p2 p3 p4 p5 p6 p7; have p0 := cell_of_block (i := 0) Y31.out.1 rfl; have p1 := cell_of_block (i := 1) Y31.out.1 rfl; have p2 := cell_of_block (i := 2) Y31.out.1 rfl; have p3 := cell_of_block (i := 0) Y31.out.2.1 rfl; have p4 := cell_of_block (i := 1) Y31.out.2.1 rfl; have p5 := cell_of_block (i := 0) Y31.out.2.2 rfl; have p6 := cell_of_block (i := 1) Y31.out.2.2 rfl; have p7 := cell_of_block (i := 2) Y31.out.2.2 rfl; haveI := in_of_cell p0; haveI := in_of_cell p3; haveI := in_of_cell p5)
            | (go_at_call 15; refine (F1.out w26 R26.out).mono ?_; rintro e w27 ⟨rfl, f, hw⟩; have hB : Below w26.heap.size w26 w27 := (by rw [hw]; exact ext_below w26 f); clear hw; have Y27 := Lib.hid (And.intro ((hB.block _ (lt_of_block Y26.out.1)).trans Y26.out.1) (And.intro ((hB.block _ (lt_of_block Y26.out.2.1)).trans Y26.out.2.1) ((hB.block _ (lt_of_block Y26.out.2.2)).trans Y26.out.2.2))); have S27 := Lib.hid (S26.out.grown hB); have R27 := Lib.hid (R26.out.grown hB); have b27 := Lib.hid (b26.out.trans (hB.mono b26.out.size)); clear hB S26 R26 b26 Y26 p0 p1 p2 p3 p4 p5 p6 p7; have p0 := cell_of_block (i := 0) Y27.out.1 rfl; have p1 := cell_of_block (i := 1) Y27.out.1 rfl; have p2 := cell_of_block (i := 2) Y27.out.1 rfl; have p3 := cell_of_block (i := 0) Y27.out.2.1 rfl; have p4 := cell_of_block (i := 1) Y27.out.2.1 rfl; have p5 := cell_of_block (i := 0) Y27.out.2.2 rfl; have p6 := cell_of_block (i := 1) Y27.out.2.2 rfl; have p7 := cell_of_block (i := 2) Y27.out.2.2 rfl; haveI := in_of_cell p0; haveI := in_of_cell p3; haveI := in_of_cell p5)
            | (go_at_call 14; refine (N2.out w31).mono ?_; rintro e w32 ⟨rfl, f, hw⟩; have hB : Below w31.heap.size w31 w32 := (by rw [hw]; exact ext_below w31 f); clear hw; have Y32 := Lib.hid (And.intro ((hB.block _ (lt_of_block Y31.out.1)).trans Y31.out.1) (And.intro ((hB.block _ (lt_of_block Y31.out.2.1)).trans Y31.out.2.1) ((hB.block _ (lt_of_block Y31.out.2.2)).trans Y31.out.2.2))); have S32 := Lib.hid (S31.out.grown hB); have R32 := Lib.hid (R31.out.grown hB); have b32 := Lib.hid (b31.out.trans (hB.mono b31.out.size)); clear hB S31 R31 b31 Y31 p0 p1 p2 p3 p4 p5 p6 p7; have p0 := cell_of_block (i := 0) Y32.out.1 rfl; have p1 := cell_of_block (i := 1) Y32.out.1 rfl; have p2 := cell_of_block (i := 2) Y32.out.1 rfl; have p3 := cell_of_block (i := 0) Y32.out.2.1 rfl; have p4 := cell_of_block (i := 1) Y32.out.2.1 rfl; have p5 := cell_of_block (i := 0) Y32.out.2.2 rfl; have p6 := cell_of_block (i := 1) Y32.out.2.2 rfl; have p7 := cell_of_block (i := 2) Y32.out.2.2 rfl; haveI := in_of_cell p0; haveI := in_of_cell p3; haveI := in_of_cell p5)
            | (go_at_call 14; refine (N1.out w27).mono ?_; rintro e w28 ⟨rfl, f, hw⟩; have hB : Below w27.heap.size w27 w28 := (by rw [hw]; exact ext_below w27 f); clear hw; have Y28 := Lib.hid (And.intro ((hB.block _ (lt_of_block Y27.out.1)).trans Y27.out.1) (And.intro ((hB.block _ (lt_of_block Y27.out.2.1)).trans Y27.out.2.1) ((hB.block _ (lt_of_block Y27.out.2.2)).trans Y27.out.2.2))); have S28 := Lib.hid (S27.out.grown hB); have R28 := Lib.hid (R27.out.grown hB); have b28 := Lib.hid (b27.out.trans (hB.mono b27.out.size)); clear hB S27 R27 b27 Y27 p0 p1 p2 p3 p4 p5 p6 p7; have p0 := cell_of_block (i := 0) Y28.out.1 rfl; have p1 := cell_of_block (i := 1) Y28.out.1 rfl; have p2 := cell_of_block (i := 2) Y28.out.1 rfl; have p3 := cell_of_block (i := 0) Y28.out.2.1 rfl; have p4 := cell_of_block (i := 1) Y28.out.2.1 rfl; have p5 := cell_of_block (i := 0) Y28.out.2.2 rfl; have p6 := cell_of_block (i := 1) Y28.out.2.2 rfl; have p7 := cell_of_block (i := 2) Y28.out.2.2 rfl; haveI := in_of_cell p0; haveI := in_of_cell p3; haveI := in_of_cell p5))
            all_goals
              go_wp2_with fail
              go_roundw
              case rel => exact ⟨j + 1, by omega, by go_num, S32.out.any, R32, b32⟩
              case measure => simp [intOf]; omega
          · have j1 : ¬ (j : Int) ≤ (k : Int) := by omega
            clear S17 R17 b17
            go_wp2_with fail
            go_roundw
            case rel => exact ⟨k + 1, by omega, by omega, by go_num, S18, R18, b18⟩
            case measure => simp [intOf]; omega
      · have q1 : ¬ (k : Int) < (ws.length : Int) := by omega
        rename World => w12
        have S12 := S10
        have R12 := R10
        have X12 := X10
        have b12 := b10
        clear S10 R10 X10 b10
        obtain ⟨hgw, hlt, hlt15, d0, d1, d2, d3⟩ := HD.out
        have e3 := (b12.out.cell (p := ⟨g, fo + k * 4 + 3, none⟩) hgw).trans d3
        have x0 := cell_of_block (i := 0) X12.out rfl
        have x1 := cell_of_block (i := 1) X12.out rfl
        have x2 := cell_of_block (i := 2) X12.out rfl
        haveI := in_of_cell e3
        haveI := in_of_cell x0
        clear d0 d1 d2 d3
        go_wp2_with (go_at_call 12; refine (GB.out _).mono ?_; rintro e w1 ⟨rfl, rfl⟩)
        refine (tload_any S12.out px pz NP.out.1 NP.out.2.1 NP.out.2.2).mono ?_
        rintro e13 w13 ⟨⟨_, rfl, rfl⟩, hS13, hT13⟩
        have S13 := Lib.hid hS13
        have R13 := Lib.hid (R12.out.lf hT13 (fun _ _ _ hg => lf_no hg (by decide)))
        have X13 := Lib.hid ((hT13.block bx (lt_of_block X12.out) (lf_no X12.out (by decide))).trans X12.out)
        have b13 := Lib.hid (b12.out.trans (hT13.below (fun i _ hi => Nat.le_of_not_lt (fun h => lf_low h hi)) b12.out.size))
        clear hS13 hT13 S12 R12 X12 b12 e3 x0 x1 x2 GB
        have x0 := cell_of_block (i := 0) X13.out rfl
        have x1 := cell_of_block (i := 1) X13.out rfl
        have x2 := cell_of_block (i := 2) X13.out rfl
        haveI := in_of_cell x0
        have nok := ok_list
        go_wp2_with fail
        refine (topcell_any D.x D.y D.z w13 (small17 (by have := ND.out.x0; omega) (by have := ND.out.x1; omega)) (small17 (by have := ND.out.y0; omega) (by have := ND.out.y1; omega)) (small17 (by have := ND.out.z0; omega) (by have := ND.out.z1; omega))).mono ?_
        rintro e14 w14 ⟨rfl, f, hw⟩
        have B14 := Lib.hid (show Below w13.heap.size w13 w14 by rw [hw]; exact ext_below w13 f)
        clear hw
        have y1 : (bs (joinW (decs [D.x, D.y, D.z]))).size ≤ 60 := by rw [bs_size]; have := decs_len [D.x, D.y, D.z]; simpa using this
        have y2 : ((⟨#[101, 100, 105, 116, 32]⟩ : ByteArray) ++ bs (joinW (decs [D.x, D.y, D.z]))).size ≤ 65 := by rw [ByteArray.size_append]; exact Nat.add_le_add (Nat.le_refl 5) y1
        have y3 : (((⟨#[101, 100, 105, 116, 32]⟩ : ByteArray) ++ bs (joinW (decs [D.x, D.y, D.z]))) ++ (⟨#[32]⟩ : ByteArray)).size ≤ 66 := by rw [ByteArray.size_append]; exact Nat.add_le_add y2 (Nat.le_refl 1)
        have y4 : (nmB D.b).size ≤ 1000000 := nmB_size ND.out.b.lo ND.out.b.hi
        go_wp2_with fail
        refine (refname_any D.b ND.out.b w14).mono ?_
        rintro e15 w15 ⟨rfl, f, hw⟩
        have B15' := Lib.hid (show Below w14.heap.size w14 w15 by rw [hw]; exact ext_below w14 f)
        clear hw
        have B15 := Lib.hid (B14.out.trans (B15'.out.mono B14.out.size))
        have S15 := Lib.hid (show SysAt w.heap.size w15 sh t' sd lm k (8 * k) (setK sd (mkL cs) k) (divS D.x 16, divS D.z 16) from by rw [HP.out.1, HP.out.2]; exact S13.out.grown B15.out)
        have R15 := Lib.hid (R13.out.grown B15.out)
        have X15 := Lib.hid ((B15.out.block bx (lt_of_block X13.out)).trans X13.out)
        have b15 := Lib.hid (b13.out.trans (B15.out.mono b13.out.size))
        clear S13 R13 X13 b13 B14 B15 B15' x0 x1 x2
        go_wp2_with fail
        refine (tedit_any D ND.out S15.out (by omega) (by omega)).mono ?_
        rintro e16 w16 ⟨⟨_, rfl, rfl⟩, hS16, hT16⟩
        have S16 := Lib.hid (show SysAny w.heap.size w16 sh t' sd lm (k + 1) (8 * (k + 1)) (setK sd (mkL cs) (k + 1)) from by rw [setK_succ HK.out]; exact hS16)
        have R16 := Lib.hid (R15.out.lf hT16 (fun _ _ _ hg => lf_no hg (by decide)))
        have X16 := Lib.hid ((hT16.block bx (lt_of_block X15.out) (lf_no X15.out (by decide))).trans X15.out)
        have b16 := Lib.hid (b15.out.trans (hT16.below (fun i _ hi => Nat.le_of_not_lt (fun h => lf_low h hi)) b15.out.size))
        clear hS16 hT16 S15 R15 X15 b15 y1 y2 y3 y4
        have x0 := cell_of_block (i := 0) X16.out rfl
        have x1 := cell_of_block (i := 1) X16.out rfl
        have x2 := cell_of_block (i := 2) X16.out rfl
        haveI := in_of_cell x0
        obtain ⟨i0, iz0, iz1, iz2, iz3⟩ := info_parts flInfo
        have LK := Lib.hid (show ((mkL cs).take k).length = k by rw [List.length_take, mkL_len]; omega)
        have Q16 := Lib.hid (show w16.ownsRow w.heap.size 33 4 u10 k (flV ((mkL cs).take k)) from by have h := R16.out; unfold FlRow at h; rw [LK.out] at h; exact h)
        have HF := Lib.hid (show flV ((mkL cs).take (k + 1)) = flV ((mkL cs).take k) ++ [.int .i64 D.x, .int .i64 D.y, .int .i64 D.z, .int .i64 D.b] from by rw [List.take_add_one, HK.out]; exact flV_snoc _ _)
        clear R16
        generalize flV ((mkL cs).take k) = fv at *
        obtain ⟨og, cp, rfl⟩ := owns_form Q16.out
        go_wp2_with (at_builtin; refine wpList_append_own _ rfl (.tmp 104) (.tmp 108) 22 rfl w.heap.size 33 i0 _ 4 32 Tryz.underlying22 iz0 iz1 iz2 iz3 rfl (by omega) _ _ _ rfl (Q16.out.alloc _) _ 1 1 [.int .i64 D.x, .int .i64 D.y, .int .i64 D.z, .int .i64 D.b] rfl rfl (World.news_of_block (heap_alloc_new w16 _)) (by simp [Value.oneCell']) (by unfold maxLen; omega) (by omega) (by have := b16.out.size; simp; omega) ?_; intro v17 w17 hown17 hgrow17 _)
        have R17 := Lib.hid (show FlRow w.heap.size w17 v17 ((mkL cs).take (k + 1)) from by
          have hl : ((mkL cs).take (k + 1)).length = k + 1 := by rw [List.length_take, mkL_len]; omega
          unfold FlRow
          rw [hl, HF.out]
          exact hown17)
        have b17 := Lib.hid ((b16.out.alloc b16.out.size _).grown hgrow17 (by have := b16.out.size; simp; omega) (fun q hq => (Q16.out.lt q hq).1))
        have S17 := Lib.hid (S16.out.turn (turn_append (Below.refl _ w16) hgrow17) (aside_row Q16.out))
        obtain ⟨og17, cp17, rfl⟩ := owns_form hown17
        clear hown17 hgrow17 S16 Q16 X16 b16 x0 x1 x2 HF iz0 iz1 iz2 iz3 LK fv
        go_wp2_with fail
        go_loopw [17] (fun s17 wr => ∃ j : Nat, j ≤ k + 1 ∧ s17 = .int .i64 (j : Int) ∧ Hid (SysAny w.heap.size wr sh t' sd lm (k + 1) (8 * (k + 1)) (setK sd (mkL cs) (k + 1))) ∧ Hid (FlRow w.heap.size wr (.slice og17 (k + 1) cp17) ((mkL cs).take (k + 1))) ∧ Hid (Below w.heap.size w wr)) (fun s17 _ => k + 1 - (intOf s17).toNat)
        case atStart => exact ⟨0, by omega, rfl, S17, R17, b17⟩
        case round =>
          obtain ⟨j, hj, rfl, S18, R18, b18⟩ := hrel
          rename World => w18
          have j0 : (0 : Int) ≤ (j : Int) := Int.natCast_nonneg _
          by_cases hjk : j < k + 1
          · have j1 : (j : Int) ≤ (k : Int) := by omega
            have j2 : (j : Int) < (cs.length : Int) := by omega
            have hjc : j < cs.length := by omega
            obtain ⟨g2, fo2, hgo2, d0, d1, d2, _⟩ := HL.out.at j hjc
            injection hgo2 with hgo2
            injection hgo2 with hg2 hfo2
            subst hg2 hfo2
            obtain ⟨fa, fb, fc, _⟩ := HL.out.fit cs[j] (List.getElem_mem hjc)
            have e0 := (b18.out.cell (p := ⟨g, fo + j * 4, none⟩) hgw).trans d0
            have e1 := (b18.out.cell (p := ⟨g, fo + j * 4 + 1, none⟩) hgw).trans d1
            have e2 := (b18.out.cell (p := ⟨g, fo + j * 4 + 2, none⟩) hgw).trans d2
            haveI := in_of_cell e0
            obtain ⟨E, hE⟩ : ∃ E, gdC cs[j] = E := ⟨_, rfl⟩
            have NE := Lib.hid (show Nice E from hE ▸ gdC_nice cs[j])
            have GE := Lib.hid (fun W => (show Calls Tryz.prog 9 #[.agg #[.int .i64 cs[j].1, .int .i64 cs[j].2.1, .int .i64 cs[j].2.2.1], .int .i64 20] W fun e w' => e = .returned (.agg #[.int .i64 E.x, .int .i64 E.y, .int .i64 E.z]) ∧ ∃ f, w' = ext W f from by rw [← hE]; exact good_any cs[j].1 cs[j].2.1 cs[j].2.2.1 20 W fa fb fc (by omega) (by omega)))
            clear hE fa fb fc d0 d1 d2
            generalize cs[j].1 = ja at *
            generalize cs[j].2.1 = jb at *
            generalize cs[j].2.2.1 = jc at *
            obtain ⟨qx, hqx⟩ : ∃ qx, divS E.x 16 = qx := ⟨_, rfl⟩
            obtain ⟨qz, hqz⟩ : ∃ qz, divS E.z 16 = qz := ⟨_, rfl⟩
            have fx : Fit E.x := ⟨by have := NE.out.x0; omega, by have := NE.out.x1; omega⟩
            have fz : Fit E.z := ⟨by have := NE.out.z0; omega, by have := NE.out.z1; omega⟩
            have CE := Lib.hid (fun W => (show Calls Tryz.prog 10 #[.agg #[.int .i64 E.x, .int .i64 E.y, .int .i64 E.z]] W fun e w' => e = .returned (.agg #[.int .i64 qx, .int .i64 qz]) ∧ ∃ f, w' = ext W f from by rw [← hqx, ← hqz]; exact refchunk_any E.x E.y E.z W fx fz))
            have NQ := Lib.hid (show Num qx ∧ Num qz ∧ Close (qx, qz) from by
              have h0 := NE.out.x0; have h1 := NE.out.x1; have h2 := NE.out.z0; have h3 := NE.out.z1
              rw [div16] at hqx hqz
              exact ⟨⟨by omega, by omega⟩, ⟨by omega, by omega⟩, ⟨by dsimp only; omega, by dsimp only; omega, by dsimp only; omega, by dsimp only; omega⟩⟩)
            have hup : 0 ≤ E.y ∧ E.y ≤ 31 := ⟨NE.out.y0, NE.out.y1⟩
            have MX : Mid E.x := ⟨by have := NE.out.x0; omega, by have := NE.out.x1; omega⟩
            have MZ : Mid E.z := ⟨by have := NE.out.z0; omega, by have := NE.out.z1; omega⟩
            obtain ⟨v1, hv1⟩ : ∃ v, flatS sd (mkL cs) E.x E.y E.z (k + 1) = v := ⟨_, rfl⟩
            obtain ⟨v2, hv2⟩ : ∃ v, flatS sd (mkL cs) E.x (E.y + 1) E.z (k + 1) = v := ⟨_, rfl⟩
            have NL : ∀ d ∈ mkL cs, 0 ≤ d.y ∧ d.y ≤ 31 := fun d hd => ⟨(mkL_nice hd).y0, (mkL_nice hd).y1⟩
            have NB : ∀ d ∈ mkL cs, GoodB d.b := fun d hd => (mkL_nice hd).b
            have V1 := Lib.hid (show GoodB v1 from hv1 ▸ flatS_good sd (mkL cs) NB E.x E.y E.z (k + 1))
            have V2 := Lib.hid (show GoodB v2 from hv2 ▸ flatS_good sd (mkL cs) NB E.x (E.y + 1) E.z (k + 1))
            have RW := Lib.hid (fun (W : World) (b : Nat) (h : W.heap[b]? = some (.cells #[.int .i64 qx, .int .i64 qz] 3 (0, 0))) => row2_any qx qz b 2 W NQ.out.1 NQ.out.2.1 h)
            have LD := Lib.hid (fun (W : World) (h : SysAny w.heap.size W sh t' sd lm (k + 1) (8 * (k + 1)) (setK sd (mkL cs) (k + 1))) => tload_any h qx qz NQ.out.1 NQ.out.2.1 NQ.out.2.2)
            have A1 := Lib.hid (fun (W : World) (h : SysAt w.heap.size W sh t' sd lm (k + 1) (8 * (k + 1)) (setK sd (mkL cs) (k + 1)) (qx, qz)) => (show Calls Tryz.prog 7 #[.pointer (some ⟨sh, 0, none⟩), .string ((⟨#[97, 116, 32]⟩ : ByteArray) ++ bs (joinW (decs [E.x, E.y, E.z])))] W (Said w.heap.size (fun W => SysAt w.heap.size W sh t' sd lm (k + 1) (8 * (k + 1)) (setK sd (mkL cs) (k + 1)) (qx, qz)) (fun r => r = nmB v1) W) from by
              have h' := h
              rw [← hqx, ← hqz] at h' ⊢
              exact tat_any E.x E.y E.z v1 MX MZ ⟨by omega, by omega⟩ h' ((flat_law sd (mkL cs) NL _ _ _ hup.1 (k + 1)).trans hv1) V1.out))
            have A2 := Lib.hid (fun (W : World) (h : SysAt w.heap.size W sh t' sd lm (k + 1) (8 * (k + 1)) (setK sd (mkL cs) (k + 1)) (qx, qz)) => (show Calls Tryz.prog 7 #[.pointer (some ⟨sh, 0, none⟩), .string ((⟨#[97, 116, 32]⟩ : ByteArray) ++ bs (joinW (decs [E.x, E.y + 1, E.z])))] W (Said w.heap.size (fun W => SysAt w.heap.size W sh t' sd lm (k + 1) (8 * (k + 1)) (setK sd (mkL cs) (k + 1)) (qx, qz)) (fun r => r = nmB v2) W) from by
              have h' := h
              rw [← hqx, ← hqz] at h' ⊢
              exact tat_any E.x (E.y + 1) E.z v2 MX MZ ⟨by omega, by omega⟩ h' ((flat_law sd (mkL cs) NL _ _ _ (by omega) (k + 1)).trans hv2) V2.out))
            have C1 := Lib.hid (fun W => topcell_any E.x E.y E.z W (small17 (by have := MX.1; omega) (by have := MX.2; omega)) (small17 (by omega) (by omega)) (small17 (by have := MZ.1; omega) (by have := MZ.2; omega)))
            have C2 := Lib.hid (fun W => topcell_any E.x (E.y + 1) E.z W (small17 (by have := MX.1; omega) (by have := MX.2; omega)) (small17 (by omega) (by omega)) (small17 (by have := MZ.1; omega) (by have := MZ.2; omega)))
            have F1 := Lib.hid (fun W (h : FlRow w.heap.size W (.slice og17 (k + 1) cp17) ((mkL cs).take (k + 1))) => hv1 ▸ flat2_any sd E.x E.y E.z (.slice og17 (k + 1) cp17) cs (k + 1) w.heap.size W (by omega) (by omega) h fx fz hup.1 (by omega))
            have F2 := Lib.hid (fun W (h : FlRow w.heap.size W (.slice og17 (k + 1) cp17) ((mkL cs).take (k + 1))) => hv2 ▸ flat2_any sd E.x (E.y + 1) E.z (.slice og17 (k + 1) cp17) cs (k + 1) w.heap.size W (by omega) (by omega) h fx fz (by omega) (by omega))
            have N1 := Lib.hid (fun W => refname_any v1 V1.out W)
            have N2 := Lib.hid (fun W => refname_any v2 V2.out W)
            have wy : IntKind.i64.wrap (E.y + 1) = E.y + 1 := IntWalk.i64_in _ (by omega)
            have z2 : (bs (joinW (decs [qx, qz]))).size ≤ 40 := by rw [bs_size]; have := decs_len [qx, qz]; simpa using this
            have z3 : (bs (joinW (decs [E.x, E.y, E.z]))).size ≤ 60 := by rw [bs_size]; have := decs_len [E.x, E.y, E.z]; simpa using this
            have z4 : (bs (joinW (decs [E.x, E.y + 1, E.z]))).size ≤ 60 := by rw [bs_size]; have := decs_len [E.x, E.y + 1, E.z]; simpa using this
            have kk1 : ¬ 9223372036854775807 < 5 + (bs (joinW (decs [qx, qz]))).size := by omega
            have kk2 : ¬ 9223372036854775807 < 3 + (bs (joinW (decs [E.x, E.y, E.z]))).size := by omega
            have kk3 : ¬ 9223372036854775807 < 3 + (bs (joinW (decs [E.x, E.y + 1, E.z]))).size := by omega
            clear z2 z3 z4
            clear hqx hqz hv1 hv2 NL NB MX MZ
            go_wp2_with fail
            refine (GE.out w18).mono ?_
            rintro e19 w19 ⟨rfl, f, hw⟩
            have B19 := Lib.hid (show Below w18.heap.size w18 w19 by rw [hw]; exact ext_below w18 f)
            clear hw
            go_wp2_with fail
            have B20 := Lib.hid (B19.out.alloc B19.out.size (.cells #[.int .i64 E.x, .int .i64 E.y, .int .i64 E.z] 30))
            have X20 := Lib.hid (heap_alloc_new w19 (.cells #[.int .i64 E.x, .int .i64 E.y, .int .i64 E.z] 30))
            generalize w19.alloc (.cells #[.int .i64 E.x, .int .i64 E.y, .int .i64 E.z] 30) = w20 at *
            obtain ⟨bd, hbd⟩ : ∃ b, w19.heap.size = b := ⟨_, rfl⟩
            rw [hbd] at X20
            rw [hbd]
            clear hbd B19
            refine (CE.out w20).mono ?_
            rintro e21 w21 ⟨rfl, f, hw⟩
            have B21' := Lib.hid (show Below w20.heap.size w20 w21 by rw [hw]; exact ext_below w20 f)
            clear hw
            have B21 := Lib.hid (B20.out.trans (B21'.out.mono B20.out.size))
            have X21 := Lib.hid ((B21'.out.block bd (lt_of_block X20.out)).trans X20.out)
            have x0 := cell_of_block (i := 0) X21.out rfl
            have x1 := cell_of_block (i := 1) X21.out rfl
            have x2 := cell_of_block (i := 2) X21.out rfl
            haveI := in_of_cell x0
            clear B20 X20 B21'
            go_upto_region 26 with fail
            have B22 := Lib.hid (B21.out.trans ((((Below.refl w21.heap.size w21).alloc (Nat.le_refl _) (.cells #[.int .i64 qx, .int .i64 qz] 35)).alloc (by simp) (.cells #[.int .i64 E.x, .int .i64 (E.y + 1), .int .i64 E.z] 30)).mono B21.out.size))
            have P22 := Lib.hid (show ((w21.alloc (.cells #[.int .i64 qx, .int .i64 qz] 35)).alloc (.cells #[.int .i64 E.x, .int .i64 (E.y + 1), .int .i64 E.z] 30)).heap[w21.heap.size]? = some (.cells #[.int .i64 qx, .int .i64 qz] 35 (0, 0)) from by rw [heap_alloc_old _ _ (by simp)]; exact heap_alloc_new _ _)
            have U22 := Lib.hid (show ((w21.alloc (.cells #[.int .i64 qx, .int .i64 qz] 35)).alloc (.cells #[.int .i64 E.x, .int .i64 (E.y + 1), .int .i64 E.z] 30)).heap[w21.heap.size + 1]? = some (.cells #[.int .i64 E.x, .int .i64 (E.y + 1), .int .i64 E.z] 30 (0, 0)) from by have := heap_alloc_new (w21.alloc (.cells #[.int .i64 qx, .int .i64 qz] 35)) (.cells #[.int .i64 E.x, .int .i64 (E.y + 1), .int .i64 E.z] 30); rw [World.size_alloc] at this; exact this)
            have X22 := Lib.hid (show ((w21.alloc (.cells #[.int .i64 qx, .int .i64 qz] 35)).alloc (.cells #[.int .i64 E.x, .int .i64 (E.y + 1), .int .i64 E.z] 30)).heap[bd]? = some (.cells #[.int .i64 E.x, .int .i64 E.y, .int .i64 E.z] 30 (0, 0)) from by rw [heap_alloc_old _ _ (by have := lt_of_block X21.out; simp; omega), heap_alloc_old _ _ (lt_of_block X21.out)]; exact X21.out)
            generalize (w21.alloc (.cells #[.int .i64 qx, .int .i64 qz] 35)).alloc (.cells #[.int .i64 E.x, .int .i64 (E.y + 1), .int .i64 E.z] 30) = w22 at *
            obtain ⟨bq, hbq⟩ : ∃ b, w21.heap.size = b := ⟨_, rfl⟩
            rw [hbq] at P22 U22
            rw [hbq]
            clear hbq
            have Y22 := Lib.hid (And.intro X22.out (And.intro P22.out U22.out))
            have S22 := Lib.hid (S18.out.grown B22.out)
            have R22 := Lib.hid (R18.out.grown B22.out)
            have b22 := Lib.hid (b18.out.trans (B22.out.mono b18.out.size))
            clear x0 x1 x2 e0 e1 e2 X21 X22 P22 U22 B21 B22 S18 R18 b18 S17 R17 b17 GE CE
            have p0 := cell_of_block (i := 0) Y22.out.1 rfl; have p1 := cell_of_block (i := 1) Y22.out.1 rfl; have p2 := cell_of_block (i := 2) Y22.out.1 rfl; have p3 := cell_of_block (i := 0) Y22.out.2.1 rfl; have p4 := cell_of_block (i := 1) Y22.out.2.1 rfl; have p5 := cell_of_block (i := 0) Y22.out.2.2 rfl; have p6 := cell_of_block (i := 1) Y22.out.2.2 rfl; have p7 := cell_of_block (i := 2) Y22.out.2.2 rfl; haveI := in_of_cell p0; haveI := in_of_cell p3; haveI := in_of_cell p5
            go_region_held3 (fun w' => w'.cell? ⟨bd, 0, none⟩ = some (.int .i64 E.x) ∧ w'.cell? ⟨bd, 1, none⟩ = some (.int .i64 E.y) ∧ w'.cell? ⟨bd, 2, none⟩ = some (.int .i64 E.z) ∧ w'.cell? ⟨bq, 0, none⟩ = some (.int .i64 qx) ∧ w'.cell? ⟨bq, 1, none⟩ = some (.int .i64 qz) ∧ w'.cell? ⟨bq + 1, 0, none⟩ = some (.int .i64 E.x) ∧ w'.cell? ⟨bq + 1, 1, none⟩ = some (.int .i64 (E.y + 1)) ∧ w'.cell? ⟨bq + 1, 2, none⟩ = some (.int .i64 E.z))
              (((try dsimp only); refine ⟨?_, ?_, ?_, ?_, ?_, ?_, ?_, ?_⟩ <;> first | assumption | go_simp))
              (first
            | (go_at_call 11; refine (RW.out _ _ (by exact heap_alloc_new _ _)).mono ?_; rintro e w23 ⟨rfl, f, hw⟩; have hB : Below w22.heap.size w22 w23 := (by rw [hw]; exact grown_now); clear hw RW; have Y23 := Lib.hid (And.intro ((hB.block _ (lt_of_block Y22.out.1)).trans Y22.out.1) (And.intro ((hB.block _ (lt_of_block Y22.out.2.1)).trans Y22.out.2.1) ((hB.block _ (lt_of_block Y22.out.2.2)).trans Y22.out.2.2))); have S23 := Lib.hid (S22.out.grown hB); have R23 := Lib.hid (R22.out.grown hB); have b23 := Lib.hid (b22.out.trans (hB.mono b22.out.size)); clear hB S22 R22 b22 Y22 p0 p1 p2 p3 p4 p5 p6 p7; have p0 := cell_of_block (i := 0) Y23.out.1 rfl; have p1 := cell_of_block (i := 1) Y23.out.1 rfl; have p2 := cell_of_block (i := 2) Y23.out.1 rfl; have p3 := cell_of_block (i := 0) Y23.out.2.1 rfl; have p4 := cell_of_block (i := 1) Y23.out.2.1 rfl; have p5 := cell_of_block (i := 0) Y23.out.2.2 rfl; have p6 := cell_of_block (i := 1) Y23.out.2.2 rfl; have p7 := cell_of_block (i := 2) Y23.out.2.2 rfl; haveI := in_of_cell p0; haveI := in_of_cell p3; haveI := in_of_cell p5)
            | (go_at_call 7; refine (A2.out w29 S29.out).mono ?_; rintro e w30 ⟨⟨_, rfl, rfl⟩, hS, hT⟩; have Y30 := Lib.hid (And.intro ((hT.block _ (lt_of_block Y29.out.1) (lf_no Y29.out.1 (by decide))).trans Y29.out.1) (And.intro ((hT.block _ (lt_of_block Y29.out.2.1) (lf_no Y29.out.2.1 (by decide))).trans Y29.out.2.1) ((hT.block _ (lt_of_block Y29.out.2.2) (lf_no Y29.out.2.2 (by decide))).trans Y29.out.2.2))); have S30 := Lib.hid hS; have R30 := Lib.hid (R29.out.lf hT (fun _ _ _ hg => lf_no hg (by decide))); have b30 := Lib.hid (b29.out.trans (hT.below (fun i _ hi => Nat.le_of_not_lt (fun h => lf_low h hi)) b29.out.size)); clear hS hT S29 R29 b29 Y29 p0 p1 p2 p3 p4 p5 p6 p7; have p0 := cell_of_block (i := 0) Y30.out.1 rfl; have p1 := cell_of_block (i := 1) Y30.out.1 rfl; have p2 := cell_of_block (i := 2) Y30.out.1 rfl; have p3 := cell_of_block (i := 0) Y30.out.2.1 rfl; have p4 := cell_of_block (i := 1) Y30.out.2.1 rfl; have p5 := cell_of_block (i := 0) Y30.out.2.2 rfl; have p6 := cell_of_block (i := 1) Y30.out.2.2 rfl; have p7 := cell_of_block (i := 2) Y30.out.2.2 rfl; haveI := in_of_cell p0; haveI := in_of_cell p3; haveI := in_of_cell p5; clear A2)
            | (go_at_call 7; refine (A1.out w25 S25.out).mono ?_; rintro e w26 ⟨⟨_, rfl, rfl⟩, hS, hT⟩; have Y26 := Lib.hid (And.intro ((hT.block _ (lt_of_block Y25.out.1) (lf_no Y25.out.1 (by decide))).trans Y25.out.1) (And.intro ((hT.block _ (lt_of_block Y25.out.2.1) (lf_no Y25.out.2.1 (by decide))).trans Y25.out.2.1) ((hT.block _ (lt_of_block Y25.out.2.2) (lf_no Y25.out.2.2 (by decide))).trans Y25.out.2.2))); have S26 := Lib.hid hS; have R26 := Lib.hid (R25.out.lf hT (fun _ _ _ hg => lf_no hg (by decide))); have b26 := Lib.hid (b25.out.trans (hT.below (fun i _ hi => Nat.le_of_not_lt (fun h => lf_low h hi)) b25.out.size)); clear hS hT S25 R25 b25 Y25 p0 p1 p2 p3 p4 p5 p6 p7; have p0 := cell_of_block (i := 0) Y26.out.1 rfl; have p1 := cell_of_block (i := 1) Y26.out.1 rfl; have p2 := cell_of_block (i := 2) Y26.out.1 rfl; have p3 := cell_of_block (i := 0) Y26.out.2.1 rfl; have p4 := cell_of_block (i := 1) Y26.out.2.1 rfl; have p5 := cell_of_block (i := 0) Y26.out.2.2 rfl; have p6 := cell_of_block (i := 1) Y26.out.2.2 rfl; have p7 := cell_of_block (i := 2) Y26.out.2.2 rfl; haveI := in_of_cell p0; haveI := in_of_cell p3; haveI := in_of_cell p5; clear A1)
            | (go_at_call 7; refine (LD.out w23 S23.out).mono ?_; rintro e w24 ⟨⟨_, rfl, rfl⟩, hS, hT⟩; have Y24 := Lib.hid (And.intro ((hT.block _ (lt_of_block Y23.out.1) (lf_no Y23.out.1 (by decide))).trans Y23.out.1) (And.intro ((hT.block _ (lt_of_block Y23.out.2.1) (lf_no Y23.out.2.1 (by decide))).trans Y23.out.2.1) ((hT.block _ (lt_of_block Y23.out.2.2) (lf_no Y23.out.2.2 (by decide))).trans Y23.out.2.2))); have S24 := Lib.hid hS; have R24 := Lib.hid (R23.out.lf hT (fun _ _ _ hg => lf_no hg (by decide))); have b24 := Lib.hid (b23.out.trans (hT.below (fun i _ hi => Nat.le_of_not_lt (fun h => lf_low h hi)) b23.out.size)); clear hS hT S23 R23 b23 Y23 p0 p1 p2 p3 p4 p5 p6 p7; have p0 := cell_of_block (i := 0) Y24.out.1 rfl; have p1 := cell_of_block (i := 1) Y24.out.1 rfl; have p2 := cell_of_block (i := 2) Y24.out.1 rfl; have p3 := cell_of_block (i := 0) Y24.out.2.1 rfl; have p4 := cell_of_block (i := 1) Y24.out.2.1 rfl; have p5 := cell_of_block (i := 0) Y24.out.2.2 rfl; have p6 := cell_of_block (i := 1) Y24.out.2.2 rfl; have p7 := cell_of_block (i := 2) Y24.out.2.2 rfl; haveI := in_of_cell p0; haveI := in_of_cell p3; haveI := in_of_cell p5; clear LD)
            | (go_at_call 13; refine (C2.out w28).mono ?_; rintro e w29 ⟨rfl, f, hw⟩; have hB : Below w28.heap.size w28 w29 := (by rw [hw]; exact ext_below w28 f); clear hw; have Y29 := Lib.hid (And.intro ((hB.block _ (lt_of_block Y28.out.1)).trans Y28.out.1) (And.intro ((hB.block _ (lt_of_block Y28.out.2.1)).trans Y28.out.2.1) ((hB.block _ (lt_of_block Y28.out.2.2)).trans Y28.out.2.2))); have S29 := Lib.hid (S28.out.grown hB); have R29 := Lib.hid (R28.out.grown hB); have b29 := Lib.hid (b28.out.trans (hB.mono b28.out.size)); clear hB S28 R28 b28 Y28 p0 p1 p2 p3 p4 p5 p6 p7; have p0 := cell_of_block (i := 0) Y29.out.1 rfl; have p1 := cell_of_block (i := 1) Y29.out.1 rfl; have p2 := cell_of_block (i := 2) Y29.out.1 rfl; have p3 := cell_of_block (i := 0) Y29.out.2.1 rfl; have p4 := cell_of_block (i := 1) Y29.out.2.1 rfl; have p5 := cell_of_block (i := 0) Y29.out.2.2 rfl; have p6 := cell_of_block (i := 1) Y29.out.2.2 rfl; have p7 := cell_of_block (i := 2) Y29.out.2.2 rfl; haveI := in_of_cell p0; haveI := in_of_cell p3; haveI := in_of_cell p5)
            | (go_at_call 13; refine (C1.out w24).mono ?_; rintro e w25 ⟨rfl, f, hw⟩; have hB : Below w24.heap.size w24 w25 := (by rw [hw]; exact ext_below w24 f); clear hw; have Y25 := Lib.hid (And.intro ((hB.block _ (lt_of_block Y24.out.1)).trans Y24.out.1) (And.intro ((hB.block _ (lt_of_block Y24.out.2.1)).trans Y24.out.2.1) ((hB.block _ (lt_of_block Y24.out.2.2)).trans Y24.out.2.2))); have S25 := Lib.hid (S24.out.grown hB); have R25 := Lib.hid (R24.out.grown hB); have b25 := Lib.hid (b24.out.trans (hB.mono b24.out.size)); clear hB S24 R24 b24 Y24 p0 p1 p2 p3 p4 p5 p6 p7; have p0 := cell_of_block (i := 0) Y25.out.1 rfl; have p1 := cell_of_block (i := 1) Y25.out.1 rfl; have p2 := cell_of_block (i := 2) Y25.out.1 rfl; have p3 := cell_of_block (i := 0) Y25.out.2.1 rfl; have p4 := cell_of_block (i := 1) Y25.out.2.1 rfl; have p5 := cell_of_block (i := 0) Y25.out.2.2 rfl; have p6 := cell_of_block (i := 1) Y25.out.2.2 rfl; have p7 := cell_of_block (i := 2) Y25.out.2.2 rfl; haveI := in_of_cell p0; haveI := in_of_cell p3; haveI := in_of_cell p5)
            | (go_at_call 15; refine (F2.out w30 R30.out).mono ?_; rintro e w31 ⟨rfl, f, hw⟩; have hB : Below w30.heap.size w30 w31 := (by rw [hw]; exact ext_below w30 f); clear hw; have Y31 := Lib.hid (And.intro ((hB.block _ (lt_of_block Y30.out.1)).trans Y30.out.1) (And.intro ((hB.block _ (lt_of_block Y30.out.2.1)).trans Y30.out.2.1) ((hB.block _ (lt_of_block Y30.out.2.2)).trans Y30.out.2.2))); have S31 := Lib.hid (S30.out.grown hB); have R31 := Lib.hid (R30.out.grown hB); have b31 := Lib.hid (b30.out.trans (hB.mono b30.out.size)); clear hB S30 R30 b30 Y30 p0 p1 p2 p3 p4 p5 p6 p7; have p0 := cell_of_block (i := 0) Y31.out.1 rfl; have p1 := cell_of_block (i := 1) Y31.out.1 rfl; have p2 := cell_of_block (i := 2) Y31.out.1 rfl; have p3 := cell_of_block (i := 0) Y31.out.2.1 rfl; have p4 := cell_of_block (i := 1) Y31.out.2.1 rfl; have p5 := cell_of_block (i := 0) Y31.out.2.2 rfl; have p6 := cell_of_block (i := 1) Y31.out.2.2 rfl; have p7 := cell_of_block (i := 2) Y31.out.2.2 rfl; haveI := in_of_cell p0; haveI := in_of_cell p3; haveI := in_of_cell p5)
            | (go_at_call 15; refine (F1.out w26 R26.out).mono ?_; rintro e w27 ⟨rfl, f, hw⟩; have hB : Below w26.heap.size w26 w27 := (by rw [hw]; exact ext_below w26 f); clear hw; have Y27 := Lib.hid (And.intro ((hB.block _ (lt_of_block Y26.out.1)).trans Y26.out.1) (And.intro ((hB.block _ (lt_of_block Y26.out.2.1)).trans Y26.out.2.1) ((hB.block _ (lt_of_block Y26.out.2.2)).trans Y26.out.2.2))); have S27 := Lib.hid (S26.out.grown hB); have R27 := Lib.hid (R26.out.grown hB); have b27 := Lib.hid (b26.out.trans (hB.mono b26.out.size)); clear hB S26 R26 b26 Y26 p0 p1 p2 p3 p4 p5 p6 p7; have p0 := cell_of_block (i := 0) Y27.out.1 rfl; have p1 := cell_of_block (i := 1) Y27.out.1 rfl; have p2 := cell_of_block (i := 2) Y27.out.1 rfl; have p3 := cell_of_block (i := 0) Y27.out.2.1 rfl; have p4 := cell_of_block (i := 1) Y27.out.2.1 rfl; have p5 := cell_of_block (i := 0) Y27.out.2.2 rfl; have p6 := cell_of_block (i := 1) Y27.out.2.2 rfl; have p7 := cell_of_block (i := 2) Y27.out.2.2 rfl; haveI := in_of_cell p0; haveI := in_of_cell p3; haveI := in_of_cell p5)
            | (go_at_call 14; refine (N2.out w31).mono ?_; rintro e w32 ⟨rfl, f, hw⟩; have hB : Below w31.heap.size w31 w32 := (by rw [hw]; exact ext_below w31 f); clear hw; have Y32 := Lib.hid (And.intro ((hB.block _ (lt_of_block Y31.out.1)).trans Y31.out.1) (And.intro ((hB.block _ (lt_of_block Y31.out.2.1)).trans Y31.out.2.1) ((hB.block _ (lt_of_block Y31.out.2.2)).trans Y31.out.2.2))); have S32 := Lib.hid (S31.out.grown hB); have R32 := Lib.hid (R31.out.grown hB); have b32 := Lib.hid (b31.out.trans (hB.mono b31.out.size)); clear hB S31 R31 b31 Y31 p0 p1 p2 p3 p4 p5 p6 p7; have p0 := cell_of_block (i := 0) Y32.out.1 rfl; have p1 := cell_of_block (i := 1) Y32.out.1 rfl; have p2 := cell_of_block (i := 2) Y32.out.1 rfl; have p3 := cell_of_block (i := 0) Y32.out.2.1 rfl; have p4 := cell_of_block (i := 1) Y32.out.2.1 rfl; have p5 := cell_of_block (i := 0) Y32.out.2.2 rfl; have p6 := cell_of_block (i := 1) Y32.out.2.2 rfl; have p7 := cell_of_block (i := 2) Y32.out.2.2 rfl; haveI := in_of_cell p0; haveI := in_of_cell p3; haveI := in_of_cell p5)
            | (go_at_call 14; refine (N1.out w27).mono ?_; rintro e w28 ⟨rfl, f, hw⟩; have hB : Below w27.heap.size w27 w28 := (by rw [hw]; exact ext_below w27 f); clear hw; have Y28 := Lib.hid (And.intro ((hB.block _ (lt_of_block Y27.out.1)).trans Y27.out.1) (And.intro ((hB.block _ (lt_of_block Y27.out.2.1)).trans Y27.out.2.1) ((hB.block _ (lt_of_block Y27.out.2.2)).trans Y27.out.2.2))); have S28 := Lib.hid (S27.out.grown hB); have R28 := Lib.hid (R27.out.grown hB); have b28 := Lib.hid (b27.out.trans (hB.mono b27.out.size)); clear hB S27 R27 b27 Y27 p0 p1 p2 p3 p4 p5 p6 p7; have p0 := cell_of_block (i := 0) Y28.out.1 rfl; have p1 := cell_of_block (i := 1) Y28.out.1 rfl; have p2 := cell_of_block (i := 2) Y28.out.1 rfl; have p3 := cell_of_block (i := 0) Y28.out.2.1 rfl; have p4 := cell_of_block (i := 1) Y28.out.2.1 rfl; have p5 := cell_of_block (i := 0) Y28.out.2.2 rfl; have p6 := cell_of_block (i := 1) Y28.out.2.2 rfl; have p7 := cell_of_block (i := 2) Y28.out.2.2 rfl; haveI := in_of_cell p0; haveI := in_of_cell p3; haveI := in_of_cell p5))
            all_goals
              go_wp2_with fail
              go_roundw
              case rel => exact ⟨j + 1, by omega, by go_num, S32.out.any, R32, b32⟩
              case measure => simp [intOf]; omega
          · have j1 : ¬ (j : Int) ≤ (k : Int) := by omega
            clear S17 R17 b17
            go_wp2_with fail
            go_roundw
            case rel => exact ⟨k + 1, by omega, by omega, by go_num, S18, R18, b18⟩
            case measure => simp [intOf]; omega
    · have hx : ¬ (k : Int) < (cs.length : Int) ∨ ((k : Int) < (cs.length : Int) ∧ ¬ (k : Int) < 15) := by omega
      rcases hx with hx | ⟨hx, hx15⟩
      all_goals
        go_wp2_with fail
        refine (alive_any _).mono ?_
        rintro e6 w6 ⟨rfl, hb6⟩
        go_wp2_with fail
        go_ret
        exact ⟨rfl, b5.out.trans (hb6.mono b5.out.size)⟩
end Go.Proofs.YtnogfelfgclajaaGreatDoor
end
