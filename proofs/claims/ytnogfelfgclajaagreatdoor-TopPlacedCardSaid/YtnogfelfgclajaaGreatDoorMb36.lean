/-
  The cell by whose side a ray came.
  A block that a body places: refused, or set where no body is.
  Lines: a block is placed.
  A shell with five chunks.
  The lines by which bodies come and place blocks, whole.
-/
import Derived.Test.YtnogfelfgclajaaGreatDoorMb34
import Derived.Test.YtnogfelfgclajaaGreatDoorMb35
import Derived.Test.YtnogfelfgclajaaGreatDoorMb30
import Derived.Test.YtnogfelfgclajaaGreatDoorMb25
section
namespace Go.Proofs.YtnogfelfgclajaaGreatDoor
open Go.RowKit
attribute [local go_sem] ext_ext drew_ext ext_drew ext_cell ext_frozen in_lt in_le in_ne in_en in_ne1 in_en1 in_le1 in_ltn in_len in_nen in_enn size_le ite_max ite_min
set_option linter.unusedVariables false
set_option linter.unusedSimpArgs false
set_option maxRecDepth 1000000
attribute [local go_sem] calm calmUpon nb_ix0 nb_ix1 nb_ix2 nb_ix3 nb_ix4 nb_ix5

/-- The cell beside a hit, if there is one. -/
def BesideH (x y z : Int) (w : World) (o : Ending) (w' : World) : Prop :=
  (∃ (cx cy cz : Int) (is : Bool), o = .returned (.tuple #[.agg #[.int .i64 cx, .int .i64 cy, .int .i64 cz], .bool is]) ∧ (is = true → (x - 1 ≤ cx ∧ cx ≤ x + 1) ∧ (y - 1 ≤ cy ∧ cy ≤ y + 1) ∧ z - 1 ≤ cz ∧ cz ≤ z + 1)) ∧ ∃ g, w' = ext w g
set_option maxHeartbeats 4000000 in
theorem raybeside_any (x y z bl f t : Int) (w : World) (hx : Mid x) (hy : Mid y) (hz : Mid z) (h0 : -1 ≤ f) (h1 : f ≤ 5) :
    Calls Tryz.prog 158 #[.agg #[.int .i64 x, .int .i64 y, .int .i64 z, .int .i64 bl, .int .i64 f, .int .i64 t]] w (BesideH x y z w) := by
  have NB := Lib.hid (fun W => nb_any x y z W hx hy hz)
  have hf : f = -1 ∨ f = 0 ∨ f = 1 ∨ f = 2 ∨ f = 3 ∨ f = 4 ∨ f = 5 := by omega
  clear hx hy hz h0 h1
  rcases hf with rfl | rfl | rfl | rfl | rfl | rfl | rfl
  · go_enter Tryz.func158, Tryz.ntmps158
    go_wp2_with fail
    refine bodyPost_ret (by simp [results, Tryz.results158, go_sem]; try rfl) rfl ?_
    exact ⟨⟨_, _, _, false, rfl, fun h => by cases h⟩, grown_of⟩
  all_goals
    go_enter Tryz.func158, Tryz.ntmps158
    go_wp2_with fail
    refine wp_region_ext_tail 6 ?_ ?_ ?_
    · kernel_rfl
    · kernel_rfl
    simp only [List.take_succ_cons, List.take_zero, List.drop_succ_cons, List.drop_zero]
    repeat (go_big_quiet_step (first | (go_at_call 201; with_reducible exact ext_call (NB.out _))))
    refine wpQuiet_nil ?_
    rintro w1 ⟨_t, hw⟩
    have hc1 := named_cell hw
    have hz1 := named_frozen hw
    have hh1 := named_heap hw
    haveI hi1 := named_in hw
    haveI hb1 := named_below (w := w) hw
    clear hw
    go_wp2_with fail
    refine bodyPost_ret (by simp [results, Tryz.results158, go_sem, hc1]; try rfl) rfl ?_
    exact ⟨⟨_, _, _, true, rfl, fun _ => by omega⟩, grown_of⟩
#print axioms raybeside_any
end Go.Proofs.YtnogfelfgclajaaGreatDoor
end

section
namespace Go.Proofs.YtnogfelfgclajaaGreatDoor
open Go.RowKit
attribute [local go_sem] ext_ext drew_ext ext_drew ext_cell ext_frozen in_lt in_le in_ne in_en in_ne1 in_en1 in_le1 in_ltn in_len in_nen in_enn size_le ite_max ite_min
set_option linter.unusedVariables false
set_option linter.unusedSimpArgs false
set_option maxRecDepth 1000000
attribute [local go_sem] calm calmUpon

/-- A block placed, or not: what is told; the engine behind it. -/
def PlaceDone (B en sm qu mq wo t l0 l1 : Nat) (s lim bud : Int) (oc dr : Value) (e c : Nat) (b : Int) (w : World) (o : Ending) (w' : World) : Prop :=
  (∃ n : Nat, o = .returned (.int .i64 (n : Int)) ∧ n < 14 ∧ (b = 0 → n = 1)) ∧ (∃ e' c' G' T', e' ≤ e + 1 ∧ c' ≤ c + 8 ∧ EngTwo B w' en sm qu mq wo t l0 l1 s lim bud oc dr e' c' G' T') ∧ Turn (EF B mq w) w w'
set_option maxHeartbeats 4000000 in
theorem engplace_any {B : Nat} {w : World} {en sm qu mq wo t l0 l1 e c : Nat} {s lim bud : Int} {oc dr : Value} {G : Ps → List Int} {T : List (Ps × Bool)} (h : EngTwo B w en sm qu mq wo t l0 l1 s lim bud oc dr e c G T) (hc : c ≤ 800) (he : e ≤ 14)
    (x y z b : Int) (hx : -1000000 ≤ x ∧ x ≤ 1000000) (hy : -1000000 ≤ y ∧ y ≤ 1000000) (hz : -1000000 ≤ z ∧ z ≤ 1000000) (hb : GoodB b) :
    Calls Tryz.prog 109 #[.pointer (some ⟨en, 0, none⟩), .int .i64 0, .agg #[.int .i64 x, .int .i64 y, .int .i64 z], .int .i64 b] w (PlaceDone B en sm qu mq wo t l0 l1 s lim bud oc dr e c b w) := by
  obtain ⟨e0, e1, _, _⟩ := h.liv.cells
  obtain ⟨st, hl⟩ := h.liv.a
  haveI := in_of_cell e0
  have LK := Lib.hid (fun W (hW : Below w.heap.size w W) => look_any (w := W) (en := en) ((hW.cell (p := ⟨en, 0, none⟩) (World.block_lt_of_cell? w _ e0)).trans e0) ((hW.cell (p := ⟨en, 1, none⟩) (World.block_lt_of_cell? w _ e1)).trans e1)
    (cell_of_block (i := 1) ((hW.block sm (lt_of_block h.sim.blk)).trans h.sim.blk) rfl) ((hW.cell (p := ⟨wo, 0, none⟩) (World.block_lt_of_cell? w _ (wld_cell h.wld))).trans (wld_cell h.wld)) ((hW.block _ (lt_of_block hl)).trans hl) (h.tab.grown hW) x y z hx hy hz)
  have MB := Lib.hid (fun W => may_any b hb W)
  have H := Lib.hid h
  have HB := Lib.hid hb
  have CE := Lib.hid (And.intro hc he)
  have fin : Hid (∀ W, Below w.heap.size w W → (∃ e' c' G' T', e' ≤ e + 1 ∧ c' ≤ c + 8 ∧ EngTwo B W en sm qu mq wo t l0 l1 s lim bud oc dr e' c' G' T') ∧ Turn (EF B mq w) w W) := Lib.hid (fun W hW => ⟨⟨e, c, G, T, by omega, by omega, H.out.grown hW⟩, turn_below hW⟩)
  clear h e0 e1 hl hx hy hz hb hc he
  go_enter Tryz.func109, Tryz.ntmps109
  go_wp2_with fail
  have B1 := Lib.hid ((Below.refl w.heap.size w).alloc (Nat.le_refl _) (.cells #[.int .i64 x, .int .i64 y, .int .i64 z] 46))
  generalize w.alloc (.cells #[.int .i64 x, .int .i64 y, .int .i64 z] 46) = w1 at *
  refine (LK.out w1 B1.out).mono ?_
  rintro o2 w2 ⟨⟨cx, cy, cz, bl, f, tm, er, rfl, her, hn⟩, g2, hw2⟩
  have B2 := Lib.hid (show Below w.heap.size w w2 from by rw [hw2]; exact B1.out.trans ((ext_below w1 g2).mono B1.out.size))
  have HN := Lib.hid hn
  clear hw2 hn LK
  go_wp2_with fail
  have B3 := Lib.hid (B2.out.alloc B2.out.size (.cells #[.int .i64 cx, .int .i64 cy, .int .i64 cz, .int .i64 bl, .int .i64 f, .int .i64 tm] 171))
  have X3 := heap_alloc_new w2 (.cells #[.int .i64 cx, .int .i64 cy, .int .i64 cz, .int .i64 bl, .int .i64 f, .int .i64 tm] 171)
  generalize w2.alloc (.cells #[.int .i64 cx, .int .i64 cy, .int .i64 cz, .int .i64 bl, .int .i64 f, .int .i64 tm] 171) = w3 at *
  generalize w2.heap.size = b9 at *
  refine (MB.out w3).mono ?_
  rintro o4 w4 ⟨rfl, g4, hw4⟩
  have B34 := (show Below w3.heap.size w3 w4 from by rw [hw4]; exact ext_below w3 g4)
  have X4 := (B34.block b9 (lt_of_block X3)).trans X3
  have B4 := Lib.hid (B3.out.trans (B34.mono B3.out.size))
  have c0 := cell_of_block (i := 0) X4 rfl
  have c1 := cell_of_block (i := 1) X4 rfl
  have c2 := cell_of_block (i := 2) X4 rfl
  have c3 := cell_of_block (i := 3) X4 rfl
  have c4 := cell_of_block (i := 4) X4 rfl
  have c5 := cell_of_block (i := 5) X4 rfl
  haveI := in_of_cell c0
  clear B34 X4 X3 B3 B2 hw4 MB B1
  by_cases hb0 : b = 0
  · subst hb0
    rcases her with rfl | rfl | rfl
    all_goals
      go_wp2_with fail
      go_ret
      exact ⟨⟨1, rfl, by omega, fun _ => rfl⟩, (fin.out _ B4.out).1, (fin.out _ B4.out).2⟩
  · rcases her with rfl | rfl | rfl
    · have hn := HN.out rfl
      obtain ⟨h1, h2, h3, h4⟩ := hn
      have RB := Lib.hid (raybeside_any cx cy cz bl f tm w4 ⟨by omega, by omega⟩ ⟨by omega, by omega⟩ ⟨by omega, by omega⟩ h4.1 h4.2)
      have HC := Lib.hid (And.intro h1 (And.intro h2 h3))
      clear h1 h2 h3 h4 HN
      go_wp2_with fail
      refine RB.out.mono ?_
      rintro o5 w5 ⟨⟨nx, ny, nz, is, rfl, hi⟩, g5, hw5⟩
      have B5 := Lib.hid (show Below w.heap.size w w5 from by rw [hw5]; exact B4.out.trans ((ext_below w4 g5).mono B4.out.size))
      have HI := Lib.hid hi
      clear hw5 hi RB c0 c1 c2 c3 c4 c5
      have B6 := Lib.hid (B5.out.alloc B5.out.size (.cells #[.int .i64 nx, .int .i64 ny, .int .i64 nz] 30))
      cases is
      · go_wp2_with fail
        go_ret
        exact ⟨⟨12, rfl, by omega, fun h => absurd h hb0⟩, (fin.out _ B6.out).1, (fin.out _ B6.out).2⟩
      · have hi := HI.out rfl
        have hc := HC.out
        have ED := Lib.hid (fun W (hW : Below w.heap.size w W) => engedit_two (H.out.grown hW) CE.out.1 nx ny nz b (by omega) (by omega) (by omega) HB.out CE.out.2)
        clear hi hc
        go_wp2_with fail
        refine (ED.out _ B6.out).mono ?_
        rintro o7 w7 ⟨⟨r, rfl, hr⟩, hE, hT⟩
        have E7 := Lib.hid (And.intro hE ((turn_below (F := EF B mq w) B6.out).ef hT))
        clear hE hT ED
        go_wp2_with fail
        go_ret
        rcases hr with rfl | rfl
        · exact ⟨⟨0, rfl, by omega, fun h => absurd h hb0⟩, E7.out.1, E7.out.2⟩
        · exact ⟨⟨12, rfl, by omega, fun h => absurd h hb0⟩, E7.out.1, E7.out.2⟩
    · go_wp2_with fail
      go_ret
      exact ⟨⟨11, rfl, by omega, fun h => absurd h hb0⟩, (fin.out _ B4.out).1, (fin.out _ B4.out).2⟩
    · go_wp2_with fail
      go_ret
      exact ⟨⟨13, rfl, by omega, fun h => absurd h hb0⟩, (fin.out _ B4.out).1, (fin.out _ B4.out).2⟩
#print axioms engplace_any
end Go.Proofs.YtnogfelfgclajaaGreatDoor
end

section
namespace Go.Proofs.YtnogfelfgclajaaGreatDoor
open Go.RowKit
attribute [local go_sem] ext_ext drew_ext ext_drew ext_cell ext_frozen in_lt in_le in_ne in_en in_ne1 in_en1 in_le1 in_ltn in_len in_nen in_enn size_le ite_max ite_min
set_option linter.unusedVariables false
set_option linter.unusedSimpArgs false
set_option maxRecDepth 1000000

/-- An engine's turns, as the lines say it. -/
theorem two_ef {B : Nat} {w W : World} {sh en sm qu mq wo t l0 l1 e e' c c' : Nat} {s lim bud : Int} {oc dr : Value} {G G' : Ps → List Int} {T T' : List (Ps × Bool)} (h1 : ShAt B w sh en) (h2 : EngTwo B w en sm qu mq wo t l0 l1 s lim bud oc dr e c G T)
    (h3 : EngTwo B W en sm qu mq wo t l0 l1 s lim bud oc dr e' c' G' T') (hT : Turn (EF B mq w) w W) : SysTwo B W sh t s lim e' c' ∧ Turn (LG B w) w W := by
  have q := h2.que.qmap
  have hn : ¬ EF B mq w sh := by
    rintro (h | h)
    · exact ty_no h1.blk (by decide) h
    · obtain ⟨k, q⟩ := q; exact q.cells h1.blk h
  exact ⟨⟨en, sm, qu, mq, wo, bud, oc, dr, l0, l1, G', T', ⟨(hT.block _ (lt_of_block h1.blk) hn).trans h1.blk, h1.lo⟩, h3⟩, lg_lf (lf_ef hT q h2.que.mlo)⟩
theorem told_errno (n : Nat) (hn : n < 14) (g c : Nat) (w : World) (hc : w.cell? ⟨g, 0, none⟩ = some (.iface 142 (.int .i64 (n : Int)))) :
    Calls Tryz.prog 88 #[.slice (some ⟨g, 0, none⟩) 1 c] w fun en w' => (∃ x, en = .returned (.string x) ∧ (n = 1 → x = bs (errW 1))) ∧ ∃ f, w' = ext w f := by
  rcases Nat.eq_zero_or_pos n with rfl | hp
  · refine (told_ok g c w hc).mono ?_
    rintro en w' ⟨rfl, hw⟩
    exact ⟨⟨_, rfl, fun h => by cases h⟩, hw⟩
  · refine (told_err n hp hn g c w hc).mono ?_
    rintro en w' ⟨rfl, hw⟩
    exact ⟨⟨_, rfl, fun h => by rw [h]⟩, hw⟩
/-- A system with two bodies, in which no more was done than this. -/
def SysUp (B : Nat) (w : World) (sh t : Nat) (s lim : Int) (e c : Nat) : Prop := ∃ e' c', e' ≤ e ∧ c' ≤ c ∧ SysTwo B w sh t s lim e' c'
set_option maxHeartbeats 2000000 in
/-- A block is placed. -/
theorem lineplace_any {B : Nat} {w : World} {sh t e c ab : Nat} {s lim : Int} (h : SysTwo B w sh t s lim e c) (hc : c ≤ 800) (he : e ≤ 14) (x y z b : Int) (hx : -1000000 ≤ x ∧ x ≤ 1000000) (hy : -1000000 ≤ y ∧ y ≤ 1000000) (hz : -1000000 ≤ z ∧ z ≤ 1000000) (hb : GoodB b) (nm : List UInt8) (hnm : bs nm = nmB b)
    (hA : ArgsAt w ab [decI 16 0, decI 16 x, decI 16 y, decI 16 z, nm]) :
    Calls Tryz.prog 60 #[.pointer (some ⟨sh, 0, none⟩), .pointer (some ⟨ab, 0, none⟩)] w (SaidH B ab (fun W => SysUp B W sh t s lim (e + 1) (c + 8)) (fun y => b = 0 → y = bs (errW 1)) w) := by
  haveI := hA.in
  have H := Lib.hid h
  have N0 := Lib.hid (num_any 0 (by omega) (by omega) [decI 16 x, decI 16 y, decI 16 z, nm] ab w hA (by simp))
  have VC := Lib.hid (fun W hA => vec_any x y z ⟨by omega, by omega⟩ ⟨by omega, by omega⟩ ⟨by omega, by omega⟩ [nm] ab W hA (by simp))
  have BL := Lib.hid (fun W hA => block_any b hb [] ab W nm hnm hA (by simp))
  have PL := Lib.hid (fun (W : World) (en sm qu mq wo l0 l1 : Nat) (bud : Int) (oc dr : Value) (G : Ps → List Int) (T : List (Ps × Bool)) (hE : EngTwo B W en sm qu mq wo t l0 l1 s lim bud oc dr e c G T) => engplace_any hE hc he x y z b hx hy hz hb)
  have AS := Lib.hid (aside_argsL hA)
  clear h hA hb hnm hx hy hz hc he
  go_enter Tryz.func60, Tryz.ntmps60
  go_wp2_with fail
  refine N0.out.mono ?_
  rintro en1 w1 ⟨rfl, hA1, hT1⟩
  have A1 := Lib.hid hA1
  have S1 := Lib.hid (H.out.turn hT1 AS.out)
  have T1 := Lib.hid ((Turn.refl (LH B ab w) w).lhOne hT1)
  clear hA1 hT1 N0 AS H
  go_wp2_with fail
  refine (VC.out w1 A1.out).mono ?_
  rintro en2 w2 ⟨rfl, hA2, hT2⟩
  have A2 := Lib.hid hA2
  have S2 := Lib.hid (S1.out.turn hT2 (aside_argsL A1.out))
  have T2 := Lib.hid (T1.out.lhOne hT2)
  clear hA2 hT2 VC A1 S1 T1
  go_wp2_with fail
  have B3 := Lib.hid ((Below.refl w2.heap.size w2).alloc (Nat.le_refl _) (.cells #[.int .i64 x, .int .i64 y, .int .i64 z] 46))
  have X3 := Lib.hid (heap_alloc_new w2 (.cells #[.int .i64 x, .int .i64 y, .int .i64 z] 46))
  generalize w2.alloc (.cells #[.int .i64 x, .int .i64 y, .int .i64 z] 46) = w3 at *
  obtain ⟨bx, hbx⟩ : ∃ bx, w2.heap.size = bx := ⟨_, rfl⟩
  rw [hbx] at X3
  rw [hbx]
  clear hbx
  refine (BL.out w3 (A2.out.far B3.out)).mono ?_
  rintro en4 w4 ⟨rfl, hA4, hT4⟩
  have A4 := Lib.hid hA4
  have X4 := Lib.hid ((hT4.block _ (lt_of_block X3.out) (fun e => (A2.out.far B3.out).cells X3.out (by decide) e)).trans X3.out)
  have S4 := Lib.hid ((S2.out.grown B3.out).turn hT4 (aside_argsL (A2.out.far B3.out)))
  have T4 := Lib.hid ((T2.out.lhBelow B3.out).lhOne hT4)
  clear hA4 hT4 BL A2 S2 T2 X3 B3
  go_wp2_with fail
  refine (end_any ab w4 A4.out).mono ?_
  rintro en5 w5 ⟨rfl, rfl⟩
  obtain ⟨en, sm, qu, mq, wo, bud, oc, dr, l0, l1, G, T, h1, h2⟩ := S4.out
  have e0 := cell_of_block (i := 0) h1.blk rfl
  have x0 := cell_of_block (i := 0) X4.out rfl
  have x1 := cell_of_block (i := 1) X4.out rfl
  have x2 := cell_of_block (i := 2) X4.out rfl
  haveI := in_of_cell e0
  haveI := in_of_cell x0
  have E4 := Lib.hid h2
  have H4 := Lib.hid h1
  clear h1 h2
  go_wp2_with fail
  refine wp_region_ext_tail 7 ?_ ?_ ?_
  · kernel_rfl
  · kernel_rfl
  simp only [List.take_succ_cons, List.take_zero, List.drop_succ_cons, List.drop_zero]
  repeat (go_big_quiet_step (first | fail))
  refine wpQuiet_nil ?_
  rintro w5 ⟨_t, hw⟩
  have hc5 := named_cell hw
  have hz5 := named_frozen hw
  have hh5 := named_heap hw
  haveI hi5 := named_in hw
  haveI hb5 := named_below (w := w4) hw
  clear hw
  have B5 := Lib.hid (grown_now (w := w4) (W := w5))
  go_wp2_with fail
  refine (PL.out _ en sm qu mq wo l0 l1 bud oc dr G T (E4.out.grown B5.out)).mono ?_
  rintro en6 w6 ⟨⟨n, rfl, hn, hb⟩, ⟨e', c', G', T', he, hc, hE⟩, hT6⟩
  obtain ⟨q1, q2⟩ := two_ef (H4.out.grown B5.out) (E4.out.grown B5.out) hE hT6
  have S6 := Lib.hid (show SysUp B w6 sh t s lim (e + 1) (c + 8) from ⟨e', c', he, hc, q1⟩)
  have T6 := Lib.hid ((T4.out.lhBelow B5.out).lh q2)
  have N6 := Lib.hid (And.intro hn hb)
  clear hE hT6 q1 q2 hn hb he hc PL E4 H4
  go_wp2_with fail
  refine (told_errno n N6.out.1 _ _ _ (by go_simp)).mono ?_
  rintro en7 w7 ⟨⟨y, rfl, hy⟩, _t, hw⟩
  haveI hb7 := named_below (w := w6) hw
  have HY := Lib.hid hy
  clear hw hy
  have B7 := Lib.hid (grown_now (w := w6) (W := w7))
  go_wp2_with fail
  go_ret
  refine ⟨⟨_, rfl, fun h0 => HY.out (N6.out.2 h0)⟩, ?_, T6.out.lhBelow B7.out⟩
  obtain ⟨e', c', h1, h2, h3⟩ := S6.out
  exact ⟨e', c', h1, h2, h3.grown B7.out⟩
#print axioms lineplace_any
end Go.Proofs.YtnogfelfgclajaaGreatDoor
end

section
namespace Go.Proofs.YtnogfelfgclajaaGreatDoor
open Go.RowKit
attribute [local go_sem] ext_ext drew_ext ext_drew ext_cell ext_frozen in_lt in_le in_ne in_en in_ne1 in_en1 in_le1 in_ltn in_len in_nen in_enn size_le ite_max ite_min
set_option linter.unusedVariables false
set_option linter.unusedSimpArgs false
set_option maxRecDepth 1000000

theorem small_num {n : Int} (h : Num n) : Small17 n := small17 (by have := h.lo; omega) (by have := h.hi; omega)
theorem decs_three (x y z : Int) : decs [x, y, z] = [decI 16 x, decI 16 y, decI 16 z] := rfl
theorem dec16_any (n : Int) (h : Num n) (w : World) : Calls Tryz.prog 8 #[.int .i64 n] w fun e w' => e = .returned (sV (decI 16 n)) ∧ ∃ f, w' = ext w f := by
  have h1 := h.lo
  have h2 := h.hi
  have hp : (10 : Int) ^ (16 + 1) = 100000000000000000 := by decide
  exact dec_any 16 n w (by omega) (by rw [hp]; omega) (by rw [hp]; omega) ⟨by omega, by omega⟩
theorem viewNil (t : Nat) (w : World) : (binOp .neq 62 (viewOf t) .nilFunc).run Tryz.prog w = .ok (.bool true) w := by kernel_rfl
theorem whole_any {en sm wo t : Nat} (w : World) (e0 : w.cell? ⟨en, 0, none⟩ = some (.pointer (some ⟨sm, 0, none⟩))) (s1 : w.cell? ⟨sm, 1, none⟩ = some (.pointer (some ⟨wo, 0, none⟩))) (w0 : w.cell? ⟨wo, 0, none⟩ = some (.pointer (some ⟨t, 0, none⟩))) :
    Calls Tryz.prog 19 #[.pointer (some ⟨en, 0, none⟩)] w fun e w' => e = .returned (.bool true) ∧ w = w' := by
  haveI := in_of_cell e0
  haveI := in_of_cell s1
  haveI := in_of_cell w0
  have VN := viewNil t
  unfold viewOf at VN
  have VW := Lib.hid (worldview_any wo t w w0)
  unfold viewOf at VW
  go_enter Tryz.func19, Tryz.ntmps19
  go_wp2_with (first | (go_at_call 24; refine (simworld_any sm wo _ (by go_simp)).mono ?_; rintro e w1 ⟨rfl, rfl⟩) | (go_at_call 36; refine (engsim_any e0).mono ?_; rintro e w1 ⟨rfl, rfl⟩) | (go_at_call 25; refine VW.out.mono ?_; rintro e w1 ⟨rfl, rfl⟩) | (go_at_call 37; refine (worldtable_any wo t _ (by go_simp)).mono ?_; rintro e w1 ⟨rfl, rfl⟩))
  go_ret
  exact ⟨rfl, rfl⟩
theorem shengine_any {sh en : Nat} (w : World) (e0 : w.cell? ⟨sh, 0, none⟩ = some (.pointer (some ⟨en, 0, none⟩))) : Calls Tryz.prog 18 #[.pointer (some ⟨sh, 0, none⟩)] w fun e w' => e = .returned (.pointer (some ⟨en, 0, none⟩)) ∧ w = w' := by
  haveI := in_of_cell e0
  go_enter Tryz.func18, Tryz.ntmps18
  go_wp2
  go_ret
  exact ⟨rfl, rfl⟩
theorem txt_world9 (s : Int) : ((⟨#[119, 111, 114, 108, 100, 32]⟩ : ByteArray) ++ bs (decI 16 s)) ++ (⟨#[32, 57, 32, 56]⟩ : ByteArray) = bs (joinW [[119, 111, 114, 108, 100], decI 16 s, decI 16 9, decI 16 8]) := by
  rw [show (⟨#[119, 111, 114, 108, 100, 32]⟩ : ByteArray) = bs [119, 111, 114, 108, 100, 32] from rfl, show (⟨#[32, 57, 32, 56]⟩ : ByteArray) = bs [32, 57, 32, 56] from rfl, bs_append, bs_append]
  have e9 : decI 16 9 = [57] := by kernel_rfl
  have e8 : decI 16 8 = [56] := by kernel_rfl
  rw [e9, e8]
  simp [joinW]
theorem mem_psT {T : List (Ps × Bool)} {p : Ps} (h : ∃ c ∈ T, c.1 = p) : p ∈ psT T := by
  obtain ⟨c, hc, rfl⟩ := h
  exact List.mem_map.2 ⟨c, hc, rfl⟩
theorem txt_l00 : (⟨#[108, 111, 97, 100, 32, 48, 32, 48]⟩ : ByteArray) = bs (joinW [[108, 111, 97, 100], decI 16 0, decI 16 0]) := by kernel_rfl
theorem txt_l10 : (⟨#[108, 111, 97, 100, 32, 49, 32, 48]⟩ : ByteArray) = bs (joinW [[108, 111, 97, 100], decI 16 1, decI 16 0]) := by kernel_rfl
theorem txt_lm0 : (⟨#[108, 111, 97, 100, 32, 45, 49, 32, 48]⟩ : ByteArray) = bs (joinW [[108, 111, 97, 100], decI 16 (-1), decI 16 0]) := by kernel_rfl
theorem txt_l01 : (⟨#[108, 111, 97, 100, 32, 48, 32, 49]⟩ : ByteArray) = bs (joinW [[108, 111, 97, 100], decI 16 0, decI 16 1]) := by kernel_rfl
theorem txt_l0m : (⟨#[108, 111, 97, 100, 32, 48, 32, 45, 49]⟩ : ByteArray) = bs (joinW [[108, 111, 97, 100], decI 16 0, decI 16 (-1)]) := by kernel_rfl
/-- Some chunks are here, k at most. -/
def SysHas (B : Nat) (w : World) (sh t : Nat) (s : Int) (k : Nat) (ps : List Ps) : Prop := ∃ T, SysOf B w sh t s 9 0 0 (GrAt s) T ∧ T.length ≤ k ∧ ∀ p ∈ ps, ∃ c ∈ T, c.1 = p
theorem hasload_any {B : Nat} {w : World} {sh t k : Nat} {s : Int} {ps : List Ps} (h : SysHas B w sh t s k ps) (hk : k ≤ 8) (x z : Int) (hx : Num x) (hz : Num z) (hc : Close (x, z)) :
    Calls Tryz.prog 7 #[.pointer (some ⟨sh, 0, none⟩), sV (joinW [[108, 111, 97, 100], decI 16 x, decI 16 z])] w (Said B (fun W => SysHas B W sh t s (k + 1) ((x, z) :: ps)) (fun _ => True) w) := by
  obtain ⟨T, h1, h2, h3⟩ := h
  refine (sayload2_any h1 x z hx hz hc).mono ?_
  rintro en w' ⟨⟨y, rfl, _⟩, ⟨T', q1, q2, q3⟩, hT⟩
  have q4 := q3 (by omega)
  refine ⟨⟨y, rfl, trivial⟩, ⟨T', q1, by have := q4.2; omega, fun p hp => ?_⟩, hT⟩
  rcases List.mem_cons.1 hp with rfl | hp
  · exact q2
  · exact q4.1 p (h3 p hp)
/-- A shell with five chunks. -/
def Begun (B : Nat) (s : Int) (w : World) (e : Ending) (w' : World) : Prop := ∃ sh t T, e = .returned (.pointer (some ⟨sh, 0, none⟩)) ∧ SysOf B w' sh t s 9 0 0 (GrAt s) T ∧ Five T ∧ (∃ c ∈ T, c.1 = ((0, 0) : Ps)) ∧ Below w.heap.size w w'
set_option maxHeartbeats 4000000 in
theorem begin_any (seed : Int) (w : World) (h1 : Fit seed) : Calls Tryz.prog 17 #[.int .i64 seed] w (Begun w.heap.size (arS seed 1000) w) := by
  have AR1 := Lib.hid (fun W => around_fit seed 1000 W h1 (by omega) (by omega))
  obtain ⟨a1, a2⟩ := arS_bd (n := seed) (m := 1000) (by omega)
  have DC1 := Lib.hid (fun W => dec16_any (arS seed 1000) ⟨by omega, by omega⟩ W)
  obtain ⟨sd, hsd⟩ : ∃ sd, arS seed 1000 = sd := ⟨_, rfl⟩
  have g1 : (bs (decI 16 sd)).size ≤ 18 := decI_size 16 sd
  have g3 : ((⟨#[119, 111, 114, 108, 100, 32]⟩ : ByteArray) ++ bs (decI 16 sd)).size ≤ 24 := by rw [ByteArray.size_append]; exact Nat.add_le_add (Nat.le_refl 6) g1
  have hs0 : Num sd := ⟨by omega, by omega⟩
  rw [hsd] at AR1 DC1 ⊢
  clear hsd h1 a1 a2
  go_enter Tryz.func17, Tryz.ntmps17
  go_wp2_with fail
  refine (linesnew_any w.heap.size w (Nat.le_refl _)).mono ?_
  rintro e1 w1 ⟨sh, t0, rfl, hS, f, hw⟩
  have b1 := Lib.hid (show Below w.heap.size w w1 by rw [hw]; exact ext_below w f)
  have S1 := Lib.hid hS
  clear hw hS
  go_wp2_with (go_at_call 6; refine (AR1.out _).mono ?_; rintro e w1 ⟨rfl, rfl⟩)
  refine (DC1.out w1).mono ?_
  rintro e2 w2 ⟨rfl, f, hw⟩
  have B2 := Lib.hid (show Below w1.heap.size w1 w2 by rw [hw]; exact ext_below w1 f)
  clear hw
  have S2 := Lib.hid (S1.out.grown B2.out)
  have b2 := Lib.hid (b1.out.trans (B2.out.mono b1.out.size))
  clear S1 B2 b1
  go_wp2_with fail
  rw [txt_world9]
  refine (sayworld_any S2.out sd 9 8 9 hs0 ⟨by omega, by omega⟩ ⟨by omega, by omega⟩ (by omega)).mono ?_
  rintro e3 w3 ⟨⟨_, rfl, rfl⟩, ⟨t, hS3⟩, hT3⟩
  have S3 := Lib.hid (show SysHas w.heap.size w3 sh t sd 0 [] from ⟨[], hS3, Nat.le_refl _, fun _ h => by cases h⟩)
  have b3 := Lib.hid (b2.out.trans (hT3.below (fun i _ hi => Nat.le_of_not_lt (fun h => lf_low h hi)) b2.out.size))
  clear hS3 hT3 S2 b2 AR1 DC1 g1 g3 t0
  go_wp2_with fail
  rw [txt_l00]
  refine (hasload_any S3.out (by omega) 0 0 ⟨by omega, by omega⟩ ⟨by omega, by omega⟩ ⟨by decide, by decide, by decide, by decide⟩).mono ?_
  rintro e4 w4 ⟨⟨_, rfl, _⟩, hS, hT⟩
  have S4 := Lib.hid hS
  have b4 := Lib.hid (b3.out.trans (hT.below (fun i _ hi => Nat.le_of_not_lt (fun h => lf_low h hi)) b3.out.size))
  clear hS hT S3 b3
  go_wp2_with fail
  rw [txt_l10]
  refine (hasload_any S4.out (by omega) 1 0 ⟨by omega, by omega⟩ ⟨by omega, by omega⟩ ⟨by decide, by decide, by decide, by decide⟩).mono ?_
  rintro e5 w5 ⟨⟨_, rfl, _⟩, hS, hT⟩
  have S5 := Lib.hid hS
  have b5 := Lib.hid (b4.out.trans (hT.below (fun i _ hi => Nat.le_of_not_lt (fun h => lf_low h hi)) b4.out.size))
  clear hS hT S4 b4
  go_wp2_with fail
  rw [txt_lm0]
  refine (hasload_any S5.out (by omega) (-1) 0 ⟨by omega, by omega⟩ ⟨by omega, by omega⟩ ⟨by decide, by decide, by decide, by decide⟩).mono ?_
  rintro e6 w6 ⟨⟨_, rfl, _⟩, hS, hT⟩
  have S6 := Lib.hid hS
  have b6 := Lib.hid (b5.out.trans (hT.below (fun i _ hi => Nat.le_of_not_lt (fun h => lf_low h hi)) b5.out.size))
  clear hS hT S5 b5
  go_wp2_with fail
  rw [txt_l01]
  refine (hasload_any S6.out (by omega) 0 1 ⟨by omega, by omega⟩ ⟨by omega, by omega⟩ ⟨by decide, by decide, by decide, by decide⟩).mono ?_
  rintro e7 w7 ⟨⟨_, rfl, _⟩, hS, hT⟩
  have S7 := Lib.hid hS
  have b7 := Lib.hid (b6.out.trans (hT.below (fun i _ hi => Nat.le_of_not_lt (fun h => lf_low h hi)) b6.out.size))
  clear hS hT S6 b6
  go_wp2_with fail
  rw [txt_l0m]
  refine (hasload_any S7.out (by omega) 0 (-1) ⟨by omega, by omega⟩ ⟨by omega, by omega⟩ ⟨by decide, by decide, by decide, by decide⟩).mono ?_
  rintro e8 w8 ⟨⟨_, rfl, _⟩, hS, hT⟩
  have S8 := Lib.hid hS
  have b8 := Lib.hid (b7.out.trans (hT.below (fun i _ hi => Nat.le_of_not_lt (fun h => lf_low h hi)) b7.out.size))
  clear hS hT S7 b7
  obtain ⟨T, hS, _, hps⟩ := S8.out
  have HF := Lib.hid (show Five T ∧ ∃ c ∈ T, c.1 = ((0, 0) : Ps) from ⟨⟨mem_psT (hps _ (by simp)), mem_psT (hps _ (by simp)), mem_psT (hps _ (by simp)), mem_psT (hps _ (by simp)), mem_psT (hps _ (by simp))⟩, hps _ (by simp)⟩)
  obtain ⟨en, sm, wo, k0, k1, k2, k3⟩ := hS.cells
  have HS := Lib.hid hS
  clear hps hS
  go_wp2_with (go_at_call 18; refine (shengine_any _ k0).mono ?_; rintro e w9 ⟨rfl, rfl⟩)
  refine (whole_any _ k1 k2 k3).mono ?_
  rintro e9 w9 ⟨rfl, rfl⟩
  go_wp2_with fail
  go_ret
  exact ⟨sh, t, T, rfl, HS.out, HF.out.1, HF.out.2, b8.out⟩
#print axioms begin_any
end Go.Proofs.YtnogfelfgclajaaGreatDoor
end

section
namespace Go.Proofs.YtnogfelfgclajaaGreatDoor
open Go.RowKit
attribute [local go_sem] ext_ext drew_ext ext_drew ext_cell ext_frozen in_lt in_le in_ne in_en in_ne1 in_en1 in_le1 in_ltn in_len in_nen in_enn size_le ite_max ite_min
set_option linter.unusedVariables false
set_option linter.unusedSimpArgs false
set_option maxRecDepth 1000000

section
variable {B : Nat} {w : World} {sh t e c : Nat} {s lim : Int} {G : Ps → List Int} {T : List (Ps × Bool)}
theorem saycome0 (h : SysOf B w sh t s lim e c G T) (hf : FreeG G) (h5 : Five T) (hh : ∃ c ∈ T, c.1 = ((0, 0) : Ps)) :
    Calls Tryz.prog 7 #[.pointer (some ⟨sh, 0, none⟩), sV (joinW [[115, 112, 97, 119, 110], decI 16 557056, decI 16 1376256, decI 16 557056, decI 16 40000, decI 16 100000])] w (SaidG B (fun W => SysOne B W sh t s lim e c G T) (fun x => x = bs [48]) w) := by
  refine line_gen (fun W => SysOf B W sh t s lim e c G T) h (fun W W' h hW => h.grown hW) (fun W W' F h hT hF => h.turn hT hF.sys) (fun W h => h.cells) [115, 112, 97, 119, 110] [decI 16 557056, decI 16 1376256, decI 16 557056, decI 16 40000, decI 16 100000] ?_ ?_ (by simp) (by simp) _ _ (fun W W' F h hT hF => SysOne.turn h hT hF) ?_
  · intro y hy
    simp at hy
    rcases hy with rfl | rfl | rfl | rfl | rfl | rfl
    · exact ⟨by simp, by decide⟩
    all_goals exact decI_wd 16
  · have h1 := decI_len 16 557056
    have h2 := decI_len 16 1376256
    have h3 := decI_len 16 40000
    have h4 := decI_len 16 100000
    simp [joinW]
    omega
  · intro bl bu bf
    refine ⟨57, #[.pointer (some ⟨sh, 0, none⟩)], #[], by simp [doesW], fun args W => by kernel_rfl, fun W ab hS hA hX => ?_⟩
    exact linespawn0 hS hf h5 hh hA
theorem saycome1 (h : SysOne B w sh t s lim e c G T) (hf : FreeG G) (h5 : Five T) (hh : ∃ c ∈ T, c.1 = ((0, 0) : Ps)) :
    Calls Tryz.prog 7 #[.pointer (some ⟨sh, 0, none⟩), sV (joinW [[115, 112, 97, 119, 110], decI 16 622592, decI 16 1376256, decI 16 557056, decI 16 40000, decI 16 100000])] w (SaidG B (fun W => SysTwo B W sh t s lim e c) (fun x => x = bs [49]) w) := by
  refine line_gen (fun W => SysOne B W sh t s lim e c G T) h (fun W W' h hW => h.grown hW) (fun W W' F h hT hF => h.turn hT hF) (fun W h => h.cells) [115, 112, 97, 119, 110] [decI 16 622592, decI 16 1376256, decI 16 557056, decI 16 40000, decI 16 100000] ?_ ?_ (by simp) (by simp) _ _ (fun W W' F h hT hF => SysTwo.turn h hT hF) ?_
  · intro y hy
    simp at hy
    rcases hy with rfl | rfl | rfl | rfl | rfl | rfl
    · exact ⟨by simp, by decide⟩
    all_goals exact decI_wd 16
  · have h1 := decI_len 16 622592
    have h2 := decI_len 16 1376256
    have h3 := decI_len 16 40000
    have h4 := decI_len 16 100000
    have h5 := decI_len 16 557056
    simp [joinW]
    omega
  · intro bl bu bf
    refine ⟨57, #[.pointer (some ⟨sh, 0, none⟩)], #[], by simp [doesW], fun args W => by kernel_rfl, fun W ab hS hA hX => ?_⟩
    exact linespawn1 hS hf h5 hh hA
theorem SysUp.turn {W : World} {F : Nat → Prop} (h : SysUp B w sh t s lim e c) (hT : Turn F w W) (hF : AsideL w F) : SysUp B W sh t s lim e c := by
  obtain ⟨e', c', h1, h2, h3⟩ := h
  exact ⟨e', c', h1, h2, h3.turn hT hF⟩
theorem SysUp.grown {W : World} (h : SysUp B w sh t s lim e c) (hW : Below w.heap.size w W) : SysUp B W sh t s lim e c := h.turn (turn_below (F := fun _ => False) hW) (asideL_none w)
theorem sayplace_any (h : SysUp B w sh t s lim e c) (hc : c ≤ 800) (he : e ≤ 14) (x y z b : Int) (hx : -1000000 ≤ x ∧ x ≤ 1000000) (hy : -1000000 ≤ y ∧ y ≤ 1000000) (hz : -1000000 ≤ z ∧ z ≤ 1000000) (hb : GoodB b) :
    Calls Tryz.prog 7 #[.pointer (some ⟨sh, 0, none⟩), sV (joinW [[112, 108, 97, 99, 101], decI 16 0, decI 16 x, decI 16 y, decI 16 z, nmL b])] w (SaidG B (fun W => SysUp B W sh t s lim (e + 1) (c + 8)) (fun x => b = 0 → x = bs (errW 1)) w) := by
  obtain ⟨e', c', h1, h2, h3⟩ := h
  refine line_gen (fun W => SysTwo B W sh t s lim e' c') h3 (fun W W' h hW => h.grown hW) (fun W W' F h hT hF => h.turn hT hF) (fun W h => h.cells) [112, 108, 97, 99, 101] [decI 16 0, decI 16 x, decI 16 y, decI 16 z, nmL b] ?_ ?_ (by simp) (by simp) _ _ (fun W W' F h hT hF => SysUp.turn h hT hF) ?_
  · intro y hy
    simp at hy
    rcases hy with rfl | rfl | rfl | rfl | rfl | rfl
    · exact ⟨by simp, by decide⟩
    · exact decI_wd 16
    · exact decI_wd 16
    · exact decI_wd 16
    · exact decI_wd 16
    · exact (nmL_wd hb).1
  · have h1 := decI_len 16 x
    have h2 := decI_len 16 y
    have h3 := decI_len 16 z
    have h4 := (nmL_wd hb).2
    have h5 := decI_len 16 0
    simp [joinW]
    omega
  · intro bl bu bf
    refine ⟨60, #[.pointer (some ⟨sh, 0, none⟩)], #[], by simp [doesW], fun args W => by kernel_rfl, fun W ab hS hA hX => ?_⟩
    refine (lineplace_any hS (by omega) (by omega) x y z b hx hy hz hb (nmL b) (nmL_bs b) hA).mono ?_
    rintro en w' ⟨q1, ⟨e2, c2, q2, q3, q4⟩, q5⟩
    exact ⟨q1, ⟨e2, c2, by omega, by omega, q4⟩, q5⟩
end
theorem txt_stone : (⟨#[101, 100, 105, 116, 32, 56, 32, 50, 48, 32, 56, 32, 115, 116, 111, 110, 101]⟩ : ByteArray) = bs (joinW [[101, 100, 105, 116], decI 16 8, decI 16 20, decI 16 8, nmL 1]) := by kernel_rfl
theorem txt_place (x y z b : Int) : ((⟨#[112, 108, 97, 99, 101, 32, 48, 32]⟩ : ByteArray) ++ bs (joinW (decs [x, y, z]))) ++ (⟨#[32]⟩ : ByteArray) ++ nmB b = bs (joinW [[112, 108, 97, 99, 101], decI 16 0, decI 16 x, decI 16 y, decI 16 z, nmL b]) := by
  rw [← nmL_bs b, show (⟨#[112, 108, 97, 99, 101, 32, 48, 32]⟩ : ByteArray) = bs [112, 108, 97, 99, 101, 32, 48, 32] from rfl, show (⟨#[32]⟩ : ByteArray) = bs [32] from rfl, bs_append, bs_append, bs_append]
  have e0 : decI 16 0 = [48] := by kernel_rfl
  rw [e0, decs_three]
  simp [joinW]
theorem gr_air (s : Int) (p : Ps) (i : Nat) (h0 : 3584 ≤ i) (h1 : i < 8192) : (GrAt s p)[i]? = some 0 := by
  rw [List.getElem?_eq_getElem (by rw [gr_len]; exact h1)]
  congr 1
  simp only [GrAt, List.getElem_map, List.getElem_range]
  exact blk_top _ _ _ _ h0
/-- The world at the start: a stone under the first body. -/
def G1 (s : Int) : Ps → List Int := setP (GrAt s) (0, 0) 5256 1
theorem free_start (s : Int) : FreeG (G1 s) := by
  have key : ∀ x y : Int, (x = 8 ∨ x = 9) → (y = 21 ∨ y = 22) → cellG (G1 s) x y 8 = 0 := fun x y hx hy => by
    unfold G1
    rw [cellG_set (GrAt s) 8 20 8 1 (by omega) (by omega) (by omega) 5256 (by decide +kernel) (gr_len s (0, 0)) x y 8 (by omega) (by omega) (by omega), if_neg (by omega)]
    obtain ⟨i0, i1⟩ := idxS_bd (x := x) (z := 8) (show (0 : Int) ≤ y by omega) (show y ≤ 31 by omega)
    have e : idxS x y 8 = y * 256 + 8 * 16 + x := by
      unfold idxS modS
      rw [if_neg (by omega), if_neg (by omega)]
      omega
    unfold cellG
    rw [if_neg (by omega), if_pos (by omega), div0 (by omega) (by omega), div0 (by omega) (by omega)]
    have h : 3584 ≤ (idxS x y 8).toNat ∧ (idxS x y 8).toNat < 8192 := by omega
    have hg := gr_air s (0, 0) (idxS x y 8).toNat h.1 h.2
    rw [hg]
    rfl
  exact ⟨by rw [key 8 21 (by omega) (by omega)]; rfl, by rw [key 8 22 (by omega) (by omega)]; rfl, by rw [key 9 21 (by omega) (by omega)]; rfl, by rw [key 9 22 (by omega) (by omega)]; rfl⟩
end Go.Proofs.YtnogfelfgclajaaGreatDoor
end
