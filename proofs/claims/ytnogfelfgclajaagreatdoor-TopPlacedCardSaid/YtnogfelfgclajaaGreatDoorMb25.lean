/-
  An engine with two bodies: a cell edited: no cell that a body is in becomes solid.
  A new world, a new sim, a new engine.
  A number's digits (the document's).
  No Go in sight. What a number's digits are worth.
  Numbers in a row, with a blank between (the document's).
  No Go in sight. The words of words with a blank between.
-/
import Derived.Test.YtnogfelfgclajaaGreatDoorMb24
import Derived.Test.YtnogfelfgclajaaGreatDoorMb21
import Derived.Deep.RegionHeld3
import Derived.Test.YtnogfelfgclajaaGreatDoorMb04
import Derived.Test.YtnogfelfgclajaaGreatDoorMb02
import Derived.Laws.BytesArg
import Derived.Test.YtnogfelfgclajaaGreatDoorMb03
import Derived.Lib.FieldsP
import Derived.Laws.RangeString
section
namespace Go.Proofs.YtnogfelfgclajaaGreatDoor
open Go.RowKit
attribute [local go_sem] ext_ext drew_ext ext_drew ext_cell ext_frozen in_lt in_le in_ne in_en in_ne1 in_en1 in_le1 in_ltn in_len in_nen in_enn size_le ite_max ite_min
set_option linter.unusedVariables false
set_option linter.unusedSimpArgs false
set_option maxRecDepth 1000000

/-- No cell that a body is in is solid. -/
structure FreeG (G : Ps → List Int) : Prop where
  a : solB (cellG G 8 21 8) = false
  b : solB (cellG G 8 22 8) = false
  c : solB (cellG G 9 21 8) = false
  d : solB (cellG G 9 22 8) = false
theorem cellG_set (G : Ps → List Int) (x y z b : Int) (hx : 0 ≤ x ∧ x ≤ 15) (hy : 0 ≤ y ∧ y ≤ 31) (hz : 0 ≤ z ∧ z ≤ 15) (j : Nat) (hj : idxS x y z = (j : Int)) (hl : (G (0, 0)).length = 8192) (p q r : Int) (hp : 0 ≤ p ∧ p ≤ 15) (hq : 0 ≤ q ∧ q ≤ 31) (hr : 0 ≤ r ∧ r ≤ 15) :
    cellG (setP G (0, 0) j b) p q r = if p = x ∧ q = y ∧ r = z then b else cellG G p q r := by
  have ix : ∀ u v w : Int, 0 ≤ u ∧ u ≤ 15 → 0 ≤ w ∧ w ≤ 15 → idxS u v w = v * 256 + w * 16 + u := fun u v w h1 h2 => by
    unfold idxS modS
    rw [if_neg (by omega), if_neg (by omega)]
    omega
  have key : ∀ G' : Ps → List Int, cellG G' p q r = ((G' (0, 0))[(idxS p q r).toNat]?).getD 0 := fun G' => by
    unfold cellG
    rw [if_neg (by omega), if_pos (by omega), div0 hp.1 hp.2, div0 hr.1 hr.2]
  rw [key, key]
  have e1 := ix x y z hx hz
  have e2 := ix p q r hp hr
  unfold setP
  rw [if_pos rfl]
  by_cases h : p = x ∧ q = y ∧ r = z
  · obtain ⟨rfl, rfl, rfl⟩ := h
    rw [if_pos ⟨rfl, rfl, rfl⟩, show (idxS p q r).toNat = j by omega, List.getElem?_set_self (by omega)]
    rfl
  · rw [if_neg h, List.getElem?_set_ne (by omega)]
theorem free_set {G : Ps → List Int} (h : FreeG G) (x y z b : Int) (hx : 0 ≤ x ∧ x ≤ 15) (hy : 0 ≤ y ∧ y ≤ 31) (hz : 0 ≤ z ∧ z ≤ 15) (j : Nat) (hj : idxS x y z = (j : Int)) (hl : (G (0, 0)).length = 8192)
    (hb : solB b = false ∨ (heldS 557056 x y z || heldS 622592 x y z) = false) : FreeG (setP G (0, 0) j b) := by
  have one : ∀ p q : Int, (p = 8 ∨ p = 9) → (q = 21 ∨ q = 22) → solB (cellG G p q 8) = false → solB (cellG (setP G (0, 0) j b) p q 8) = false := fun p q hp hq h0 => by
    rw [cellG_set G x y z b hx hy hz j hj hl p q 8 (by omega) (by omega) (by omega)]
    split
    · next e =>
      obtain ⟨e1, e2, e3⟩ := e
      rcases hb with hb | hb
      · exact hb
      · subst e1 e2 e3
        exfalso
        rw [Bool.or_eq_false_iff] at hb
        have t8 := heldS_in (X := 557056) (cx := 8) (.inl ⟨rfl, rfl⟩)
        have t9 := heldS_in (X := 622592) (cx := 9) (.inr ⟨rfl, rfl⟩)
        rcases hp with rfl | rfl <;> rcases hq with rfl | rfl
        · rw [t8.1] at hb; cases hb.1
        · rw [t8.2] at hb; cases hb.1
        · rw [t9.1] at hb; cases hb.2
        · rw [t9.2] at hb; cases hb.2
    · exact h0
  exact ⟨one 8 21 (by omega) (by omega) h.a, one 8 22 (by omega) (by omega) h.b, one 9 21 (by omega) (by omega) h.c, one 9 22 (by omega) (by omega) h.d⟩
/-- An engine's memory, with two bodies. -/
structure EngTwo (B : Nat) (w : World) (en sm qu mq wo t l0 l1 : Nat) (s lim bud : Int) (oc dr : Value) (e c : Nat) (G : Ps → List Int) (T : List (Ps × Bool)) : Prop where
  liv : Lives B w en sm l0 l1 557056 622592
  sim : SimAt B w sm qu wo bud oc dr
  wld : WorldOf B w wo t c
  tab : TabOf B w t s lim mq e G T
  que : QOf B w qu mq c
  free : FreeG G
  here : ∃ c ∈ T, c.1 = ((0, 0) : Ps)
theorem EngTwo.grown {B : Nat} {w W : World} {en sm qu mq wo t l0 l1 e c : Nat} {s lim bud : Int} {oc dr : Value} {G : Ps → List Int} {T : List (Ps × Bool)} (h : EngTwo B w en sm qu mq wo t l0 l1 s lim bud oc dr e c G T) (hW : Below w.heap.size w W) : EngTwo B W en sm qu mq wo t l0 l1 s lim bud oc dr e c G T :=
  ⟨h.liv.grown hW, ⟨(hW.block sm (lt_of_block h.sim.blk)).trans h.sim.blk, h.sim.lo⟩, h.wld.turn (turn_below (F := fun _ => False) hW) (fun _ _ _ _ _ _ => id), h.tab.grown hW, h.que.grown hW, h.free, h.here⟩
/-- A cell edited, or refused. -/
def TwoEdit (B en sm qu mq wo t l0 l1 : Nat) (s lim bud : Int) (oc dr : Value) (e c : Nat) (w : World) (en' : Ending) (w' : World) : Prop :=
  (∃ r : Int, en' = .returned (.int .i64 r) ∧ (r = 0 ∨ r = 12)) ∧ (∃ e' c' G' T', e' ≤ e + 1 ∧ c' ≤ c + 8 ∧ EngTwo B w' en sm qu mq wo t l0 l1 s lim bud oc dr e' c' G' T') ∧ Turn (EF B mq w) w w'
set_option maxHeartbeats 2000000 in
theorem engedit_two {B : Nat} {w : World} {en sm qu mq wo t l0 l1 e c : Nat} {s lim bud : Int} {oc dr : Value} {G : Ps → List Int} {T : List (Ps × Bool)} (h : EngTwo B w en sm qu mq wo t l0 l1 s lim bud oc dr e c G T) (hc : c ≤ 800)
    (x y z b : Int) (hx : 0 ≤ x ∧ x ≤ 15) (hy : 0 ≤ y ∧ y ≤ 31) (hz : 0 ≤ z ∧ z ≤ 15) (hb : GoodB b) (he : e ≤ 14) :
    Calls Tryz.prog 111 #[.pointer (some ⟨en, 0, none⟩), .agg #[.int .i64 x, .int .i64 y, .int .i64 z], .int .i64 b] w (TwoEdit B en sm qu mq wo t l0 l1 s lim bud oc dr e c w) := by
  obtain ⟨e0, _, _, _⟩ := h.liv.cells
  haveI := in_of_cell e0
  have H := Lib.hid h
  obtain ⟨j, hj⟩ : ∃ j : Nat, idxS x y z = (j : Int) := ⟨(idxS x y z).toNat, by obtain ⟨i0, i1⟩ := idxS_bd (x := x) (z := z) hy.1 hy.2; omega⟩
  have hdx := div0 hx.1 hx.2
  have hdz := div0 hz.1 hz.2
  have HE := Lib.hid (fun W (hW : Below w.heap.size w W) => held_two (h.liv.grown hW) x y z)
  have SO := Lib.hid (fun W => solid_any b hb.any W)
  have SE := Lib.hid (fun W (hW : Below w.heap.size w W) => (show Calls Tryz.prog 161 #[.pointer (some ⟨sm, 0, none⟩), .agg #[.int .i64 x, .int .i64 y, .int .i64 z], .int .i64 b] W (SimEdit B qu mq wo t s lim (e + 1) (c + 8) (setP G (0, 0) j b) T W) from by
    have := simedit_any (⟨(hW.block sm (lt_of_block h.sim.blk)).trans h.sim.blk, h.sim.lo⟩ : SimAt B W sm qu wo bud oc dr) (h.wld.turn (turn_below (F := fun _ => False) hW) (fun _ _ _ _ _ _ => id)) (h.tab.grown hW) (h.que.grown hW) hc x y z b ⟨by omega, by omega⟩ ⟨by omega, by omega⟩ hy.1 hy.2 hb he (by rw [hdx, hdz]; exact h.here) j hj
    rwa [hdx, hdz] at this))
  have hlen : (G (0, 0)).length = 8192 := by
    obtain ⟨st, d, mb, lv, its, D, N, ht⟩ := h.tab
    exact (ht.hold.good (0, 0) ⟨by simp, by simp, by simp, by simp⟩).2.1
  have FSE := Lib.hid (fun hb' => free_set h.free x y z b hx hy hz j hj hlen hb')
  clear h hc hx hy hz hdx hdz hj hlen
  have fin : Hid (∀ (W w4 : World), Below w.heap.size w W → (solB b = false ∨ (heldS 557056 x y z || heldS 622592 x y z) = false) → WorldOf B w4 wo t (c + 8) → QOf B w4 qu mq (c + 8) → (∃ T', TabOf B w4 t s lim mq (e + 1) (setP G (0, 0) j b) T' ∧ Same T T') → Turn (EF B mq W) W w4 →
      (∃ e' c' G' T', e' ≤ e + 1 ∧ c' ≤ c + 8 ∧ EngTwo B w4 en sm qu mq wo t l0 l1 s lim bud oc dr e' c' G' T') ∧ Turn (EF B mq w) w w4) := Lib.hid (fun W w4 hW hb' h1 h2 ⟨T', h3, h4⟩ hT => by
    obtain ⟨k, hk⟩ := H.out.que.qmap
    have hkW := hk.keep (hW.block mq hk.lt)
    have sW := (hW.block sm (lt_of_block H.out.sim.blk)).trans H.out.sim.blk
    refine ⟨⟨e + 1, c + 8, _, T', Nat.le_refl _, Nat.le_refl _, (H.out.liv.grown hW).turn hT (fun g cs T fz hg hm => ef_no ⟨k, hkW⟩ hg (by simp at hm; rcases hm with rfl | rfl <;> decide)), ⟨(hT.block sm (lt_of_block sW) (ef_no ⟨k, hkW⟩ sW (by decide))).trans sW, H.out.sim.lo⟩, h1, h3, h2, FSE.out hb', h4.1 _ H.out.here⟩, (turn_below (F := EF B mq w) hW).ef hT⟩)
  cases hsol : solB b
  · rw [hsol] at SO
    have HS := Lib.hid hsol
    clear hsol
    go_enter Tryz.func111, Tryz.ntmps111
    go_wp2_with (go_at_call 159; refine (SO.out _).mono ?_; rintro e w1 ⟨rfl, rfl⟩)
    refine wp_region_ext_tail 6 ?_ ?_ ?_
    · kernel_rfl
    · kernel_rfl
    simp only [List.take_succ_cons, List.take_zero, List.drop_succ_cons, List.drop_zero]
    repeat (go_big_quiet_step (first | fail))
    refine wpQuiet_nil ?_
    rintro w2 ⟨_t, hw⟩
    have hc2 := named_cell hw
    have hz2 := named_frozen hw
    have hh2 := named_heap hw
    haveI hi2 := named_in hw
    haveI hb2 := named_below (w := w) hw
    clear hw
    have B2 := Lib.hid (grown_now (w := w) (W := w2))
    go_wp2_with fail
    refine (SE.out w2 B2.out).mono ?_
    rintro e3 w3 ⟨rfl, a1, a2, a3, a4⟩
    have F3 := Lib.hid (fin.out w2 w3 B2.out (.inl HS.out) a1 a2 a3 a4)
    clear a1 a2 a3 a4
    go_wp2_with fail
    go_ret
    exact ⟨⟨0, rfl, .inl rfl⟩, F3.out.1, F3.out.2⟩
  · rw [hsol] at SO
    clear hsol
    obtain ⟨hh, hhh⟩ : ∃ h, (heldS 557056 x y z || heldS 622592 x y z) = h := ⟨_, rfl⟩
    have HH := Lib.hid hhh
    have HE2 := Lib.hid (fun W (hW : Below w.heap.size w W) => (show Calls Tryz.prog 160 #[.pointer (some ⟨en, 0, none⟩), .agg #[.int .i64 x, .int .i64 y, .int .i64 z]] W fun e w' => e = .returned (.bool hh) ∧ ∃ f, w' = ext W f from hhh ▸ HE.out W hW))
    clear hhh HE
    cases hh
    · go_enter Tryz.func111, Tryz.ntmps111
      go_wp2_with (go_at_call 159; refine (SO.out _).mono ?_; rintro e w1 ⟨rfl, rfl⟩)
      refine (HE2.out _ (by exact grown_now)).mono ?_
      rintro e w1 ⟨rfl, _t, hw⟩
      have hc1 := named_cell hw
      have hz1 := named_frozen hw
      have hh1 := named_heap hw
      haveI hi1 := named_in hw
      haveI hb1 := named_below (w := w) hw
      clear hw
      go_wp2_with fail
      refine wp_region_ext_tail 6 ?_ ?_ ?_
      · kernel_rfl
      · kernel_rfl
      simp only [List.take_succ_cons, List.take_zero, List.drop_succ_cons, List.drop_zero]
      repeat (go_big_quiet_step (first | fail))
      refine wpQuiet_nil ?_
      rintro w2 ⟨_t, hw⟩
      haveI hb2_1 := named_below (w := w1) hw
      have hc2 := named_cell hw
      have hz2 := named_frozen hw
      have hh2 := named_heap hw
      haveI hi2 := named_in hw
      haveI hb2 := named_below (w := w) hw
      clear hw
      have B2 := Lib.hid (grown_now (w := w) (W := w2))
      go_wp2_with fail
      refine (SE.out w2 B2.out).mono ?_
      rintro e3 w3 ⟨rfl, a1, a2, a3, a4⟩
      have F3 := Lib.hid (fin.out w2 w3 B2.out (.inr HH.out) a1 a2 a3 a4)
      clear a1 a2 a3 a4
      go_wp2_with fail
      go_ret
      exact ⟨⟨0, rfl, .inl rfl⟩, F3.out.1, F3.out.2⟩
    · go_enter Tryz.func111, Tryz.ntmps111
      go_wp2_with (go_at_call 159; refine (SO.out _).mono ?_; rintro e w1 ⟨rfl, rfl⟩)
      refine (HE2.out _ (by exact grown_now)).mono ?_
      rintro e w1 ⟨rfl, _t, hw⟩
      have hc1 := named_cell hw
      have hz1 := named_frozen hw
      have hh1 := named_heap hw
      haveI hi1 := named_in hw
      haveI hb1 := named_below (w := w) hw
      clear hw
      go_wp2_with fail
      go_ret
      have B1 := grown_now (w := w) (W := w1)
      exact ⟨⟨12, rfl, .inr rfl⟩, ⟨e, c, G, T, by omega, by omega, H.out.grown B1⟩, turn_below B1⟩
#print axioms engedit_two
end Go.Proofs.YtnogfelfgclajaaGreatDoor
end

section
namespace Go.Proofs.YtnogfelfgclajaaGreatDoor
open Go.RowKit
attribute [local go_sem] ext_ext drew_ext ext_drew ext_cell ext_frozen in_lt in_le in_ne in_en in_ne1 in_en1 in_le1 in_ltn in_len in_nen in_enn size_le ite_max ite_min
set_option linter.unusedVariables false
set_option linter.unusedSimpArgs false
set_option maxRecDepth 1000000

def NewWorld (B : Nat) (s lim : Int) (w : World) (e : Ending) (w' : World) : Prop := ∃ wo t st d mb, e = .returned (.pointer (some ⟨wo, 0, none⟩)) ∧ WorldOf B w' wo t 0 ∧ TabAt B w' t s lim t 0 (GrAt s) [] st d mb (.slice none 0 0) [] (fun _ => none) 0 ∧ ∃ f, w' = ext w f
theorem worldnew_any (B : Nat) (s l lim : Int) (hl : min 16 (max l 1) = lim) (w : World) (hB : B ≤ w.heap.size) : Calls Tryz.prog 43 #[.int .i64 s, .int .i64 l, .int .i64 200000] w (NewWorld B s lim w) := by
  have HB := Lib.hid hB
  have TN := Lib.hid (tabnew_any B s l lim hl w hB)
  clear hB hl
  go_enter Tryz.func43, Tryz.ntmps43
  go_wp2_with fail
  refine TN.out.mono ?_
  rintro e w1 ⟨t, st, d, mb, rfl, ht, _t, hw⟩
  haveI hb1 := named_below (w := w) hw
  have T1 := Lib.hid ht
  clear hw ht TN
  go_wp2_with fail
  go_ret
  exact ⟨_, _, _, _, _, rfl, ⟨_, 0, [], heap_alloc_new _ _, Nat.le_trans HB.out (grown_now (w := w) (W := w1)).size, World.ownsRow_nil .., Nat.le_refl _⟩, T1.out.grown ((Below.refl _ w1).alloc (Nat.le_refl _) _), grown_of⟩
def NewSim (B wo : Nat) (w : World) (e : Ending) (w' : World) : Prop := ∃ sm qu mq bud oc dr, e = .returned (.pointer (some ⟨sm, 0, none⟩)) ∧ SimAt B w' sm qu wo bud oc dr ∧ QOf B w' qu mq 0 ∧ w.heap.size ≤ mq ∧ mq < w'.heap.size ∧ ∃ f, w' = ext w f
theorem simnew_any (B wo : Nat) (bud : Int) (w : World) (hB : B ≤ w.heap.size) : Calls Tryz.prog 42 #[.pointer (some ⟨wo, 0, none⟩), .int .i64 bud] w (NewSim B wo w) := by
  have HB := Lib.hid hB
  have QN := Lib.hid (queuenew_any B w hB)
  clear hB
  go_enter Tryz.func42, Tryz.ntmps42
  go_wp2_with fail
  refine QN.out.mono ?_
  rintro e w1 ⟨qu, mq, rfl, hq, hm, _t, hw⟩
  haveI hb1 := named_below (w := w) hw
  have Q1 := Lib.hid (And.intro hq hm)
  clear hw hq hm QN
  go_wp2_with fail
  go_ret
  refine ⟨_, _, _, _, _, _, rfl, ⟨heap_alloc_new _ _, Nat.le_trans HB.out (grown_now (w := w) (W := w1)).size⟩, Q1.out.1.grown ((Below.refl _ w1).alloc (Nat.le_refl _) _), Q1.out.2, ?_, grown_of⟩
  obtain ⟨k, hk⟩ := Q1.out.1.qmap
  have := hk.lt
  simp
  omega
/-- A new engine. -/
def NewEng (B : Nat) (s lim : Int) (w : World) (e : Ending) (w' : World) : Prop := ∃ en sm qu mq wo t bud oc dr, e = .returned (.pointer (some ⟨en, 0, none⟩)) ∧ EngOf B w' en sm qu mq wo t s lim bud oc dr 0 0 (GrAt s) [] ∧ ∃ f, w' = ext w f
set_option maxHeartbeats 1000000 in
theorem engnew_any (B : Nat) (s l bud lim : Int) (hl : min 16 (max l 1) = lim) (w : World) (hB : B ≤ w.heap.size) : Calls Tryz.prog 26 #[.agg #[.int .i64 s, .int .i64 l, .int .i64 200000, .int .i64 bud]] w (NewEng B s lim w) := by
  have HB := Lib.hid hB
  have WN := Lib.hid (fun W (hW : Below w.heap.size w W) => worldnew_any B s l lim hl W (Nat.le_trans hB hW.size))
  have SN := Lib.hid (fun W wo (hW : Below w.heap.size w W) => simnew_any B wo bud W (Nat.le_trans hB hW.size))
  clear hB hl
  go_enter Tryz.func26, Tryz.ntmps26
  go_wp2_with fail
  go_region_held3 (fun w' => w'.cell? ⟨w.heap.size, 0, none⟩ = some (.int .i64 s) ∧ w'.cell? ⟨w.heap.size, 1, none⟩ = some (.int .i64 l) ∧ w'.cell? ⟨w.heap.size, 2, none⟩ = some (.int .i64 200000) ∧ w'.cell? ⟨w.heap.size, 3, none⟩ = some (.int .i64 bud))
    (((try dsimp only); refine ⟨?_, ?_, ?_, ?_⟩ <;> go_simp))
    (first
      | (go_at_call 43; refine (WN.out _ (by exact grown_now)).mono ?_; rintro e w1 ⟨wo, t, st, d, mb, rfl, hwo, htab, _t, hw⟩; haveI hb1 := named_below (w := w) hw; haveI hg1 := named_grown hw; have hc1 := named_cell hw; haveI hi1 := named_in hw; have W1 := Lib.hid (And.intro hwo htab); clear hw hwo htab)
      | (go_at_call 42; refine (SN.out _ _ (by exact grown_now)).mono ?_; rintro e w2 ⟨sm, qu, mq, bd, oc, dr, rfl, hsim, hq, hm1, hm2, _t, hw⟩; haveI hb2 := named_below (w := w) hw; haveI hb21 := named_below (w := w1) hw; have hc2 := named_cell hw; haveI hi2 := named_in hw; have hm3 := Nat.le_trans (by exact (grown_now (w := w1)).size) hm1; have S2 := Lib.hid (And.intro hsim (And.intro hq (And.intro hm3 hm2))); clear hw hsim hq hm1 hm2 hm3))
  all_goals
    go_wp2_with fail
    go_ret
    have hA := fun o => (Below.refl w2.heap.size w2).alloc (Nat.le_refl _) o
    have hwo := (W1.out.1.turn (turn_below (F := fun _ => False) (grown_now (w := w1) (W := w2))) (fun _ _ _ _ _ _ => id)).turn (turn_below (F := fun _ => False) (hA (.cells (engCells sm) 69))) (fun _ _ _ _ _ _ => id)
    have hsb := ((hA (.cells (engCells sm) 69)).block sm (lt_of_block S2.out.1.blk)).trans S2.out.1.blk
    have hmm : mb ≠ mq := by have h1 := W1.out.2.dsk.map.lt; have h2 := S2.out.2.2.1; omega
    refine ⟨_, sm, qu, mq, wo, t, bd, oc, dr, rfl, ⟨⟨heap_alloc_new w2 (.cells (engCells sm) 69), Nat.le_trans HB.out (grown_now (w := w) (W := w2)).size⟩, ⟨hsb, S2.out.1.lo⟩, hwo, ⟨st, d, mb, _, _, _, _, ((W1.out.2.grown (grown_now (w := w1) (W := w2))).grown (hA _)).requeue hmm (by have := S2.out.2.2.2; simp; omega)⟩, S2.out.2.1.grown (hA _)⟩, grown_of⟩
#print axioms engnew_any
end Go.Proofs.YtnogfelfgclajaaGreatDoor
end

section
namespace Go.Proofs.YtnogfelfgclajaaGreatDoor
open Go.RowKit
attribute [local go_sem] ext_ext drew_ext ext_drew ext_cell ext_frozen in_lt in_le in_ne in_en in_ne1 in_en1 in_le1 in_ltn in_len in_nen in_enn size_le ite_max ite_min
set_option linter.unusedVariables false
set_option linter.unusedSimpArgs false

/-- A digit. -/
def dg (d : Int) : UInt8 := UInt8.ofNat (48 + d).toNat
def decF : Nat → Int → List UInt8
  | 0, n => [dg (n % 10)]
  | k + 1, n => if n < 10 then [dg (n % 10)] else decF k (n / 10) ++ [dg (n % 10)]
theorem decF_low (k : Nat) {n : Int} (h : n < 10) : decF k n = [dg (n % 10)] := by
  cases k with
  | zero => rfl
  | succ k => unfold decF; rw [if_pos h]
theorem decF_high (k : Nat) {n : Int} (h : ¬ n < 10) : decF (k + 1) n = decF k (n / 10) ++ [dg (n % 10)] := by
  conv => lhs; unfold decF
  rw [if_neg h]
/-- A number's digits (of at most 17). -/
def decI (k : Nat) (n : Int) : List UInt8 := if n < 0 then 45 :: decF k (-n) else decF k n

theorem one_str (W : World) (v : Int) : (Go.convert 87 9 (.slice (some ⟨W.heap.size, 0, none⟩) 1 1)).run Tryz.prog (W.alloc (.cells #[.int .u8 v] 5)) = .ok (sV [UInt8.ofNat v.toNat]) (W.alloc (.cells #[.int .u8 v] 5)) := by
  have := run_convert_bytes_arg (P := Tryz.prog) (W.alloc (.cells #[.int .u8 v] 5)) 87 5 Tryz.underlying87 Tryz.underlying5 W.heap.size 0 1 1 [v] rfl (fun i hi => by
    obtain rfl : i = 0 := by omega
    exact World.cell?_alloc_new ..) 9 Tryz.underlying9
  rw [this]
  rfl

theorem ret_bs {a b : ByteArray} (h : a = b) : Ending.returned (.string a) = .returned (.string b) := by rw [h]
theorem minus_bs (l : List UInt8) : (⟨#[45]⟩ : ByteArray) ++ bs l = bs (45 :: l) := bs_append [45] l

theorem decF_len (k : Nat) : ∀ n : Int, (decF k n).length ≤ k + 1 := by
  induction k with
  | zero => intro n; simp [decF]
  | succ k ih =>
    intro n
    unfold decF
    split
    · simp
    · have := ih (n / 10); simp; omega
theorem decI_len (k : Nat) (n : Int) : (decI k n).length ≤ k + 2 := by
  unfold decI
  split
  · have := decF_len k (-n); simp; omega
  · have := decF_len k n; omega
theorem decI_size (k : Nat) (n : Int) : (bs (decI k n)).size ≤ k + 2 := by rw [bs_size]; exact decI_len k n
theorem one_size (c : UInt8) : (bs [c]).size ≤ 1 := by rw [bs_size]; exact Nat.le_refl _
theorem neg_tmod10 {n : Int} (h : n ≤ 0) : n.tmod 10 = -((-n) % 10) := by rw [← Int.tmod_eq_emod_of_nonneg (by omega), Int.neg_tmod, Int.neg_neg]
theorem neg_tdiv10 {n : Int} (h : n ≤ 0) : n.tdiv 10 = -((-n) / 10) := by rw [← Int.tdiv_eq_ediv_of_nonneg (by omega), Int.neg_tdiv, Int.neg_neg]

set_option maxRecDepth 100000 in
set_option maxHeartbeats 1000000 in
/-- One digit. -/
theorem dec_one (k : Nat) (n : Int) (w : World) (h4 : -10 < n) (h3 : n < 10) : Calls Tryz.prog 8 #[.int .i64 n] w fun e w' => e = .returned (sV (decI k n)) ∧ ∃ f, w' = ext w f := by
  by_cases h0 : 0 ≤ n
  · have H := Lib.hid (show decI k n = [dg (n % 10)] by unfold decI; rw [if_neg (by omega), decF_low _ h3])
    have kc := fun (W : World) => one_str W (48 + n % 10)
    go_enter Tryz.func8, Tryz.ntmps8
    go_wp2_with fail
    go_ret
    exact ⟨ret_bs (by rw [H.out]; rfl), grown_of⟩
  · have HT := neg_tmod10 (n := n) (by omega)
    have H := Lib.hid (show decI k n = 45 :: [dg (-(n.tmod 10))] by unfold decI; rw [if_pos (by omega), decF_low _ (by omega), HT, Int.neg_neg])
    have kc := fun (W : World) => one_str W (48 + -n.tmod 10)
    have h5 : n.tmod 10 < 0 := by omega
    have h6 : -10 < n.tmod 10 := by omega
    have h7 : n < 0 := by omega
    clear HT h0
    go_enter Tryz.func8, Tryz.ntmps8
    go_wp2_with fail
    go_ret
    exact ⟨ret_bs (by rw [H.out]; exact minus_bs _), grown_of⟩

set_option maxRecDepth 100000 in
set_option maxHeartbeats 1000000 in
theorem dec_any (k : Nat) : ∀ (n : Int) (w : World), k ≤ 100 → -(10 ^ (k + 1)) < n → n < 10 ^ (k + 1) → Fit n → Calls Tryz.prog 8 #[.int .i64 n] w fun e w' => e = .returned (sV (decI k n)) ∧ ∃ f, w' = ext w f := by
  induction k with
  | zero => exact fun n w _ h1 h2 _ => dec_one 0 n w (by simpa using h1) (by simpa using h2)
  | succ k ih =>
    intro n w hk h1 h2 hf
    have f1 := hf.1
    have f2 := hf.2
    have e0 : (10 : Int) ^ (k + 1 + 1) = 10 ^ (k + 1) * 10 := rfl
    rw [e0] at h1 h2
    generalize (10 : Int) ^ (k + 1) = T at *
    by_cases c1 : 10 ≤ n
    · have H := Lib.hid (show decI (k + 1) n = decI k (n / 10) ++ [dg (n % 10)] by unfold decI; rw [if_neg (by omega), if_neg (by omega), decF_high _ (by omega)])
      have kc := fun (W : World) => one_str W (48 + n % 10)
      have IH := fun W => ih (n / 10) W (by omega) (by omega) (by omega) ⟨by omega, by omega⟩
      have s1 := decI_size k (n / 10)
      have s2 := one_size (dg (n % 10))
      unfold dg at s2
      clear ih h1 h2 hf e0
      go_enter Tryz.func8, Tryz.ntmps8
      go_wp2_with (go_at_call 8; refine (IH _).mono ?_; rintro e w1 ⟨rfl, t1, rfl⟩)
      go_ret
      exact ⟨ret_bs (by rw [H.out]; exact bs_append _ _), grown_of⟩
    · by_cases c2 : n ≤ -10
      · have HT := neg_tmod10 (n := n) (by omega)
        have HD := neg_tdiv10 (n := n) (by omega)
        have H := Lib.hid (show decI (k + 1) n = decI k (n.tdiv 10) ++ [dg (-(n.tmod 10))] by
          unfold decI; rw [if_pos (by omega), if_pos (by omega), decF_high _ (by omega), HT, HD, Int.neg_neg, Int.neg_neg]; rfl)
        have IH := fun W => ih (n.tdiv 10) W (by omega) (by omega) (by omega) ⟨by omega, by omega⟩
        have h6 : -10 < n.tmod 10 := by omega
        have h7 : n < 0 := by omega
        by_cases c3 : n.tmod 10 < 0
        · have kc := fun (W : World) => one_str W (48 + -n.tmod 10)
          have s1 := decI_size k (n.tdiv 10)
          have s2 := one_size (dg (-n.tmod 10))
          unfold dg at s2
          clear ih h1 h2 hf e0 HT HD
          go_enter Tryz.func8, Tryz.ntmps8
          go_wp2_with (go_at_call 8; refine (IH _).mono ?_; rintro e w1 ⟨rfl, t1, rfl⟩)
          go_ret
          exact ⟨ret_bs (by rw [H.out]; exact bs_append _ _), grown_of⟩
        · have c4 : n.tmod 10 = 0 := by omega
          have kc := fun (W : World) => one_str W (48 + n.tmod 10)
          have H2 : Hid (decI (k + 1) n = decI k (n.tdiv 10) ++ [dg (n.tmod 10)]) := Lib.hid (by rw [H.out, c4]; rfl)
          have c5 : 0 ≤ n.tmod 10 := by omega
          have c6 : n.tmod 10 ≤ 0 := by omega
          have s1 := decI_size k (n.tdiv 10)
          have s2 := one_size (dg (n.tmod 10))
          unfold dg at s2
          clear ih h1 h2 hf e0 HT HD c4 H
          go_enter Tryz.func8, Tryz.ntmps8
          go_wp2_with (go_at_call 8; refine (IH _).mono ?_; rintro e w1 ⟨rfl, t1, rfl⟩)
          go_ret
          exact ⟨ret_bs (by rw [H2.out]; exact bs_append _ _), grown_of⟩
      · exact dec_one _ n w (by omega) (by omega)
end Go.Proofs.YtnogfelfgclajaaGreatDoor
end

section
namespace Go.Proofs.YtnogfelfgclajaaGreatDoor

def valD (l : List UInt8) : Int := l.foldl (fun a c => a * 10 + ((c.toNat : Int) - 48)) 0
theorem valD_snoc (l : List UInt8) (c : UInt8) : valD (l ++ [c]) = valD l * 10 + ((c.toNat : Int) - 48) := by simp [valD]
def Dig (c : UInt8) : Prop := 48 ≤ c.toNat ∧ c.toNat ≤ 57
theorem dg_val {d : Int} (h0 : 0 ≤ d) (h1 : d < 10) : (dg d).toNat = 48 + d.toNat := by
  unfold dg
  rw [UInt8.toNat_ofNat']
  omega
theorem dg_dig {d : Int} (h0 : 0 ≤ d) (h1 : d < 10) : Dig (dg d) := by
  unfold Dig
  rw [dg_val h0 h1]
  omega
theorem decF_dig (k : Nat) : ∀ n : Int, 0 ≤ n → ∀ c ∈ decF k n, Dig c := by
  induction k with
  | zero =>
    intro n h0 c hc
    simp only [decF, List.mem_singleton] at hc
    subst hc
    exact dg_dig (by omega) (by omega)
  | succ k ih =>
    intro n h0 c hc
    by_cases h : n < 10
    · rw [decF_low _ h, List.mem_singleton] at hc
      subst hc
      exact dg_dig (by omega) (by omega)
    · rw [decF_high _ h, List.mem_append, List.mem_singleton] at hc
      rcases hc with hc | rfl
      · exact ih _ (by omega) c hc
      · exact dg_dig (by omega) (by omega)
theorem decF_full (k : Nat) (n : Int) : decF k n ≠ [] := by
  cases k with
  | zero => simp [decF]
  | succ k => unfold decF; split <;> simp
theorem decF_short (j : Nat) : ∀ (k : Nat) (n : Int), j ≤ k → n < 10 ^ (j + 1) → (decF k n).length ≤ j + 1 := by
  induction j with
  | zero =>
    intro k n _ h
    rw [decF_low _ (by simpa using h)]
    exact Nat.le_refl _
  | succ j ih =>
    intro k n hk h
    by_cases h1 : n < 10
    · rw [decF_low _ h1]; simp
    · obtain ⟨k, rfl⟩ : ∃ m, k = m + 1 := ⟨k - 1, by omega⟩
      have e : (10 : Int) ^ (j + 1 + 1) = 10 ^ (j + 1) * 10 := rfl
      rw [e] at h
      generalize hT : (10 : Int) ^ (j + 1) = T at h
      have := ih k (n / 10) (by omega) (by rw [hT]; omega)
      rw [decF_high _ h1, List.length_append]
      simp
      omega
theorem decF_val (k : Nat) : ∀ n : Int, 0 ≤ n → n < 10 ^ (k + 1) → valD (decF k n) = n := by
  have one : ∀ n : Int, 0 ≤ n → n < 10 → valD [dg (n % 10)] = n := fun n h0 h1 => by
    have := dg_val (d := n % 10) (by omega) (by omega)
    simp only [valD, List.foldl_cons, List.foldl_nil]
    rw [this]
    omega
  induction k with
  | zero =>
    intro n h0 h
    exact one n h0 (by simpa using h)
  | succ k ih =>
    intro n h0 h
    by_cases h1 : n < 10
    · rw [decF_low _ h1]; exact one n h0 h1
    · have e : (10 : Int) ^ (k + 1 + 1) = 10 ^ (k + 1) * 10 := rfl
      rw [e] at h
      generalize hT : (10 : Int) ^ (k + 1) = T at h
      rw [decF_high _ h1, valD_snoc, ih (n / 10) (by omega) (by rw [hT]; omega), dg_val (by omega) (by omega)]
      omega
theorem valD_mono (l : List UInt8) (h : ∀ c ∈ l, Dig c) : ∀ j, 0 ≤ valD (l.take j) ∧ valD (l.take j) ≤ valD l := by
  have key : ∀ (m : List UInt8) (a : Int), (∀ c ∈ m, Dig c) → 0 ≤ a → a ≤ m.foldl (fun a c => a * 10 + ((c.toNat : Int) - 48)) a := by
    intro m
    induction m with
    | nil => intro a _ _; exact Int.le_refl _
    | cons c m ih =>
      intro a hm ha
      have h1 := (hm c (by simp)).1
      have := ih (a * 10 + ((c.toNat : Int) - 48)) (fun x hx => hm x (by simp [hx])) (by omega)
      simp only [List.foldl_cons]
      omega
  intro j
  have h0 : 0 ≤ valD (l.take j) := key _ 0 (fun c hc => h c (List.mem_of_mem_take hc)) (Int.le_refl _)
  refine ⟨h0, ?_⟩
  have e : valD l = (l.drop j).foldl (fun a c => a * 10 + ((c.toNat : Int) - 48)) (valD (l.take j)) := by
    unfold valD
    rw [← List.foldl_append, List.take_append_drop]
  rw [e]
  exact key _ _ (fun c hc => h c (List.mem_of_mem_drop hc)) h0
end Go.Proofs.YtnogfelfgclajaaGreatDoor
end

section
namespace Go.Proofs.YtnogfelfgclajaaGreatDoor
open Go.RowKit
attribute [local go_sem] ext_ext drew_ext ext_drew ext_cell ext_frozen in_lt in_le in_ne in_en in_ne1 in_en1 in_le1 in_ltn in_len in_nen in_enn size_le ite_max ite_min
set_option linter.unusedVariables false
set_option linter.unusedSimpArgs false

/-- Words, with a blank between. -/
def joinW : List (List UInt8) → List UInt8
  | [] => []
  | [w] => w
  | w :: v :: r => w ++ 32 :: joinW (v :: r)
theorem joinW_cons (w : List UInt8) {r : List (List UInt8)} (h : r ≠ []) : joinW (w :: r) = w ++ 32 :: joinW r := by
  cases r with
  | nil => exact absurd rfl h
  | cons v r => rfl
theorem joinW_snoc (l : List (List UInt8)) (x : List UInt8) (h : l ≠ []) : joinW (l ++ [x]) = joinW l ++ ([32] ++ x) := by
  induction l with
  | nil => exact absurd rfl h
  | cons w l ih =>
    by_cases h0 : l = []
    · subst h0; rfl
    · rw [List.cons_append, joinW_cons _ (by simp), joinW_cons _ h0, ih h0, List.append_assoc]; rfl
def decs (ns : List Int) : List (List UInt8) := ns.map (decI 16)
theorem decs_len (ns : List Int) : (joinW (decs ns)).length ≤ 20 * ns.length := by
  induction ns with
  | nil => simp [decs, joinW]
  | cons n ns ih =>
    have h1 := decI_len 16 n
    by_cases h0 : decs ns = []
    · have : joinW (decs (n :: ns)) = decI 16 n := by
        show joinW (decI 16 n :: decs ns) = _
        rw [h0]; rfl
      rw [this, List.length_cons]; omega
    · have : joinW (decs (n :: ns)) = decI 16 n ++ 32 :: joinW (decs ns) := joinW_cons _ h0
      rw [this]
      simp only [List.length_append, List.length_cons]
      omega
theorem row_first (ns : List Int) (n : Int) (h : ns = []) : joinW (decs (ns ++ [n])) = decI 16 n := by subst h; rfl
theorem row_next (ns : List Int) (n : Int) (h : ns ≠ []) : joinW (decs (ns ++ [n])) = joinW (decs ns) ++ ([32] ++ decI 16 n) := by
  have := joinW_snoc (decs ns) (decI 16 n) (by simpa [decs] using h)
  simpa [decs] using this
theorem blank_bs (l : List UInt8) : bs l ++ (⟨#[32]⟩ : ByteArray) = bs (l ++ [32]) := bs_append l [32]
def Small17 (n : Int) : Prop := -(10 ^ 17) < n ∧ n < 10 ^ 17
theorem Small17.fit {n : Int} (h : Small17 n) : Fit n := by
  have h1 : (10 : Int) ^ 17 = 100000000000000000 := by decide
  obtain ⟨a, b⟩ := h
  rw [h1] at a b
  exact ⟨by omega, by omega⟩
theorem small17 {n : Int} (h1 : -100000000000000000 < n) (h2 : n < 100000000000000000) : Small17 n := by
  have e : (10 : Int) ^ 17 = 100000000000000000 := by decide
  exact ⟨by rw [e]; exact h1, by rw [e]; exact h2⟩

set_option maxRecDepth 100000 in
set_option maxHeartbeats 1000000 in
theorem row_any (ns : List Int) (g cap : Nat) (w : World) (h0 : 0 < ns.length) (hl : ns.length ≤ 10) (hs : ∀ n ∈ ns, Small17 n) (hc : ∀ k (h : k < ns.length), w.cell? ⟨g, k, none⟩ = some (.int .i64 ns[k])) :
    Calls Tryz.prog 11 #[.slice (some ⟨g, 0, none⟩) ns.length cap] w fun e w' => e = .returned (sV (joinW (decs ns))) ∧ ∃ f, w' = ext w f := by
  have HC := Lib.hid hc
  have HS := Lib.hid hs
  haveI := in_of_cell (hc 0 h0)
  clear hc hs h0
  go_enter Tryz.func11, Tryz.ntmps11
  go_wp2_with fail
  go_loopw [3, 4] (fun s i wr => ∃ k : Nat, k ≤ ns.length ∧ i = .int .i64 k ∧ s = sV (joinW (decs (ns.take k))) ∧ ∃ f, wr = ext w f) (fun _ i _ => ns.length - (intOf i).toNat)
  case atStart => exact ⟨0, by omega, rfl, rfl, grown_of⟩
  case round =>
    obtain ⟨k, hk, rfl, rfl, _, hw⟩ := hrel
    rename World => w1
    haveI hg1 := named_grown hw
    have hc1 := named_cell hw
    have hz1 := named_frozen hw
    haveI hi1 := named_in hw
    haveI hb1 := named_below (w := w) hw
    clear hw
    by_cases hlt : k < ns.length
    · have d0 := HC.out k hlt
      have HT := Lib.hid (show ns.take (k + 1) = ns.take k ++ [ns[k]] from List.take_succ_eq_append_getElem hlt)
      have HK := Lib.hid hlt
      have k1 : (k : Int) < (ns.length : Int) := by omega
      have k2 : (ns.length : Int) ≤ 10 := by omega
      have s1 : (bs (joinW (decs (ns.take k)))).size ≤ 200 := by rw [bs_size]; have := decs_len (ns.take k); have : (ns.take k).length ≤ ns.length := List.length_take_le' ..; omega
      have s2 := decI_size 16 ns[k]
      have hsk := HS.out ns[k] (List.getElem_mem hlt)
      have D := fun W => dec_any 16 ns[k] W (by omega) hsk.1 hsk.2 hsk.fit
      have HE : Hid (ns.take k = [] ↔ k = 0) := Lib.hid (by
        constructor
        · intro h; have := congrArg List.length h; simp at this; rcases this with h | h
          · exact h
          · subst h; simp at hlt
        · rintro rfl; rfl)
      clear hsk
      generalize ns[k] = n at *
      generalize ns.take k = l at *
      clear hlt
      by_cases k0 : k = 0
      · subst k0
        have HL : Hid (joinW (decs l) = [] ∧ joinW (decs (l ++ [n])) = decI 16 n) := Lib.hid ⟨by rw [HE.out.2 rfl]; rfl, row_first l n (HE.out.2 rfl)⟩
        rw [HL.out.1] at s1
        simp only [HL.out.1]
        go_wp2_with (go_at_call 8; refine (D _).mono ?_; rintro e w1 ⟨rfl, t1, rfl⟩)
        go_roundw
        case rel => exact ⟨1, HK.out, rfl, by rw [HT.out, HL.out.2]; exact congrArg Value.string (bs_append [] _), grown_of⟩
        case measure => have := HK.out; simp [intOf]; omega
      · have HL := Lib.hid (row_next l n (fun e => k0 (HE.out.1 e)))
        have k3 : 0 < k := by omega
        have s3 : (bs (joinW (decs l)) ++ (⟨#[32]⟩ : ByteArray)).size ≤ 201 := by rw [blank_bs, bs_size, List.length_append]; rw [bs_size] at s1; simp; omega
        go_wp2_with (go_at_call 8; refine (D _).mono ?_; rintro e w1 ⟨rfl, t1, rfl⟩)
        go_roundw
        case rel => exact ⟨k + 1, HK.out, by go_num, by rw [HT.out, HL.out, blank_bs, bs_append, List.append_assoc], grown_of⟩
        case measure => have := HK.out; simp [intOf]; omega
    · have k1 : ¬ (k : Int) < (ns.length : Int) := by omega
      rw [List.take_of_length_le (show ns.length ≤ k by omega)]
      go_wp2_with fail
      go_ret
      exact ⟨rfl, grown_of⟩
end Go.Proofs.YtnogfelfgclajaaGreatDoor
end

section
namespace Go.Proofs.YtnogfelfgclajaaGreatDoor
open Go.RowKit Go.Lib

/-- A word: something, without blanks, of plain letters. -/
structure Wd (w : List UInt8) : Prop where
  full : w ≠ []
  fine : ∀ c ∈ w, c.toNat < 128 ∧ c ≠ 32

def isBl (n : Nat) : Bool := n == 32
def sp : List UInt8 → Nat → Option Nat → List (Nat × Nat) → List (Nat × Nat) × Option Nat
  | [], _, st, acc => (acc, st)
  | c :: l, pos, st, acc =>
    if c = 32 then (match st with
      | some a => sp l (pos + 1) none (acc ++ [(a, pos)])
      | none => sp l (pos + 1) none acc)
    else (match st with
      | some a => sp l (pos + 1) (some a) acc
      | none => sp l (pos + 1) (some pos) acc)

theorem sp_in {c : UInt8} (h : c ≠ 32) (l : List UInt8) (pos a : Nat) (acc : List (Nat × Nat)) : sp (c :: l) pos (some a) acc = sp l (pos + 1) (some a) acc := by
  show (if c = 32 then _ else _) = _
  rw [if_neg h]
theorem sp_on {c : UInt8} (h : c ≠ 32) (l : List UInt8) (pos : Nat) (acc : List (Nat × Nat)) : sp (c :: l) pos none acc = sp l (pos + 1) (some pos) acc := by
  show (if c = 32 then _ else _) = _
  rw [if_neg h]
theorem sp_off (l : List UInt8) (pos a : Nat) (acc : List (Nat × Nat)) : sp (32 :: l) pos (some a) acc = sp l (pos + 1) none (acc ++ [(a, pos)]) := rfl
theorem u8_32 (c : UInt8) : (c.toNat == 32) = decide (c = 32) := by
  rw [Bool.eq_iff_iff]
  simp only [beq_iff_eq, decide_eq_true_eq]
  constructor
  · intro h; exact UInt8.toNat_inj.1 (by rw [h]; rfl)
  · rintro rfl; rfl

theorem len_data (s : ByteArray) : s.data.toList.length = s.size := Array.length_toList
theorem spans_sp (s : ByteArray) (hs : ∀ c ∈ s.data.toList, c.toNat < 128) : ∀ (f pos : Nat) (st : Option Nat) (acc : List (Nat × Nat)), s.size ≤ pos + f → spansFromP isBl s f pos st acc = sp (s.data.toList.drop pos) pos st acc := by
  intro f
  induction f with
  | zero =>
    intro pos st acc h
    rw [List.drop_of_length_le (by rw [len_data]; exact h)]
    rfl
  | succ f ih =>
    intro pos st acc h
    by_cases hp : pos < s.size
    · have hp' : pos < s.data.toList.length := by rw [len_data]; exact hp
      have ha : (s[pos]'hp).toNat < 128 := hs _ (by
        show s.data[pos] ∈ s.data.toList
        exact Array.getElem_mem_toList _)
      have hd : s.data.toList.drop pos = (s[pos]'hp) :: s.data.toList.drop (pos + 1) := List.drop_eq_getElem_cons hp'
      rw [hd]
      unfold spansFromP sp
      rw [if_pos hp, decode_ascii s pos hp ha]
      simp only
      rw [show isBl (s[pos]'hp).toNat = decide ((s[pos]'hp) = 32) from u8_32 _]
      by_cases hb : (s[pos]'hp) = 32
      · simp only [hb, decide_true, if_true]
        cases st <;> exact ih _ _ _ (by omega)
      · simp only [hb, decide_false, if_false, Bool.false_eq_true]
        cases st <;> exact ih _ _ _ (by omega)
    · rw [spansFromP_end _ _ _ _ _ _ hp, List.drop_of_length_le (by rw [len_data]; exact Nat.le_of_not_lt hp)]
      rfl

theorem sp_word (w : List UInt8) (hw : ∀ c ∈ w, c ≠ 32) (r : List UInt8) : ∀ (pos a : Nat) (acc : List (Nat × Nat)), sp (w ++ r) pos (some a) acc = sp r (pos + w.length) (some a) acc := by
  induction w with
  | nil => intro pos a acc; rfl
  | cons c w ih =>
    intro pos a acc
    rw [List.cons_append, sp_in (hw c (by simp)), ih (fun x hx => hw x (by simp [hx])), show pos + 1 + w.length = pos + (c :: w).length by simp only [List.length_cons]; omega]
theorem sp_first (w : List UInt8) (hw : Wd w) (r : List UInt8) (pos : Nat) (acc : List (Nat × Nat)) : sp (w ++ r) pos none acc = sp r (pos + w.length) (some pos) acc := by
  cases w with
  | nil => exact absurd rfl hw.full
  | cons c w =>
    rw [List.cons_append, sp_on (hw.fine c (by simp)).2, sp_word w (fun x hx => (hw.fine x (by simp [hx])).2), show pos + 1 + w.length = pos + (c :: w).length by simp only [List.length_cons]; omega]

/-- Where the words lie. -/
def spW : List (List UInt8) → Nat → List (Nat × Nat)
  | [], _ => []
  | w :: r, pos => (pos, pos + w.length) :: spW r (pos + w.length + 1)
theorem sp_join (ws : List (List UInt8)) (h : ws ≠ []) (hw : ∀ w ∈ ws, Wd w) : ∀ (pos : Nat) (acc : List (Nat × Nat)), ∃ a l, sp (joinW ws) pos none acc = (acc ++ l, some a) ∧ l ++ [(a, pos + (joinW ws).length)] = spW ws pos := by
  induction ws with
  | nil => exact absurd rfl h
  | cons w r ih =>
    intro pos acc
    by_cases h0 : r = []
    · subst h0
      refine ⟨pos, [], ?_, rfl⟩
      have := sp_first w (hw w (by simp)) [] pos acc
      rw [List.append_nil] at this
      simp only [joinW, List.append_nil]
      rw [this]
      rfl
    · rw [joinW_cons _ h0, sp_first w (hw w (by simp))]
      obtain ⟨a, l, h1, h2⟩ := ih h0 (fun x hx => hw x (by simp [hx])) (pos + w.length + 1) (acc ++ [(pos, pos + w.length)])
      refine ⟨a, (pos, pos + w.length) :: l, ?_, ?_⟩
      · unfold sp
        rw [if_pos rfl]
        simp only
        rw [h1]
        simp
      · rw [spW, ← h2, List.cons_append]
        congr 4
        simp only [List.length_append, List.length_cons]
        omega
theorem cut_words (ws : List (List UInt8)) : ∀ (s : ByteArray) (pos : Nat), s.data.toList.drop pos = joinW ws → (spW ws pos).map (fun x => s.extract x.1 x.2) = ws.map bs := by
  induction ws with
  | nil => intro s pos _; rfl
  | cons w r ih =>
    intro s pos h
    have hh : s.data.toList.drop pos = w ++ (s.data.toList.drop pos).drop w.length := by
      by_cases h0 : r = []
      · subst h0
        rw [h, joinW]; simp
      · rw [h, joinW_cons _ h0]; simp
    have hx : s.extract pos (pos + w.length) = bs w := by
      apply ByteArray.ext
      apply Array.ext'
      simp only [ByteArray.data_extract, Array.toList_extract, bs]
      rw [List.extract_eq_take_drop]
      rw [Nat.add_sub_cancel_left, hh]
      simp
    rw [spW, List.map_cons, List.map_cons]
    simp only
    rw [hx]
    congr 1
    by_cases h0 : r = []
    · subst h0; rfl
    · refine ih s _ ?_
      have e : s.data.toList.drop (pos + w.length + 1) = ((s.data.toList.drop pos).drop w.length).drop 1 := by rw [List.drop_drop, List.drop_drop, Nat.add_assoc]
      rw [e, h, joinW_cons _ h0]
      simp
theorem join_ascii (ws : List (List UInt8)) (hw : ∀ w ∈ ws, Wd w) : ∀ c ∈ joinW ws, c.toNat < 128 := by
  induction ws with
  | nil => intro c hc; simp [joinW] at hc
  | cons w r ih =>
    intro c hc
    by_cases h0 : r = []
    · subst h0
      exact ((hw w (by simp)).fine c (by simpa [joinW] using hc)).1
    · rw [joinW_cons _ h0] at hc
      simp only [List.mem_append, List.mem_cons] at hc
      rcases hc with hc | rfl | hc
      · exact ((hw w (by simp)).fine c hc).1
      · decide
      · exact ih (fun x hx => hw x (by simp [hx])) c hc
theorem fields_join (ws : List (List UInt8)) (h : ws ≠ []) (hw : ∀ w ∈ ws, Wd w) : goFieldsP isBl (bs (joinW ws)) = ws.map bs := by
  unfold goFieldsP spansOfP
  rw [spans_sp _ (by rw [bs_list]; exact join_ascii ws hw) _ _ _ _ (by omega), bs_list, List.drop_zero]
  obtain ⟨a, l, h1, h2⟩ := sp_join ws h hw 0 []
  rw [h1]
  unfold closeSpans
  simp only [List.nil_append]
  rw [bs_size, ← Nat.zero_add (joinW ws).length, h2]
  exact cut_words ws _ 0 (by rw [bs_list, List.drop_zero])
end Go.Proofs.YtnogfelfgclajaaGreatDoor
end
