/-
  The engine, without bodies: a cell edited; a new engine.
  A new world, a new sim, a new engine.
  A number's digits (the document's).
  No Go in sight. What a number's digits are worth.
-/
import Derived.Test.YtnogfelfgclajaaGreatDoorMa28
import Derived.Test.YtnogfelfgclajaaGreatDoorMa30
import Derived.Deep.RegionHeld3
import Derived.Test.YtnogfelfgclajaaGreatDoorMa06
import Derived.Test.YtnogfelfgclajaaGreatDoorMa03
import Derived.Laws.BytesArg
section
namespace Go.Proofs.YtnogfelfgclajaaGreatDoor
open Go.RowKit
attribute [local go_sem] ext_ext drew_ext ext_drew ext_cell ext_frozen in_lt in_le in_ne in_en in_ne1 in_en1 in_le1 in_ltn in_len in_nen in_enn size_le ite_max ite_min
set_option linter.unusedVariables false
set_option linter.unusedSimpArgs false
set_option maxRecDepth 1000000

/-- An engine's cells, without bodies. -/
def engCells (sm : Nat) : Array Value := #[.pointer (some ⟨sm, 0, none⟩), .pointer none, .pointer none, .pointer none, .pointer none, .pointer none, .pointer none, .pointer none, .pointer none, .pointer none, .pointer none, .pointer none, .pointer none, .pointer none, .pointer none, .pointer none, .pointer none]
theorem held1_none (x : Value) (w : World) : Calls Tryz.prog 204 #[.pointer none, x] w fun e w' => e = .returned (.bool false) ∧ ∃ f, w' = ext w f := by
  go_enter Tryz.func204, Tryz.ntmps204
  go_wp2_with fail
  refine wp_region_ext ?_ ?_ ?_
  · kernel_rfl
  · kernel_rfl
  repeat (go_big_quiet_step (first | fail))
  refine wpQuiet_nil ?_
  rintro w1 ⟨_t, hw⟩
  have hc1 := named_cell hw
  have hz1 := named_frozen hw
  have hh1 := named_heap hw
  haveI hi1 := named_in hw
  haveI hb1 := named_below (w := w) hw
  clear hw
  go_wp2_with fail
  go_ret
  exact ⟨rfl, grown_of⟩
set_option maxHeartbeats 2000000 in
theorem lifeix_none (en bb : Nat) (cs : Array Value) (w : World) (h : ∀ k, k < 16 → w.cell? ⟨en, 1 + k, none⟩ = some (.pointer none)) :
    Calls Tryz.prog 260 #[.slice (some ⟨en, 1, none⟩) 16 16, .func (.func 204) #[] #[.pointer (some ⟨bb, 0, none⟩)]] w fun e w' => e = .returned (.int .i64 (-1)) ∧ ∃ f, w' = ext w f := by
  have eg : ∀ args W, (callFunc 204 args).run Tryz.prog W = .ok (.enter 204 args) W := fun args W => by kernel_rfl
  have H := Lib.hid h
  haveI := in_of_cell (h 0 (by omega))
  clear h
  go_enter Tryz.func260, Tryz.ntmps260
  go_wp2_with fail
  go_loopw [5, 8] (fun _ s8 wr => ∃ k : Nat, k ≤ 16 ∧ s8 = .int .i64 (k : Int) ∧ ∃ f, wr = ext w f) (fun _ s8 _ => 16 - (intOf s8).toNat)
  case atStart => exact ⟨0, by omega, rfl, ⟨id, by unfold ext; split <;> rfl⟩⟩
  case round =>
    obtain ⟨k, hk, rfl, _, hw⟩ := hrel
    rename World => w1
    haveI hg1 := named_grown hw
    haveI hb1 := named_below (w := w) hw
    have hc1 := named_cell hw
    haveI hi1 := named_in hw
    clear hw
    by_cases hlt : k < 16
    · have d0 := H.out k hlt
      have HK := Lib.hid hlt
      have k1 : (k : Int) < 16 := by omega
      clear hlt hk
      go_wp2_with fail
      refine (held1_none _ _).mono ?_
      rintro e w2 ⟨rfl, _t, hw⟩
      haveI hb2_1 := named_below (w := w1) hw
      have hc2 := named_cell hw
      have hz2 := named_frozen hw
      have hh2 := named_heap hw
      haveI hi2 := named_in hw
      haveI hb2 := named_below (w := w) hw
      clear hw
      go_wp2_with fail
      go_roundw
      case rel => exact ⟨k + 1, by have := HK.out; omega, by go_num, grown_of⟩
      case measure => have := HK.out; simp [intOf]; omega
    · have k1 : ¬ (k : Int) < 16 := by omega
      clear hlt hk
      go_wp2_with fail
      go_ret
      exact ⟨rfl, grown_of⟩

/-- The engine's own block. -/
def EngAt (B : Nat) (w : World) (en sm : Nat) : Prop := w.heap[en]? = some (.cells (engCells sm) 69 (0, 0)) ∧ B ≤ en
theorem eng_none {B : Nat} {w : World} {en sm : Nat} (h : EngAt B w en sm) : w.cell? ⟨en, 0, none⟩ = some (.pointer (some ⟨sm, 0, none⟩)) ∧ ∀ k, k < 16 → w.cell? ⟨en, 1 + k, none⟩ = some (.pointer none) := by
  refine ⟨cell_of_block (i := 0) h.1 rfl, fun k hk => cell_of_block (i := 1 + k) h.1 ?_⟩
  rcases k with _ | _ | _ | _ | _ | _ | _ | _ | _ | _ | _ | _ | _ | _ | _ | _ | k
  all_goals first | rfl | omega
set_option maxHeartbeats 1000000 in
theorem contains_none (en bb : Nat) (w : World) (h : ∀ k, k < 16 → w.cell? ⟨en, 1 + k, none⟩ = some (.pointer none)) :
    Calls Tryz.prog 203 #[.slice (some ⟨en, 1, none⟩) 16 16, .func (.func 204) #[] #[.pointer (some ⟨bb, 0, none⟩)]] w fun e w' => e = .returned (.bool false) ∧ ∃ f, w' = ext w f := by
  have IX := Lib.hid (lifeix_none en bb #[] w h)
  clear h
  go_enter Tryz.func203, Tryz.ntmps203
  go_wp2_with fail
  refine (IX.out).mono ?_
  rintro e w1 ⟨rfl, _t, hw⟩
  have hc1 := named_cell hw
  have hz1 := named_frozen hw
  have hh1 := named_heap hw
  haveI hi1 := named_in hw
  haveI hb1 := named_below (w := w) hw
  clear hw
  go_wp2_with fail
  go_ret
  exact ⟨rfl, grown_of⟩
set_option maxHeartbeats 2000000 in
theorem held_none {B : Nat} {w : World} {en sm : Nat} (h : EngAt B w en sm) (x y z : Int) :
    Calls Tryz.prog 160 #[.pointer (some ⟨en, 0, none⟩), .agg #[.int .i64 x, .int .i64 y, .int .i64 z]] w fun e w' => e = .returned (.bool false) ∧ ∃ f, w' = ext w f := by
  have hmf : ∀ (fn : Fn) (first cap : Array Value) (w : World), (Instr.makeFunc fn first cap).run Tryz.prog w = .ok (.func fn first cap) w := fun _ _ _ _ => rfl
  haveI := in_of_block h.1
  have CO := Lib.hid (fun W bb (hW : Below w.heap.size w W) => contains_none en bb W (fun k hk => (hW.cell (p := ⟨en, 1 + k, none⟩) (lt_of_block h.1)).trans ((eng_none h).2 k hk)))
  clear h
  go_enter Tryz.func160, Tryz.ntmps160
  go_wp2_with fail
  refine (box_any x y z _).mono ?_
  rintro e w1 ⟨rfl, _t, hw⟩
  haveI hb1 := named_below (w := w) hw
  have hc1 := named_cell hw
  haveI hi1 := named_in hw
  clear hw
  unfold boxS
  go_wp2_with fail
  refine (CO.out _ _ (by exact grown_now)).mono ?_
  rintro e w2 ⟨rfl, _t, hw⟩
  haveI hb2_1 := named_below (w := w1) hw
  have hc2 := named_cell hw
  have hz2 := named_frozen hw
  have hh2 := named_heap hw
  haveI hi2 := named_in hw
  haveI hb2 := named_below (w := w) hw
  clear hw
  go_wp2_with fail
  go_ret
  exact ⟨rfl, grown_of⟩
/-- An engine's memory, without bodies. -/
structure EngOf (B : Nat) (w : World) (en sm qu mq wo t : Nat) (s lim bud : Int) (oc dr : Value) (e c : Nat) (G : Ps → List Int) (T : List (Ps × Bool)) : Prop where
  eng : EngAt B w en sm
  sim : SimAt B w sm qu wo bud oc dr
  wld : WorldOf B w wo t c
  tab : TabOf B w t s lim mq e G T
  que : QOf B w qu mq c
/-- A cell edited. -/
def EngEdit (B en sm qu mq wo t : Nat) (s lim bud : Int) (oc dr : Value) (e c : Nat) (G : Ps → List Int) (p : Ps) (w : World) (en' : Ending) (w' : World) : Prop :=
  en' = .returned (.int .i64 0) ∧ (∃ T', EngOf B w' en sm qu mq wo t s lim bud oc dr e c G T' ∧ ∃ c ∈ T', c.1 = p) ∧ Turn (EF B mq w) w w'
theorem ef_no {B mq : Nat} {w : World} {b : Nat} {c : Array Value} {T : TypeId} {fz : Nat × Nat} (hm : ∃ k, QMap w mq k) (h : w.heap[b]? = some (.cells c T fz)) (hT : T ∉ tyWorld ++ tyQueue) : ¬ EF B mq w b := by
  obtain ⟨k, hm⟩ := hm
  rintro (h1 | h1)
  · exact ty_no h hT h1
  · exact hm.cells h h1
theorem GoodB.any {b : Int} (h : GoodB b) : AnyB b := .inr h
set_option maxHeartbeats 2000000 in
theorem engedit_any {B : Nat} {w : World} {en sm qu mq wo t e c : Nat} {s lim bud : Int} {oc dr : Value} {G : Ps → List Int} {T : List (Ps × Bool)} (h : EngOf B w en sm qu mq wo t s lim bud oc dr e c G T) (hc : c ≤ 800)
    (x y z b : Int) (hx : Mid x) (hz : Mid z) (h0 : 0 ≤ y) (h1 : y ≤ 31) (hb : GoodB b) (he : e ≤ 14) (hh : ∃ c ∈ T, c.1 = (divS x 16, divS z 16)) (j : Nat) (hj : idxS x y z = (j : Int)) :
    Calls Tryz.prog 111 #[.pointer (some ⟨en, 0, none⟩), .agg #[.int .i64 x, .int .i64 y, .int .i64 z], .int .i64 b] w (EngEdit B en sm qu mq wo t s lim bud oc dr (e + 1) (c + 8) (setP G (divS x 16, divS z 16) j b) (divS x 16, divS z 16) w) := by
  have e0 := (eng_none h.eng).1
  haveI := in_of_cell e0
  have H := Lib.hid h
  have HE := Lib.hid (fun W (hW : Below w.heap.size w W) => held_none (⟨(hW.block en (lt_of_block h.eng.1)).trans h.eng.1, h.eng.2⟩ : EngAt B W en sm) x y z)
  have SO := Lib.hid (fun W => solid_any b hb.any W)
  have SE := Lib.hid (fun W (hW : Below w.heap.size w W) => simedit_any (⟨(hW.block sm (lt_of_block h.sim.blk)).trans h.sim.blk, h.sim.lo⟩ : SimAt B W sm qu wo bud oc dr) (h.wld.turn (turn_below (F := fun _ => False) hW) (fun _ _ _ _ _ _ => id)) (h.tab.grown hW) (h.que.grown hW) hc x y z b hx hz h0 h1 hb he hh j hj)
  clear h hc hh hj
  have fin : Hid (∀ (W w4 : World), Below w.heap.size w W → WorldOf B w4 wo t (c + 8) → QOf B w4 qu mq (c + 8) → (∃ T', TabOf B w4 t s lim mq (e + 1) (setP G (divS x 16, divS z 16) j b) T' ∧ ∃ c ∈ T', c.1 = (divS x 16, divS z 16)) → Turn (EF B mq W) W w4 →
      (∃ T', EngOf B w4 en sm qu mq wo t s lim bud oc dr (e + 1) (c + 8) (setP G (divS x 16, divS z 16) j b) T' ∧ ∃ c ∈ T', c.1 = (divS x 16, divS z 16)) ∧ Turn (EF B mq w) w w4) := Lib.hid (fun W w4 hW h1 h2 ⟨T', h3, h4⟩ hT => by
    obtain ⟨k, hk⟩ := H.out.que.qmap
    have hkW := hk.keep (hW.block mq hk.lt)
    have eW := (hW.block en (lt_of_block H.out.eng.1)).trans H.out.eng.1
    have sW := (hW.block sm (lt_of_block H.out.sim.blk)).trans H.out.sim.blk
    exact ⟨⟨T', ⟨⟨(hT.block en (lt_of_block eW) (ef_no ⟨k, hkW⟩ eW (by decide))).trans eW, H.out.eng.2⟩, ⟨(hT.block sm (lt_of_block sW) (ef_no ⟨k, hkW⟩ sW (by decide))).trans sW, H.out.sim.lo⟩, h1, h3, h2⟩, h4⟩, (turn_below (F := EF B mq w) hW).ef hT⟩)
  cases hsol : solB b
  · rw [hsol] at SO
    clear hsol
    go_enter Tryz.func111, Tryz.ntmps111
    go_wp2_with (go_at_call 159; refine (SO.out _).mono ?_; rintro e w1 ⟨rfl, rfl⟩)
    refine wp_region_ext_tail 6 ?_ ?_ ?_
    · kernel_rfl
    · kernel_rfl
    simp only [List.take_succ_cons, List.take_zero, List.drop_succ_cons, List.drop_zero]
    repeat (go_big_quiet_step (first | fail))
    refine wpQuiet_nil ?_
    rintro w2 ⟨_t, hw⟩
    have hc2 := named_cell hw
    have hz2 := named_frozen hw
    have hh2 := named_heap hw
    haveI hi2 := named_in hw
    haveI hb2 := named_below (w := w) hw
    clear hw
    have B2 := Lib.hid (grown_now (w := w) (W := w2))
    go_wp2_with fail
    refine (SE.out w2 B2.out).mono ?_
    rintro e3 w3 ⟨rfl, a1, a2, a3, a4⟩
    have F3 := Lib.hid (fin.out w2 w3 B2.out a1 a2 a3 a4)
    clear a1 a2 a3 a4
    go_wp2_with fail
    go_ret
    exact ⟨rfl, F3.out.1, F3.out.2⟩
  · rw [hsol] at SO
    clear hsol
    go_enter Tryz.func111, Tryz.ntmps111
    go_wp2_with (go_at_call 159; refine (SO.out _).mono ?_; rintro e w1 ⟨rfl, rfl⟩)
    refine (HE.out _ (by exact grown_now)).mono ?_
    rintro e w1 ⟨rfl, _t, hw⟩
    have hc1 := named_cell hw
    have hz1 := named_frozen hw
    have hh1 := named_heap hw
    haveI hi1 := named_in hw
    haveI hb1 := named_below (w := w) hw
    clear hw
    go_wp2_with fail
    refine wp_region_ext_tail 6 ?_ ?_ ?_
    · kernel_rfl
    · kernel_rfl
    simp only [List.take_succ_cons, List.take_zero, List.drop_succ_cons, List.drop_zero]
    repeat (go_big_quiet_step (first | fail))
    refine wpQuiet_nil ?_
    rintro w2 ⟨_t, hw⟩
    haveI hb2_1 := named_below (w := w1) hw
    have hc2 := named_cell hw
    have hz2 := named_frozen hw
    have hh2 := named_heap hw
    haveI hi2 := named_in hw
    haveI hb2 := named_below (w := w) hw
    clear hw
    have B2 := Lib.hid (grown_now (w := w) (W := w2))
    go_wp2_with fail
    refine (SE.out w2 B2.out).mono ?_
    rintro e3 w3 ⟨rfl, a1, a2, a3, a4⟩
    have F3 := Lib.hid (fin.out w2 w3 B2.out a1 a2 a3 a4)
    clear a1 a2 a3 a4
    go_wp2_with fail
    go_ret
    exact ⟨rfl, F3.out.1, F3.out.2⟩
#print axioms engedit_any
end Go.Proofs.YtnogfelfgclajaaGreatDoor
end

section
namespace Go.Proofs.YtnogfelfgclajaaGreatDoor
open Go.RowKit
attribute [local go_sem] ext_ext drew_ext ext_drew ext_cell ext_frozen in_lt in_le in_ne in_en in_ne1 in_en1 in_le1 in_ltn in_len in_nen in_enn size_le ite_max ite_min
set_option linter.unusedVariables false
set_option linter.unusedSimpArgs false
set_option maxRecDepth 1000000

def NewWorld (B : Nat) (s lim : Int) (w : World) (e : Ending) (w' : World) : Prop := ∃ wo t st d mb, e = .returned (.pointer (some ⟨wo, 0, none⟩)) ∧ WorldOf B w' wo t 0 ∧ TabAt B w' t s lim t 0 (GrAt s) [] st d mb (.slice none 0 0) [] (fun _ => none) 0 ∧ ∃ f, w' = ext w f
theorem worldnew_any (B : Nat) (s l lim : Int) (hl : min 16 (max l 1) = lim) (w : World) (hB : B ≤ w.heap.size) : Calls Tryz.prog 43 #[.int .i64 s, .int .i64 l, .int .i64 200000] w (NewWorld B s lim w) := by
  have HB := Lib.hid hB
  have TN := Lib.hid (tabnew_any B s l lim hl w hB)
  clear hB hl
  go_enter Tryz.func43, Tryz.ntmps43
  go_wp2_with fail
  refine TN.out.mono ?_
  rintro e w1 ⟨t, st, d, mb, rfl, ht, _t, hw⟩
  haveI hb1 := named_below (w := w) hw
  have T1 := Lib.hid ht
  clear hw ht TN
  go_wp2_with fail
  go_ret
  exact ⟨_, _, _, _, _, rfl, ⟨_, 0, [], heap_alloc_new _ _, Nat.le_trans HB.out (grown_now (w := w) (W := w1)).size, World.ownsRow_nil .., Nat.le_refl _⟩, T1.out.grown ((Below.refl _ w1).alloc (Nat.le_refl _) _), grown_of⟩
def NewSim (B wo : Nat) (w : World) (e : Ending) (w' : World) : Prop := ∃ sm qu mq bud oc dr, e = .returned (.pointer (some ⟨sm, 0, none⟩)) ∧ SimAt B w' sm qu wo bud oc dr ∧ QOf B w' qu mq 0 ∧ w.heap.size ≤ mq ∧ mq < w'.heap.size ∧ ∃ f, w' = ext w f
theorem simnew_any (B wo : Nat) (bud : Int) (w : World) (hB : B ≤ w.heap.size) : Calls Tryz.prog 42 #[.pointer (some ⟨wo, 0, none⟩), .int .i64 bud] w (NewSim B wo w) := by
  have HB := Lib.hid hB
  have QN := Lib.hid (queuenew_any B w hB)
  clear hB
  go_enter Tryz.func42, Tryz.ntmps42
  go_wp2_with fail
  refine QN.out.mono ?_
  rintro e w1 ⟨qu, mq, rfl, hq, hm, _t, hw⟩
  haveI hb1 := named_below (w := w) hw
  have Q1 := Lib.hid (And.intro hq hm)
  clear hw hq hm QN
  go_wp2_with fail
  go_ret
  refine ⟨_, _, _, _, _, _, rfl, ⟨heap_alloc_new _ _, Nat.le_trans HB.out (grown_now (w := w) (W := w1)).size⟩, Q1.out.1.grown ((Below.refl _ w1).alloc (Nat.le_refl _) _), Q1.out.2, ?_, grown_of⟩
  obtain ⟨k, hk⟩ := Q1.out.1.qmap
  have := hk.lt
  simp
  omega
/-- A new engine. -/
def NewEng (B : Nat) (s lim : Int) (w : World) (e : Ending) (w' : World) : Prop := ∃ en sm qu mq wo t bud oc dr, e = .returned (.pointer (some ⟨en, 0, none⟩)) ∧ EngOf B w' en sm qu mq wo t s lim bud oc dr 0 0 (GrAt s) [] ∧ ∃ f, w' = ext w f
set_option maxHeartbeats 1000000 in
theorem engnew_any (B : Nat) (s l bud lim : Int) (hl : min 16 (max l 1) = lim) (w : World) (hB : B ≤ w.heap.size) : Calls Tryz.prog 26 #[.agg #[.int .i64 s, .int .i64 l, .int .i64 200000, .int .i64 bud]] w (NewEng B s lim w) := by
  have HB := Lib.hid hB
  have WN := Lib.hid (fun W (hW : Below w.heap.size w W) => worldnew_any B s l lim hl W (Nat.le_trans hB hW.size))
  have SN := Lib.hid (fun W wo (hW : Below w.heap.size w W) => simnew_any B wo bud W (Nat.le_trans hB hW.size))
  clear hB hl
  go_enter Tryz.func26, Tryz.ntmps26
  go_wp2_with fail
  go_region_held3 (fun w' => w'.cell? ⟨w.heap.size, 0, none⟩ = some (.int .i64 s) ∧ w'.cell? ⟨w.heap.size, 1, none⟩ = some (.int .i64 l) ∧ w'.cell? ⟨w.heap.size, 2, none⟩ = some (.int .i64 200000) ∧ w'.cell? ⟨w.heap.size, 3, none⟩ = some (.int .i64 bud))
    (((try dsimp only); refine ⟨?_, ?_, ?_, ?_⟩ <;> go_simp))
    (first
      | (go_at_call 43; refine (WN.out _ (by exact grown_now)).mono ?_; rintro e w1 ⟨wo, t, st, d, mb, rfl, hwo, htab, _t, hw⟩; haveI hb1 := named_below (w := w) hw; haveI hg1 := named_grown hw; have hc1 := named_cell hw; haveI hi1 := named_in hw; have W1 := Lib.hid (And.intro hwo htab); clear hw hwo htab)
      | (go_at_call 42; refine (SN.out _ _ (by exact grown_now)).mono ?_; rintro e w2 ⟨sm, qu, mq, bd, oc, dr, rfl, hsim, hq, hm1, hm2, _t, hw⟩; haveI hb2 := named_below (w := w) hw; haveI hb21 := named_below (w := w1) hw; have hc2 := named_cell hw; haveI hi2 := named_in hw; have hm3 := Nat.le_trans (by exact (grown_now (w := w1)).size) hm1; have S2 := Lib.hid (And.intro hsim (And.intro hq (And.intro hm3 hm2))); clear hw hsim hq hm1 hm2 hm3))
  all_goals
    go_wp2_with fail
    go_ret
    have hA := fun o => (Below.refl w2.heap.size w2).alloc (Nat.le_refl _) o
    have hwo := (W1.out.1.turn (turn_below (F := fun _ => False) (grown_now (w := w1) (W := w2))) (fun _ _ _ _ _ _ => id)).turn (turn_below (F := fun _ => False) (hA (.cells (engCells sm) 69))) (fun _ _ _ _ _ _ => id)
    have hsb := ((hA (.cells (engCells sm) 69)).block sm (lt_of_block S2.out.1.blk)).trans S2.out.1.blk
    have hmm : mb ≠ mq := by have h1 := W1.out.2.dsk.map.lt; have h2 := S2.out.2.2.1; omega
    refine ⟨_, sm, qu, mq, wo, t, bd, oc, dr, rfl, ⟨⟨heap_alloc_new w2 (.cells (engCells sm) 69), Nat.le_trans HB.out (grown_now (w := w) (W := w2)).size⟩, ⟨hsb, S2.out.1.lo⟩, hwo, ⟨st, d, mb, _, _, _, _, ((W1.out.2.grown (grown_now (w := w1) (W := w2))).grown (hA _)).requeue hmm (by have := S2.out.2.2.2; simp; omega)⟩, S2.out.2.1.grown (hA _)⟩, grown_of⟩
#print axioms engnew_any
end Go.Proofs.YtnogfelfgclajaaGreatDoor
end

section
namespace Go.Proofs.YtnogfelfgclajaaGreatDoor
open Go.RowKit
attribute [local go_sem] ext_ext drew_ext ext_drew ext_cell ext_frozen in_lt in_le in_ne in_en in_ne1 in_en1 in_le1 in_ltn in_len in_nen in_enn size_le ite_max ite_min
set_option linter.unusedVariables false
set_option linter.unusedSimpArgs false

/-- A digit. -/
def dg (d : Int) : UInt8 := UInt8.ofNat (48 + d).toNat
def decF : Nat → Int → List UInt8
  | 0, n => [dg (n % 10)]
  | k + 1, n => if n < 10 then [dg (n % 10)] else decF k (n / 10) ++ [dg (n % 10)]
theorem decF_low (k : Nat) {n : Int} (h : n < 10) : decF k n = [dg (n % 10)] := by
  cases k with
  | zero => rfl
  | succ k => unfold decF; rw [if_pos h]
theorem decF_high (k : Nat) {n : Int} (h : ¬ n < 10) : decF (k + 1) n = decF k (n / 10) ++ [dg (n % 10)] := by
  conv => lhs; unfold decF
  rw [if_neg h]
/-- A number's digits (of at most 17). -/
def decI (k : Nat) (n : Int) : List UInt8 := if n < 0 then 45 :: decF k (-n) else decF k n

theorem one_str (W : World) (v : Int) : (Go.convert 87 9 (.slice (some ⟨W.heap.size, 0, none⟩) 1 1)).run Tryz.prog (W.alloc (.cells #[.int .u8 v] 5)) = .ok (sV [UInt8.ofNat v.toNat]) (W.alloc (.cells #[.int .u8 v] 5)) := by
  have := run_convert_bytes_arg (P := Tryz.prog) (W.alloc (.cells #[.int .u8 v] 5)) 87 5 Tryz.underlying87 Tryz.underlying5 W.heap.size 0 1 1 [v] rfl (fun i hi => by
    obtain rfl : i = 0 := by omega
    exact World.cell?_alloc_new ..) 9 Tryz.underlying9
  rw [this]
  rfl

theorem ret_bs {a b : ByteArray} (h : a = b) : Ending.returned (.string a) = .returned (.string b) := by rw [h]
theorem minus_bs (l : List UInt8) : (⟨#[45]⟩ : ByteArray) ++ bs l = bs (45 :: l) := bs_append [45] l

theorem decF_len (k : Nat) : ∀ n : Int, (decF k n).length ≤ k + 1 := by
  induction k with
  | zero => intro n; simp [decF]
  | succ k ih =>
    intro n
    unfold decF
    split
    · simp
    · have := ih (n / 10); simp; omega
theorem decI_len (k : Nat) (n : Int) : (decI k n).length ≤ k + 2 := by
  unfold decI
  split
  · have := decF_len k (-n); simp; omega
  · have := decF_len k n; omega
theorem decI_size (k : Nat) (n : Int) : (bs (decI k n)).size ≤ k + 2 := by rw [bs_size]; exact decI_len k n
theorem one_size (c : UInt8) : (bs [c]).size ≤ 1 := by rw [bs_size]; exact Nat.le_refl _
theorem neg_tmod10 {n : Int} (h : n ≤ 0) : n.tmod 10 = -((-n) % 10) := by rw [← Int.tmod_eq_emod_of_nonneg (by omega), Int.neg_tmod, Int.neg_neg]
theorem neg_tdiv10 {n : Int} (h : n ≤ 0) : n.tdiv 10 = -((-n) / 10) := by rw [← Int.tdiv_eq_ediv_of_nonneg (by omega), Int.neg_tdiv, Int.neg_neg]

set_option maxRecDepth 100000 in
set_option maxHeartbeats 1000000 in
/-- One digit. -/
theorem dec_one (k : Nat) (n : Int) (w : World) (h4 : -10 < n) (h3 : n < 10) : Calls Tryz.prog 8 #[.int .i64 n] w fun e w' => e = .returned (sV (decI k n)) ∧ ∃ f, w' = ext w f := by
  by_cases h0 : 0 ≤ n
  · have H := Lib.hid (show decI k n = [dg (n % 10)] by unfold decI; rw [if_neg (by omega), decF_low _ h3])
    have kc := fun (W : World) => one_str W (48 + n % 10)
    go_enter Tryz.func8, Tryz.ntmps8
    go_wp2_with fail
    go_ret
    exact ⟨ret_bs (by rw [H.out]; rfl), grown_of⟩
  · have HT := neg_tmod10 (n := n) (by omega)
    have H := Lib.hid (show decI k n = 45 :: [dg (-(n.tmod 10))] by unfold decI; rw [if_pos (by omega), decF_low _ (by omega), HT, Int.neg_neg])
    have kc := fun (W : World) => one_str W (48 + -n.tmod 10)
    have h5 : n.tmod 10 < 0 := by omega
    have h6 : -10 < n.tmod 10 := by omega
    have h7 : n < 0 := by omega
    clear HT h0
    go_enter Tryz.func8, Tryz.ntmps8
    go_wp2_with fail
    go_ret
    exact ⟨ret_bs (by rw [H.out]; exact minus_bs _), grown_of⟩

set_option maxRecDepth 100000 in
set_option maxHeartbeats 1000000 in
theorem dec_any (k : Nat) : ∀ (n : Int) (w : World), k ≤ 100 → -(10 ^ (k + 1)) < n → n < 10 ^ (k + 1) → Fit n → Calls Tryz.prog 8 #[.int .i64 n] w fun e w' => e = .returned (sV (decI k n)) ∧ ∃ f, w' = ext w f := by
  induction k with
  | zero => exact fun n w _ h1 h2 _ => dec_one 0 n w (by simpa using h1) (by simpa using h2)
  | succ k ih =>
    intro n w hk h1 h2 hf
    have f1 := hf.1
    have f2 := hf.2
    have e0 : (10 : Int) ^ (k + 1 + 1) = 10 ^ (k + 1) * 10 := rfl
    rw [e0] at h1 h2
    generalize (10 : Int) ^ (k + 1) = T at *
    by_cases c1 : 10 ≤ n
    · have H := Lib.hid (show decI (k + 1) n = decI k (n / 10) ++ [dg (n % 10)] by unfold decI; rw [if_neg (by omega), if_neg (by omega), decF_high _ (by omega)])
      have kc := fun (W : World) => one_str W (48 + n % 10)
      have IH := fun W => ih (n / 10) W (by omega) (by omega) (by omega) ⟨by omega, by omega⟩
      have s1 := decI_size k (n / 10)
      have s2 := one_size (dg (n % 10))
      unfold dg at s2
      clear ih h1 h2 hf e0
      go_enter Tryz.func8, Tryz.ntmps8
      go_wp2_with (go_at_call 8; refine (IH _).mono ?_; rintro e w1 ⟨rfl, t1, rfl⟩)
      go_ret
      exact ⟨ret_bs (by rw [H.out]; exact bs_append _ _), grown_of⟩
    · by_cases c2 : n ≤ -10
      · have HT := neg_tmod10 (n := n) (by omega)
        have HD := neg_tdiv10 (n := n) (by omega)
        have H := Lib.hid (show decI (k + 1) n = decI k (n.tdiv 10) ++ [dg (-(n.tmod 10))] by
          unfold decI; rw [if_pos (by omega), if_pos (by omega), decF_high _ (by omega), HT, HD, Int.neg_neg, Int.neg_neg]; rfl)
        have IH := fun W => ih (n.tdiv 10) W (by omega) (by omega) (by omega) ⟨by omega, by omega⟩
        have h6 : -10 < n.tmod 10 := by omega
        have h7 : n < 0 := by omega
        by_cases c3 : n.tmod 10 < 0
        · have kc := fun (W : World) => one_str W (48 + -n.tmod 10)
          have s1 := decI_size k (n.tdiv 10)
          have s2 := one_size (dg (-n.tmod 10))
          unfold dg at s2
          clear ih h1 h2 hf e0 HT HD
          go_enter Tryz.func8, Tryz.ntmps8
          go_wp2_with (go_at_call 8; refine (IH _).mono ?_; rintro e w1 ⟨rfl, t1, rfl⟩)
          go_ret
          exact ⟨ret_bs (by rw [H.out]; exact bs_append _ _), grown_of⟩
        · have c4 : n.tmod 10 = 0 := by omega
          have kc := fun (W : World) => one_str W (48 + n.tmod 10)
          have H2 : Hid (decI (k + 1) n = decI k (n.tdiv 10) ++ [dg (n.tmod 10)]) := Lib.hid (by rw [H.out, c4]; rfl)
          have c5 : 0 ≤ n.tmod 10 := by omega
          have c6 : n.tmod 10 ≤ 0 := by omega
          have s1 := decI_size k (n.tdiv 10)
          have s2 := one_size (dg (n.tmod 10))
          unfold dg at s2
          clear ih h1 h2 hf e0 HT HD c4 H
          go_enter Tryz.func8, Tryz.ntmps8
          go_wp2_with (go_at_call 8; refine (IH _).mono ?_; rintro e w1 ⟨rfl, t1, rfl⟩)
          go_ret
          exact ⟨ret_bs (by rw [H2.out]; exact bs_append _ _), grown_of⟩
      · exact dec_one _ n w (by omega) (by omega)
end Go.Proofs.YtnogfelfgclajaaGreatDoor
end

section
namespace Go.Proofs.YtnogfelfgclajaaGreatDoor

def valD (l : List UInt8) : Int := l.foldl (fun a c => a * 10 + ((c.toNat : Int) - 48)) 0
theorem valD_snoc (l : List UInt8) (c : UInt8) : valD (l ++ [c]) = valD l * 10 + ((c.toNat : Int) - 48) := by simp [valD]
def Dig (c : UInt8) : Prop := 48 ≤ c.toNat ∧ c.toNat ≤ 57
theorem dg_val {d : Int} (h0 : 0 ≤ d) (h1 : d < 10) : (dg d).toNat = 48 + d.toNat := by
  unfold dg
  rw [UInt8.toNat_ofNat']
  omega
theorem dg_dig {d : Int} (h0 : 0 ≤ d) (h1 : d < 10) : Dig (dg d) := by
  unfold Dig
  rw [dg_val h0 h1]
  omega
theorem decF_dig (k : Nat) : ∀ n : Int, 0 ≤ n → ∀ c ∈ decF k n, Dig c := by
  induction k with
  | zero =>
    intro n h0 c hc
    simp only [decF, List.mem_singleton] at hc
    subst hc
    exact dg_dig (by omega) (by omega)
  | succ k ih =>
    intro n h0 c hc
    by_cases h : n < 10
    · rw [decF_low _ h, List.mem_singleton] at hc
      subst hc
      exact dg_dig (by omega) (by omega)
    · rw [decF_high _ h, List.mem_append, List.mem_singleton] at hc
      rcases hc with hc | rfl
      · exact ih _ (by omega) c hc
      · exact dg_dig (by omega) (by omega)
theorem decF_full (k : Nat) (n : Int) : decF k n ≠ [] := by
  cases k with
  | zero => simp [decF]
  | succ k => unfold decF; split <;> simp
theorem decF_short (j : Nat) : ∀ (k : Nat) (n : Int), j ≤ k → n < 10 ^ (j + 1) → (decF k n).length ≤ j + 1 := by
  induction j with
  | zero =>
    intro k n _ h
    rw [decF_low _ (by simpa using h)]
    exact Nat.le_refl _
  | succ j ih =>
    intro k n hk h
    by_cases h1 : n < 10
    · rw [decF_low _ h1]; simp
    · obtain ⟨k, rfl⟩ : ∃ m, k = m + 1 := ⟨k - 1, by omega⟩
      have e : (10 : Int) ^ (j + 1 + 1) = 10 ^ (j + 1) * 10 := rfl
      rw [e] at h
      generalize hT : (10 : Int) ^ (j + 1) = T at h
      have := ih k (n / 10) (by omega) (by rw [hT]; omega)
      rw [decF_high _ h1, List.length_append]
      simp
      omega
theorem decF_val (k : Nat) : ∀ n : Int, 0 ≤ n → n < 10 ^ (k + 1) → valD (decF k n) = n := by
  have one : ∀ n : Int, 0 ≤ n → n < 10 → valD [dg (n % 10)] = n := fun n h0 h1 => by
    have := dg_val (d := n % 10) (by omega) (by omega)
    simp only [valD, List.foldl_cons, List.foldl_nil]
    rw [this]
    omega
  induction k with
  | zero =>
    intro n h0 h
    exact one n h0 (by simpa using h)
  | succ k ih =>
    intro n h0 h
    by_cases h1 : n < 10
    · rw [decF_low _ h1]; exact one n h0 h1
    · have e : (10 : Int) ^ (k + 1 + 1) = 10 ^ (k + 1) * 10 := rfl
      rw [e] at h
      generalize hT : (10 : Int) ^ (k + 1) = T at h
      rw [decF_high _ h1, valD_snoc, ih (n / 10) (by omega) (by rw [hT]; omega), dg_val (by omega) (by omega)]
      omega
theorem valD_mono (l : List UInt8) (h : ∀ c ∈ l, Dig c) : ∀ j, 0 ≤ valD (l.take j) ∧ valD (l.take j) ≤ valD l := by
  have key : ∀ (m : List UInt8) (a : Int), (∀ c ∈ m, Dig c) → 0 ≤ a → a ≤ m.foldl (fun a c => a * 10 + ((c.toNat : Int) - 48)) a := by
    intro m
    induction m with
    | nil => intro a _ _; exact Int.le_refl _
    | cons c m ih =>
      intro a hm ha
      have h1 := (hm c (by simp)).1
      have := ih (a * 10 + ((c.toNat : Int) - 48)) (fun x hx => hm x (by simp [hx])) (by omega)
      simp only [List.foldl_cons]
      omega
  intro j
  have h0 : 0 ≤ valD (l.take j) := key _ 0 (fun c hc => h c (List.mem_of_mem_take hc)) (Int.le_refl _)
  refine ⟨h0, ?_⟩
  have e : valD l = (l.drop j).foldl (fun a c => a * 10 + ((c.toNat : Int) - 48)) (valD (l.take j)) := by
    unfold valD
    rw [← List.foldl_append, List.take_append_drop]
  rw [e]
  exact key _ _ (fun c hc => h c (List.mem_of_mem_drop hc)) h0
end Go.Proofs.YtnogfelfgclajaaGreatDoor
end
