/-
  The world: a cell set, and told.
  Updates: what a change wakes; a cell edited.
  Fixed numbers: cut, added, their whole part, what is left.
  Ways of fixed numbers: the numbers' places, an axis's number, a sum.
-/
import Derived.Test.YtnogfelfgclajaaGreatDoorMb19
import Derived.LoopTactic
import Derived.IntWalk
import Derived.Test.YtnogfelfgclajaaGreatDoorMb11
import Derived.Test.YtnogfelfgclajaaGreatDoorMb16
import Derived.Handy
section
namespace Go.Proofs.YtnogfelfgclajaaGreatDoor
open Go.RowKit
attribute [local go_sem] ext_ext drew_ext ext_drew ext_cell ext_frozen in_lt in_le in_ne in_en in_ne1 in_en1 in_le1 in_ltn in_len in_nen in_enn size_le ite_max ite_min
set_option linter.unusedVariables false
set_option linter.unusedSimpArgs false
set_option maxRecDepth 1000000

section
variable {B : Nat} {w W : World} {t q e : Nat} {s lim : Int} {G : Ps → List Int} {T : List (Ps × Bool)}
theorem TabOf.ty {TS : List TypeId} (h : TabOf B w t s lim q e G T) (hT : Turn (Ty B TS w) w W) (hd : ∀ T ∈ [210, 130, 126, 134, 187, 160, 235, 5], T ∉ TS) : TabOf B W t s lim q e G T := by
  obtain ⟨st, d, mb, lv, its, D, N, h⟩ := h
  exact ⟨st, d, mb, lv, its, D, N, h.turn hT (by obtain ⟨mv, ⟨es, cl, h5, _⟩, _⟩ := h.dsk.map; exact ty_map h5) (fun g c T fz hg hm => ty_no hg (hd T hm))⟩
theorem TabOf.grown (h : TabOf B w t s lim q e G T) (hW : Below w.heap.size w W) : TabOf B W t s lim q e G T := by
  obtain ⟨st, d, mb, lv, its, D, N, h⟩ := h
  exact ⟨st, d, mb, lv, its, D, N, h.grown hW⟩
theorem TabOf.qf (h : TabOf B w t s lim q e G T) (hT : Turn (QF B q w) w W) (hq : ∃ k, QMap w q k) : TabOf B W t s lim q e G T := by
  obtain ⟨st, d, mb, lv, its, D, N, h⟩ := h
  obtain ⟨k, hq⟩ := hq
  refine ⟨st, d, mb, lv, its, D, N, h.turn hT ?_ (fun g c T fz hg hm => qf_no hq hg (by simp at hm; rcases hm with rfl | rfl | rfl | rfl | rfl | rfl | rfl | rfl <;> decide))⟩
  rintro (h1 | h1)
  · obtain ⟨mv, ⟨es, cl, h5, _⟩, _⟩ := h.dsk.map
    exact ty_map h5 h1
  · exact h.far h1
theorem TabOf.below (h : TabOf B w t s lim q e G T) : B ≤ w.heap.size := by
  obtain ⟨st, d, mb, lv, its, D, N, h⟩ := h
  exact tab_size h
theorem TabOf.blk (h : TabOf B w t s lim q e G T) : ∃ cs, w.heap[t]? = some (.cells cs 130 (0, 0)) ∧ B ≤ t := by
  obtain ⟨st, d, mb, lv, its, D, N, h⟩ := h
  exact ⟨_, h.tab, h.tlo⟩
end
/-- The world's own block: its table, its changes; c: how many there are at most. -/
structure WorldAt (B : Nat) (w : World) (wo t c : Nat) (lv : Value) (m : Nat) (xs : List Value) : Prop where
  blk : w.heap[wo]? = some (.cells #[.pointer (some ⟨t, 0, none⟩), lv] 106 (0, 0))
  lo : B ≤ wo
  own : w.ownsRow B 317 4 lv m xs
  mc : m ≤ c
def WorldOf (B : Nat) (w : World) (wo t c : Nat) : Prop := ∃ lv m xs, WorldAt B w wo t c lv m xs
theorem WorldOf.turn {F : Nat → Prop} {B : Nat} {w W : World} {wo t c : Nat} (h : WorldOf B w wo t c) (hT : Turn F w W) (hF : ∀ g cs T fz, w.heap[g]? = some (.cells cs T fz) → T ∈ [106, 317] → ¬ F g) : WorldOf B W wo t c := by
  obtain ⟨lv, m, xs, h⟩ := h
  refine ⟨lv, m, xs, (hT.block _ (lt_of_block h.blk) (hF _ _ _ _ h.blk (by decide))).trans h.blk, h.lo, hT.owns h.own (fun g hg => ?_), h.mc⟩
  rcases h.own.2 with ⟨rfl, _⟩ | ⟨g', cap, cur, rfl, _, hgg, _⟩
  · cases hg
  · simp [Value.ownBlock] at hg
    subst hg
    exact hF _ _ _ _ hgg (by decide)
theorem worldtable_any (wo t : Nat) (w : World) (h : w.cell? ⟨wo, 0, none⟩ = some (.pointer (some ⟨t, 0, none⟩))) : Calls Tryz.prog 37 #[.pointer (some ⟨wo, 0, none⟩)] w fun e w' => e = .returned (.pointer (some ⟨t, 0, none⟩)) ∧ w = w' := by
  go_enter Tryz.func37, Tryz.ntmps37
  go_wp2
  go_ret
  exact ⟨rfl, rfl⟩
/-- The table's view. -/
def viewOf (t : Nat) : Value := .func (.func 41) #[.pointer (some ⟨t, 0, none⟩)] #[]
theorem worldview_any (wo t : Nat) (w : World) (h : w.cell? ⟨wo, 0, none⟩ = some (.pointer (some ⟨t, 0, none⟩))) : Calls Tryz.prog 25 #[.pointer (some ⟨wo, 0, none⟩)] w fun e w' => e = .returned (viewOf t) ∧ w = w' := by
  have hmf : ∀ (fn : Fn) (first cap : Array Value) (w : World), (Instr.makeFunc fn first cap).run Tryz.prog w = .ok (.func fn first cap) w := fun _ _ _ _ => rfl
  go_enter Tryz.func25, Tryz.ntmps25
  go_wp2
  go_ret
  exact ⟨rfl, rfl⟩
theorem Wid.fit {x : Int} (h : Wid x) : Fit x := by have h1 := h.1; have h2 := h.2; exact ⟨by omega, by omega⟩
theorem view_is {B : Nat} {w : World} {t q e : Nat} {s lim : Int} {G : Ps → List Int} {T : List (Ps × Bool)} (h : TabOf B w t s lim q e G T) : ViewVal Tryz.prog (viewOf t) (viewT G T) w := by
  refine ⟨_, _, _, rfl, fun args W => by kernel_rfl, fun W hW x y z hx hy hz => ?_⟩
  obtain ⟨f, rfl⟩ := hW
  obtain ⟨st, d, mb, lv, its, D, N, h⟩ := h
  have := tabat_any (h.grown (ext_below w f)) x y z hx.fit hz.fit
  simpa using this
theorem changeInfo : (Tryz.prog.info? 317).map (fun i => (i.zero, i.size, i.bytes)) = some (some (.agg #[.int .i64 0, .int .i64 0, .int .i64 0, .int .i64 0]), 4, 32) := by kernel_rfl
abbrev tyWo : List TypeId := [106, 317]
/-- What turns where the world does. -/
abbrev tyWorld : List TypeId := [210, 130, 126, 134, 187, 106, 317]
/-- A cell of the world set. -/
def WorldSet (B wo t : Nat) (s lim : Int) (q e c : Nat) (G : Ps → List Int) (T : List (Ps × Bool)) (w : World) (en : Ending) (w' : World) : Prop :=
  en = .returned (.int .i64 0) ∧ WorldOf B w' wo t c ∧ (∃ T', TabOf B w' t s lim q e G T' ∧ Same T T') ∧ Turn (Ty B tyWorld w) w w'
set_option maxHeartbeats 2000000 in
theorem worldset_any {B : Nat} {w : World} {wo t q e c : Nat} {s lim : Int} {G : Ps → List Int} {T : List (Ps × Bool)} (hw : WorldOf B w wo t c) (h : TabOf B w t s lim q e G T) (x y z b : Int) (hx : Fit x) (hz : Fit z) (h0 : 0 ≤ y) (h1 : y ≤ 31) (hb : GoodB b) (he : e ≤ 14) (hc : c ≤ 1000)
    (hh : ∃ c ∈ T, c.1 = (divS x 16, divS z 16)) (j : Nat) (hj : idxS x y z = (j : Int)) :
    Calls Tryz.prog 206 #[.pointer (some ⟨wo, 0, none⟩), .agg #[.int .i64 x, .int .i64 y, .int .i64 z], .int .i64 b] w (WorldSet B wo t s lim q (e + 1) (c + 1) (setP G (divS x 16, divS z 16) j b) T w) := by
  obtain ⟨lv, m, xs, hwo⟩ := hw
  obtain ⟨st, d, mb, lvt, its, D, N, h⟩ := h
  have a0 := cell_of_block (i := 0) hwo.blk rfl
  haveI := in_of_block hwo.blk
  have HO := Lib.hid hwo
  have H := Lib.hid h
  have HC := Lib.hid hc
  have AT := Lib.hid (fun W (hW : Below w.heap.size w W) => tabat_any (h.grown hW) x y z hx hz)
  have TS := Lib.hid (fun W (hW : Below w.heap.size w W) => tabset_any (h.grown hW) x y z b hx hz h0 h1 hb he hh j hj)
  obtain ⟨was, hwas⟩ : ∃ was, viewT G T x y z = was := ⟨_, rfl⟩
  rw [hwas] at AT
  clear hwo h hc hh hj hwas
  go_enter Tryz.func206, Tryz.ntmps206
  go_wp2_with fail
  refine wp_region_ext ?_ ?_ ?_
  · kernel_rfl
  · kernel_rfl
  repeat (go_big_quiet_step (first | (go_at_call 41; exact ext_call (AT.out _ (by exact grown_now)))))
  refine wpQuiet_nil ?_
  rintro w1 ⟨_t, hw⟩
  have hc1 := named_cell hw
  have hz1 := named_frozen hw
  have hh1 := named_heap hw
  haveI hi1 := named_in hw
  haveI hb1 := named_below (w := w) hw
  clear hw
  go_wp2_with fail
  refine wp_region_ext_tail 6 ?_ ?_ ?_
  · kernel_rfl
  · kernel_rfl
  simp only [List.take_succ_cons, List.take_zero, List.drop_succ_cons, List.drop_zero]
  repeat (go_big_quiet_step (first | fail))
  refine wpQuiet_nil ?_
  rintro w2 ⟨_t, hw⟩
  haveI hb2_1 := named_below (w := w1) hw
  have hc2 := named_cell hw
  have hz2 := named_frozen hw
  have hh2 := named_heap hw
  haveI hi2 := named_in hw
  haveI hb2 := named_below (w := w) hw
  clear hw
  have B2 := Lib.hid (grown_now (w := w) (W := w2))
  have P2 : Hid (w2.heap[w.heap.size]? = some (.cells #[.int .i64 x, .int .i64 y, .int .i64 z] 30 (0, 0))) := Lib.hid ((hh2 _).trans ((hh1 _).trans (heap_alloc_new w _)))
  go_wp2_with fail
  refine (TS.out w2 B2.out).mono ?_
  rintro e3 w3 ⟨rfl, htab, hT3⟩
  have pb := (hT3.block _ (lt_of_block P2.out) (ty_no P2.out (by decide))).trans P2.out
  have wb := (hT3.block wo (Nat.lt_of_lt_of_le (lt_of_block HO.out.blk) B2.out.size) (ty_no ((B2.out.block wo (lt_of_block HO.out.blk)).trans HO.out.blk) (by decide))).trans ((B2.out.block wo (lt_of_block HO.out.blk)).trans HO.out.blk)
  have TB := Lib.hid htab
  have T3 := Lib.hid ((turn_below (F := Ty B tyTab w) B2.out).ty hT3)
  have O3 : Hid (w3.ownsRow B 317 4 lv m xs) := Lib.hid (T3.out.owns HO.out.own (fun g hg => by
    rcases HO.out.own.2 with ⟨rfl, _⟩ | ⟨g', cap, cur, rfl, _, hgg, _⟩
    · cases hg
    · simp [Value.ownBlock] at hg
      subst hg
      exact ty_no hgg (by decide)))
  have WB := Lib.hid wb
  have p0 := cell_of_block (i := 0) pb rfl
  have p1 := cell_of_block (i := 1) pb rfl
  have p2 := cell_of_block (i := 2) pb rfl
  have q1 := cell_of_block (i := 1) wb rfl
  have f1 := free_of_block 1 wb
  haveI := in_of_cell p0
  haveI := in_of_cell q1
  clear htab hT3 pb wb TS AT a0
  by_cases hwb : was = b
  · have hwb2 : (was != b) = false := by simp [hwb]
    have hwb3 : (was == b) = true := by simp [hwb]
    clear hwb
    go_wp2_with fail
    go_ret
    exact ⟨rfl, ⟨lv, m, xs, WB.out, HO.out.lo, O3.out, by have := HO.out.mc; omega⟩, TB.out, T3.out.tyMono (by decide)⟩
  · have hwb2 : (was != b) = true := by simp [hwb]
    have hwb3 : (was == b) = false := by simp [hwb]
    clear hwb
    obtain ⟨i0, iz0, iz1, iz2, iz3⟩ := info_parts changeInfo
    obtain ⟨og, cap, rfl⟩ := owns_form O3.out
    have AP := Lib.hid (show ∀ (ty : TypeId) (W : World) (b' : Nat), Below w3.heap.size w3 W → W.heap[b']? = some (.cells #[.int .i64 x, .int .i64 y, .int .i64 z, .int .i64 b] 317 (0, 0)) →
        ∃ v' w', (Builtin.append_ #[104, 104] ty #[.slice og m cap, .slice (some ⟨b', 0, none⟩) 1 1]).run Tryz.prog W = .ok v' w' ∧ (w'.ownsRow B 317 4 v' (m + 1) (xs ++ [.int .i64 x, .int .i64 y, .int .i64 z, .int .i64 b]) ∧ w'.heap[wo]? = some (.cells #[.pointer (some ⟨t, 0, none⟩), .slice og m cap] 106 (0, 0)) ∧ Turn (Ty B tyWo w3) w3 w') from fun ty W b' hW hb' => by
      obtain ⟨v', w', hr, r1, r2, _⟩ := run_append_own (P := Tryz.prog) W B 104 ty 317 i0 _ 4 32 Tryz.underlying104 iz0 iz1 iz2 iz3 rfl (by omega) (.slice og m cap) m xs (owns_grown O3.out (ext_of hW)) ⟨b', 0, none⟩ 1 1 [.int .i64 x, .int .i64 y, .int .i64 z, .int .i64 b] rfl (World.news_of_block hb') (by simp [Value.oneCell']) (by have := HO.out.mc; have := HC.out; unfold maxLen; omega) (by have := HO.out.mc; have := HC.out; omega) (by have h4 := HO.out.lo; have h5 := lt_of_block WB.out; have h6 := hW.size; omega)
      have hT := turn_by r2
      have hown : ∀ j, (Value.slice og m cap).ownBlock = some j → Ty B tyWo w3 j ∧ j < w3.heap.size ∧ j ≠ wo := fun j hj => by
        rcases O3.out.2 with ⟨e, _⟩ | ⟨g', cap', cur, hv, hB, hgg, _⟩
        · rw [e] at hj; cases hj
        · rw [hv] at hj
          simp [Value.ownBlock] at hj
          subst hj
          exact ⟨ty_yes hB hgg (by decide), lt_of_block hgg, fun e => ne_ty WB.out hgg (by decide) e⟩
      exact ⟨v', w', hr, r1, (hT.block wo (Nat.lt_of_lt_of_le (lt_of_block WB.out) hW.size) (fun e => (hown _ e).2.2 rfl)).trans ((hW.block wo (lt_of_block WB.out)).trans WB.out), (turn_below hW).trans hT (fun j _ e => (hown _ e).1)⟩)
    go_wp2_with fail
    go_region_law
      (refine step_append_of rfl (.tmp 33) (.tmp 37) 104 104 rfl _ _ (by rfl) (by rfl) (AP.out _ _ _ (by exact grown_now) (by exact heap_alloc_new _ _)) ?_; rintro v9 w9 ⟨hrow9, hwb9, hT9⟩
       have c9 := cell_of_block (i := 1) hwb9 rfl
       have f9 := free_of_block 1 hwb9
       obtain ⟨og9, cp9, hv9⟩ := owns_form hrow9
       subst hv9
       have R9 := Lib.hid hrow9
       have B9 := Lib.hid hwb9
       have T9 := Lib.hid hT9
       haveI := in_of_cell c9
       clear hrow9 hwb9 hT9)
    all_goals
      go_wp2_with fail
      go_ret
      have hS : Turn (fun j => j = wo) w9 (w9.setCell ⟨wo, 1, none⟩ (.slice og9 (m + 1) cp9)) := (Turn.refl (fun j => j = wo) w9).setIn rfl _
      have hT := T9.out.setIn (a := ⟨wo, 1, none⟩) (ty_yes HO.out.lo WB.out (by decide)) (.slice og9 (m + 1) cp9)
      refine ⟨rfl, ⟨_, m + 1, _, block_set B9.out _ (by simp), HO.out.lo, hS.owns R9.out (fun g hg e => ?_), by have := HO.out.mc; omega⟩, ?_, (T3.out.tyMono (by decide)).ty (hT.tyMono (by decide))⟩
      · rcases R9.out.2 with ⟨e', _⟩ | ⟨g', cap', cur, hv, _, hgg, _⟩
        · rw [e'] at hg; cases hg
        · rw [hv] at hg
          simp [Value.ownBlock] at hg
          subst hg
          exact ne_ty B9.out hgg (by decide) e
      · obtain ⟨T', h1, h2⟩ := TB.out
        exact ⟨T', h1.ty hT (by decide), h2⟩
#print axioms worldset_any
end Go.Proofs.YtnogfelfgclajaaGreatDoor
end

section
namespace Go.Proofs.YtnogfelfgclajaaGreatDoor
open Go.RowKit
attribute [local go_sem] ext_ext drew_ext ext_drew ext_cell ext_frozen in_lt in_le in_ne in_en in_ne1 in_en1 in_le1 in_ltn in_len in_nen in_enn size_le ite_max ite_min
set_option linter.unusedVariables false
set_option linter.unusedSimpArgs false
set_option maxRecDepth 1000000

theorem wkL_wid {V : Int → Int → Int → Int} {x y z : Int} (hx : Mid x) (hy : Mid y) (hz : Mid z) : ∀ k, ∀ c ∈ wkL V x y z k, Wid c.1 ∧ Wid c.2.1 ∧ Wid c.2.2
  | 0, c, h => by cases h
  | k + 1, c, h => by
    by_cases h0 : 0 < dlyS (V (n7X x k) (n7Y y k) (n7Z z k))
    · rw [wkL_in h0] at h
      rcases List.mem_append.1 h with h | h
      · exact wkL_wid hx hy hz k c h
      · obtain rfl := List.mem_singleton.1 h
        exact n7_wid hx hy hz k
    · rw [wkL_out h0] at h
      exact wkL_wid hx hy hz k c h
theorem dly_bd (b : Int) : 0 ≤ dlyS b ∧ dlyS b ≤ 5 := by unfold dlyS; split; omega; split <;> omega
/-- Updates, tick by tick, of which no tick has gone by. -/
structure SimAt (B : Nat) (w : World) (sm qu wo : Nat) (bud : Int) (oc dr : Value) : Prop where
  blk : w.heap[sm]? = some (.cells #[.pointer (some ⟨qu, 0, none⟩), .pointer (some ⟨wo, 0, none⟩), .int .i64 bud, .int .i64 0, oc, dr] 103 (0, 0))
  lo : B ≤ sm
theorem simworld_any (sm wo : Nat) (w : World) (h : w.cell? ⟨sm, 1, none⟩ = some (.pointer (some ⟨wo, 0, none⟩))) : Calls Tryz.prog 24 #[.pointer (some ⟨sm, 0, none⟩)] w fun e w' => e = .returned (.pointer (some ⟨wo, 0, none⟩)) ∧ w = w' := by
  go_enter Tryz.func24, Tryz.ntmps24
  go_wp2
  go_ret
  exact ⟨rfl, rfl⟩
theorem QOf.mono {B : Nat} {w : World} {qu mq c c' : Nat} (h : QOf B w qu mq c) (hc : c ≤ c') : QOf B w qu mq c' := by
  obtain ⟨lv, n, k, h⟩ := h
  exact ⟨lv, n, k, h.blk, h.row, h.map, h.lo, h.mlo, by have := h.nc; omega, by have := h.kc; omega⟩
theorem QOf.grown {B : Nat} {w W : World} {qu mq c : Nat} (h : QOf B w qu mq c) (hW : Below w.heap.size w W) : QOf B W qu mq c := by
  obtain ⟨lv, n, k, h⟩ := h
  exact ⟨lv, n, k, h.grown hW⟩
theorem QOf.qmap {B : Nat} {w : World} {qu mq c : Nat} (h : QOf B w qu mq c) : ∃ k, QMap w mq k := by
  obtain ⟨lv, n, k, h⟩ := h
  exact ⟨k, h.map⟩
attribute [local go_sem] viewOf
set_option maxHeartbeats 2000000 in
theorem wake_any {B : Nat} {w : World} {sm qu wo t mq e c : Nat} {s lim bud : Int} {oc dr : Value} {G : Ps → List Int} {T : List (Ps × Bool)} (hs : SimAt B w sm qu wo bud oc dr) (hw : w.cell? ⟨wo, 0, none⟩ = some (.pointer (some ⟨t, 0, none⟩))) (h : TabOf B w t s lim mq e G T) (hq : QOf B w qu mq c) (hc : c ≤ 800)
    (x y z : Int) (hx : Mid x) (hy : Mid y) (hz : Mid z) :
    Calls Tryz.prog 207 #[.pointer (some ⟨sm, 0, none⟩), .agg #[.int .i64 x, .int .i64 y, .int .i64 z]] w fun en w' => en = .returned (.tuple #[]) ∧ QDone B qu mq (c + 7) w w' := by
  have s1 := cell_of_block (i := 1) hs.blk rfl
  haveI := in_of_cell s1
  haveI := in_of_cell hw
  have HS := Lib.hid hs
  have H := Lib.hid h
  have HQ := Lib.hid hq
  have HC := Lib.hid hc
  have HV := Lib.hid (view_is h)
  have HWL := Lib.hid (wkL_wid (V := viewT G T) hx hy hz 7)
  have HLN := Lib.hid (wkL_len (viewT G T) x y z 7)
  obtain ⟨l, hl⟩ : ∃ l, wkL (viewT G T) x y z 7 = l := ⟨_, rfl⟩
  have WK := Lib.hid (fun W (hW : Below w.heap.size w W) => wakes_any (viewOf t) (viewT G T) x y z W (HV.out.grow (ext_of hW)) hx hy hz)
  rw [hl] at HWL HLN WK
  clear hs h hq hc hl
  go_enter Tryz.func207, Tryz.ntmps207
  go_wp2_with (go_at_call 25; refine (worldview_any wo t _ (by go_simp)).mono ?_; rintro e w1 ⟨rfl, rfl⟩)
  refine (WK.out _ (by exact grown_now)).mono ?_
  rintro en w1 ⟨v1, rfl, ho1, _t, hw1⟩
  haveI hb1 := named_below (w := w) hw1
  clear hw1 WK
  have B1 := Lib.hid (grown_now (w := w) (W := w1))
  have O1 := Lib.hid ho1
  obtain ⟨og, cap, rfl⟩ := owns_form O1.out
  obtain ⟨n, hn⟩ : ∃ n, l.length = n := ⟨_, rfl⟩
  have HN := Lib.hid hn
  have Q1 := Lib.hid (HQ.out.grown B1.out)
  have T1 := Lib.hid (H.out.grown B1.out)
  have S1 := Lib.hid ((B1.out.block sm (lt_of_block HS.out.blk)).trans HS.out.blk)
  have M1 := Lib.hid Q1.out.qmap
  rw [hn]
  clear ho1 hn s1
  have n0 : (n : Int) ≤ 7 := by have := HN.out; have := HLN.out; omega
  go_wp2_with fail
  go_loopw [16] (fun s16 wr => ∃ k : Nat, k ≤ n ∧ s16 = .int .i64 (k : Int) ∧ Hid (QOf B wr qu mq (c + k)) ∧ Hid (Turn (QF B mq w1) w1 wr)) (fun s16 _ => n - (intOf s16).toNat)
  case atStart => exact ⟨0, by omega, rfl, Q1, Lib.hid (Turn.refl _ _)⟩
  case round =>
    obtain ⟨k, hk, rfl, HQ2, HT2⟩ := hrel
    rename World => w2
    have k0 : (0 : Int) ≤ (k : Int) := Int.natCast_nonneg _
    by_cases hlt : k < n
    · have hkl : k < l.length := by have := HN.out; omega
      obtain ⟨kk, hkk⟩ := M1.out
      obtain ⟨g, cap', hv, _, _, _, hcell⟩ := owns_some O1.out (by omega)
      injection hv with e1 e2 e3
      subst e1 e3
      have hgb : ∃ cs, w1.heap[g]? = some (.cells cs 30 (0, 0)) := by
        rcases O1.out.2 with ⟨e, h0⟩ | ⟨g', cap', cur, hv, _, hgg, _⟩
        · omega
        · injection hv with e1
          injection e1 with e1
          injection e1 with e1
          subst e1
          exact ⟨cur, hgg⟩
      obtain ⟨cs, hgb⟩ := hgb
      have hg2 : ∀ o, w2.cell? ⟨g, o, none⟩ = w1.cell? ⟨g, o, none⟩ := fun o => HT2.out.cell (p := ⟨g, o, none⟩) (lt_of_block hgb) (qf_no hkk hgb (by decide))
      obtain ⟨t0, t1, t2⟩ := cV_at l k hkl
      have d0 := (hg2 _).trans (hcell _ _ t0)
      have d1 := (hg2 _).trans (hcell _ _ t1)
      have d2 := (hg2 _).trans (hcell _ _ t2)
      obtain ⟨m1, m2, m3⟩ := HWL.out l[k] (List.getElem_mem hkl)
      have sb2 := (HT2.out.block sm (lt_of_block S1.out) (qf_no hkk S1.out (by decide))).trans S1.out
      have s0 := cell_of_block (i := 0) sb2 rfl
      have s3 := cell_of_block (i := 3) sb2 rfl
      haveI := in_of_cell d0
      haveI := in_of_cell s0
      generalize l[k].1 = a at *
      generalize l[k].2.1 = b at *
      generalize l[k].2.2 = d at *
      have T2 := Lib.hid (T1.out.qf HT2.out ⟨kk, hkk⟩)
      have AT := Lib.hid (fun W (hW : Below w2.heap.size w2 W) => by
        obtain ⟨st, dd, mb, lv, its, D, N, h⟩ := T2.out.grown hW
        exact tabat_any h a b d m1.fit m3.fit)
      obtain ⟨vv, hvv⟩ : ∃ vv, viewT G T a b d = vv := ⟨_, rfl⟩
      rw [hvv] at AT
      obtain ⟨dl, hdl⟩ : ∃ dl, dlyS vv = dl := ⟨_, rfl⟩
      have DL := Lib.hid (fun W => hdl ▸ delay_any vv W)
      have hdb := dly_bd vv
      rw [hdl] at hdb
      have wr0 : IntKind.i64.wrap dl = dl := IntWalk.i64_in _ (by omega)
      have wr1 : IntKind.i64.wrap (0 + dl) = dl := by rw [Int.zero_add]; exact wr0
      have HW := Lib.hid (And.intro m1 (And.intro m2 (And.intro m3 (show Wid dl from ⟨by omega, by omega⟩))))
      have HK := Lib.hid hlt
      have hvf : ∀ args W, (callFunc 41 args).run Tryz.prog W = .ok (.enter 41 args) W := fun args W => by kernel_rfl
      have k1 : (k : Int) < (n : Int) := by omega
      clear hkk hcell hg2 t0 t1 t2 m1 m2 m3 sb2 hvv hdl hdb hlt hk hgb
      obtain ⟨lvq, nq, kq, hq2⟩ := HQ2.out
      have Q2 := Lib.hid hq2
      clear hq2
      go_wp2_with fail
      refine wp_region_ext_tail 14 ?_ ?_ ?_
      · kernel_rfl
      · kernel_rfl
      simp only [List.take_succ_cons, List.take_zero, List.drop_succ_cons, List.drop_zero]
      repeat (go_big_quiet_step (first | (go_at_call 41; exact ext_call (AT.out _ (by exact grown_now))) | (go_at_call 266; exact ext_same (DL.out _))))
      refine wpQuiet_nil ?_
      rintro w3 ⟨_t, hw⟩
      have hc3 := named_cell hw
      have hz3 := named_frozen hw
      have hh3 := named_heap hw
      haveI hi3 := named_in hw
      haveI hb3 := named_below (w := w2) hw
      clear hw
      have B3 := Lib.hid (grown_now (w := w2) (W := w3))
      have AD := Lib.hid (queueadd_any (Q2.out.grown B3.out) (by have := HC.out; have := HN.out; have := HLN.out; have := HK.out; omega) dl HW.out.2.2.2 HW.out.1 HW.out.2.1 HW.out.2.2.1)
      go_wp2_with fail
      refine AD.out.mono ?_
      rintro en w4 ⟨⟨r4, rfl⟩, hq4, hT4⟩
      have Q4 := Lib.hid hq4
      have T4 := Lib.hid ((HT2.out.trans (turn_below (F := fun _ => False) B3.out) (fun _ _ h => h.elim)).qf hT4)
      clear hq4 hT4 AD AT DL
      go_wp2_with fail
      go_roundw
      case rel => exact ⟨k + 1, by have := HK.out; omega, by go_num, Q4, T4⟩
      case measure => have := HK.out; simp [intOf]; omega
    · have k1 : ¬ (k : Int) < (n : Int) := by omega
      have hk' : Hid (QOf B w2 qu mq (c + 7)) := Lib.hid (HQ2.out.mono (by have := HN.out; have := HLN.out; omega))
      clear hlt hk
      go_wp2_with fail
      go_end0
      exact ⟨rfl, hk'.out, (turn_below (F := QF B mq w) B1.out).qf HT2.out⟩

/-- What turns where a cell is edited. -/
def EF (B mq : Nat) (w : World) (k : Nat) : Prop := Ty B (tyWorld ++ tyQueue) w k ∨ k = mq
theorem ef_world {B mq : Nat} {a b : World} (h : Turn (Ty B tyWorld a) a b) : Turn (EF B mq a) a b := h.mono (fun k _ ⟨h1, c, T, fz, h2, h3⟩ => .inl ⟨h1, c, T, fz, h2, List.mem_append_left _ h3⟩)
theorem ef_queue {B mq : Nat} {a b : World} (h : Turn (QF B mq a) a b) : Turn (EF B mq a) a b := h.mono (fun k _ hk => by
  rcases hk with ⟨h1, c, T, fz, h2, h3⟩ | hk
  · exact .inl ⟨h1, c, T, fz, h2, List.mem_append_right _ h3⟩
  · exact .inr hk)
theorem Turn.ef {B mq : Nat} {a b c : World} (h : Turn (EF B mq a) a b) (k : Turn (EF B mq b) b c) : Turn (EF B mq a) a c :=
  h.trans k (fun i hi hb => by
    by_cases ha : EF B mq a i
    · exact ha
    · rcases hb with ⟨h1, c', T, fz, h2, h3⟩ | h1
      · exact .inl ⟨h1, c', T, fz, (h.block i hi ha).symm.trans h2, h3⟩
      · exact .inr h1)
/-- A cell edited. -/
def SimEdit (B qu mq wo t : Nat) (s lim : Int) (e c : Nat) (G : Ps → List Int) (T : List (Ps × Bool)) (w : World) (en : Ending) (w' : World) : Prop :=
  en = .returned (.int .i64 0) ∧ WorldOf B w' wo t c ∧ QOf B w' qu mq c ∧ (∃ T', TabOf B w' t s lim mq e G T' ∧ Same T T') ∧ Turn (EF B mq w) w w'
theorem QOf.ty {TS : List TypeId} {B : Nat} {w W : World} {qu mq c : Nat} (h : QOf B w qu mq c) (hT : Turn (Ty B TS w) w W) (hd : ∀ T ∈ tyQueue, T ∉ TS) : QOf B W qu mq c := by
  obtain ⟨lv, n, k, h⟩ := h
  exact ⟨lv, n, k, h.turn hT (by obtain ⟨D, es, cl, h5, _⟩ := h.map; exact ty_map h5) (fun g cs T fz hg hm => ty_no hg (hd T hm))⟩
set_option maxHeartbeats 2000000 in
theorem simedit_any {B : Nat} {w : World} {sm qu wo t mq e c : Nat} {s lim bud : Int} {oc dr : Value} {G : Ps → List Int} {T : List (Ps × Bool)} (hs : SimAt B w sm qu wo bud oc dr) (hw : WorldOf B w wo t c) (h : TabOf B w t s lim mq e G T) (hq : QOf B w qu mq c) (hc : c ≤ 800)
    (x y z b : Int) (hx : Mid x) (hz : Mid z) (h0 : 0 ≤ y) (h1 : y ≤ 31) (hb : GoodB b) (he : e ≤ 14) (hh : ∃ c ∈ T, c.1 = (divS x 16, divS z 16)) (j : Nat) (hj : idxS x y z = (j : Int)) :
    Calls Tryz.prog 161 #[.pointer (some ⟨sm, 0, none⟩), .agg #[.int .i64 x, .int .i64 y, .int .i64 z], .int .i64 b] w (SimEdit B qu mq wo t s lim (e + 1) (c + 8) (setP G (divS x 16, divS z 16) j b) T w) := by
  have s1 := cell_of_block (i := 1) hs.blk rfl
  haveI := in_of_cell s1
  have HS := Lib.hid hs
  have HQ := Lib.hid hq
  have HC := Lib.hid hc
  have HXZ := Lib.hid (And.intro hx (And.intro (show Mid y from ⟨by omega, by omega⟩) hz))
  have WS := Lib.hid (fun W (hW : Below w.heap.size w W) => worldset_any (hw.turn (turn_below (F := fun _ => False) hW) (fun _ _ _ _ _ _ => id)) (h.grown hW) x y z b hx.wid.fit hz.wid.fit h0 h1 hb he (by omega) hh j hj)
  clear hs hw h hq hc hh hj
  go_enter Tryz.func161, Tryz.ntmps161
  go_wp2_with fail
  refine wp_region_ext_tail 6 ?_ ?_ ?_
  · kernel_rfl
  · kernel_rfl
  simp only [List.take_succ_cons, List.take_zero, List.drop_succ_cons, List.drop_zero]
  repeat (go_big_quiet_step (first | fail))
  refine wpQuiet_nil ?_
  rintro w1 ⟨_t, hw⟩
  have hc1 := named_cell hw
  have hz1 := named_frozen hw
  have hh1 := named_heap hw
  haveI hi1 := named_in hw
  haveI hb1 := named_below (w := w) hw
  clear hw
  have B1 := Lib.hid (grown_now (w := w) (W := w1))
  have P1 : Hid (w1.heap[w.heap.size]? = some (.cells #[.int .i64 x, .int .i64 y, .int .i64 z] 30 (0, 0))) := Lib.hid ((hh1 _).trans (heap_alloc_new w _))
  have S1 := Lib.hid ((B1.out.block sm (lt_of_block HS.out.blk)).trans HS.out.blk)
  have Q1 := Lib.hid (HQ.out.grown B1.out)
  go_wp2_with fail
  refine (WS.out w1 B1.out).mono ?_
  rintro e2 w2 ⟨rfl, hwo, ⟨T', htab, hin⟩, hT2⟩
  have pb := (hT2.block _ (lt_of_block P1.out) (ty_no P1.out (by decide))).trans P1.out
  have sb := (hT2.block _ (lt_of_block S1.out) (ty_no S1.out (by decide))).trans S1.out
  have p0 := cell_of_block (i := 0) pb rfl
  have p1 := cell_of_block (i := 1) pb rfl
  have p2 := cell_of_block (i := 2) pb rfl
  haveI := in_of_cell p0
  have Q2 := Lib.hid (Q1.out.ty hT2 (by decide))
  have W2 := Lib.hid (And.intro hwo (And.intro htab hin))
  have T2 := Lib.hid hT2
  have wc : Hid (w2.cell? ⟨wo, 0, none⟩ = some (.pointer (some ⟨t, 0, none⟩))) := Lib.hid (by obtain ⟨lv, m, xs, h⟩ := hwo; exact cell_of_block (i := 0) h.blk rfl)
  have WKE := Lib.hid (wake_any (⟨sb, HS.out.lo⟩ : SimAt B w2 sm qu wo bud oc dr) wc.out htab Q2.out (by have := HC.out; omega) x y z HXZ.out.1 HXZ.out.2.1 HXZ.out.2.2)
  clear hwo htab hin hT2 pb sb WS
  go_wp2_with fail
  refine WKE.out.mono ?_
  rintro e3 w3 ⟨rfl, hq3, hT3⟩
  have Q3 := Lib.hid (And.intro hq3 hT3)
  clear hq3 hT3 WKE
  go_wp2_with fail
  go_ret
  obtain ⟨k, hk⟩ := Q2.out.qmap
  refine ⟨rfl, ?_, Q3.out.1.mono (by omega), ⟨T', W2.out.2.1.qf Q3.out.2 ⟨k, hk⟩, W2.out.2.2⟩, ((ef_world (turn_below (F := Ty B tyWorld w) B1.out)).ef (ef_world T2.out)).ef (ef_queue Q3.out.2)⟩
  obtain ⟨lv, m, xs, hw'⟩ := W2.out.1.turn Q3.out.2 (fun g cs T fz hg hm => qf_no hk hg (by simp at hm; rcases hm with rfl | rfl <;> decide))
  exact ⟨lv, m, xs, hw'.blk, hw'.lo, hw'.own, by have := hw'.mc; omega⟩
#print axioms simedit_any
end Go.Proofs.YtnogfelfgclajaaGreatDoor
end

section
namespace Go.Proofs.YtnogfelfgclajaaGreatDoor
open Go.RowKit
attribute [local go_sem] ext_ext drew_ext ext_drew ext_cell ext_frozen in_lt in_le in_ne in_en in_ne1 in_en1 in_le1 in_ltn in_len in_nen in_enn size_le ite_max ite_min
set_option linter.unusedVariables false
set_option linter.unusedSimpArgs false

/-- A fixed number, cut to the bounds. -/
def fcS (n : Int) : Int := min 140737488355328 (max n (-140737488355328))
theorem fcS_fold (n : Int) : min 140737488355328 (max n (-140737488355328)) = fcS n := rfl
theorem fcS_bd (n : Int) : -140737488355328 ≤ fcS n ∧ fcS n ≤ 140737488355328 := by unfold fcS; omega
theorem fcS_in {n : Int} (h1 : -140737488355328 ≤ n) (h2 : n ≤ 140737488355328) : fcS n = n := by unfold fcS; omega
theorem fcS_fcS (n : Int) : fcS (fcS n) = fcS n := fcS_in (fcS_bd n).1 (fcS_bd n).2
theorem fcS_fit (n : Int) : Fit (fcS n) := by have := fcS_bd n; exact ⟨by omega, by omega⟩
def faS (a b : Int) : Int := fcS (fcS a + fcS b)
def flS (n : Int) : Int := fcS n / 65536
theorem flS_bd (n : Int) : -2147483648 ≤ flS n ∧ flS n ≤ 2147483648 := by have := fcS_bd n; unfold flS; omega
def frS (n : Int) : Int := fcS n % 65536
attribute [local go_sem] fcS_fold
theorem i64_and65535 (n : Int) : bits .and .i64 n 65535 = n % 65536 := by
  have h127 : (BitVec.ofInt 64 65535).toNat = 2 ^ 16 - 1 := by decide
  have key : (BitVec.ofInt 64 n &&& BitVec.ofInt 64 65535).toNat = (n % ((2 ^ 64 : Nat) : Int)).toNat % 2 ^ 16 := by
    rw [BitVec.toNat_and, BitVec.toNat_ofInt, h127, Nat.and_two_pow_sub_one_eq_mod]
  show IntKind.i64.wrap ((BitVec.ofInt 64 n &&& BitVec.ofInt 64 65535).toNat : Nat) = n % 65536
  rw [key, IntKind.wrap_i64]
  omega

theorem fcut_any (n : Int) (w : World) : Calls Tryz.prog 315 #[.int .i64 n] w fun e w' => e = .returned (.int .i64 (fcS n)) ∧ w = w' := by
  go_enter Tryz.func315, Tryz.ntmps315
  go_wp2
  go_ret
  exact ⟨rfl, rfl⟩
theorem reffcut_any (n : Int) (w : World) : Calls Tryz.prog 78 #[.int .i64 n] w fun e w' => e = .returned (.int .i64 (fcS n)) ∧ w = w' := by
  by_cases h : 140737488355328 < n
  · have H := Lib.hid (show fcS n = 140737488355328 by unfold fcS; omega)
    go_enter Tryz.func78, Tryz.ntmps78
    go_wp2
    go_ret
    exact ⟨ret_int H.out.symm, rfl⟩
  · by_cases h2 : n < -140737488355328
    · have H := Lib.hid (show fcS n = -140737488355328 by unfold fcS; omega)
      go_enter Tryz.func78, Tryz.ntmps78
      go_wp2
      go_ret
      exact ⟨ret_int H.out.symm, rfl⟩
    · have H := Lib.hid (show fcS n = n by unfold fcS; omega)
      go_enter Tryz.func78, Tryz.ntmps78
      go_wp2
      go_ret
      exact ⟨ret_int H.out.symm, rfl⟩
theorem fadd_any (a b : Int) (w : World) : Calls Tryz.prog 277 #[.int .i64 a, .int .i64 b] w fun e w' => e = .returned (.int .i64 (faS a b)) ∧ w = w' := by
  obtain ⟨a1, a2⟩ := fcS_bd a
  obtain ⟨b1, b2⟩ := fcS_bd b
  go_enter Tryz.func277, Tryz.ntmps277
  go_wp2_with (first | (go_at_call 315; refine (fcut_any _ _).mono ?_; rintro e w1 ⟨rfl, rfl⟩))
  go_ret
  exact ⟨rfl, rfl⟩
theorem reffadd_any (a b : Int) (w : World) : Calls Tryz.prog 79 #[.int .i64 a, .int .i64 b] w fun e w' => e = .returned (.int .i64 (faS a b)) ∧ w = w' := by
  obtain ⟨a1, a2⟩ := fcS_bd a
  obtain ⟨b1, b2⟩ := fcS_bd b
  go_enter Tryz.func79, Tryz.ntmps79
  go_wp2_with (first | (go_at_call 78; refine (reffcut_any _ _).mono ?_; rintro e w1 ⟨rfl, rfl⟩))
  go_ret
  exact ⟨rfl, rfl⟩
theorem floor_any (n : Int) (w : World) : Calls Tryz.prog 252 #[.int .i64 n] w fun e w' => e = .returned (.int .i64 (flS n)) ∧ w = w' := by
  obtain ⟨a1, a2⟩ := fcS_bd n
  go_enter Tryz.func252, Tryz.ntmps252
  go_wp2_with (first | (go_at_call 315; refine (fcut_any _ _).mono ?_; rintro e w1 ⟨rfl, rfl⟩))
  go_ret
  exact ⟨rfl, rfl⟩
theorem reffloor_any (n : Int) (w : World) : Calls Tryz.prog 76 #[.int .i64 n] w fun e w' => e = .returned (.int .i64 (flS n)) ∧ w = w' := by
  have h1 := fcS_fit n
  have h2 : Fit 65536 := ⟨by omega, by omega⟩
  have H := Lib.hid (show divS (fcS n) 65536 = flS n by unfold divS flS; simp)
  go_enter Tryz.func76, Tryz.ntmps76
  go_wp2_with (first | (go_at_call 78; refine (reffcut_any _ _).mono ?_; rintro e w1 ⟨rfl, rfl⟩) | (go_at_call 70; refine (ref01div_any _ _ _ h1 h2 (by omega)).mono ?_; rintro e w1 ⟨rfl, rfl⟩))
  go_ret
  exact ⟨ret_int H.out.symm, rfl⟩
theorem frac_any (n : Int) (w : World) : Calls Tryz.prog 323 #[.int .i64 n] w fun e w' => e = .returned (.int .i64 (frS n)) ∧ w = w' := by
  obtain ⟨a1, a2⟩ := fcS_bd n
  go_enter Tryz.func323, Tryz.ntmps323
  go_wp2_with (first | (go_at_call 315; refine (fcut_any _ _).mono ?_; rintro e w1 ⟨rfl, rfl⟩))
  go_ret
  exact ⟨ret_int (i64_and65535 _), rfl⟩
theorem fof_any (n : Int) (w : World) : Calls Tryz.prog 259 #[.int .i64 n] w fun e w' => e = .returned (.int .i64 (cutS n * 65536)) ∧ w = w' := by
  obtain ⟨a1, a2⟩ := cutS_bd n
  go_enter Tryz.func259, Tryz.ntmps259
  go_wp2
  go_ret
  exact ⟨rfl, rfl⟩
end Go.Proofs.YtnogfelfgclajaaGreatDoor
end

section
namespace Go.Proofs.YtnogfelfgclajaaGreatDoor
open Go.RowKit
attribute [local go_sem] ext_ext drew_ext ext_drew ext_cell ext_frozen in_lt in_le in_ne in_en in_ne1 in_en1 in_le1 in_ltn in_len in_nen in_enn size_le ite_max ite_min
set_option linter.unusedVariables false
set_option linter.unusedSimpArgs false

theorem parts_any (g : Nat) (a b c : Value) (w : World) (h0 : w.cell? ⟨g, 0, none⟩ = some a) (h1 : w.cell? ⟨g, 1, none⟩ = some b) (h2 : w.cell? ⟨g, 2, none⟩ = some c) :
    Calls Tryz.prog 319 #[.pointer (some ⟨g, 0, none⟩)] w fun e w' => e = .returned (.agg #[.pointer (some ⟨g, 0, none⟩), .pointer (some ⟨g, 1, none⟩), .pointer (some ⟨g, 2, none⟩)]) ∧ ∃ f, w' = ext w f := by
  haveI := in_of_cell h0
  go_enter Tryz.func319, Tryz.ntmps319
  go_wp2_with fail
  first | (with_reducible refine wp_region_ext_tail_on 10 ?_ ?_ ?_) | refine wp_region_ext_tail 10 ?_ ?_ ?_
  · kernel_rfl
  · kernel_rfl
  simp only [List.take_succ_cons, List.take_zero, List.drop_succ_cons, List.drop_zero]
  repeat (go_big_quiet_step (first | fail))
  refine wpQuiet_nil ?_
  rintro _ ⟨t, rfl⟩
  go_wp2
  go_returns
  exact ⟨rfl, grown_of⟩

theorem ix0 (p0 p1 p2 : Option Addr) (w : World) : (Instr.index 359 (.agg #[.pointer p0, .pointer p1, .pointer p2]) (.int .i64 0)).run Tryz.prog w = .ok (.pointer p0) w := by kernel_rfl
theorem ix1 (p0 p1 p2 : Option Addr) (w : World) : (Instr.index 359 (.agg #[.pointer p0, .pointer p1, .pointer p2]) (.int .i64 1)).run Tryz.prog w = .ok (.pointer p1) w := by kernel_rfl
theorem ix2 (p0 p1 p2 : Option Addr) (w : World) : (Instr.index 359 (.agg #[.pointer p0, .pointer p1, .pointer p2]) (.int .i64 2)).run Tryz.prog w = .ok (.pointer p2) w := by kernel_rfl
attribute [local go_sem] ix0 ix1 ix2

theorem axis0_any (a b c : Int) (w : World) : Calls Tryz.prog 263 #[.agg #[.int .i64 a, .int .i64 b, .int .i64 c], .int .i64 0] w fun e w' => e = .returned (.int .i64 a) ∧ ∃ f, w' = ext w f := by
  go_enter Tryz.func263, Tryz.ntmps263
  go_wp2_with fail
  refine (parts_any _ (.int .i64 a) (.int .i64 b) (.int .i64 c) _ (by go_simp) (by go_simp) (by go_simp)).mono ?_
  rintro e w1 ⟨rfl, _t, hw⟩
  have hc1 := named_cell hw
  have hz1 := named_frozen hw
  have hh1 := named_heap hw
  haveI hi1 := named_in hw
  haveI hb1 := named_below (w := w) hw
  clear hw
  go_wp2_with fail
  go_ret
  exact ⟨rfl, grown_of⟩
theorem axis1_any (a b c : Int) (w : World) : Calls Tryz.prog 263 #[.agg #[.int .i64 a, .int .i64 b, .int .i64 c], .int .i64 1] w fun e w' => e = .returned (.int .i64 b) ∧ ∃ f, w' = ext w f := by
  go_enter Tryz.func263, Tryz.ntmps263
  go_wp2_with fail
  refine (parts_any _ (.int .i64 a) (.int .i64 b) (.int .i64 c) _ (by go_simp) (by go_simp) (by go_simp)).mono ?_
  rintro e w1 ⟨rfl, _t, hw⟩
  have hc1 := named_cell hw
  have hz1 := named_frozen hw
  have hh1 := named_heap hw
  haveI hi1 := named_in hw
  haveI hb1 := named_below (w := w) hw
  clear hw
  go_wp2_with fail
  go_ret
  exact ⟨rfl, grown_of⟩
theorem axis2_any (a b c : Int) (w : World) : Calls Tryz.prog 263 #[.agg #[.int .i64 a, .int .i64 b, .int .i64 c], .int .i64 2] w fun e w' => e = .returned (.int .i64 c) ∧ ∃ f, w' = ext w f := by
  go_enter Tryz.func263, Tryz.ntmps263
  go_wp2_with fail
  refine (parts_any _ (.int .i64 a) (.int .i64 b) (.int .i64 c) _ (by go_simp) (by go_simp) (by go_simp)).mono ?_
  rintro e w1 ⟨rfl, _t, hw⟩
  have hc1 := named_cell hw
  have hz1 := named_frozen hw
  have hh1 := named_heap hw
  haveI hi1 := named_in hw
  haveI hb1 := named_below (w := w) hw
  clear hw
  go_wp2_with fail
  go_ret
  exact ⟨rfl, grown_of⟩

/-- What a sum's closure adds: an axis's number. -/
theorem add1_any (i n a b c m : Int) (g : Nat) (w : World) (hm : (i = 0 ∧ m = a) ∨ (i = 1 ∧ m = b) ∨ (i = 2 ∧ m = c)) (h0 : w.cell? ⟨g, 0, none⟩ = some (.int .i64 a)) (h1 : w.cell? ⟨g, 1, none⟩ = some (.int .i64 b)) (h2 : w.cell? ⟨g, 2, none⟩ = some (.int .i64 c)) :
    Calls Tryz.prog 276 #[.int .i64 i, .int .i64 n, .pointer (some ⟨g, 0, none⟩)] w fun e w' => e = .returned (.int .i64 (faS n m)) ∧ ∃ f, w' = ext w f := by
  haveI := in_of_cell h0
  have C : ∀ w, Calls Tryz.prog 263 #[.agg #[.int .i64 a, .int .i64 b, .int .i64 c], .int .i64 i] w fun e w' => e = .returned (.int .i64 m) ∧ ∃ f, w' = ext w f := by
    intro w
    rcases hm with ⟨rfl, rfl⟩ | ⟨rfl, rfl⟩ | ⟨rfl, rfl⟩
    · exact axis0_any _ _ _ w
    · exact axis1_any _ _ _ w
    · exact axis2_any _ _ _ w
  go_enter Tryz.func276, Tryz.ntmps276
  go_wp2_with fail
  refine (C _).mono ?_
  rintro e w1 ⟨rfl, _t, hw⟩
  have hc1 := named_cell hw
  have hz1 := named_frozen hw
  have hh1 := named_heap hw
  haveI hi1 := named_in hw
  haveI hb1 := named_below (w := w) hw
  clear hw
  go_wp2_with (first | (go_at_call 277; refine (fadd_any _ _ _).mono ?_; rintro e w1 ⟨rfl, rfl⟩))
  go_ret
  exact ⟨rfl, grown_of⟩

set_option maxHeartbeats 4000000 in
/-- A sum, number by number. -/
theorem each_add (x y z a b c : Int) (g : Nat) (w : World) (h0 : w.cell? ⟨g, 0, none⟩ = some (.int .i64 a)) (h1 : w.cell? ⟨g, 1, none⟩ = some (.int .i64 b)) (h2 : w.cell? ⟨g, 2, none⟩ = some (.int .i64 c)) :
    Calls Tryz.prog 275 #[.agg #[.int .i64 x, .int .i64 y, .int .i64 z], .func (.func 276) #[] #[.pointer (some ⟨g, 0, none⟩)]] w fun e w' => e = .returned (.agg #[.int .i64 (faS x a), .int .i64 (faS y b), .int .i64 (faS z c)]) ∧ ∃ f, w' = ext w f := by
  haveI := in_of_cell h0
  go_enter Tryz.func275, Tryz.ntmps275
  go_wp2_with fail
  refine (parts_any _ (.int .i64 x) (.int .i64 y) (.int .i64 z) _ (by go_simp) (by go_simp) (by go_simp)).mono ?_
  rintro e w1 ⟨rfl, _t, hw⟩
  have hc1 := named_cell hw
  have hz1 := named_frozen hw
  have hh1 := named_heap hw
  haveI hi1 := named_in hw
  haveI hb1 := named_below (w := w) hw
  clear hw
  go_wp2_with fail
  refine wp_loop_rounds 4 ?_
  rw [rounds_succ]
  go_wp2_with fail
  refine (add1_any _ _ a b c a g _ (.inl ⟨rfl, rfl⟩) (by go_simp) (by go_simp) (by go_simp)).mono ?_
  rintro e w2 ⟨rfl, _t, hw⟩
  have hc2 := named_cell hw
  have hz2 := named_frozen hw
  have hh2 := named_heap hw
  haveI hi2 := named_in hw
  haveI hb2 := named_below (w := w) hw
  clear hw
  go_wp2_with fail
  rw [rounds_succ]
  go_wp2_with fail
  refine (add1_any _ _ a b c b g _ (.inr (.inl ⟨rfl, rfl⟩)) (by go_simp) (by go_simp) (by go_simp)).mono ?_
  rintro e w3 ⟨rfl, _t, hw⟩
  have hc3 := named_cell hw
  have hz3 := named_frozen hw
  have hh3 := named_heap hw
  haveI hi3 := named_in hw
  haveI hb3 := named_below (w := w) hw
  clear hw
  go_wp2_with fail
  rw [rounds_succ]
  go_wp2_with fail
  refine (add1_any _ _ a b c c g _ (.inr (.inr ⟨rfl, rfl⟩)) (by go_simp) (by go_simp) (by go_simp)).mono ?_
  rintro e w4 ⟨rfl, _t, hw⟩
  have hc4 := named_cell hw
  have hz4 := named_frozen hw
  have hh4 := named_heap hw
  haveI hi4 := named_in hw
  haveI hb4 := named_below (w := w) hw
  clear hw
  go_wp2_with fail
  rw [rounds_succ]
  go_wp2_with fail
  refine bodyPost_ret (by simp [results, Tryz.results275, go_sem, hc1, hc2, hc3, hc4]; try rfl) rfl ?_
  exact ⟨rfl, grown_of⟩

theorem add_any (x y z a b c : Int) (w : World) :
    Calls Tryz.prog 210 #[.agg #[.int .i64 x, .int .i64 y, .int .i64 z], .agg #[.int .i64 a, .int .i64 b, .int .i64 c]] w fun e w' => e = .returned (.agg #[.int .i64 (faS x a), .int .i64 (faS y b), .int .i64 (faS z c)]) ∧ ∃ f, w' = ext w f := by
  have hmf : ∀ (fn : Fn) (first cap : Array Value) (w : World), (Instr.makeFunc fn first cap).run Tryz.prog w = .ok (.func fn first cap) w := fun _ _ _ _ => rfl
  go_enter Tryz.func210, Tryz.ntmps210
  go_wp2_with fail
  refine (each_add x y z a b c _ _ (by go_simp) (by go_simp) (by go_simp)).mono ?_
  rintro e w1 ⟨rfl, _t, hw⟩
  have hc1 := named_cell hw
  have hz1 := named_frozen hw
  have hh1 := named_heap hw
  haveI hi1 := named_in hw
  haveI hb1 := named_below (w := w) hw
  clear hw
  go_wp2_with fail
  refine bodyPost_ret (by simp [results, Tryz.results210, go_sem, hc1]; try rfl) rfl ?_
  exact ⟨rfl, grown_of⟩
end Go.Proofs.YtnogfelfgclajaaGreatDoor
end
