/-
  A shell, that reads lines: its memory; a new one.
  An error's words.
  What is told.
-/
import Derived.Test.YtnogfelfgclajaaGreatDoorMa31
import Derived.Test.YtnogfelfgclajaaGreatDoorMa34
import Derived.Test.YtnogfelfgclajaaGreatDoorMa04
section
namespace Go.Proofs.YtnogfelfgclajaaGreatDoor
open Go.RowKit
attribute [local go_sem] ext_ext drew_ext ext_drew ext_cell ext_frozen in_lt in_le in_ne in_en in_ne1 in_en1 in_le1 in_ltn in_len in_nen in_enn size_le ite_max ite_min
set_option linter.unusedVariables false
set_option linter.unusedSimpArgs false
set_option maxRecDepth 1000000

/-- The types of whatever a system's memory is made of. -/
abbrev tyEng : List TypeId := [210, 130, 126, 134, 187, 106, 317, 160, 235, 5] ++ tyQueue ++ [103, 69]
abbrev tySys : List TypeId := tyEng ++ [76]
/-- A set of blocks that holds nothing of a system. -/
def AsideOf (TS : List TypeId) (w : World) (F : Nat → Prop) : Prop := (∀ b es cl, w.heap[b]? = some (.map es cl) → ¬ F b) ∧ ∀ g c T fz, w.heap[g]? = some (.cells c T fz) → T ∈ TS → ¬ F g
abbrev Aside (w : World) (F : Nat → Prop) : Prop := AsideOf tySys w F
theorem Aside.eng {w : World} {F : Nat → Prop} (h : Aside w F) : AsideOf tyEng w F := ⟨h.1, fun g c T fz hg hm => h.2 g c T fz hg (List.mem_append_left _ hm)⟩
theorem aside_none (w : World) : Aside w (fun _ => False) := ⟨fun _ _ _ _ => id, fun _ _ _ _ _ _ => id⟩
theorem aside_one {TS : List TypeId} {w : World} {b : Nat} {cs : Array Value} {T : TypeId} {fz : Nat × Nat} (h : w.heap[b]? = some (.cells cs T fz)) (hT : T ∉ TS) : AsideOf TS w (fun k => k = b) := by
  refine ⟨fun k es cl hk e => ?_, fun g c T' fz' hg hm e => ?_⟩
  · subst e; rw [h] at hk; injection hk with hk; cases hk
  · subst e; rw [h] at hg; injection hg with hg; injection hg with _ h2; exact hT (h2 ▸ hm)
theorem EngOf.turn {F : Nat → Prop} {B : Nat} {w W : World} {en sm qu mq wo t e c : Nat} {s lim bud : Int} {oc dr : Value} {G : Ps → List Int} {T : List (Ps × Bool)} (h : EngOf B w en sm qu mq wo t s lim bud oc dr e c G T) (hT : Turn F w W) (hF : AsideOf tyEng w F) : EngOf B W en sm qu mq wo t s lim bud oc dr e c G T := by
  refine ⟨⟨(hT.block _ (lt_of_block h.eng.1) (hF.2 _ _ _ _ h.eng.1 (by decide))).trans h.eng.1, h.eng.2⟩, ⟨(hT.block _ (lt_of_block h.sim.blk) (hF.2 _ _ _ _ h.sim.blk (by decide))).trans h.sim.blk, h.sim.lo⟩,
    h.wld.turn hT (fun g cs T fz hg hm => hF.2 g cs T fz hg ?_), ?_, ?_⟩
  · simp at hm; rcases hm with rfl | rfl <;> decide
  · obtain ⟨st, d, mb, lv, its, D, N, h⟩ := h.tab
    refine ⟨st, d, mb, lv, its, D, N, h.turn hT (by obtain ⟨mv, ⟨es, cl, h5, _⟩, _⟩ := h.dsk.map; exact hF.1 _ _ _ h5) (fun g c T fz hg hm => hF.2 g c T fz hg ?_)⟩
    simp at hm; rcases hm with rfl | rfl | rfl | rfl | rfl | rfl | rfl | rfl <;> decide
  · obtain ⟨lv, n, k, h⟩ := h.que
    exact ⟨lv, n, k, h.turn hT (by obtain ⟨D, es, cl, h5, _⟩ := h.map; exact hF.1 _ _ _ h5) (fun g cs T fz hg hm => hF.2 g cs T fz hg (List.mem_append_left _ (List.mem_append_right _ hm)))⟩
/-- A system: its shell, its engine. -/
structure ShAt (B : Nat) (w : World) (sh en : Nat) : Prop where
  blk : w.heap[sh]? = some (.cells #[.pointer (some ⟨en, 0, none⟩)] 76 (0, 0))
  lo : B ≤ sh
def SysOf (B : Nat) (w : World) (sh t : Nat) (s lim : Int) (e c : Nat) (G : Ps → List Int) (T : List (Ps × Bool)) : Prop :=
  ∃ en sm qu mq wo bud oc dr, ShAt B w sh en ∧ EngOf B w en sm qu mq wo t s lim bud oc dr e c G T
theorem SysOf.turn {F : Nat → Prop} {B : Nat} {w W : World} {sh t e c : Nat} {s lim : Int} {G : Ps → List Int} {T : List (Ps × Bool)} (h : SysOf B w sh t s lim e c G T) (hT : Turn F w W) (hF : Aside w F) : SysOf B W sh t s lim e c G T := by
  obtain ⟨en, sm, qu, mq, wo, bud, oc, dr, h1, h2⟩ := h
  exact ⟨en, sm, qu, mq, wo, bud, oc, dr, ⟨(hT.block _ (lt_of_block h1.blk) (hF.2 _ _ _ _ h1.blk (by decide))).trans h1.blk, h1.lo⟩, h2.turn hT (Aside.eng hF)⟩
theorem SysOf.grown {B : Nat} {w W : World} {sh t e c : Nat} {s lim : Int} {G : Ps → List Int} {T : List (Ps × Bool)} (h : SysOf B w sh t s lim e c G T) (hW : Below w.heap.size w W) : SysOf B W sh t s lim e c G T :=
  h.turn (turn_below (F := fun _ => False) hW) (aside_none w)
theorem SysOf.sh {B : Nat} {w : World} {sh t e c : Nat} {s lim : Int} {G : Ps → List Int} {T : List (Ps × Bool)} (h : SysOf B w sh t s lim e c G T) : B ≤ sh ∧ sh < w.heap.size := by
  obtain ⟨en, sm, qu, mq, wo, bud, oc, dr, h1, h2⟩ := h
  exact ⟨h1.lo, lt_of_block h1.blk⟩
theorem EngOf.grown {B : Nat} {w W : World} {en sm qu mq wo t e c : Nat} {s lim bud : Int} {oc dr : Value} {G : Ps → List Int} {T : List (Ps × Bool)} (h : EngOf B w en sm qu mq wo t s lim bud oc dr e c G T) (hW : Below w.heap.size w W) : EngOf B W en sm qu mq wo t s lim bud oc dr e c G T :=
  h.turn (turn_below (F := fun _ => False) hW) (Aside.eng (aside_none w))

/-- What turns in a line: blocks of a system, its shell, its maps. -/
def LF (B : Nat) (w : World) (k : Nat) : Prop := Ty B (tyWorld ++ tyQueue ++ [76]) w k ∨ (B ≤ k ∧ ∃ es cl, w.heap[k]? = some (.map es cl))
theorem Turn.lf {B : Nat} {a b c : World} (h : Turn (LF B a) a b) (k : Turn (LF B b) b c) : Turn (LF B a) a c :=
  h.trans k (fun i hi hb => by
    by_cases ha : LF B a i
    · exact ha
    · rcases hb with ⟨h1, c', T, fz, h2, h3⟩ | ⟨h1, es, cl, h2⟩
      · exact .inl ⟨h1, c', T, fz, (h.block i hi ha).symm.trans h2, h3⟩
      · exact .inr ⟨h1, es, cl, (h.block i hi ha).symm.trans h2⟩)
theorem lf_ty {B : Nat} {TS : List TypeId} {a b : World} (h : Turn (Ty B TS a) a b) (hs : ∀ T ∈ TS, T ∈ tyWorld ++ tyQueue ++ [76]) : Turn (LF B a) a b :=
  h.mono (fun k _ ⟨h1, c, T, fz, h2, h3⟩ => .inl ⟨h1, c, T, fz, h2, hs T h3⟩)
theorem lf_ef {B mq : Nat} {a b : World} (h : Turn (EF B mq a) a b) (hq : ∃ k, QMap a mq k) (hB : B ≤ mq) : Turn (LF B a) a b :=
  h.mono (fun k _ hk => by
    rcases hk with ⟨h1, c, T, fz, h2, h3⟩ | rfl
    · exact .inl ⟨h1, c, T, fz, h2, List.mem_append_left _ h3⟩
    · obtain ⟨n, D, es, cl, h2, _⟩ := hq
      exact .inr ⟨hB, es, cl, h2⟩)
theorem lf_below {B : Nat} {a b : World} (h : Below a.heap.size a b) : Turn (LF B a) a b := turn_below h
theorem lf_no {B : Nat} {w : World} {b : Nat} {c : Array Value} {T : TypeId} {fz : Nat × Nat} (h : w.heap[b]? = some (.cells c T fz)) (hT : T ∉ tyWorld ++ tyQueue ++ [76]) : ¬ LF B w b := by
  rintro (h1 | ⟨_, es, cl, h1⟩)
  · exact ty_no h hT h1
  · rw [h] at h1; injection h1 with h1; cases h1
theorem lf_low {B : Nat} {w : World} {b : Nat} (h : b < B) : ¬ LF B w b := by
  rintro (h1 | ⟨h1, _⟩)
  · have := h1.1; omega
  · omega

/-- A new shell. -/
def NewShell (B : Nat) (s lim : Int) (w : World) (e : Ending) (w' : World) : Prop := ∃ sh t, e = .returned (.pointer (some ⟨sh, 0, none⟩)) ∧ SysOf B w' sh t s lim 0 0 (GrAt s) [] ∧ ∃ f, w' = ext w f
theorem linesnew_any (B : Nat) (w : World) (hB : B ≤ w.heap.size) : Calls Tryz.prog 5 #[] w (NewShell B 1 9 w) := by
  have HB := Lib.hid hB
  have EN := Lib.hid (engnew_any B 1 9 16 9 (by decide) w hB)
  clear hB
  go_enter Tryz.func5, Tryz.ntmps5
  go_wp2_with fail
  refine EN.out.mono ?_
  rintro e w1 ⟨en, sm, qu, mq, wo, t, bud, oc, dr, rfl, hen, _t, hw⟩
  haveI hb1 := named_below (w := w) hw
  have E1 := Lib.hid hen
  clear hw hen EN
  go_wp2_with fail
  go_ret
  refine ⟨_, t, rfl, ⟨en, sm, qu, mq, wo, bud, oc, dr, ⟨heap_alloc_new w1 _, Nat.le_trans HB.out (grown_now (w := w) (W := w1)).size⟩, E1.out.grown ((Below.refl _ w1).alloc (Nat.le_refl _) _)⟩, grown_of⟩
#print axioms linesnew_any
end Go.Proofs.YtnogfelfgclajaaGreatDoor
end

section
namespace Go.Proofs.YtnogfelfgclajaaGreatDoor
open Go.RowKit
attribute [local go_sem] ext_ext drew_ext ext_drew ext_cell ext_frozen in_lt in_le in_ne in_en in_ne1 in_en1 in_le1 in_ltn in_len in_nen in_enn size_le ite_max ite_min
set_option linter.unusedVariables false
set_option linter.unusedSimpArgs false

/-- An error's words. -/
def errW (e : Nat) : List UInt8 := [101, 114, 114, 111, 114, 32] ++ decF 16 (e : Int)
theorem errW_small (e : Nat) (h : e < 14) : (errW e).length ≤ 100 := by
  have := decF_len 16 (e : Int)
  simp [errW]; omega
set_option maxRecDepth 100000 in
set_option maxHeartbeats 2000000 in
theorem error_one (e : Nat) (h1 : 1 ≤ e) (h2 : e < 10) (w : World) : Calls Tryz.prog 133 #[.int .i64 (e : Int)] w fun en w' => en = .returned (sV (errW e)) ∧ ∃ f, w' = ext w f := by
  obtain rfl | rfl | rfl | rfl | rfl | rfl | rfl | rfl | rfl : e = 1 ∨ e = 2 ∨ e = 3 ∨ e = 4 ∨ e = 5 ∨ e = 6 ∨ e = 7 ∨ e = 8 ∨ e = 9 := by omega
  all_goals
    clear h1 h2
    go_enter Tryz.func133, Tryz.ntmps133
    go_wp2_with fail
    refine wp_loop_rounds 1 ?_
    rw [rounds_succ]
    go_wp2_with fail
    go_ret
    exact ⟨ret_bs (by decide +kernel), grown_of⟩
set_option maxRecDepth 100000 in
set_option maxHeartbeats 2000000 in
theorem error_two (e : Nat) (h1 : 10 ≤ e) (h2 : e < 14) (w : World) : Calls Tryz.prog 133 #[.int .i64 (e : Int)] w fun en w' => en = .returned (sV (errW e)) ∧ ∃ f, w' = ext w f := by
  obtain rfl | rfl | rfl | rfl : e = 10 ∨ e = 11 ∨ e = 12 ∨ e = 13 := by omega
  all_goals
    clear h1 h2
    go_enter Tryz.func133, Tryz.ntmps133
    go_wp2_with fail
    refine wp_loop_rounds 2 ?_
    rw [rounds_succ]
    go_wp2_with fail
    rw [rounds_succ]
    go_wp2_with fail
    go_ret
    exact ⟨ret_bs (by decide +kernel), grown_of⟩
end Go.Proofs.YtnogfelfgclajaaGreatDoor
end

section
namespace Go.Proofs.YtnogfelfgclajaaGreatDoor
open Go.RowKit
attribute [local go_sem] ext_ext drew_ext ext_drew ext_cell ext_frozen in_lt in_le in_ne in_en in_ne1 in_en1 in_le1 in_ltn in_len in_nen in_enn size_le ite_max ite_min
set_option linter.unusedVariables false
set_option linter.unusedSimpArgs false

theorem strInfo : (Tryz.prog.info? 9).map (fun i => (i.zero, i.size, i.bytes)) = some (some (.string ⟨#[]⟩), 1, 16) := by kernel_rfl
theorem join_one (s : ByteArray) (sep : List UInt8) : (Lib.join ([s].map (·.data.toList)) sep).toArray = s.data := by
  simp [Lib.join, Lib.joinTail]

theorem ta_si (v : Value) (w : World) : (Instr.typeAssert (.iface 9 v) 20 3 true).run Tryz.prog w = .ok (.tuple #[.int .i64 0, .bool false]) w := by kernel_rfl
theorem ta_ss (v : Value) (w : World) : (Instr.typeAssert (.iface 9 v) 20 9 true).run Tryz.prog w = .ok (.tuple #[v, .bool true]) w := by kernel_rfl
theorem ta_ii (v : Value) (w : World) : (Instr.typeAssert (.iface 3 v) 20 3 true).run Tryz.prog w = .ok (.tuple #[v, .bool true]) w := by kernel_rfl
theorem ta_ei (v : Value) (w : World) : (Instr.typeAssert (.iface 142 v) 20 3 true).run Tryz.prog w = .ok (.tuple #[.int .i64 0, .bool false]) w := by kernel_rfl
theorem ta_es (v : Value) (w : World) : (Instr.typeAssert (.iface 142 v) 20 9 true).run Tryz.prog w = .ok (.tuple #[.string ⟨#[]⟩, .bool false]) w := by kernel_rfl
theorem ta_ee (v : Value) (w : World) : (Instr.typeAssert (.iface 142 v) 20 142 true).run Tryz.prog w = .ok (.tuple #[v, .bool true]) w := by kernel_rfl
attribute [local go_sem] ta_si ta_ss ta_ii ta_ei ta_es ta_ee

set_option maxRecDepth 100000 in
set_option maxHeartbeats 2000000 in
/-- One text is told. -/
theorem told_str (s : ByteArray) (hs : s.size ≤ 1000000) (g c : Nat) (w : World) (hc : w.cell? ⟨g, 0, none⟩ = some (.iface 9 (.string s))) :
    Calls Tryz.prog 88 #[.slice (some ⟨g, 0, none⟩) 1 c] w fun en w' => en = .returned (.string s) ∧ ∃ f, w' = ext w f := by
  haveI := in_of_cell hc
  obtain ⟨i0, iz0, iz1, iz2, iz3⟩ := info_parts strInfo
  have HS := Lib.hid hs
  clear hs
  go_enter Tryz.func88, Tryz.ntmps88
  go_wp2_with fail
  refine wp_loop_rounds 2 ?_
  rw [rounds_succ]
  go_wp2_with (at_builtin; refine wpList_append_own _ rfl (.tmp 29) (.tmp 31) 38 rfl w.heap.size 9 i0 _ 1 16 Tryz.underlying38 iz0 iz1 iz2 iz3 rfl (by omega) _ _ _ rfl (World.ownsRow_nil _ w.heap.size 9 1) _ 1 1 [.string s] rfl rfl (World.news_of_block (heap_alloc_new w _)) (by simp [Value.oneCell']) (by unfold maxLen; omega) (by omega) (by simp) ?_; intro v1 w1 ho1 hgr1 hx; clear hx)
  obtain ⟨g1, cap1, rfl, hb1, hn1, hm1, hcell1⟩ := owns_some ho1 (by omega)
  have HB := Lib.hid (show Below w.heap.size w w1 from ((Below.refl _ w).alloc (Nat.le_refl _) _).grown hgr1 (by simp) (fun k hk => by cases hk))
  have c1 : w1.cell? ⟨g1, 0, none⟩ = some (.string s) := hcell1 0 _ rfl
  have JO := fun W (hb : Below w1.heap.size w1 W) => Tryz.strings_Join g1 0 cap1 [s] ⟨#[32]⟩ W (fun j x hx => by
    rcases j with _ | j
    · obtain rfl := Option.some.inj hx
      exact (hb.cell (World.block_lt_of_cell? w1 _ c1)).trans c1
    · simp at hx) (Nat.lt_of_lt_of_le (World.block_lt_of_cell? w1 _ c1) hb.size) (by simp) hn1 (by have := congrArg Array.size (join_one s [32]); rw [List.size_toArray] at this; rw [this]; exact Nat.le_trans HS.out (by omega))
  have J1 := JO w1 (Below.refl _ _)
  rw [join_one] at J1
  clear JO ho1 hgr1 hcell1 hc
  rw [rounds_succ]
  go_wp2_with (go_at_call 134; refine J1.mono ?_; rintro e w2 ⟨rfl, hb2⟩)
  have HB2 := Lib.hid (HB.out.trans (hb2.mono HB.out.size))
  clear hb2
  go_ret
  exact ⟨rfl, ext_of HB2.out⟩

set_option maxRecDepth 100000 in
set_option maxHeartbeats 2000000 in
/-- No error is told. -/
theorem told_ok (g c : Nat) (w : World) (hc : w.cell? ⟨g, 0, none⟩ = some (.iface 142 (.int .i64 0))) :
    Calls Tryz.prog 88 #[.slice (some ⟨g, 0, none⟩) 1 c] w fun en w' => en = .returned (.string ⟨#[111, 107]⟩) ∧ ∃ f, w' = ext w f := by
  haveI := in_of_cell hc
  obtain ⟨i0, iz0, iz1, iz2, iz3⟩ := info_parts strInfo
  go_enter Tryz.func88, Tryz.ntmps88
  go_wp2_with fail
  refine wp_loop_rounds 2 ?_
  rw [rounds_succ]
  go_wp2_with (at_builtin; refine wpList_append_own _ rfl (.tmp 38) (.tmp 39) 38 rfl w.heap.size 9 i0 _ 1 16 Tryz.underlying38 iz0 iz1 iz2 iz3 rfl (by omega) _ _ _ rfl (World.ownsRow_nil _ w.heap.size 9 1) _ 1 1 [.string ⟨#[111, 107]⟩] rfl rfl (World.news_of_block (heap_alloc_new w _)) (by simp [Value.oneCell']) (by unfold maxLen; omega) (by omega) (by simp) ?_; intro v1 w1 ho1 hgr1 hx; clear hx)
  obtain ⟨g1, cap1, rfl, hb1, hn1, hm1, hcell1⟩ := owns_some ho1 (by omega)
  have HB := Lib.hid (show Below w.heap.size w w1 from ((Below.refl _ w).alloc (Nat.le_refl _) _).grown hgr1 (by simp) (fun k hk => by cases hk))
  have c1 : w1.cell? ⟨g1, 0, none⟩ = some (.string ⟨#[111, 107]⟩) := hcell1 0 _ rfl
  have JO := fun W (hb : Below w1.heap.size w1 W) => Tryz.strings_Join g1 0 cap1 [⟨#[111, 107]⟩] ⟨#[32]⟩ W (fun j x hx => by
    rcases j with _ | j
    · obtain rfl := Option.some.inj hx
      exact (hb.cell (World.block_lt_of_cell? w1 _ c1)).trans c1
    · simp at hx) (Nat.lt_of_lt_of_le (World.block_lt_of_cell? w1 _ c1) hb.size) (by simp) hn1 (by have := congrArg Array.size (join_one ⟨#[111, 107]⟩ [32]); rw [List.size_toArray] at this; rw [this]; decide)
  have J1 := JO w1 (Below.refl _ _)
  rw [join_one] at J1
  clear JO ho1 hgr1 hcell1 hc
  rw [rounds_succ]
  go_wp2_with (go_at_call 134; refine J1.mono ?_; rintro e w2 ⟨rfl, hb2⟩)
  have HB2 := Lib.hid (HB.out.trans (hb2.mono HB.out.size))
  clear hb2
  go_ret
  exact ⟨rfl, ext_of HB2.out⟩

set_option maxRecDepth 100000 in
set_option maxHeartbeats 2000000 in
/-- An error is told. -/
theorem told_err (e : Nat) (h1 : 1 ≤ e) (h2 : e < 14) (g c : Nat) (w : World) (hc : w.cell? ⟨g, 0, none⟩ = some (.iface 142 (.int .i64 (e : Int)))) :
    Calls Tryz.prog 88 #[.slice (some ⟨g, 0, none⟩) 1 c] w fun en w' => en = .returned (.string (bs (errW e))) ∧ ∃ f, w' = ext w f := by
  haveI := in_of_cell hc
  obtain ⟨i0, iz0, iz1, iz2, iz3⟩ := info_parts strInfo
  have HS := Lib.hid (show (bs (errW e)).size ≤ 1000000 by rw [bs_size]; have := errW_small e h2; omega)
  have e0 : ((e : Int) == 0) = false := by simp; omega
  have ER := fun W => (show Calls Tryz.prog 133 #[.int .i64 (e : Int)] W fun en w' => en = .returned (sV (errW e)) ∧ ∃ f, w' = ext W f from if h : e < 10 then error_one e h1 h W else error_two e (by omega) h2 W)
  clear h1 h2
  go_enter Tryz.func88, Tryz.ntmps88
  go_wp2_with fail
  refine wp_loop_rounds 2 ?_
  rw [rounds_succ]
  go_wp2_with fail
  refine (ER _).mono ?_
  rintro e w3 ⟨rfl, _t, hw⟩
  have hc3 := named_cell hw
  have hz3 := named_frozen hw
  have hh3 := named_heap hw
  haveI hi3 := named_in hw
  haveI hb3 := named_below (w := w) hw
  clear hw
  have B3 := Lib.hid (grown_now (w := w) (W := w3))
  go_wp2_with (at_builtin; refine wpList_append_own _ rfl (.tmp 41) (.tmp 44) 38 rfl w.heap.size 9 i0 _ 1 16 Tryz.underlying38 iz0 iz1 iz2 iz3 rfl (by omega) _ _ _ rfl (World.ownsRow_nil _ w.heap.size 9 1) _ 1 1 [.string (bs (errW e))] rfl rfl (World.news_of_block (heap_alloc_new w3 _)) (by simp [Value.oneCell']) (by unfold maxLen; omega) (by omega) (by have := B3.out.size; simp; omega) ?_; intro v1 w1 ho1 hgr1 hx; clear hx)
  obtain ⟨g1, cap1, rfl, hb1, hn1, hm1, hcell1⟩ := owns_some ho1 (by omega)
  have HB := Lib.hid (show Below w.heap.size w w1 from (B3.out.alloc B3.out.size _).grown hgr1 (by have := B3.out.size; simp; omega) (fun k hk => by cases hk))
  have c1 : w1.cell? ⟨g1, 0, none⟩ = some (.string (bs (errW e))) := hcell1 0 _ rfl
  have JO := fun W (hb : Below w1.heap.size w1 W) => Tryz.strings_Join g1 0 cap1 [bs (errW e)] ⟨#[32]⟩ W (fun j x hx => by
    rcases j with _ | j
    · obtain rfl := Option.some.inj hx
      exact (hb.cell (World.block_lt_of_cell? w1 _ c1)).trans c1
    · simp at hx) (Nat.lt_of_lt_of_le (World.block_lt_of_cell? w1 _ c1) hb.size) (by simp) hn1 (by have := congrArg Array.size (join_one (bs (errW e)) [32]); rw [List.size_toArray] at this; rw [this]; exact Nat.le_trans HS.out (by omega))
  have J1 := JO w1 (Below.refl _ _)
  rw [join_one] at J1
  clear JO ho1 hgr1 hcell1 hc
  rw [rounds_succ]
  go_wp2_with (go_at_call 134; refine J1.mono ?_; rintro e w2 ⟨rfl, hb2⟩)
  have HB2 := Lib.hid (HB.out.trans (hb2.mono HB.out.size))
  clear hb2
  go_ret
  exact ⟨rfl, ext_of HB2.out⟩

set_option maxRecDepth 100000 in
set_option maxHeartbeats 2000000 in
/-- A small number is told. -/
theorem told_int (k : Nat) (hk : k < 10) (g c : Nat) (w : World) (hc : w.cell? ⟨g, 0, none⟩ = some (.iface 3 (.int .i64 (k : Int)))) :
    Calls Tryz.prog 88 #[.slice (some ⟨g, 0, none⟩) 1 c] w fun en w' => en = .returned (.string (bs [48 + k.toUInt8])) ∧ ∃ f, w' = ext w f := by
  haveI := in_of_cell hc
  obtain ⟨i0, iz0, iz1, iz2, iz3⟩ := info_parts strInfo
  have HS := Lib.hid (show (bs [48 + k.toUInt8]).size ≤ 1000000 by rw [bs_size]; simp)
  have IT := fun W => itoa_d k hk W
  clear hk
  go_enter Tryz.func88, Tryz.ntmps88
  go_wp2_with fail
  refine wp_loop_rounds 2 ?_
  rw [rounds_succ]
  go_wp2_with (first | (go_at_call 132; refine (IT _).mono ?_; rintro e w1 ⟨rfl, rfl⟩) | (at_builtin; refine wpList_append_own _ rfl (.tmp 21) (.tmp 24) 38 rfl w.heap.size 9 i0 _ 1 16 Tryz.underlying38 iz0 iz1 iz2 iz3 rfl (by omega) _ _ _ rfl (World.ownsRow_nil _ w.heap.size 9 1) _ 1 1 [.string (bs [48 + k.toUInt8])] rfl rfl (World.news_of_block (heap_alloc_new w _)) (by simp [Value.oneCell']) (by unfold maxLen; omega) (by omega) (by simp) ?_; intro v1 w1 ho1 hgr1 hx; clear hx))
  obtain ⟨g1, cap1, rfl, hb1, hn1, hm1, hcell1⟩ := owns_some ho1 (by omega)
  have HB := Lib.hid (show Below w.heap.size w w1 from ((Below.refl _ w).alloc (Nat.le_refl _) _).grown hgr1 (by simp) (fun k hk => by cases hk))
  have c1 : w1.cell? ⟨g1, 0, none⟩ = some (.string (bs [48 + k.toUInt8])) := hcell1 0 _ rfl
  have JO := fun W (hb : Below w1.heap.size w1 W) => Tryz.strings_Join g1 0 cap1 [bs [48 + k.toUInt8]] ⟨#[32]⟩ W (fun j x hx => by
    rcases j with _ | j
    · obtain rfl := Option.some.inj hx
      exact (hb.cell (World.block_lt_of_cell? w1 _ c1)).trans c1
    · simp at hx) (Nat.lt_of_lt_of_le (World.block_lt_of_cell? w1 _ c1) hb.size) (by simp) hn1 (by have := congrArg Array.size (join_one (bs [48 + k.toUInt8]) [32]); rw [List.size_toArray] at this; rw [this]; exact Nat.le_trans HS.out (by omega))
  have J1 := JO w1 (Below.refl _ _)
  rw [join_one] at J1
  clear JO ho1 hgr1 hcell1 hc
  rw [rounds_succ]
  go_wp2_with (go_at_call 134; refine J1.mono ?_; rintro e w2 ⟨rfl, hb2⟩)
  have HB2 := Lib.hid (HB.out.trans (hb2.mono HB.out.size))
  clear hb2
  go_ret
  exact ⟨rfl, ext_of HB2.out⟩

/-- Some text. -/
def SomeStr (w : World) (e : Ending) (w' : World) : Prop := ∃ s, e = .returned (.string s) ∧ ∃ f, w' = ext w f
set_option maxRecDepth 100000 in
set_option maxHeartbeats 2000000 in
/-- A number, and no error, are told. -/
theorem told_num_ok (k : Nat) (hk : k < 100) (g c : Nat) (w : World) (hc : w.cell? ⟨g, 0, none⟩ = some (.iface 3 (.int .i64 (k : Int)))) (hd : w.cell? ⟨g, 1, none⟩ = some (.iface 142 (.int .i64 0))) :
    Calls Tryz.prog 88 #[.slice (some ⟨g, 0, none⟩) 2 c] w (SomeStr w) := by
  haveI := in_of_cell hc
  obtain ⟨i0, iz0, iz1, iz2, iz3⟩ := info_parts strInfo
  have IT := fun W => Tryz.strconv_Itoa_small k hk W
  have hSz : (⟨(Lib.decDigits k).toArray⟩ : ByteArray).size ≤ 1000 := by
    have key : ∀ k : Fin 100, (⟨(Lib.decDigits k.val).toArray⟩ : ByteArray).size ≤ 1000 := by decide +kernel
    exact key ⟨k, hk⟩
  generalize (⟨(Lib.decDigits k).toArray⟩ : ByteArray) = s at *
  have HS := Lib.hid hSz
  clear hSz
  go_enter Tryz.func88, Tryz.ntmps88
  go_wp2_with fail
  refine wp_loop_rounds 3 ?_
  rw [rounds_succ]
  go_wp2_with (first | (go_at_call 132; refine (IT _).mono ?_; rintro e w1 ⟨rfl, rfl⟩) | (at_builtin; refine wpList_append_own _ rfl (.tmp 21) (.tmp 24) 38 rfl w1.heap.size 9 i0 _ 1 16 Tryz.underlying38 iz0 iz1 iz2 iz3 rfl (by omega) _ _ _ rfl (World.ownsRow_nil _ w1.heap.size 9 1) _ 1 1 [.string s] rfl rfl (World.news_of_block (heap_alloc_new w1 _)) (by simp [Value.oneCell']) (by unfold maxLen; omega) (by omega) (by simp) ?_; intro v2 w2 ho2 hgr2 hx; clear hx))
  simp only [Nat.zero_add, List.nil_append] at ho2
  have HB := Lib.hid (show Below w1.heap.size w1 w2 from ((Below.refl _ w1).alloc (Nat.le_refl _) _).grown hgr2 (by simp) (fun k hk => by cases hk))
  haveI : Nonempty (Below w1.heap.size w1 w2) := ⟨HB.out⟩
  obtain ⟨_, hw⟩ := ext_of HB.out
  have hc2 := named_cell hw
  haveI hi2 := named_in hw
  have HO := Lib.hid ho2
  clear hw ho2 hgr2
  rw [rounds_succ]
  go_wp2_with (at_builtin; refine wpList_append_own _ rfl (.tmp 38) (.tmp 39) 38 rfl w1.heap.size 9 i0 _ 1 16 Tryz.underlying38 iz0 iz1 iz2 iz3 rfl (by omega) _ _ _ rfl (HO.out.alloc _) _ 1 1 [.string ⟨#[111, 107]⟩] rfl rfl (World.news_of_block (heap_alloc_new w2 _)) (by simp [Value.oneCell']) (by unfold maxLen; omega) (by omega) (by have := HB.out.size; simp; omega) ?_; intro v3 w3 ho3 hgr3 hx; clear hx)
  have HB3 := Lib.hid (show Below w1.heap.size w1 w3 from (HB.out.alloc HB.out.size _).grown hgr3 (by have := HB.out.size; simp; omega) (fun k hk => (HO.out.lt k hk).1))
  obtain ⟨g3, cap3, rfl, hb3, hn3, hm3, hcell3⟩ := owns_some ho3 (by omega)
  have c0 : w3.cell? ⟨g3, 0, none⟩ = some (.string s) := hcell3 0 _ rfl
  have c1 : w3.cell? ⟨g3, 1, none⟩ = some (.string ⟨#[111, 107]⟩) := hcell3 1 _ rfl
  have J1 := Tryz.strings_Join g3 0 cap3 [s, ⟨#[111, 107]⟩] ⟨#[32]⟩ w3 (fun j x hx => by
    rcases j with _ | _ | j
    · obtain rfl := Option.some.inj hx
      exact c0
    · obtain rfl := Option.some.inj hx
      exact c1
    · simp at hx) (World.block_lt_of_cell? w3 _ c0) (by simp) hn3 (by
      have := HS.out
      simp [Lib.join, Lib.joinTail]
      have h2 : s.data.size = s.size := rfl
      omega)
  clear ho3 hgr3 hcell3 hc hd c0 c1
  rw [rounds_succ]
  go_wp2_with (go_at_call 134; refine J1.mono ?_; rintro e w4 ⟨rfl, hb4⟩)
  have HB4 := Lib.hid (HB3.out.trans (hb4.mono HB3.out.size))
  clear hb4
  go_ret
  exact ⟨_, rfl, ext_of HB4.out⟩
end Go.Proofs.YtnogfelfgclajaaGreatDoor
end
