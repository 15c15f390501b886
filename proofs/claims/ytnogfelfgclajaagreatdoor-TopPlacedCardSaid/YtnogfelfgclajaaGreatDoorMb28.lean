/-
  What is told.
  Lines: a cell edited; what is at a cell; a chunk loaded, let go, written.
  Lines: a chunk loaded, let go, written; all written; a new world.
  Lines: a new world.
-/
import Derived.Test.YtnogfelfgclajaaGreatDoorMb27
import Derived.LoopTactic
section
namespace Go.Proofs.YtnogfelfgclajaaGreatDoor
open Go.RowKit
attribute [local go_sem] ext_ext drew_ext ext_drew ext_cell ext_frozen in_lt in_le in_ne in_en in_ne1 in_en1 in_le1 in_ltn in_len in_nen in_enn size_le ite_max ite_min
set_option linter.unusedVariables false
set_option linter.unusedSimpArgs false

theorem strInfo : (Tryz.prog.info? 9).map (fun i => (i.zero, i.size, i.bytes)) = some (some (.string ⟨#[]⟩), 1, 16) := by kernel_rfl
theorem join_one (s : ByteArray) (sep : List UInt8) : (Lib.join ([s].map (·.data.toList)) sep).toArray = s.data := by
  simp [Lib.join, Lib.joinTail]

theorem ta_si (v : Value) (w : World) : (Instr.typeAssert (.iface 9 v) 20 3 true).run Tryz.prog w = .ok (.tuple #[.int .i64 0, .bool false]) w := by kernel_rfl
theorem ta_ss (v : Value) (w : World) : (Instr.typeAssert (.iface 9 v) 20 9 true).run Tryz.prog w = .ok (.tuple #[v, .bool true]) w := by kernel_rfl
theorem ta_ii (v : Value) (w : World) : (Instr.typeAssert (.iface 3 v) 20 3 true).run Tryz.prog w = .ok (.tuple #[v, .bool true]) w := by kernel_rfl
theorem ta_ei (v : Value) (w : World) : (Instr.typeAssert (.iface 142 v) 20 3 true).run Tryz.prog w = .ok (.tuple #[.int .i64 0, .bool false]) w := by kernel_rfl
theorem ta_es (v : Value) (w : World) : (Instr.typeAssert (.iface 142 v) 20 9 true).run Tryz.prog w = .ok (.tuple #[.string ⟨#[]⟩, .bool false]) w := by kernel_rfl
theorem ta_ee (v : Value) (w : World) : (Instr.typeAssert (.iface 142 v) 20 142 true).run Tryz.prog w = .ok (.tuple #[v, .bool true]) w := by kernel_rfl
attribute [local go_sem] ta_si ta_ss ta_ii ta_ei ta_es ta_ee

set_option maxRecDepth 100000 in
set_option maxHeartbeats 2000000 in
/-- One text is told. -/
theorem told_str (s : ByteArray) (hs : s.size ≤ 1000000) (g c : Nat) (w : World) (hc : w.cell? ⟨g, 0, none⟩ = some (.iface 9 (.string s))) :
    Calls Tryz.prog 88 #[.slice (some ⟨g, 0, none⟩) 1 c] w fun en w' => en = .returned (.string s) ∧ ∃ f, w' = ext w f := by
  haveI := in_of_cell hc
  obtain ⟨i0, iz0, iz1, iz2, iz3⟩ := info_parts strInfo
  have HS := Lib.hid hs
  clear hs
  go_enter Tryz.func88, Tryz.ntmps88
  go_wp2_with fail
  refine wp_loop_rounds 2 ?_
  rw [rounds_succ]
  go_wp2_with (at_builtin; refine wpList_append_own _ rfl (.tmp 29) (.tmp 31) 38 rfl w.heap.size 9 i0 _ 1 16 Tryz.underlying38 iz0 iz1 iz2 iz3 rfl (by omega) _ _ _ rfl (World.ownsRow_nil _ w.heap.size 9 1) _ 1 1 [.string s] rfl rfl (World.news_of_block (heap_alloc_new w _)) (by simp [Value.oneCell']) (by unfold maxLen; omega) (by omega) (by simp) ?_; intro v1 w1 ho1 hgr1 hx; clear hx)
  obtain ⟨g1, cap1, rfl, hb1, hn1, hm1, hcell1⟩ := owns_some ho1 (by omega)
  have HB := Lib.hid (show Below w.heap.size w w1 from ((Below.refl _ w).alloc (Nat.le_refl _) _).grown hgr1 (by simp) (fun k hk => by cases hk))
  have c1 : w1.cell? ⟨g1, 0, none⟩ = some (.string s) := hcell1 0 _ rfl
  have JO := fun W (hb : Below w1.heap.size w1 W) => Tryz.strings_Join g1 0 cap1 [s] ⟨#[32]⟩ W (fun j x hx => by
    rcases j with _ | j
    · obtain rfl := Option.some.inj hx
      exact (hb.cell (World.block_lt_of_cell? w1 _ c1)).trans c1
    · simp at hx) (Nat.lt_of_lt_of_le (World.block_lt_of_cell? w1 _ c1) hb.size) (by simp) hn1 (by have := congrArg Array.size (join_one s [32]); rw [List.size_toArray] at this; rw [this]; exact Nat.le_trans HS.out (by omega))
  have J1 := JO w1 (Below.refl _ _)
  rw [join_one] at J1
  clear JO ho1 hgr1 hcell1 hc
  rw [rounds_succ]
  go_wp2_with (go_at_call 134; refine J1.mono ?_; rintro e w2 ⟨rfl, hb2⟩)
  have HB2 := Lib.hid (HB.out.trans (hb2.mono HB.out.size))
  clear hb2
  go_ret
  exact ⟨rfl, ext_of HB2.out⟩

set_option maxRecDepth 100000 in
set_option maxHeartbeats 2000000 in
/-- No error is told. -/
theorem told_ok (g c : Nat) (w : World) (hc : w.cell? ⟨g, 0, none⟩ = some (.iface 142 (.int .i64 0))) :
    Calls Tryz.prog 88 #[.slice (some ⟨g, 0, none⟩) 1 c] w fun en w' => en = .returned (.string ⟨#[111, 107]⟩) ∧ ∃ f, w' = ext w f := by
  haveI := in_of_cell hc
  obtain ⟨i0, iz0, iz1, iz2, iz3⟩ := info_parts strInfo
  go_enter Tryz.func88, Tryz.ntmps88
  go_wp2_with fail
  refine wp_loop_rounds 2 ?_
  rw [rounds_succ]
  go_wp2_with (at_builtin; refine wpList_append_own _ rfl (.tmp 38) (.tmp 39) 38 rfl w.heap.size 9 i0 _ 1 16 Tryz.underlying38 iz0 iz1 iz2 iz3 rfl (by omega) _ _ _ rfl (World.ownsRow_nil _ w.heap.size 9 1) _ 1 1 [.string ⟨#[111, 107]⟩] rfl rfl (World.news_of_block (heap_alloc_new w _)) (by simp [Value.oneCell']) (by unfold maxLen; omega) (by omega) (by simp) ?_; intro v1 w1 ho1 hgr1 hx; clear hx)
  obtain ⟨g1, cap1, rfl, hb1, hn1, hm1, hcell1⟩ := owns_some ho1 (by omega)
  have HB := Lib.hid (show Below w.heap.size w w1 from ((Below.refl _ w).alloc (Nat.le_refl _) _).grown hgr1 (by simp) (fun k hk => by cases hk))
  have c1 : w1.cell? ⟨g1, 0, none⟩ = some (.string ⟨#[111, 107]⟩) := hcell1 0 _ rfl
  have JO := fun W (hb : Below w1.heap.size w1 W) => Tryz.strings_Join g1 0 cap1 [⟨#[111, 107]⟩] ⟨#[32]⟩ W (fun j x hx => by
    rcases j with _ | j
    · obtain rfl := Option.some.inj hx
      exact (hb.cell (World.block_lt_of_cell? w1 _ c1)).trans c1
    · simp at hx) (Nat.lt_of_lt_of_le (World.block_lt_of_cell? w1 _ c1) hb.size) (by simp) hn1 (by have := congrArg Array.size (join_one ⟨#[111, 107]⟩ [32]); rw [List.size_toArray] at this; rw [this]; decide)
  have J1 := JO w1 (Below.refl _ _)
  rw [join_one] at J1
  clear JO ho1 hgr1 hcell1 hc
  rw [rounds_succ]
  go_wp2_with (go_at_call 134; refine J1.mono ?_; rintro e w2 ⟨rfl, hb2⟩)
  have HB2 := Lib.hid (HB.out.trans (hb2.mono HB.out.size))
  clear hb2
  go_ret
  exact ⟨rfl, ext_of HB2.out⟩

set_option maxRecDepth 100000 in
set_option maxHeartbeats 2000000 in
/-- An error is told. -/
theorem told_err (e : Nat) (h1 : 1 ≤ e) (h2 : e < 14) (g c : Nat) (w : World) (hc : w.cell? ⟨g, 0, none⟩ = some (.iface 142 (.int .i64 (e : Int)))) :
    Calls Tryz.prog 88 #[.slice (some ⟨g, 0, none⟩) 1 c] w fun en w' => en = .returned (.string (bs (errW e))) ∧ ∃ f, w' = ext w f := by
  haveI := in_of_cell hc
  obtain ⟨i0, iz0, iz1, iz2, iz3⟩ := info_parts strInfo
  have HS := Lib.hid (show (bs (errW e)).size ≤ 1000000 by rw [bs_size]; have := errW_small e h2; omega)
  have e0 : ((e : Int) == 0) = false := by simp; omega
  have ER := fun W => (show Calls Tryz.prog 133 #[.int .i64 (e : Int)] W fun en w' => en = .returned (sV (errW e)) ∧ ∃ f, w' = ext W f from if h : e < 10 then error_one e h1 h W else error_two e (by omega) h2 W)
  clear h1 h2
  go_enter Tryz.func88, Tryz.ntmps88
  go_wp2_with fail
  refine wp_loop_rounds 2 ?_
  rw [rounds_succ]
  go_wp2_with fail
  refine (ER _).mono ?_
  rintro e w3 ⟨rfl, _t, hw⟩
  have hc3 := named_cell hw
  have hz3 := named_frozen hw
  have hh3 := named_heap hw
  haveI hi3 := named_in hw
  haveI hb3 := named_below (w := w) hw
  clear hw
  have B3 := Lib.hid (grown_now (w := w) (W := w3))
  go_wp2_with (at_builtin; refine wpList_append_own _ rfl (.tmp 41) (.tmp 44) 38 rfl w.heap.size 9 i0 _ 1 16 Tryz.underlying38 iz0 iz1 iz2 iz3 rfl (by omega) _ _ _ rfl (World.ownsRow_nil _ w.heap.size 9 1) _ 1 1 [.string (bs (errW e))] rfl rfl (World.news_of_block (heap_alloc_new w3 _)) (by simp [Value.oneCell']) (by unfold maxLen; omega) (by omega) (by have := B3.out.size; simp; omega) ?_; intro v1 w1 ho1 hgr1 hx; clear hx)
  obtain ⟨g1, cap1, rfl, hb1, hn1, hm1, hcell1⟩ := owns_some ho1 (by omega)
  have HB := Lib.hid (show Below w.heap.size w w1 from (B3.out.alloc B3.out.size _).grown hgr1 (by have := B3.out.size; simp; omega) (fun k hk => by cases hk))
  have c1 : w1.cell? ⟨g1, 0, none⟩ = some (.string (bs (errW e))) := hcell1 0 _ rfl
  have JO := fun W (hb : Below w1.heap.size w1 W) => Tryz.strings_Join g1 0 cap1 [bs (errW e)] ⟨#[32]⟩ W (fun j x hx => by
    rcases j with _ | j
    · obtain rfl := Option.some.inj hx
      exact (hb.cell (World.block_lt_of_cell? w1 _ c1)).trans c1
    · simp at hx) (Nat.lt_of_lt_of_le (World.block_lt_of_cell? w1 _ c1) hb.size) (by simp) hn1 (by have := congrArg Array.size (join_one (bs (errW e)) [32]); rw [List.size_toArray] at this; rw [this]; exact Nat.le_trans HS.out (by omega))
  have J1 := JO w1 (Below.refl _ _)
  rw [join_one] at J1
  clear JO ho1 hgr1 hcell1 hc
  rw [rounds_succ]
  go_wp2_with (go_at_call 134; refine J1.mono ?_; rintro e w2 ⟨rfl, hb2⟩)
  have HB2 := Lib.hid (HB.out.trans (hb2.mono HB.out.size))
  clear hb2
  go_ret
  exact ⟨rfl, ext_of HB2.out⟩

set_option maxRecDepth 100000 in
set_option maxHeartbeats 2000000 in
/-- A small number is told. -/
theorem told_int (k : Nat) (hk : k < 10) (g c : Nat) (w : World) (hc : w.cell? ⟨g, 0, none⟩ = some (.iface 3 (.int .i64 (k : Int)))) :
    Calls Tryz.prog 88 #[.slice (some ⟨g, 0, none⟩) 1 c] w fun en w' => en = .returned (.string (bs [48 + k.toUInt8])) ∧ ∃ f, w' = ext w f := by
  haveI := in_of_cell hc
  obtain ⟨i0, iz0, iz1, iz2, iz3⟩ := info_parts strInfo
  have HS := Lib.hid (show (bs [48 + k.toUInt8]).size ≤ 1000000 by rw [bs_size]; simp)
  have IT := fun W => itoa_d k hk W
  clear hk
  go_enter Tryz.func88, Tryz.ntmps88
  go_wp2_with fail
  refine wp_loop_rounds 2 ?_
  rw [rounds_succ]
  go_wp2_with (first | (go_at_call 132; refine (IT _).mono ?_; rintro e w1 ⟨rfl, rfl⟩) | (at_builtin; refine wpList_append_own _ rfl (.tmp 21) (.tmp 24) 38 rfl w.heap.size 9 i0 _ 1 16 Tryz.underlying38 iz0 iz1 iz2 iz3 rfl (by omega) _ _ _ rfl (World.ownsRow_nil _ w.heap.size 9 1) _ 1 1 [.string (bs [48 + k.toUInt8])] rfl rfl (World.news_of_block (heap_alloc_new w _)) (by simp [Value.oneCell']) (by unfold maxLen; omega) (by omega) (by simp) ?_; intro v1 w1 ho1 hgr1 hx; clear hx))
  obtain ⟨g1, cap1, rfl, hb1, hn1, hm1, hcell1⟩ := owns_some ho1 (by omega)
  have HB := Lib.hid (show Below w.heap.size w w1 from ((Below.refl _ w).alloc (Nat.le_refl _) _).grown hgr1 (by simp) (fun k hk => by cases hk))
  have c1 : w1.cell? ⟨g1, 0, none⟩ = some (.string (bs [48 + k.toUInt8])) := hcell1 0 _ rfl
  have JO := fun W (hb : Below w1.heap.size w1 W) => Tryz.strings_Join g1 0 cap1 [bs [48 + k.toUInt8]] ⟨#[32]⟩ W (fun j x hx => by
    rcases j with _ | j
    · obtain rfl := Option.some.inj hx
      exact (hb.cell (World.block_lt_of_cell? w1 _ c1)).trans c1
    · simp at hx) (Nat.lt_of_lt_of_le (World.block_lt_of_cell? w1 _ c1) hb.size) (by simp) hn1 (by have := congrArg Array.size (join_one (bs [48 + k.toUInt8]) [32]); rw [List.size_toArray] at this; rw [this]; exact Nat.le_trans HS.out (by omega))
  have J1 := JO w1 (Below.refl _ _)
  rw [join_one] at J1
  clear JO ho1 hgr1 hcell1 hc
  rw [rounds_succ]
  go_wp2_with (go_at_call 134; refine J1.mono ?_; rintro e w2 ⟨rfl, hb2⟩)
  have HB2 := Lib.hid (HB.out.trans (hb2.mono HB.out.size))
  clear hb2
  go_ret
  exact ⟨rfl, ext_of HB2.out⟩

/-- Some text. -/
def SomeStr (w : World) (e : Ending) (w' : World) : Prop := ∃ s, e = .returned (.string s) ∧ ∃ f, w' = ext w f
set_option maxRecDepth 100000 in
set_option maxHeartbeats 2000000 in
/-- A number, and no error, are told. -/
theorem told_num_ok (k : Nat) (hk : k < 100) (g c : Nat) (w : World) (hc : w.cell? ⟨g, 0, none⟩ = some (.iface 3 (.int .i64 (k : Int)))) (hd : w.cell? ⟨g, 1, none⟩ = some (.iface 142 (.int .i64 0))) :
    Calls Tryz.prog 88 #[.slice (some ⟨g, 0, none⟩) 2 c] w (SomeStr w) := by
  haveI := in_of_cell hc
  obtain ⟨i0, iz0, iz1, iz2, iz3⟩ := info_parts strInfo
  have IT := fun W => Tryz.strconv_Itoa_small k hk W
  have hSz : (⟨(Lib.decDigits k).toArray⟩ : ByteArray).size ≤ 1000 := by
    have key : ∀ k : Fin 100, (⟨(Lib.decDigits k.val).toArray⟩ : ByteArray).size ≤ 1000 := by decide +kernel
    exact key ⟨k, hk⟩
  generalize (⟨(Lib.decDigits k).toArray⟩ : ByteArray) = s at *
  have HS := Lib.hid hSz
  clear hSz
  go_enter Tryz.func88, Tryz.ntmps88
  go_wp2_with fail
  refine wp_loop_rounds 3 ?_
  rw [rounds_succ]
  go_wp2_with (first | (go_at_call 132; refine (IT _).mono ?_; rintro e w1 ⟨rfl, rfl⟩) | (at_builtin; refine wpList_append_own _ rfl (.tmp 21) (.tmp 24) 38 rfl w1.heap.size 9 i0 _ 1 16 Tryz.underlying38 iz0 iz1 iz2 iz3 rfl (by omega) _ _ _ rfl (World.ownsRow_nil _ w1.heap.size 9 1) _ 1 1 [.string s] rfl rfl (World.news_of_block (heap_alloc_new w1 _)) (by simp [Value.oneCell']) (by unfold maxLen; omega) (by omega) (by simp) ?_; intro v2 w2 ho2 hgr2 hx; clear hx))
  simp only [Nat.zero_add, List.nil_append] at ho2
  have HB := Lib.hid (show Below w1.heap.size w1 w2 from ((Below.refl _ w1).alloc (Nat.le_refl _) _).grown hgr2 (by simp) (fun k hk => by cases hk))
  haveI : Nonempty (Below w1.heap.size w1 w2) := ⟨HB.out⟩
  obtain ⟨_, hw⟩ := ext_of HB.out
  have hc2 := named_cell hw
  haveI hi2 := named_in hw
  have HO := Lib.hid ho2
  clear hw ho2 hgr2
  rw [rounds_succ]
  go_wp2_with (at_builtin; refine wpList_append_own _ rfl (.tmp 38) (.tmp 39) 38 rfl w1.heap.size 9 i0 _ 1 16 Tryz.underlying38 iz0 iz1 iz2 iz3 rfl (by omega) _ _ _ rfl (HO.out.alloc _) _ 1 1 [.string ⟨#[111, 107]⟩] rfl rfl (World.news_of_block (heap_alloc_new w2 _)) (by simp [Value.oneCell']) (by unfold maxLen; omega) (by omega) (by have := HB.out.size; simp; omega) ?_; intro v3 w3 ho3 hgr3 hx; clear hx)
  have HB3 := Lib.hid (show Below w1.heap.size w1 w3 from (HB.out.alloc HB.out.size _).grown hgr3 (by have := HB.out.size; simp; omega) (fun k hk => (HO.out.lt k hk).1))
  obtain ⟨g3, cap3, rfl, hb3, hn3, hm3, hcell3⟩ := owns_some ho3 (by omega)
  have c0 : w3.cell? ⟨g3, 0, none⟩ = some (.string s) := hcell3 0 _ rfl
  have c1 : w3.cell? ⟨g3, 1, none⟩ = some (.string ⟨#[111, 107]⟩) := hcell3 1 _ rfl
  have J1 := Tryz.strings_Join g3 0 cap3 [s, ⟨#[111, 107]⟩] ⟨#[32]⟩ w3 (fun j x hx => by
    rcases j with _ | _ | j
    · obtain rfl := Option.some.inj hx
      exact c0
    · obtain rfl := Option.some.inj hx
      exact c1
    · simp at hx) (World.block_lt_of_cell? w3 _ c0) (by simp) hn3 (by
      have := HS.out
      simp [Lib.join, Lib.joinTail]
      have h2 : s.data.size = s.size := rfl
      omega)
  clear ho3 hgr3 hcell3 hc hd c0 c1
  rw [rounds_succ]
  go_wp2_with (go_at_call 134; refine J1.mono ?_; rintro e w4 ⟨rfl, hb4⟩)
  have HB4 := Lib.hid (HB3.out.trans (hb4.mono HB3.out.size))
  clear hb4
  go_ret
  exact ⟨_, rfl, ext_of HB4.out⟩
end Go.Proofs.YtnogfelfgclajaaGreatDoor
end

section
namespace Go.Proofs.YtnogfelfgclajaaGreatDoor
open Go.RowKit
attribute [local go_sem] ext_ext drew_ext ext_drew ext_cell ext_frozen in_lt in_le in_ne in_en in_ne1 in_en1 in_le1 in_ltn in_len in_nen in_enn size_le ite_max ite_min
set_option linter.unusedVariables false
set_option linter.unusedSimpArgs false
set_option maxRecDepth 1000000

/-- What turns in a line, and in the words that are still to be read. -/
def LA (B ab : Nat) (w : World) (k : Nat) : Prop := LF B w k ∨ k = ab
section
variable {B ab : Nat} {w a b : World}
theorem Turn.la (h : Turn (LA B ab w) w a) (k : Turn (LF B a) a b) : Turn (LA B ab w) w b :=
  h.trans k (fun i hi hb => by
    by_cases ha : LA B ab w i
    · exact ha
    · refine .inl ?_
      rcases hb with ⟨h1, c', T, fz, h2, h3⟩ | ⟨h1, es, cl, h2⟩
      · exact .inl ⟨h1, c', T, fz, (h.block i hi ha).symm.trans h2, h3⟩
      · exact .inr ⟨h1, es, cl, (h.block i hi ha).symm.trans h2⟩)
theorem Turn.laOne (h : Turn (LA B ab w) w a) (k : Turn (one ab) a b) : Turn (LA B ab w) w b := h.trans k (fun i _ hb => .inr hb)
theorem Turn.laBelow (h : Turn (LA B ab w) w a) (k : Below a.heap.size a b) : Turn (LA B ab w) w b := h.la (lf_below k)
theorem aside_args {rs : List (List UInt8)} (h : ArgsAt w ab rs) : Aside w (one ab) := by
  obtain ⟨v, h, _⟩ := h
  exact aside_one h (by decide)
/-- The words stay what they are, whatever turns in a system. -/
theorem ArgsAt.lf {rs : List (List UInt8)} (h : ArgsAt w ab rs) (hT : Turn (LF B w) w a) : ArgsAt a ab rs :=
  h.keep hT (fun k c T fz hk hF => ⟨fun e => lf_no hk (by subst e; decide) hF, fun e => lf_no hk (by subst e; decide) hF⟩)
theorem ArgsAt.cells {rs : List (List UInt8)} (h : ArgsAt w ab rs) {b : Nat} {cs : Array Value} {T : TypeId} {fz : Nat × Nat} (hb : w.heap[b]? = some (.cells cs T fz)) (hT : T ≠ 80) : b ≠ ab := by
  rintro rfl
  obtain ⟨v, h, _⟩ := h
  rw [h] at hb
  injection hb with hb
  injection hb with _ h2
  exact hT h2.symm
end
theorem ShAt.grown {B : Nat} {w W : World} {sh en : Nat} (h : ShAt B w sh en) (hW : Below w.heap.size w W) : ShAt B W sh en := ⟨(hW.block _ (lt_of_block h.blk)).trans h.blk, h.lo⟩
theorem QOf.mlo {B : Nat} {w : World} {qu mq c : Nat} (h : QOf B w qu mq c) : B ≤ mq := by
  obtain ⟨lv, n, k, h⟩ := h; exact h.mlo
theorem sys_ef {B : Nat} {w W : World} {sh en sm qu mq wo t e e' c c' : Nat} {s lim bud : Int} {oc dr : Value} {G G' : Ps → List Int} {T T' : List (Ps × Bool)} (h1 : ShAt B w sh en) (h2 : EngOf B w en sm qu mq wo t s lim bud oc dr e c G T)
    (h3 : EngOf B W en sm qu mq wo t s lim bud oc dr e' c' G' T') (hT : Turn (EF B mq w) w W) : SysOf B W sh t s lim e' c' G' T' ∧ Turn (LF B w) w W := by
  have q := h2.que.qmap
  have hn : ¬ EF B mq w sh := by
    rintro (h | h)
    · exact ty_no h1.blk (by decide) h
    · obtain ⟨k, q⟩ := q; exact q.cells h1.blk h
  exact ⟨⟨en, sm, qu, mq, wo, bud, oc, dr, ⟨(hT.block _ (lt_of_block h1.blk) hn).trans h1.blk, h1.lo⟩, h3⟩, lf_ef hT q h2.que.mlo⟩
theorem EngOf.tabTurn {B : Nat} {w W : World} {en sm qu mq wo t e c : Nat} {s lim bud : Int} {oc dr : Value} {G : Ps → List Int} {T T' : List (Ps × Bool)} (h : EngOf B w en sm qu mq wo t s lim bud oc dr e c G T) (hT : Turn (Ty B tyTab w) w W)
    (h' : TabOf B W t s lim mq e G T') : EngOf B W en sm qu mq wo t s lim bud oc dr e c G T' :=
  ⟨⟨(hT.block _ (lt_of_block h.eng.1) (ty_no h.eng.1 (by decide))).trans h.eng.1, h.eng.2⟩, ⟨(hT.block _ (lt_of_block h.sim.blk) (ty_no h.sim.blk (by decide))).trans h.sim.blk, h.sim.lo⟩,
    h.wld.turn hT (fun g cs T fz hg hm => ty_no hg (by simp at hm; rcases hm with rfl | rfl <;> decide)), h', h.que.ty hT (by decide)⟩
theorem sys_tab {B : Nat} {w W : World} {sh en sm qu mq wo t e c : Nat} {s lim bud : Int} {oc dr : Value} {G : Ps → List Int} {T T' : List (Ps × Bool)} (h1 : ShAt B w sh en) (h2 : EngOf B w en sm qu mq wo t s lim bud oc dr e c G T)
    (h3 : TabOf B W t s lim mq e G T') (hT : Turn (Ty B tyTab w) w W) : SysOf B W sh t s lim e c G T' ∧ Turn (LF B w) w W :=
  ⟨⟨en, sm, qu, mq, wo, bud, oc, dr, ⟨(hT.block _ (lt_of_block h1.blk) (ty_no h1.blk (by decide))).trans h1.blk, h1.lo⟩, h2.tabTurn hT h3⟩, lf_ty hT (by decide)⟩
/-- A line's answer: its text; the system behind it. -/
def LineDone (B ab sh t : Nat) (s lim : Int) (e c : Nat) (G : Ps → List Int) (P : List (Ps × Bool) → Prop) (R : ByteArray → Prop) (w : World) (en : Ending) (w' : World) : Prop :=
  (∃ x, en = .returned (.string x) ∧ R x) ∧ (∃ T', SysOf B w' sh t s lim e c G T' ∧ P T') ∧ Turn (LA B ab w) w w'

set_option maxHeartbeats 2000000 in
/-- A cell edited. -/
theorem lineedit_any {B : Nat} {w : World} {sh t e c ab : Nat} {s lim : Int} {G : Ps → List Int} {T : List (Ps × Bool)} (h : SysOf B w sh t s lim e c G T) (hc : c ≤ 800) (x y z b : Int) (hx : Mid x) (hz : Mid z) (h0 : 0 ≤ y) (h1 : y ≤ 31) (hb : GoodB b) (he : e ≤ 14)
    (hh : ∃ c ∈ T, c.1 = (divS x 16, divS z 16)) (j : Nat) (hj : idxS x y z = (j : Int)) (nm : List UInt8) (hnm : bs nm = nmB b) (hA : ArgsAt w ab [decI 16 x, decI 16 y, decI 16 z, nm]) :
    Calls Tryz.prog 61 #[.pointer (some ⟨sh, 0, none⟩), .pointer (some ⟨ab, 0, none⟩)] w
      (LineDone B ab sh t s lim (e + 1) (c + 8) (setP G (divS x 16, divS z 16) j b) (fun T' => Same T T') (fun x => x = ⟨#[111, 107]⟩) w) := by
  haveI := hA.in
  have H := Lib.hid h
  have LC := Lib.hid (linecell_any x y z ⟨by have := hx.1; omega, by have := hx.2; omega⟩ ⟨by omega, by omega⟩ ⟨by have := hz.1; omega, by have := hz.2; omega⟩ [nm] ab w hA (by simp))
  have BL := Lib.hid (fun W hA => block_any b hb [] ab W nm hnm hA (by simp))
  have EE := Lib.hid (fun W en sm qu mq wo bud oc dr (hE : EngOf B W en sm qu mq wo t s lim bud oc dr e c G T) => engedit_any hE hc x y z b hx hz h0 h1 hb he hh j hj)
  have AS := Lib.hid (aside_args hA)
  clear h hA hc hh hj hnm
  go_enter Tryz.func61, Tryz.ntmps61
  go_wp2_with fail
  refine LC.out.mono ?_
  rintro en1 w1 ⟨rfl, hA1, hT1⟩
  have A1 := Lib.hid hA1
  have S1 := Lib.hid (H.out.turn hT1 AS.out)
  have T1 := Lib.hid ((Turn.refl (LA B ab w) w).laOne hT1)
  clear hA1 hT1 LC AS
  go_wp2_with fail
  have B2 := Lib.hid ((Below.refl w1.heap.size w1).alloc (Nat.le_refl _) (.cells #[.int .i64 x, .int .i64 y, .int .i64 z] 30))
  have X2 := Lib.hid (heap_alloc_new w1 (.cells #[.int .i64 x, .int .i64 y, .int .i64 z] 30))
  generalize w1.alloc (.cells #[.int .i64 x, .int .i64 y, .int .i64 z] 30) = w2 at *
  obtain ⟨bx, hbx⟩ : ∃ bx, w1.heap.size = bx := ⟨_, rfl⟩
  rw [hbx] at X2
  rw [hbx]
  clear hbx
  refine (BL.out w2 (A1.out.far B2.out)).mono ?_
  rintro en3 w3 ⟨rfl, hA3, hT3⟩
  have A3 := Lib.hid hA3
  have X3 := Lib.hid ((hT3.block _ (lt_of_block X2.out) (fun e => (A1.out.far B2.out).cells X2.out (by decide) e)).trans X2.out)
  have S3 := Lib.hid ((S1.out.grown B2.out).turn hT3 (aside_args (A1.out.far B2.out)))
  have T3 := Lib.hid ((T1.out.laBelow B2.out).laOne hT3)
  clear hA3 hT3 BL A1 S1 T1 X2 B2
  go_wp2_with fail
  refine (end_any ab w3 A3.out).mono ?_
  rintro en4 w4 ⟨rfl, rfl⟩
  obtain ⟨en, sm, qu, mq, wo, bud, oc, dr, h1, h2⟩ := S3.out
  have e0 := cell_of_block (i := 0) h1.blk rfl
  have x0 := cell_of_block (i := 0) X3.out rfl
  have x1 := cell_of_block (i := 1) X3.out rfl
  have x2 := cell_of_block (i := 2) X3.out rfl
  haveI := in_of_cell e0
  haveI := in_of_cell x0
  have E3 := Lib.hid h2
  have H3 := Lib.hid h1
  clear h1 h2
  go_wp2_with fail
  refine wp_region_ext_tail 6 ?_ ?_ ?_
  · kernel_rfl
  · kernel_rfl
  simp only [List.take_succ_cons, List.take_zero, List.drop_succ_cons, List.drop_zero]
  repeat (go_big_quiet_step (first | fail))
  refine wpQuiet_nil ?_
  rintro w4 ⟨_t, hw⟩
  have hc4 := named_cell hw
  have hz4 := named_frozen hw
  have hh4 := named_heap hw
  haveI hi4 := named_in hw
  haveI hb4 := named_below (w := w3) hw
  clear hw
  have B4 := Lib.hid (grown_now (w := w3) (W := w4))
  go_wp2_with fail
  refine (EE.out w4 en sm qu mq wo bud oc dr (E3.out.grown B4.out)).mono ?_
  rintro en5 w5 ⟨rfl, ⟨T', hE, hp⟩, hT5⟩
  have E5 := Lib.hid (And.intro hE (And.intro hp hT5))
  clear hE hp hT5 EE
  go_wp2_with fail
  refine (told_ok _ _ _ (by go_simp)).mono ?_
  rintro en6 w6 ⟨rfl, _t, hw⟩
  haveI hb6 := named_below (w := w5) hw
  clear hw
  have B6 := Lib.hid (grown_now (w := w5) (W := w6))
  go_wp2_with fail
  go_ret
  obtain ⟨q1, q2⟩ := sys_ef (H3.out.grown B4.out) (E3.out.grown B4.out) E5.out.1 E5.out.2.2
  exact ⟨⟨_, rfl, rfl⟩, ⟨T', q1.grown B6.out, E5.out.2.1⟩, ((T3.out.laBelow B4.out).la q2).laBelow B6.out⟩
theorem nmB_all : ((List.range 16).all fun k => decide ((nmB (k : Nat)).size ≤ 1000)) = true := by kernel_rfl
theorem nmB_size {v : Int} (h0 : 0 ≤ v) (h1 : v ≤ 15) : (nmB v).size ≤ 1000000 := by
  have := List.all_eq_true.1 nmB_all v.toNat (by simp; omega)
  rw [show ((v.toNat : Nat) : Int) = v by omega] at this
  have := of_decide_eq_true this
  omega
attribute [local go_sem] viewOf
set_option maxHeartbeats 1000000 in
/-- What is at a cell. -/
theorem lineat_any {B : Nat} {w : World} {sh t e c ab : Nat} {s lim : Int} {G : Ps → List Int} {T : List (Ps × Bool)} (h : SysOf B w sh t s lim e c G T) (x y z : Int) (hx : Mid x) (hz : Mid z) (hy : Num y)
    (v : Int) (hv : viewT G T x y z = v) (hv0 : 0 ≤ v) (hv1 : v ≤ 15) (hA : ArgsAt w ab [decI 16 x, decI 16 y, decI 16 z]) :
    Calls Tryz.prog 64 #[.pointer (some ⟨sh, 0, none⟩), .pointer (some ⟨ab, 0, none⟩)] w
      (LineDone B ab sh t s lim e c G (fun T' => T' = T) (fun x => x = nmB v) w) := by
  haveI := hA.in
  have H := Lib.hid h
  have LC := Lib.hid (linecell_any x y z ⟨by have := hx.1; omega, by have := hx.2; omega⟩ hy ⟨by have := hz.1; omega, by have := hz.2; omega⟩ [] ab w hA (by simp))
  have AS := Lib.hid (aside_args hA)
  have AT := Lib.hid (fun (W : World) mq (hT : TabOf B W t s lim mq e G T) => by
    obtain ⟨st, dd, mb, lv, its, D, N, h⟩ := hT
    exact hv ▸ tabat_any h x y z (show Fit x from ⟨by have := hx.1; omega, by have := hx.2; omega⟩) (show Fit z from ⟨by have := hz.1; omega, by have := hz.2; omega⟩))
  have hvf : ∀ args W, (callFunc 41 args).run Tryz.prog W = .ok (.enter 41 args) W := fun args W => by kernel_rfl
  have NM := Lib.hid (fun W => name_any v hv0 hv1 W)
  have v1 : ¬ v = -1 := by omega
  have NS := Lib.hid (nmB_size hv0 hv1)
  clear h hA hv hv0 hv1
  go_enter Tryz.func64, Tryz.ntmps64
  go_wp2_with fail
  refine LC.out.mono ?_
  rintro en1 w1 ⟨rfl, hA1, hT1⟩
  have A1 := Lib.hid hA1
  have S1 := Lib.hid (H.out.turn hT1 AS.out)
  have T1 := Lib.hid ((Turn.refl (LA B ab w) w).laOne hT1)
  clear hA1 hT1 LC AS
  go_wp2_with fail
  have B2 := Lib.hid ((Below.refl w1.heap.size w1).alloc (Nat.le_refl _) (.cells #[.int .i64 x, .int .i64 y, .int .i64 z] 30))
  have X2 := Lib.hid (heap_alloc_new w1 (.cells #[.int .i64 x, .int .i64 y, .int .i64 z] 30))
  generalize w1.alloc (.cells #[.int .i64 x, .int .i64 y, .int .i64 z] 30) = w2 at *
  obtain ⟨bx, hbx⟩ : ∃ bx, w1.heap.size = bx := ⟨_, rfl⟩
  rw [hbx] at X2
  rw [hbx]
  clear hbx
  refine (end_any ab w2 (A1.out.far B2.out)).mono ?_
  rintro en4 w4 ⟨rfl, rfl⟩
  have S2 := Lib.hid (S1.out.grown B2.out)
  have T2 := Lib.hid (T1.out.laBelow B2.out)
  obtain ⟨en, sm, qu, mq, wo, bud, oc, dr, h1, h2⟩ := S2.out
  have e0 := cell_of_block (i := 0) h1.blk rfl
  have e1 := (eng_none h2.eng).1
  have e2 := cell_of_block (i := 1) h2.sim.blk rfl
  have x0 := cell_of_block (i := 0) X2.out rfl
  have x1 := cell_of_block (i := 1) X2.out rfl
  have x2 := cell_of_block (i := 2) X2.out rfl
  have wc : w2.cell? ⟨wo, 0, none⟩ = some (.pointer (some ⟨t, 0, none⟩)) := by obtain ⟨lv, m, xs, h⟩ := h2.wld; exact cell_of_block (i := 0) h.blk rfl
  haveI := in_of_cell e0
  haveI := in_of_cell e1
  haveI := in_of_cell e2
  haveI := in_of_cell x0
  haveI := in_of_cell wc
  have E2 := Lib.hid h2.tab
  clear h1 h2 A1 S1 T1 B2 X2
  go_wp2_with fail
  refine wp_region_ext ?_ ?_ ?_
  · kernel_rfl
  · kernel_rfl
  repeat (go_big_quiet_step (first | (go_at_call 24; exact ext_same (simworld_any sm wo _ (by go_simp))) | (go_at_call 25; exact ext_same (worldview_any wo t _ (by go_simp))) | (go_at_call 41; exact ext_call (AT.out _ mq (E2.out.grown (by exact grown_now))))))
  refine wpQuiet_nil ?_
  rintro w5 ⟨_t, hw⟩
  have hc5 := named_cell hw
  have hz5 := named_frozen hw
  have hh5 := named_heap hw
  haveI hi5 := named_in hw
  haveI hb5 := named_below (w := w2) hw
  clear hw
  have B5 := Lib.hid (grown_now (w := w2) (W := w5))
  go_wp2_with fail
  refine (NM.out _).mono ?_
  rintro e w6 ⟨rfl, _t, hw⟩
  have hc6 := named_cell hw
  have hz6 := named_frozen hw
  have hh6 := named_heap hw
  haveI hi6 := named_in hw
  haveI hb6 := named_below (w := w5) hw
  clear hw
  have B6 := Lib.hid (grown_now (w := w5) (W := w6))
  go_wp2_with fail
  refine (told_str _ NS.out _ _ _ (by go_simp)).mono ?_
  rintro en7 w7 ⟨rfl, _t, hw⟩
  haveI hb7 := named_below (w := w6) hw
  clear hw
  have B7 := Lib.hid (grown_now (w := w6) (W := w7))
  go_wp2_with fail
  go_ret
  have b := (B5.out.trans (B6.out.mono B5.out.size)).trans (B7.out.mono (Nat.le_trans B5.out.size B6.out.size))
  exact ⟨⟨_, rfl, rfl⟩, ⟨T, S2.out.grown b, rfl⟩, T2.out.laBelow b⟩
#print axioms lineat_any
end Go.Proofs.YtnogfelfgclajaaGreatDoor
end

section
namespace Go.Proofs.YtnogfelfgclajaaGreatDoor
open Go.RowKit
attribute [local go_sem] ext_ext drew_ext ext_drew ext_cell ext_frozen in_lt in_le in_ne in_en in_ne1 in_en1 in_le1 in_ltn in_len in_nen in_enn size_le ite_max ite_min
set_option linter.unusedVariables false
set_option linter.unusedSimpArgs false
set_option maxRecDepth 1000000

/-- What a table's function does at a chunk. -/
def TabDone (B t : Nat) (s lim : Int) (q e : Nat) (G : Ps → List Int) (P : List (Ps × Bool) → Prop) (ok : Bool) (w : World) (en : Ending) (w' : World) : Prop :=
  (∃ n : Nat, n ≤ 6 ∧ en = .returned (.int .i64 (n : Int)) ∧ (ok = true → n = 0)) ∧ (∃ T', TabOf B w' t s lim q e G T' ∧ P T') ∧ Turn (Ty B tyTab w) w w'
set_option maxHeartbeats 2000000 in
theorem linetable_any {B : Nat} {w : World} {sh t e c ab bx fn : Nat} {s lim : Int} {G : Ps → List Int} {T : List (Ps × Bool)} (h : SysOf B w sh t s lim e c G T) (x z : Int) (hx : Num x) (hz : Num z) (P : List (Ps × Bool) → Prop) (ok : Bool)
    (hf : ∀ args W, (callFunc fn args).run Tryz.prog W = .ok (.enter fn args) W)
    (hF : ∀ q W, TabOf B W t s lim q e G T → Calls Tryz.prog fn #[.pointer (some ⟨t, 0, none⟩), .agg #[.int .i64 x, .int .i64 z]] W (TabDone B t s lim q e G P ok W))
    (hbx : w.heap[bx]? = some (.cells #[.func (.func fn) #[.pointer (some ⟨t, 0, none⟩)] #[]] 112 (0, 0))) (hA : ArgsAt w ab [decI 16 x, decI 16 z]) :
    Calls Tryz.prog 89 #[.pointer (some ⟨ab, 0, none⟩), .pointer (some ⟨bx, 0, none⟩)] w
      (LineDone B ab sh t s lim e c G P (fun y => ok = true → y = ⟨#[111, 107]⟩) w) := by
  haveI := hA.in
  have H := Lib.hid h
  have PA := Lib.hid (pos_any x z hx hz [] ab w hA (by simp))
  have AS := Lib.hid (aside_args hA)
  have X0 := Lib.hid hbx
  have NE := Lib.hid (hA.cells hbx (by decide))
  have TF := Lib.hid hF
  clear h hA hbx hF
  go_enter Tryz.func89, Tryz.ntmps89
  go_wp2_with fail
  refine PA.out.mono ?_
  rintro en1 w1 ⟨rfl, hA1, hT1⟩
  have A1 := Lib.hid hA1
  have S1 := Lib.hid (H.out.turn hT1 AS.out)
  have T1 := Lib.hid ((Turn.refl (LA B ab w) w).laOne hT1)
  have X1 := Lib.hid ((hT1.block _ (lt_of_block X0.out) NE.out).trans X0.out)
  clear hA1 hT1 PA AS
  go_wp2_with fail
  have B2 := Lib.hid ((Below.refl w1.heap.size w1).alloc (Nat.le_refl _) (.cells #[.int .i64 x, .int .i64 z] 35))
  have Y2 := Lib.hid (heap_alloc_new w1 (.cells #[.int .i64 x, .int .i64 z] 35))
  generalize w1.alloc (.cells #[.int .i64 x, .int .i64 z] 35) = w2 at *
  obtain ⟨bp, hbp⟩ : ∃ bp, w1.heap.size = bp := ⟨_, rfl⟩
  rw [hbp] at Y2
  rw [hbp]
  clear hbp
  refine (end_any ab w2 (A1.out.far B2.out)).mono ?_
  rintro en4 w4 ⟨rfl, rfl⟩
  have S2 := Lib.hid (S1.out.grown B2.out)
  have T2 := Lib.hid (T1.out.laBelow B2.out)
  have x0 := cell_of_block (i := 0) ((B2.out.block bx (lt_of_block X1.out)).trans X1.out) rfl
  have y0 := cell_of_block (i := 0) Y2.out rfl
  have y1 := cell_of_block (i := 1) Y2.out rfl
  haveI := in_of_cell x0
  haveI := in_of_cell y0
  obtain ⟨en, sm, qu, mq, wo, bud, oc, dr, h1, h2⟩ := S2.out
  have E2 := Lib.hid h2
  have H2 := Lib.hid h1
  have TR := Lib.hid (TF.out mq w2 h2.tab)
  clear h1 h2 A1 S1 T1 B2 Y2 X1 X0 TF
  go_wp2_with fail
  refine TR.out.mono ?_
  rintro en5 w5 ⟨⟨n, hn, rfl, ho⟩, ⟨T', hE, hp⟩, hT5⟩
  have S5 := Lib.hid (sys_tab H2.out E2.out hE hT5)
  have P5 := Lib.hid (And.intro hp ho)
  have N5 := Lib.hid hn
  clear hE hp hT5 ho hn TR H2 E2
  go_wp2_with fail
  have TO : Hid (Calls Tryz.prog 88 #[.slice (some ⟨w5.heap.size, 0, none⟩) 1 1] (w5.alloc (.cells #[.iface 142 (.int .i64 (n : Int))] 20)) (fun en w' => (∃ y, en = .returned (.string y) ∧ (ok = true → y = ⟨#[111, 107]⟩)) ∧ ∃ f, w' = ext (w5.alloc (.cells #[.iface 142 (.int .i64 (n : Int))] 20)) f)) := Lib.hid (by
    rcases Nat.eq_zero_or_pos n with rfl | hpos
    · refine (told_ok _ _ _ (cell_of_block (i := 0) (heap_alloc_new w5 _) rfl)).mono ?_
      rintro e W ⟨rfl, hW⟩
      exact ⟨⟨_, rfl, fun _ => rfl⟩, hW⟩
    · refine (told_err n hpos (by have := N5.out; omega) _ _ _ (cell_of_block (i := 0) (heap_alloc_new w5 _) rfl)).mono ?_
      rintro e W ⟨rfl, hW⟩
      exact ⟨⟨_, rfl, fun h => absurd (P5.out.2 h) (by omega)⟩, hW⟩)
  refine TO.out.mono ?_
  rintro en7 w7 ⟨⟨y, rfl, hy⟩, _t, hw⟩
  haveI hb7 := named_below (w := w5) hw
  clear hw TO
  have B7 := Lib.hid (grown_now (w := w5) (W := w7))
  go_wp2_with fail
  go_ret
  exact ⟨⟨_, rfl, hy⟩, ⟨T', S5.out.1.grown B7.out, P5.out.1⟩, (T2.out.la S5.out.2).laBelow B7.out⟩
#print axioms linetable_any
set_option maxHeartbeats 2000000 in
/-- All that is dirty written. -/
theorem lineflushall_any {B : Nat} {w : World} {sh t e c ab : Nat} {s lim : Int} {G : Ps → List Int} {T : List (Ps × Bool)} (h : SysOf B w sh t s lim e c G T) (hA : ArgsAt w ab []) :
    Calls Tryz.prog 53 #[.pointer (some ⟨sh, 0, none⟩), .pointer (some ⟨ab, 0, none⟩)] w
      (LineDone B ab sh t s lim e c G (fun _ => True) (fun _ => True) w) := by
  haveI := hA.in
  have EN := Lib.hid (end_any ab w hA)
  obtain ⟨en, sm, qu, mq, wo, bud, oc, dr, h1, h2⟩ := h
  have e0 := cell_of_block (i := 0) h1.blk rfl
  have e1 := (eng_none h2.eng).1
  have e2 := cell_of_block (i := 1) h2.sim.blk rfl
  have wc : w.cell? ⟨wo, 0, none⟩ = some (.pointer (some ⟨t, 0, none⟩)) := by obtain ⟨lv, m, xs, h⟩ := h2.wld; exact cell_of_block (i := 0) h.blk rfl
  haveI := in_of_cell e0
  haveI := in_of_cell e1
  haveI := in_of_cell e2
  haveI := in_of_cell wc
  have E2 := Lib.hid h2
  have H2 := Lib.hid h1
  have FA := Lib.hid (by obtain ⟨st, d, mb, lv, its, D, N, h⟩ := h2.tab; exact tabflushall_any h)
  clear h1 h2 hA
  go_enter Tryz.func53, Tryz.ntmps53
  go_wp2_with fail
  refine EN.out.mono ?_
  rintro en1 w1 ⟨rfl, rfl⟩
  go_wp2_with (first | (go_at_call 24; refine (simworld_any sm wo _ (by go_simp)).mono ?_; rintro e w1 ⟨rfl, rfl⟩) | (go_at_call 37; refine (worldtable_any wo t _ (by go_simp)).mono ?_; rintro e w1 ⟨rfl, rfl⟩))
  refine FA.out.mono ?_
  rintro en5 w5 ⟨⟨n, hn, rfl⟩, ⟨T', hE⟩, hT5⟩
  have S5 := Lib.hid (sys_tab H2.out E2.out hE hT5)
  have N5 := Lib.hid hn
  clear hE hT5 hn H2 E2 FA EN
  go_wp2_with fail
  refine (told_num_ok n N5.out _ _ _ (by go_simp) (by go_simp)).mono ?_
  rintro en7 w7 ⟨y, rfl, _t, hw⟩
  haveI hb7 := named_below (w := w5) hw
  clear hw
  have B7 := Lib.hid (grown_now (w := w5) (W := w7))
  go_wp2_with fail
  go_ret
  exact ⟨⟨_, rfl, trivial⟩, ⟨T', S5.out.1.grown B7.out, trivial⟩, ((Turn.refl (LA B ab w) w).la S5.out.2).laBelow B7.out⟩
#print axioms lineflushall_any
end Go.Proofs.YtnogfelfgclajaaGreatDoor
end

section
namespace Go.Proofs.YtnogfelfgclajaaGreatDoor
open Go.RowKit
attribute [local go_sem] ext_ext drew_ext ext_drew ext_cell ext_frozen in_lt in_le in_ne in_en in_ne1 in_en1 in_le1 in_ltn in_len in_nen in_enn size_le ite_max ite_min
set_option linter.unusedVariables false
set_option linter.unusedSimpArgs false
set_option maxRecDepth 1000000

/-- A line's answer: another world. -/
def WorldDone (B ab sh : Nat) (s lim : Int) (w : World) (en : Ending) (w' : World) : Prop :=
  en = .returned (.string ⟨#[111, 107]⟩) ∧ (∃ t, SysOf B w' sh t s lim 0 0 (GrAt s) []) ∧ Turn (LA B ab w) w w'
set_option maxHeartbeats 2000000 in
theorem lineworld_any {B : Nat} {w : World} {sh t e c ab : Nat} {s0 lim0 : Int} {G : Ps → List Int} {T : List (Ps × Bool)} (h : SysOf B w sh t s0 lim0 e c G T) (s l b lim : Int) (hs : Num s) (hl : Num l) (hb : Num b) (hlim : min 16 (max l 1) = lim) (hA : ArgsAt w ab [decI 16 s, decI 16 l, decI 16 b]) :
    Calls Tryz.prog 46 #[.pointer (some ⟨sh, 0, none⟩), .pointer (some ⟨ab, 0, none⟩)] w (WorldDone B ab sh s lim w) := by
  haveI := hA.in
  have N1 := Lib.hid (num_any s hs.lo hs.hi [decI 16 l, decI 16 b] ab w hA (by simp))
  have N2 := Lib.hid (fun W hA => num_any l hl.lo hl.hi [decI 16 b] ab W hA (by simp))
  have N3 := Lib.hid (fun W hA => num_any b hb.lo hb.hi [] ab W hA (by simp))
  have HB := Lib.hid (show B ≤ w.heap.size by have := h.sh; omega)
  obtain ⟨en, sm, qu, mq, wo, bud, oc, dr, h1, h2⟩ := h
  have H0 := Lib.hid h1
  have NA := Lib.hid (hA.cells h1.blk (by decide))
  have EN := Lib.hid (fun W (hW : w.heap.size ≤ W.heap.size) => engnew_any B s l b lim hlim W (Nat.le_trans HB.out hW))
  clear h1 h2 hA hs hl hb
  go_enter Tryz.func46, Tryz.ntmps46
  go_wp2_with fail
  refine N1.out.mono ?_
  rintro en1 w1 ⟨rfl, hA1, hT1⟩
  have A1 := Lib.hid (And.intro hA1 hT1)
  clear hA1 hT1 N1
  go_wp2_with fail
  refine (N2.out w1 A1.out.1).mono ?_
  rintro en2 w2 ⟨rfl, hA2, hT2⟩
  have A2 := Lib.hid (And.intro hA2 (A1.out.2.trans hT2 (fun _ _ h => h)))
  clear hA2 hT2 N2 A1
  go_wp2_with fail
  refine (N3.out w2 A2.out.1).mono ?_
  rintro en3 w3 ⟨rfl, hA3, hT3⟩
  have A3 := Lib.hid (And.intro hA3 (A2.out.2.trans hT3 (fun _ _ h => h)))
  clear hA3 hT3 N3 A2
  go_wp2_with fail
  refine (end_any ab w3 A3.out.1).mono ?_
  rintro en4 w4 ⟨rfl, rfl⟩
  go_wp2_with fail
  refine (EN.out w3 A3.out.2.size).mono ?_
  rintro en5 w5 ⟨en', sm', qu', mq', wo', t', bud', oc', dr', rfl, hen, f5, hw5⟩
  have B5 := Lib.hid (show Below w3.heap.size w3 w5 by rw [hw5]; exact ext_below w3 f5)
  have E5 := Lib.hid hen
  have S5 := Lib.hid ((B5.out.block sh (Nat.lt_of_lt_of_le (lt_of_block H0.out.blk) A3.out.2.size)).trans ((A3.out.2.block sh (lt_of_block H0.out.blk) NA.out).trans H0.out.blk))
  have c0 := cell_of_block (i := 0) S5.out rfl
  have z0 := free_of_block 0 S5.out
  haveI := in_of_cell c0
  clear hw5 hen EN
  go_wp2_with fail
  have S6 := Lib.hid (one_setCell (u := Value.pointer (some ⟨en', 0, none⟩)) S5.out)
  have T6 := Lib.hid (turn_one w5 sh 0 (Value.pointer (some ⟨en', 0, none⟩)))
  have Z6 : w5.heap.size = (w5.setCell ⟨sh, 0, none⟩ (.pointer (some ⟨en', 0, none⟩))).heap.size := by simp
  generalize w5.setCell ⟨sh, 0, none⟩ (.pointer (some ⟨en', 0, none⟩)) = w6 at *
  rw [Z6]
  refine (told_ok _ _ _ (by go_simp)).mono ?_
  rintro en7 w7 ⟨rfl, _t, hw⟩
  haveI hb7 := named_below (w := w6) hw
  clear hw
  have B7 := Lib.hid (grown_now (w := w6) (W := w7))
  go_wp2_with fail
  go_ret
  refine ⟨rfl, ⟨t', SysOf.grown (w := w6) ⟨en', sm', qu', mq', wo', bud', oc', dr', ⟨S6.out, H0.out.lo⟩, E5.out.turn T6.out (aside_one S5.out (by decide))⟩ B7.out⟩, ?_⟩
  have L5 : Turn (LF B w5) w5 w6 := T6.out.mono (fun k _ hk => .inl ⟨by subst hk; exact H0.out.lo, _, _, _, by subst hk; exact S5.out, by decide⟩)
  exact ((((Turn.refl (LA B ab w) w).laOne A3.out.2).laBelow B5.out).la L5).laBelow B7.out
#print axioms lineworld_any
end Go.Proofs.YtnogfelfgclajaaGreatDoor
end
