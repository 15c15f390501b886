/-
  strings.Builder: what is written into it.
  The example's two lines, taken apart.
  The example: two lines, run.
  A flat world: what it has at a cell; a cell's line.
  No Go in sight. A world whose cells are set, one by one: what it has, a flat world has.
-/
import Derived.Test.YtnogfelfgclajaaGreatDoorMa37
import Derived.Lib.Builder
section
namespace Go.Proofs.YtnogfelfgclajaaGreatDoor
open Go.RowKit
attribute [local go_sem] ext_ext drew_ext ext_drew ext_cell ext_frozen in_lt in_le in_ne in_en in_ne1 in_en1 in_le1 in_ltn in_len in_nen in_enn size_le ite_max ite_min
set_option linter.unusedVariables false
set_option linter.unusedSimpArgs false
set_option maxRecDepth 1000000

theorem bufInfo : (Tryz.prog.info? 116).map (·.size) = some 2 := by kernel_rfl
theorem bufLies : liesAt Tryz.prog Tryz.prog.depth 116 (2 / Tryz.prog.cellsOf 116) 0 116 1 = true := by kernel_rfl
theorem bufused_any (b : Nat) (w : World) (h0 : w.cell? ⟨b, 0, none⟩ = some (.pointer (some ⟨b, 0, none⟩))) :
    Calls Tryz.prog 123 #[.pointer (some ⟨b, 0, none⟩)] w fun e w' => e = .returned (.tuple #[]) ∧ w' = w := by
  obtain ⟨j, hj, _⟩ := Option.map_eq_some_iff.1 bufInfo
  have hne := Lib.run_neq_ptr_same (P := Tryz.prog) w ⟨b, 0, none⟩ Tryz.underlying114 hj
  go_enter Tryz.func123, Tryz.ntmps123
  go_wp2
  go_end0
  exact ⟨rfl, rfl⟩
set_option maxHeartbeats 1000000 in
theorem buffresh_any (b : Nat) (w : World) (h0 : w.cell? ⟨b, 0, none⟩ = some (.pointer none)) (hsh : w.shape? b = some (116, 2)) (hfz : w.frozen? ⟨b, 0, none⟩ = false) :
    Calls Tryz.prog 123 #[.pointer (some ⟨b, 0, none⟩)] w fun e w' => e = .returned (.tuple #[]) ∧ w' = w.setCell ⟨b, 0, none⟩ (.pointer (some ⟨b, 0, none⟩)) := by
  obtain ⟨j, hj, hjs⟩ := Option.map_eq_some_iff.1 bufInfo
  have hne := Lib.run_neq_ptr_same (P := Tryz.prog) (w.setCell ⟨b, 0, none⟩ (.pointer (some ⟨b, 0, none⟩))) ⟨b, 0, none⟩ Tryz.underlying114 hj
  have hto := Lib.run_to_unsafe (P := Tryz.prog) w ⟨b, 0, none⟩ Tryz.underlying114 Tryz.underlying232 hj (by rw [hjs]; decide) hsh (Nat.zero_lt_succ 1)
  have hfrom := Lib.run_from_unsafe (P := Tryz.prog) w ⟨b, 0, none⟩ Tryz.underlying232 Tryz.underlying114 hj hsh bufLies
  haveI := in_of_cell h0
  have hno : (callFunc 172 #[.pointer (some ⟨b, 0, none⟩)]).run Tryz.prog w = .ok (.value (.pointer (some ⟨b, 0, none⟩))) w := by kernel_rfl
  clear hj hjs hsh
  go_enter Tryz.func123, Tryz.ntmps123
  go_wp2
  go_end0
  exact ⟨rfl, rfl⟩
/-- What every writing function calls first. -/
theorem bufcheck_any (B b : Nat) (bs : List Value) (w : World) (h : Lib.IsBuilder 116 5 B b bs w) :
    Calls Tryz.prog 123 #[.pointer (some ⟨b, 0, none⟩)] w fun e w' => e = .returned (.tuple #[]) ∧ Lib.BuilderAt 116 5 B b (.pointer (some ⟨b, 0, none⟩)) bs w' ∧ Below B w w' := by
  rcases h with h | h
  · refine (buffresh_any b w h.cell0 h.shape h.frozen0).mono ?_
    rintro e w' ⟨rfl, rfl⟩
    exact ⟨rfl, h.used _, (Below.refl B w).setCell (p := ⟨b, 0, none⟩) h.1 _⟩
  · refine (bufused_any b w h.cell0).mono ?_
    rintro e w' ⟨rfl, rfl⟩
    exact ⟨rfl, h, Below.refl B _⟩
/-- A text written. -/
theorem bufwrite_any (B b : Nat) (bs : List Value) (s : ByteArray) (w : World) (h : Lib.IsBuilder 116 5 B b bs w) (hlen : bs.length + s.size ≤ 100000) (hBw : B ≤ w.heap.size) :
    Calls Tryz.prog 73 #[.pointer (some ⟨b, 0, none⟩), .string s] w fun e w' => (∃ v, e = .returned v) ∧ Lib.BuilderAt 116 5 B b (.pointer (some ⟨b, 0, none⟩)) (bs ++ Lib.strCells s) w' ∧ Below B w w' := by
  obtain ⟨i0, hi, hz0, hz1, hz2⟩ := info_parts byteInfo
  go_enter Tryz.func73, Tryz.ntmps73
  go_wp2_with fail
  refine (bufcheck_any B b bs _ h).mono ?_
  rintro e w1 ⟨rfl, ⟨hB, v, hbk, hown, hne⟩, hb1⟩
  have c0 := cell_of_block (i := 0) hbk rfl
  have c1 := cell_of_block (i := 1) hbk rfl
  have s1 := hb1.size
  haveI := in_of_block hbk
  go_wp2_with (at_builtin; refine Lib.wpList_append_own_string _ rfl _ _ 87 9 rfl B 5 i0 Tryz.underlying87 Tryz.underlying9 hi hz0 hz1 hz2 _ _ _ rfl hown s rfl ?c3 ?c4 ?c5 ?_)
  case c3 => unfold maxLen; omega
  case c4 => omega
  case c5 => omega
  intro v' w2 hown' hgrow _
  have hb2 := (hgrow.block b (lt_of_block hbk) (fun e => hne e.symm)).trans hbk
  have d0 := cell_of_block (i := 0) hb2 rfl
  have d1 := cell_of_block (i := 1) hb2 rfl
  have f1 := free_of_block 1 hb2
  obtain ⟨ao, n', cap, rfl⟩ : ∃ ao n' cap, v' = .slice ao n' cap := by
    rcases hown'.2 with ⟨hv, _⟩ | ⟨g, cap, cur, hv, _⟩
    · exact ⟨_, _, _, hv⟩
    · exact ⟨_, _, _, hv⟩
  have H2 := Lib.hid (And.intro hb2 (And.intro hown' hgrow))
  have H1 := Lib.hid hown
  clear hb2 hown' hgrow hown hbk c0 c1
  go_wp2
  go_ret2
  refine ⟨⟨_, rfl⟩, ?_, ?_⟩
  · exact Lib.BuilderAt.put (T := 116) (e := 5) hB H2.out.1 (bs' := bs ++ Lib.strCells s) (by simpa [Lib.strCells_length] using H2.out.2.1) (by decide)
  · exact (hb1.grown H2.out.2.2 (by omega) (fun k hk => (H1.out.lt k hk).1)).setCell (p := ⟨b, 1, none⟩) hB _
#print axioms bufwrite_any
/-- The first text written. -/
theorem buffirst_any (B b : Nat) (s : ByteArray) (w : World) (hB : B ≤ b) (hb : w.heap[b]? = some (.cells #[.pointer none, .slice none 0 0] 116 (0, 0))) (hlen : s.size ≤ 100000) :
    Calls Tryz.prog 73 #[.pointer (some ⟨b, 0, none⟩), .string s] w fun e w' => (∃ v, e = .returned v) ∧ Lib.BuilderAt 116 5 B b (.pointer (some ⟨b, 0, none⟩)) (Lib.strCells s) w' ∧ Turn (fun k => k = b) w w' := by
  obtain ⟨i0, hi, hz0, hz1, hz2⟩ := info_parts byteInfo
  have hlt := lt_of_block hb
  have C0 := Lib.hid (buffresh_any b w (cell_of_block (i := 0) hb rfl) (by simp [World.shape?, hb]) (free_of_block 0 hb))
  have hb' := Lib.hid (block_set (i := 0) hb (.pointer (some ⟨b, 0, none⟩)) (by simp))
  go_enter Tryz.func73, Tryz.ntmps73
  go_wp2_with fail
  refine C0.out.mono ?_
  rintro e w1 ⟨rfl, h1⟩
  have hbk : w1.heap[b]? = some (.cells #[.pointer (some ⟨b, 0, none⟩), .slice none 0 0] 116 (0, 0)) := by rw [h1]; exact hb'.out
  have hT1 : Turn (fun k => k = b) w w1 := by rw [h1]; exact turn_one w b 0 _
  have c0 := cell_of_block (i := 0) hbk rfl
  have c1 := cell_of_block (i := 1) hbk rfl
  have s1 := hT1.size
  have T1 := Lib.hid hT1
  haveI := in_of_block hbk
  clear h1 hT1 C0 hb
  go_wp2_with (at_builtin; refine Lib.wpList_append_own_string _ rfl _ _ 87 9 rfl B 5 i0 Tryz.underlying87 Tryz.underlying9 hi hz0 hz1 hz2 _ _ _ rfl (World.ownsRow_nil _ B 5 1) s rfl ?c3 ?c4 ?c5 ?_)
  case c3 => unfold maxLen; omega
  case c4 => omega
  case c5 => omega
  intro v' w2 hown' hgrow _
  have hb2 := (hgrow.block b (lt_of_block hbk) (fun e => by cases e)).trans hbk
  have d0 := cell_of_block (i := 0) hb2 rfl
  have d1 := cell_of_block (i := 1) hb2 rfl
  have f1 := free_of_block 1 hb2
  obtain ⟨ao, n', cap, rfl⟩ : ∃ ao n' cap, v' = .slice ao n' cap := by
    rcases hown'.2 with ⟨hv, _⟩ | ⟨g, cap, cur, hv, _⟩
    · exact ⟨_, _, _, hv⟩
    · exact ⟨_, _, _, hv⟩
  have H2 := Lib.hid (And.intro hb2 (And.intro hown' hgrow))
  clear hb2 hown' hgrow hbk c0 c1
  go_wp2
  go_ret2
  refine ⟨⟨_, rfl⟩, ?_, ?_⟩
  · exact Lib.BuilderAt.put (T := 116) (e := 5) hB H2.out.1 (bs' := Lib.strCells s) (by simpa [Lib.strCells_length] using H2.out.2.1) (by decide)
  · exact (T1.out.trans (turn_by H2.out.2.2) (fun _ _ h => by cases h)).trans (turn_one w2 b 1 _) (fun _ _ h => h)
#print axioms buffirst_any
/-- A builder stays what it is. -/
theorem buf_turn {F : Nat → Prop} {B b : Nat} {p : Value} {l : List Value} {w W : World} (h : Lib.BuilderAt 116 5 B b p l w) (hT : Turn F w W) (hb : ∀ g c fz, w.heap[g]? = some (.cells c 116 fz) → ¬ F g) (hr : ∀ g c fz, w.heap[g]? = some (.cells c 5 fz) → ¬ F g) : Lib.BuilderAt 116 5 B b p l W := by
  obtain ⟨hB, v, hbk, hown, hne⟩ := h
  refine ⟨hB, v, (hT.block b (lt_of_block hbk) (hb _ _ _ hbk)).trans hbk, hT.owns hown (fun g hg => ?_), hne⟩
  rcases hown.2 with ⟨rfl, _⟩ | ⟨g', cap, cur, rfl, _, hgg, _⟩
  · cases hg
  · simp [Value.ownBlock] at hg
    subst hg
    exact hr _ _ _ hgg
end Go.Proofs.YtnogfelfgclajaaGreatDoor
end

section
namespace Go.Proofs.YtnogfelfgclajaaGreatDoor
open Go.RowKit
attribute [local go_sem] ext_ext drew_ext ext_drew ext_cell ext_frozen in_lt in_le in_ne in_en in_ne1 in_en1 in_le1 in_ltn in_len in_nen in_enn size_le ite_max ite_min
set_option linter.unusedVariables false
set_option linter.unusedSimpArgs false
set_option maxRecDepth 1000000

def exA : ByteArray := ⟨#[108, 111, 97, 100, 32, 48, 32, 48]⟩
def exB : ByteArray := ⟨#[97, 116, 32, 48, 32, 48, 32, 48]⟩
abbrev exT : ByteArray := ⟨#[108, 111, 97, 100, 32, 48, 32, 48, 10, 97, 116, 32, 48, 32, 48, 32, 48]⟩
theorem exCount : Lib.countByte exT.data.toList 10 = 1 := by decide
theorem exIndex : Lib.indexByte exT.data.toList 10 = 8 := by decide
theorem exCut : exT.extract 0 8 = exA ∧ exT.extract 9 17 = exB := ⟨by kernel_rfl, by kernel_rfl⟩
theorem gensplit_ex (w : World) : Calls Tryz.prog 122 #[.string exT, .string ⟨#[10]⟩, .int .i64 0, .int .i64 (-1)] w fun e w' =>
    e = .returned (.slice (some ⟨w.heap.size, 0, none⟩) 2 2) ∧ w'.heap[w.heap.size]? = some (.cells #[.string exA, .string exB] 9 (0, 0)) ∧ ∃ f, w' = ext w f := by
  have CN := Lib.hid (fun W => exCount ▸ Tryz.strings_Count_one exT 10 W)
  have IX := Lib.hid (fun W => exIndex ▸ Tryz.strings_Index_one exT 10 W)
  have hmin : (min 2 18 : Int) = 2 := by decide
  have hmk : ∀ w : World, (Instr.makeSlice 38 (.int .i64 2) (.int .i64 2)).run Tryz.prog w = .ok (.slice (some ⟨w.heap.size, 0, none⟩) 2 2) (w.alloc (.cells #[.string ⟨#[]⟩, .string ⟨#[]⟩] 9)) := fun _ => by kernel_rfl
  go_enter Tryz.func122, Tryz.ntmps122
  go_wp2_with (go_at_call 170; refine (CN.out _).mono ?_; rintro e w1 ⟨rfl, rfl⟩)
  refine wp_loop_rounds 2 ?_
  rw [rounds_succ]
  go_wp2_with (go_at_call 171; refine (IX.out _).mono ?_; rintro e w1 ⟨rfl, rfl⟩)
  rw [rounds_succ]
  go_wp2
  go_ret
  exact ⟨rfl, exCut.1 ▸ exCut.2 ▸ heap_alloc_new w1 _, grown_of⟩
theorem split_ex (w : World) : Calls Tryz.prog 72 #[.string exT, .string ⟨#[10]⟩] w fun e w' =>
    e = .returned (.slice (some ⟨w.heap.size, 0, none⟩) 2 2) ∧ w'.heap[w.heap.size]? = some (.cells #[.string exA, .string exB] 9 (0, 0)) ∧ ∃ f, w' = ext w f := by
  have GS := Lib.hid (gensplit_ex w)
  go_enter Tryz.func72, Tryz.ntmps72
  go_wp2_with fail
  refine GS.out.mono ?_
  rintro e w1 ⟨rfl, h1, h2⟩
  go_wp2_with fail
  go_ret
  exact ⟨rfl, h1, h2⟩
#print axioms split_ex
end Go.Proofs.YtnogfelfgclajaaGreatDoor
end

section
namespace Go.Proofs.YtnogfelfgclajaaGreatDoor
open Go.RowKit
attribute [local go_sem] ext_ext drew_ext ext_drew ext_cell ext_frozen in_lt in_le in_ne in_en in_ne1 in_en1 in_le1 in_ltn in_len in_nen in_enn size_le ite_max ite_min
set_option linter.unusedVariables false
set_option linter.unusedSimpArgs false
set_option maxRecDepth 1000000

theorem exA_is : exA = bs (joinW [[108, 111, 97, 100], decI 16 0, decI 16 0]) := by kernel_rfl
theorem exB_is : exB = bs (joinW [[97, 116], decI 16 0, decI 16 0, decI 16 0]) := by kernel_rfl
theorem num0 : Num 0 := ⟨by omega, by omega⟩
theorem zeroWd : Wd (decI 16 0) := decI_wd 16
def ldW : List UInt8 := [108, 111, 97, 100]
def atW : List UInt8 := [97, 116]
theorem ldWd : Wd ldW := ⟨by simp [ldW], by unfold ldW; decide⟩
theorem atWd : Wd atW := ⟨by simp [atW], by unfold atW; decide⟩
theorem exBlk : blkS 1 0 0 0 = 1 := by kernel_rfl
theorem exCell : cellG (GrAt 1) 0 0 0 = 1 := by
  have hi : idxS 0 0 0 = 0 := by kernel_rfl
  have hd : divS 0 16 = 0 := by kernel_rfl
  unfold cellG GrAt
  rw [if_neg (by omega), if_pos (by omega), hi, hd]
  simp [exBlk]
theorem exView {T : List (Ps × Bool)} (h : ∃ c ∈ T, c.1 = ((0, 0) : Ps)) : viewT (GrAt 1) T 0 0 0 = 1 := by
  have hd : divS 0 16 = 0 := by kernel_rfl
  rw [view_yes (by rw [hd]; exact h), exCell]
theorem exOk : okS ++ (⟨#[10]⟩ : ByteArray) = ⟨#[111, 107, 10]⟩ := by kernel_rfl
theorem exStone : nmB 1 ++ (⟨#[10]⟩ : ByteArray) = ⟨#[115, 116, 111, 110, 101, 10]⟩ := by kernel_rfl
theorem exCells : Lib.strCells ⟨#[111, 107, 10]⟩ ++ Lib.strCells ⟨#[115, 116, 111, 110, 101, 10]⟩ = Lib.byteCells [111, 107, 10, 115, 116, 111, 110, 101, 10] := by kernel_rfl
theorem close0 : Close ((0, 0) : Ps) := ⟨by simp, by simp, by simp, by simp⟩
theorem wordsA_any (w : World) : Calls Tryz.prog 27 #[.string exA] w (fun e w' => ∃ o, e = .returned (.slice o 3 3) ∧ ∃ f, w' = ext w f) := by
  rw [exA_is]
  refine (linewords_any [ldW, decI 16 0, decI 16 0] (by simp) (fun x hx => ?_) (by decide +kernel) w).mono ?_
  · simp at hx
    rcases hx with rfl | rfl
    · exact ldWd
    · exact zeroWd
  · rintro e w' ⟨v, rfl, ⟨o, rfl, _⟩, hw⟩
    exact ⟨o, rfl, hw⟩
theorem wordsB_any (w : World) : Calls Tryz.prog 27 #[.string exB] w (fun e w' => ∃ o, e = .returned (.slice o 4 4) ∧ ∃ f, w' = ext w f) := by
  rw [exB_is]
  refine (linewords_any [atW, decI 16 0, decI 16 0, decI 16 0] (by simp) (fun x hx => ?_) (by decide +kernel) w).mono ?_
  · simp at hx
    rcases hx with rfl | rfl
    · exact atWd
    · exact zeroWd
  · rintro e w' ⟨v, rfl, ⟨o, rfl, _⟩, hw⟩
    exact ⟨o, rfl, hw⟩
set_option maxHeartbeats 4000000 in
/-- The example, run. -/
theorem run_ex (w : World) : Calls Tryz.prog 35 #[.string exT] w fun e w' => e = .returned (.string ⟨#[111, 107, 10, 115, 116, 111, 110, 101, 10]⟩) ∧ Below w.heap.size w w' := by
  go_enter Tryz.func35, Tryz.ntmps35
  go_wp2_with fail
  refine (linesnew_any w.heap.size w (Nat.le_refl _)).mono ?_
  rintro e1 w1 ⟨sh, t, rfl, hS, f, hw⟩
  have B1 := Lib.hid (show Below w.heap.size w w1 by rw [hw]; exact ext_below w f)
  have S1 := Lib.hid hS
  clear hw hS
  go_wp2_with fail
  have B2 := Lib.hid ((Below.refl w1.heap.size w1).alloc (Nat.le_refl _) (.cells #[.pointer none, .slice none 0 0] 116))
  have X2 := Lib.hid (heap_alloc_new w1 (.cells #[.pointer none, .slice none 0 0] 116))
  generalize w1.alloc (.cells #[.pointer none, .slice none 0 0] 116) = w2 at *
  have L2 := Lib.hid (show w.heap.size ≤ w1.heap.size from B1.out.size)
  have S2 := Lib.hid (S1.out.grown B2.out)
  have b2 := Lib.hid (B1.out.trans (B2.out.mono B1.out.size))
  clear S1 B1 B2
  generalize w1.heap.size = bb at *
  refine (split_ex w2).mono ?_
  rintro e3 w3 ⟨rfl, hr, f, hw⟩
  have B3 := Lib.hid (show Below w2.heap.size w2 w3 by rw [hw]; exact ext_below w2 f)
  have R3 := Lib.hid hr
  clear hw hr
  have S3 := Lib.hid (S2.out.grown B3.out)
  have b3 := Lib.hid (b2.out.trans (B3.out.mono b2.out.size))
  have X3 := Lib.hid ((B3.out.block bb (lt_of_block X2.out)).trans X2.out)
  clear S2 b2 X2 B3
  generalize w2.heap.size = rb at *
  have c3 := cell_of_block (i := 0) R3.out rfl
  haveI := in_of_cell c3
  go_wp2_with fail
  refine wp_loop_rounds 3 ?_
  rw [rounds_succ]
  go_wp2_with fail
  refine (wordsA_any w3).mono ?_
  rintro e4 w4 ⟨o4, rfl, f, hw⟩
  have B4 := Lib.hid (show Below w3.heap.size w3 w4 by rw [hw]; exact ext_below w3 f)
  clear hw
  have S4 := Lib.hid (S3.out.grown B4.out)
  have b4 := Lib.hid (b3.out.trans (B4.out.mono b3.out.size))
  have X4 := Lib.hid ((B4.out.block bb (lt_of_block X3.out)).trans X3.out)
  have R4 := Lib.hid ((B4.out.block rb (lt_of_block R3.out)).trans R3.out)
  clear S3 b3 X3 R3 B4 c3
  go_wp2_with fail
  rw [exA_is]
  refine (sayload_any S4.out 0 0 num0 num0 close0).mono ?_
  rintro e5 w5 ⟨⟨_, rfl, rfl⟩, ⟨T5, hS5, hp5⟩, hT5⟩
  have S5 := Lib.hid (And.intro hS5 hp5)
  have b5 := Lib.hid (b4.out.trans (hT5.below (fun i _ hi => Nat.le_of_not_lt (fun h => lf_low h hi)) b4.out.size))
  have X5 := Lib.hid ((hT5.block bb (lt_of_block X4.out) (lf_no X4.out (by decide))).trans X4.out)
  have R5 := Lib.hid ((hT5.block rb (lt_of_block R4.out) (lf_no R4.out (by decide))).trans R4.out)
  clear hS5 hp5 hT5 S4 b4 X4 R4
  go_wp2_with fail
  rw [exOk]
  refine (buffirst_any w.heap.size bb ⟨#[111, 107, 10]⟩ w5 L2.out X5.out (by decide)).mono ?_
  rintro e6 w6 ⟨⟨v6, rfl⟩, hB6, hT6⟩
  have U6 := Lib.hid hB6
  have S6 := Lib.hid (And.intro (S5.out.1.turn hT6 (aside_one X5.out (by decide))) S5.out.2)
  have b6 := Lib.hid (b5.out.trans (hT6.below (fun i _ hi => by have := L2.out; omega) b5.out.size))
  have R6 := Lib.hid ((hT6.block rb (lt_of_block R5.out) (fun e => by
    have h1 := X5.out
    rw [← show rb = bb from e, R5.out] at h1
    injection h1 with h1
    injection h1 with _ h1
    exact absurd h1 (by decide))).trans R5.out)
  have c6 := cell_of_block (i := 1) R6.out rfl
  haveI := in_of_cell c6
  clear hB6 hT6 S5 b5 X5 R5
  go_wp2_with fail
  rw [rounds_succ]
  go_wp2_with fail
  refine (wordsB_any w6).mono ?_
  rintro e7 w7 ⟨o7, rfl, f, hw⟩
  have B7 := Lib.hid (show Below w6.heap.size w6 w7 by rw [hw]; exact ext_below w6 f)
  clear hw
  have S7 := Lib.hid (And.intro (S6.out.1.grown B7.out) S6.out.2)
  have b7 := Lib.hid (b6.out.trans (B7.out.mono b6.out.size))
  have U7 := Lib.hid (buf_turn U6.out (turn_below (F := fun _ => False) B7.out) (fun _ _ _ _ => id) (fun _ _ _ _ => id))
  clear S6 b6 U6 B7 R6 c6
  go_wp2_with fail
  rw [exB_is]
  refine (sayat_any S7.out.1 0 0 0 ⟨by omega, by omega⟩ ⟨by omega, by omega⟩ num0 1 (exView S7.out.2) (by omega) (by omega)).mono ?_
  rintro e8 w8 ⟨⟨_, rfl, rfl⟩, ⟨T8, hS8, hp8⟩, hT8⟩
  have b8 := Lib.hid (b7.out.trans (hT8.below (fun i _ hi => Nat.le_of_not_lt (fun h => lf_low h hi)) b7.out.size))
  have U8 := Lib.hid (buf_turn U7.out hT8 (fun _ _ _ hg => lf_no hg (by decide)) (fun _ _ _ hg => lf_no hg (by decide)))
  clear hS8 hp8 hT8 S7 b7 U7
  go_wp2_with fail
  rw [exStone]
  refine (bufwrite_any w.heap.size bb _ ⟨#[115, 116, 111, 110, 101, 10]⟩ w8 (.inr U8.out) (by rw [Lib.strCells_length]; decide) b8.out.size).mono ?_
  rintro e9 w9 ⟨⟨v9, rfl⟩, hB9, hb9⟩
  rw [exCells] at hB9
  have U9 := Lib.hid hB9
  have b9 := Lib.hid (b8.out.trans hb9)
  clear hB9 hb9 U8 b8
  go_wp2_with fail
  rw [rounds_succ]
  go_wp2_with fail
  refine (Tryz.Builder_String_any w.heap.size bb _ w9 (.inr U9.out) b9.out.size).mono ?_
  rintro e10 w10 ⟨rfl, hb10⟩
  go_wp2_with fail
  go_ret
  exact ⟨rfl, b9.out.trans hb10⟩
#print axioms run_ex
theorem exEq (W : World) : (binOp .eql 9 (.string ⟨#[111, 107, 10, 115, 116, 111, 110, 101, 10]⟩) (.string ⟨#[111, 107, 10, 115, 116, 111, 110, 101, 10]⟩)).run Tryz.prog W = .ok (.bool true) W := by kernel_rfl
/-- The document's own example. -/
theorem alive_any (w : World) : Calls Tryz.prog 16 #[] w fun e w' => e = .returned (.bool true) ∧ Below w.heap.size w w' := by
  have RU := Lib.hid (run_ex w)
  have hq := exEq
  go_enter Tryz.func16, Tryz.ntmps16
  go_wp2_with fail
  refine RU.out.mono ?_
  rintro e1 w1 ⟨rfl, hb⟩
  have B1 := Lib.hid hb
  clear hb
  go_wp2_with fail
  go_ret
  exact ⟨rfl, B1.out⟩
#print axioms alive_any
end Go.Proofs.YtnogfelfgclajaaGreatDoor
end

section
namespace Go.Proofs.YtnogfelfgclajaaGreatDoor
open Go.RowKit
attribute [local go_sem] ext_ext drew_ext ext_drew ext_cell ext_frozen in_lt in_le in_ne in_en in_ne1 in_en1 in_le1 in_ltn in_len in_nen in_enn size_le ite_max ite_min
set_option linter.unusedVariables false
set_option linter.unusedSimpArgs false
set_option maxRecDepth 1000000

/-- The document's block of a cell that does not lie below the world. -/
def blkC (s x y z : Int) : Int := if 31 < y then 0 else ofS y (groundS s x z)
theorem refblock_c (s x y z : Int) (w : World) (hx : Fit x) (hz : Fit z) (y1 : 0 ≤ y) (y2 : y ≤ 1000) :
    Calls Tryz.prog 34 #[.int .i64 s, .agg #[.int .i64 x, .int .i64 y, .int .i64 z]] w fun e w' => e = .returned (.int .i64 (blkC s x y z)) ∧ ∃ f, w' = ext w f := by
  by_cases h : 31 < y
  · have GR := fun w => refground_any s x z w hx hz
    have H : Hid (blkC s x y z = 0) := Lib.hid (if_pos h)
    generalize groundS s x z = g at *
    go_enter Tryz.func34, Tryz.ntmps34
    go_wp2_with (first | (go_at_call 71; refine (GR _).mono ?_; rintro e w1 ⟨rfl, rfl⟩))
    go_ret
    exact ⟨ret_int H.out.symm, grown_of⟩
  · rw [show blkC s x y z = ofS y (groundS s x z) from if_neg h]
    exact refblock_any s x y z w hx hz y1 (by omega)
/-- A cell's line. -/
theorem topcell_any (x y z : Int) (w : World) (hx : Small17 x) (hy : Small17 y) (hz : Small17 z) :
    Calls Tryz.prog 13 #[.agg #[.int .i64 x, .int .i64 y, .int .i64 z]] w fun e w' => e = .returned (sV (joinW (decs [x, y, z]))) ∧ ∃ f, w' = ext w f := by
  have RW := Lib.hid (fun W (h : W.heap[w.heap.size + 1]? = some (.cells #[.int .i64 x, .int .i64 y, .int .i64 z] 3 (0, 0))) => row_any [x, y, z] (w.heap.size + 1) 3 W (by simp) (by simp) (by simp; exact ⟨hx, hy, hz⟩) (fun k hk => by
    rcases k with _ | _ | _ | k
    · exact cell_of_block (i := 0) h rfl
    · exact cell_of_block (i := 1) h rfl
    · exact cell_of_block (i := 2) h rfl
    · simp at hk; omega))
  clear hx hy hz
  go_enter Tryz.func13, Tryz.ntmps13
  go_wp2_with fail
  refine (RW.out _ (by have := heap_alloc_new (w.alloc (.cells #[.int .i64 x, .int .i64 y, .int .i64 z] 30)) (.cells #[.int .i64 x, .int .i64 y, .int .i64 z] 3); simpa using this)).mono ?_
  rintro e w1 ⟨rfl, _t, hw⟩
  haveI hb1 := named_below (w := w) hw
  clear hw
  go_wp2_with fail
  go_ret
  exact ⟨rfl, grown_of⟩
attribute [local go_sem ↓] eqc_any
/-- A cell that was set, and to what. -/
structure Fl where
  x : Int
  y : Int
  z : Int
  b : Int
/-- What a flat world has, of which the first k of the cells were set. -/
def flatS (s : Int) (l : List Fl) (x y z : Int) : Nat → Int
  | 0 => blkC s x y z
  | k + 1 => match l[k]? with
    | some d => if d.x = x ∧ d.y = y ∧ d.z = z then d.b else flatS s l x y z k
    | none => flatS s l x y z k
/-- Cells that were set, in a slice. -/
def FlAt (w : World) (v : Value) (l : List Fl) : Prop := ∃ o cap, v = .slice o l.length cap ∧ ∀ k (h : k < l.length), ∃ g, o = some ⟨g, 0, none⟩ ∧
  w.cell? ⟨g, k * 4, none⟩ = some (.int .i64 l[k].x) ∧ w.cell? ⟨g, k * 4 + 1, none⟩ = some (.int .i64 l[k].y) ∧ w.cell? ⟨g, k * 4 + 2, none⟩ = some (.int .i64 l[k].z) ∧ w.cell? ⟨g, k * 4 + 3, none⟩ = some (.int .i64 l[k].b)
set_option maxHeartbeats 1000000 in
theorem flat_any (s x y z : Int) (v : Value) (l : List Fl) (w : World) (hl : l.length ≤ 100) (h : FlAt w v l) (hx : Fit x) (hz : Fit z) (y1 : 0 ≤ y) (y2 : y ≤ 1000) :
    Calls Tryz.prog 15 #[.int .i64 s, v, .agg #[.int .i64 x, .int .i64 y, .int .i64 z]] w fun e w' => e = .returned (.int .i64 (flatS s l x y z l.length)) ∧ ∃ f, w' = ext w f := by
  obtain ⟨o, cap, rfl, hc⟩ := h
  obtain ⟨n, hn⟩ : ∃ n, l.length = n := ⟨_, rfl⟩
  have HC := Lib.hid hc
  have HN := Lib.hid hn
  have RB := Lib.hid (fun W => refblock_c s x y z W hx hz y1 y2)
  rw [hn]
  clear hc hn hx hz y1 y2
  have n0 : (0 : Int) ≤ (n : Int) := Int.natCast_nonneg _
  have n1 : (n : Int) ≤ 100 := by have := HN.out; omega
  go_enter Tryz.func15, Tryz.ntmps15
  go_wp2_with fail
  go_loopw [7] (fun s7 wr => ∃ k : Nat, k ≤ n ∧ s7 = .int .i64 ((k : Int) - 1) ∧ flatS s l x y z n = flatS s l x y z k ∧ wr.cell? ⟨w.heap.size, 0, none⟩ = some (.int .i64 x) ∧ wr.cell? ⟨w.heap.size, 1, none⟩ = some (.int .i64 y) ∧ wr.cell? ⟨w.heap.size, 2, none⟩ = some (.int .i64 z) ∧ ∃ f, wr = ext w f) (fun s7 _ => (intOf s7 + 1).toNat)
  case atStart => exact ⟨n, Nat.le_refl _, rfl, rfl, by go_simp, by go_simp, by go_simp, grown_of⟩
  case round =>
    obtain ⟨k, hk, rfl, hf, d0, d1, d2, _, hw⟩ := hrel
    rename World => w1
    haveI hb1 := named_below (w := w) hw
    have hc1 := named_cell hw
    haveI hi1 := named_in hw
    haveI := in_of_cell d0
    clear hw
    have F1 := Lib.hid hf
    clear hf
    rcases k with _ | k
    · have k1 : ¬ (0 : Int) ≤ ((0 : Nat) : Int) - 1 := by simp
      clear hk
      go_wp2_with fail
      refine (RB.out _).mono ?_
      rintro e w2 ⟨rfl, _t, hw⟩
      haveI hb2_1 := named_below (w := w1) hw
      have hc2 := named_cell hw
      have hz2 := named_frozen hw
      have hh2 := named_heap hw
      haveI hi2 := named_in hw
      haveI hb2 := named_below (w := w) hw
      clear hw
      go_wp2_with fail
      go_ret
      exact ⟨ret_int F1.out.symm, grown_of⟩
    · obtain ⟨g, rfl, q0, q1, q2, q3⟩ := HC.out k (by have := HN.out; omega)
      haveI := in_of_cell q0
      have HK := Lib.hid hk
      have hl : l[k]? = some (l[k]'(by have := HN.out; omega)) := List.getElem?_eq_getElem _
      generalize l[k]'(by have := HN.out; omega) = d at *
      obtain ⟨a, b, c, v⟩ := d
      have e1 : (((k + 1 : Nat) : Int) - 1) = (k : Int) := by omega
      rw [e1]
      have k0 : (0 : Int) ≤ (k : Int) := Int.natCast_nonneg _
      have k1 : (k : Int) < (n : Int) := by omega
      obtain ⟨eb, heb⟩ : ∃ eb, eqcS a b c x y z = eb := ⟨_, rfl⟩
      have F2 := Lib.hid (show flatS s l x y z (k + 1) = if eqcS a b c x y z then v else flatS s l x y z k by
        show (match l[k]? with | some d => if d.x = x ∧ d.y = y ∧ d.z = z then d.b else flatS s l x y z k | none => flatS s l x y z k) = _
        rw [hl]
        simp [eqcS])
      rw [heb] at F2
      clear hl hk
      dsimp only at q0 q1 q2 q3
      cases eb
      · go_wp2_with fail
        refine wp_region_ext ?_ ?_ ?_
        · kernel_rfl
        · kernel_rfl
        repeat (go_big_quiet_step (first | fail))
        refine wpQuiet_nil ?_
        rintro w2 ⟨_t, hw⟩
        have hc2 := named_cell hw
        have hz2 := named_frozen hw
        have hh2 := named_heap hw
        haveI hi2 := named_in hw
        haveI hb2 := named_below (w := w) hw
        clear hw
        go_wp2_with fail
        go_roundw
        case rel => exact ⟨k, by have := HK.out; omega, rfl, F1.out.trans (F2.out.trans (if_neg (by simp))), (hc2 _ _).trans d0, (hc2 _ _).trans d1, (hc2 _ _).trans d2, grown_of⟩
        case measure => simp [intOf]
      · go_wp2_with fail
        refine wp_region_ext ?_ ?_ ?_
        · kernel_rfl
        · kernel_rfl
        repeat (go_big_quiet_step (first | fail))
        refine wpQuiet_nil ?_
        rintro w2 ⟨_t, hw⟩
        have hc2 := named_cell hw
        have hz2 := named_frozen hw
        have hh2 := named_heap hw
        haveI hi2 := named_in hw
        haveI hb2 := named_below (w := w) hw
        clear hw
        go_wp2_with fail
        go_ret
        exact ⟨ret_int (F1.out.trans (F2.out.trans (by simp))).symm, grown_of⟩
#print axioms flat_any
end Go.Proofs.YtnogfelfgclajaaGreatDoor
end

section
namespace Go.Proofs.YtnogfelfgclajaaGreatDoor
open Go.RowKit
set_option maxRecDepth 1000000

/-- Set once, in the chunks' cells. -/
def setC (G : Ps → List Int) (d : Fl) : Ps → List Int := setP G (divS d.x 16, divS d.z 16) (idxS d.x d.y d.z).toNat d.b
/-- The first k of the cells set. -/
def setK (s : Int) (l : List Fl) : Nat → Ps → List Int
  | 0 => GrAt s
  | k + 1 => match l[k]? with
    | some d => setC (setK s l k) d
    | none => setK s l k
theorem setK_len (s : Int) (l : List Fl) : ∀ (k : Nat) (q : Ps), (setK s l k q).length = 8192
  | 0, q => by simp [setK, GrAt]
  | k + 1, q => by
    unfold setK
    cases h : l[k]? with
    | none => exact setK_len s l k q
    | some d =>
      show (setP _ _ _ _ q).length = 8192
      unfold setP
      split
      · rw [List.length_set]; exact setK_len s l k _
      · exact setK_len s l k q
theorem div16 (x : Int) : divS x 16 = x / 16 := by unfold divS; rw [if_neg (by omega)]
theorem md16 (x : Int) : modS x 16 = x % 16 := by unfold modS; rw [if_neg (by omega)]
theorem idx_is (x y z : Int) : idxS x y z = y * 256 + z % 16 * 16 + x % 16 := by unfold idxS; rw [md16, md16]
theorem blk_idx (s x y z : Int) (i : Nat) (hi : (i : Int) = idxS x y z) : blkS s (divS x 16) (divS z 16) i = ofS y (groundS s x z) := by
  rw [idx_is] at hi
  unfold blkS
  rw [div16, div16, hi, show (y * 256 + z % 16 * 16 + x % 16) / 256 = y by omega, show x / 16 * 16 + (y * 256 + z % 16 * 16 + x % 16) % 16 = x by omega,
    show z / 16 * 16 + (y * 256 + z % 16 * 16 + x % 16) / 16 % 16 = z by omega]
theorem cell_same {a b c x y z : Int} (hp : (divS x 16, divS z 16) = (divS a 16, divS c 16)) (hi : idxS x y z = idxS a b c) : a = x ∧ b = y ∧ c = z := by
  rw [div16, div16, div16, div16] at hp
  injection hp with h1 h2
  rw [idx_is, idx_is] at hi
  refine ⟨by omega, by omega, by omega⟩
/-- What the chunks have, a flat world has. -/
theorem flat_law (s : Int) (l : List Fl) (hl : ∀ d ∈ l, 0 ≤ d.y ∧ d.y ≤ 31) (x y z : Int) (h0 : 0 ≤ y) : ∀ k, cellG (setK s l k) x y z = flatS s l x y z k := by
  by_cases hy : 31 < y
  · intro k
    rw [cellG_top hy]
    induction k with
    | zero => exact (if_pos hy).symm
    | succ k ih =>
      unfold flatS
      cases h : l[k]? with
      | none => exact ih
      | some d =>
        have := hl d (List.mem_of_getElem? h)
        show 0 = if d.x = x ∧ d.y = y ∧ d.z = z then d.b else flatS s l x y z k
        rw [if_neg (by omega)]
        exact ih
  · obtain ⟨i0, i1⟩ := idxS_bd (x := x) (z := z) h0 (by omega : y ≤ 31)
    have key : ∀ G : Ps → List Int, cellG G x y z = ((G (divS x 16, divS z 16))[(idxS x y z).toNat]?).getD 0 := fun G => by
      unfold cellG
      rw [if_neg (by omega), if_pos (by omega)]
    intro k
    induction k with
    | zero =>
      rw [key]
      show ((GrAt s (divS x 16, divS z 16))[(idxS x y z).toNat]?).getD 0 = blkC s x y z
      unfold GrAt blkC
      rw [if_neg hy, List.getElem?_map, List.getElem?_range (by omega)]
      exact blk_idx s x y z _ (by omega)
    | succ k ih =>
      unfold flatS setK
      cases h : l[k]? with
      | none => exact ih
      | some d =>
        have hd := hl d (List.mem_of_getElem? h)
        show cellG (setC (setK s l k) d) x y z = if d.x = x ∧ d.y = y ∧ d.z = z then d.b else flatS s l x y z k
        rw [key] at ih ⊢
        unfold setC setP
        by_cases hp : (divS x 16, divS z 16) = (divS d.x 16, divS d.z 16)
        · rw [if_pos hp, ← hp]
          by_cases hi : idxS x y z = idxS d.x d.y d.z
          · rw [if_pos (cell_same hp hi), ← hi, List.getElem?_set_self (by rw [setK_len]; omega)]
            rfl
          · obtain ⟨j0, j1⟩ := idxS_bd (x := d.x) (z := d.z) hd.1 hd.2
            rw [if_neg (by rintro ⟨rfl, rfl, rfl⟩; exact hi rfl), List.getElem?_set_ne (by omega)]
            exact ih
        · rw [if_neg hp, if_neg (by rintro ⟨rfl, rfl, rfl⟩; exact hp rfl)]
          exact ih
#print axioms flat_law
end Go.Proofs.YtnogfelfgclajaaGreatDoor
end
