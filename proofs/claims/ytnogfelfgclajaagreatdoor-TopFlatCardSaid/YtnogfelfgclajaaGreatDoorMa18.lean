/-
  A chunk: made, read, told of, changed.
  A table: where a chunk stands.
-/
import Derived.Test.YtnogfelfgclajaaGreatDoorMa17
import Derived.Test.YtnogfelfgclajaaGreatDoorMa11
section
namespace Go.Proofs.YtnogfelfgclajaaGreatDoor
open Go.RowKit
attribute [local go_sem] ext_ext drew_ext ext_drew ext_cell ext_frozen in_lt in_le in_ne in_en in_ne1 in_en1 in_le1 in_ltn in_len in_nen in_enn size_le ite_max ite_min
set_option linter.unusedVariables false
set_option linter.unusedSimpArgs false

def eqpS (x z a c : Int) : Bool := decide (x = a ∧ z = c)
theorem eqp_any (x z a c : Int) (w : World) : (Op.equalIn 10000 35 (.agg #[.int .i64 x, .int .i64 z]) (.agg #[.int .i64 a, .int .i64 c])).run Tryz.prog w = .ok (eqpS x z a c) w := by
  simp [go_sem]
  unfold eqpS
  by_cases h1 : x = a <;> by_cases h2 : z = c <;> simp [h1, h2]
theorem eqpS_refl (x z : Int) : eqpS x z x z = true := by simp [eqpS]
attribute [local go_sem ↓] eqp_any
attribute [local go_sem] eqpS_refl
/-- A chunk of the call's own. -/
def MadeChunk (p : Ps) (rs : List Rn) (w : World) (e : Ending) (w' : World) : Prop := ∃ k rv, e = .returned (.pointer (some ⟨k, 0, none⟩)) ∧ ChunkAt w.heap.size w' k p rs rv ∧ ∃ f, w' = ext w f
def MadeChunk2 (p : Ps) (rs : List Rn) (w : World) (e : Ending) (w' : World) : Prop := ∃ k rv, e = .returned (.tuple #[.pointer (some ⟨k, 0, none⟩), .int .i64 0]) ∧ ChunkAt w.heap.size w' k p rs rv ∧ ∃ f, w' = ext w f
theorem ChunkAt.base {B B' : Nat} {w : World} {k : Nat} {p : Ps} {rs : List Rn} {rv : Value} (h : ChunkAt B w k p rs rv) (hb : B' ≤ B) : ChunkAt B' w k p rs rv :=
  ⟨h.blk, by have := h.lo; omega, owns_base h.own hb, h.fine⟩
theorem ChunkAt.grown {B : Nat} {w W : World} {k : Nat} {p : Ps} {rs : List Rn} {rv : Value} (h : ChunkAt B w k p rs rv) (hW : Below w.heap.size w W) : ChunkAt B W k p rs rv :=
  h.turn (turn_below (F := fun _ => False) hW) (fun _ _ _ _ => id) (fun _ _ _ _ => id)

theorem place_any (x z : Int) (w : World) : Calls Tryz.prog 126 #[.agg #[.int .i64 x, .int .i64 z]] w fun e w' => e = .returned (.agg #[.int .i64 x, .int .i64 z]) ∧ ∃ f, w' = ext w f := by
  go_enter Tryz.func126, Tryz.ntmps126
  go_wp2
  exact bodyPost_ret (by simp [results, Tryz.results126, go_sem]) rfl ⟨rfl, grown_of⟩
set_option maxRecDepth 100000 in
theorem placeindex_in (x y z : Int) (w : World) (hx : Fit x) (hz : Fit z) (h1 : 0 ≤ y) (h2 : y ≤ 31) :
    Calls Tryz.prog 128 #[.agg #[.int .i64 (divS x 16), .int .i64 (divS z 16)], .agg #[.int .i64 x, .int .i64 y, .int .i64 z]] w fun e w' => e = .returned (.tuple #[.int .i64 (idxS x y z), .bool true]) ∧ ∃ f, w' = ext w f := by
  go_enter Tryz.func128, Tryz.ntmps128
  go_wp2_with fail
  refine (index_in x y z _ hx hz h1 h2).mono ?_
  rintro e w1 ⟨rfl, _t, hw⟩
  have hc1 := named_cell hw
  have hz1 := named_frozen hw
  have hh1 := named_heap hw
  haveI hi1 := named_in hw
  haveI hb1 := named_below (w := w) hw
  clear hw
  go_wp2_with fail
  refine wp_region_ext ?_ ?_ ?_
  · kernel_rfl
  · kernel_rfl
  repeat (go_big_quiet_step (first | (go_at_call 81; exact ext_call (chunk_any x y z _ hx hz))))
  refine wpQuiet_nil ?_
  rintro w2 ⟨_t, hw⟩
  haveI hb2_1 := named_below (w := w1) hw
  have hc2 := named_cell hw
  have hz2 := named_frozen hw
  have hh2 := named_heap hw
  haveI hi2 := named_in hw
  haveI hb2 := named_below (w := w) hw
  clear hw
  go_wp2_with fail
  go_ret2
  exact ⟨rfl, grown_of⟩
set_option maxRecDepth 100000 in
theorem placeindex_out (x y z px pz : Int) (w : World) (hy : y < 0 ∨ 31 < y) :
    Calls Tryz.prog 128 #[.agg #[.int .i64 px, .int .i64 pz], .agg #[.int .i64 x, .int .i64 y, .int .i64 z]] w fun e w' => e = .returned (.tuple #[.int .i64 0, .bool false]) ∧ ∃ f, w' = ext w f := by
  have IX := fun W => index_out x y z W hy
  clear hy
  go_enter Tryz.func128, Tryz.ntmps128
  go_wp2_with fail
  refine (IX _).mono ?_
  rintro e w1 ⟨rfl, _t, hw⟩
  have hc1 := named_cell hw
  have hz1 := named_frozen hw
  have hh1 := named_heap hw
  haveI hi1 := named_in hw
  haveI hb1 := named_below (w := w) hw
  clear hw
  go_wp2_with fail
  refine wp_region_ext ?_ ?_ ?_
  · kernel_rfl
  · kernel_rfl
  repeat (go_big_quiet_step (first | fail))
  refine wpQuiet_nil ?_
  rintro w2 ⟨_t, hw⟩
  haveI hb2_1 := named_below (w := w1) hw
  have hc2 := named_cell hw
  have hz2 := named_frozen hw
  have hh2 := named_heap hw
  haveI hi2 := named_in hw
  haveI hb2 := named_below (w := w) hw
  clear hw
  go_wp2_with fail
  go_ret2
  exact ⟨rfl, grown_of⟩
theorem runs_of_owns {B : Nat} {w : World} {rs : List Rn} {rv : Value} (h : w.ownsRow B 235 2 rv rs.length (rV rs)) (h0 : 0 < rs.length) : ∃ g cap, rv = .slice (some ⟨g, 0, none⟩) rs.length cap ∧ RunsAt w g rs := by
  obtain ⟨g, cap, rfl, _, _, _, hc⟩ := owns_some h h0
  exact ⟨g, cap, rfl, hc⟩
/-- The chunk's cell. -/
theorem at_cells {rs : List Rn} (h : Fine rs) (i : Int) (i0 : 0 ≤ i) (i1 : i < 8192) : (cellsR rs)[i.toNat]? = some (atG rs i) := by
  rw [atG_cells rs h.nonneg i i0]
  have : i.toNat < (cellsR rs).length := by rw [h.cells]; omega
  rw [List.getElem?_eq_getElem this]
  rfl
set_option maxRecDepth 100000 in
set_option maxHeartbeats 1000000 in
theorem chunkat_in (B k : Nat) (rs : List Rn) (rv : Value) (x y z : Int) (w : World) (h : ChunkAt B w k (divS x 16, divS z 16) rs rv) (hx : Fit x) (hz : Fit z) (h1 : 0 ≤ y) (h2 : y ≤ 31) :
    Calls Tryz.prog 82 #[.pointer (some ⟨k, 0, none⟩), .agg #[.int .i64 x, .int .i64 y, .int .i64 z]] w fun e w' => e = .returned (.tuple #[.int .i64 (atG rs (idxS x y z)), .bool true]) ∧ ∃ f, w' = ext w f := by
  obtain ⟨g, cap, rfl, hr⟩ := runs_of_owns h.own h.fine.full
  have c0 := cell_of_block (i := 0) h.blk rfl
  have c1 := cell_of_block (i := 1) h.blk rfl
  have c2 := cell_of_block (i := 2) h.blk rfl
  haveI := in_of_cell c0
  obtain ⟨b0, b1⟩ := idxS_bd (x := x) (z := z) h1 h2
  have AT := fun W (hW : ∃ f, W = ext w f) => runsat_any rs (idxS x y z) g cap W h.fine.rb h.fine.full (hr.grown hW) b0 (by omega)
  clear hr h b0 b1
  go_enter Tryz.func82, Tryz.ntmps82
  go_wp2_with fail
  refine wp_region_ext ?_ ?_ ?_
  · kernel_rfl
  · kernel_rfl
  repeat (go_big_quiet_step (first | (go_at_call 128; exact ext_call (placeindex_in x y z _ hx hz h1 h2))))
  refine wpQuiet_nil ?_
  rintro w1 ⟨_t, hw⟩
  have hc1 := named_cell hw
  have hz1 := named_frozen hw
  have hh1 := named_heap hw
  haveI hi1 := named_in hw
  haveI hb1 := named_below (w := w) hw
  clear hw
  go_wp2_with fail
  refine (AT _ (by exact grown_of)).mono ?_
  rintro e w2 ⟨rfl, _t, hw⟩
  haveI hb2_1 := named_below (w := w1) hw
  have hc2 := named_cell hw
  have hz2 := named_frozen hw
  have hh2 := named_heap hw
  haveI hi2 := named_in hw
  haveI hb2 := named_below (w := w) hw
  clear hw
  go_wp2_with fail
  go_ret2
  exact ⟨rfl, grown_of⟩
set_option maxRecDepth 100000 in
set_option maxHeartbeats 1000000 in
theorem chunkat_out (B k : Nat) (p : Ps) (rs : List Rn) (rv : Value) (x y z : Int) (w : World) (h : ChunkAt B w k p rs rv) (hy : y < 0 ∨ 31 < y) :
    Calls Tryz.prog 82 #[.pointer (some ⟨k, 0, none⟩), .agg #[.int .i64 x, .int .i64 y, .int .i64 z]] w fun e w' => e = .returned (.tuple #[.int .i64 0, .bool false]) ∧ ∃ f, w' = ext w f := by
  have c0 := cell_of_block (i := 0) h.blk rfl
  have c1 := cell_of_block (i := 1) h.blk rfl
  haveI := in_of_cell c0
  have IX := fun W => placeindex_out x y z p.1 p.2 W hy
  clear h hy
  go_enter Tryz.func82, Tryz.ntmps82
  go_wp2_with fail
  refine wp_region_ext ?_ ?_ ?_
  · kernel_rfl
  · kernel_rfl
  repeat (go_big_quiet_step (first | (go_at_call 128; exact ext_call (IX _))))
  refine wpQuiet_nil ?_
  rintro w1 ⟨_t, hw⟩
  have hc1 := named_cell hw
  have hz1 := named_frozen hw
  have hh1 := named_heap hw
  haveI hi1 := named_in hw
  haveI hb1 := named_below (w := w) hw
  clear hw
  go_wp2_with fail
  go_ret2
  exact ⟨rfl, grown_of⟩
set_option maxRecDepth 100000 in
set_option maxHeartbeats 1000000 in
theorem chunknew_any (p : Ps) (rs : List Rn) (rv : Value) (B : Nat) (w : World) (ho : w.ownsRow B 235 2 rv rs.length (rV rs)) (h : Fine rs) :
    Calls Tryz.prog 139 #[.agg #[.int .i64 p.1, .int .i64 p.2], rv] w (MadeChunk2 p rs w) := by
  obtain ⟨g, cap, rfl, hr⟩ := runs_of_owns ho h.full
  have HF := Lib.hid h
  have HR := Lib.hid hr
  have MA := fun W (hW : ∃ f, W = ext w f) => runsmay_any rs g cap W h (hr.grown hW)
  have CL := fun W (hW : ∃ f, W = ext w f) => cloneruns_any rs g cap W h.full (by have := h.short; omega) (hr.grown hW)
  clear ho h hr
  go_enter Tryz.func139, Tryz.ntmps139
  go_wp2_with fail
  refine (MA _ (by exact grown_of)).mono ?_
  rintro e w1 ⟨rfl, _t, hw⟩
  have hc1 := named_cell hw
  have hz1 := named_frozen hw
  have hh1 := named_heap hw
  haveI hi1 := named_in hw
  haveI hb1 := named_below (w := w) hw
  clear hw
  go_wp2_with fail
  go_region_law
    (first
      | (go_simp; go_at_call 182; refine (CL _ (by exact grown_of)).mono ?_; rintro e w2 ⟨v2, rfl, ho2, _t, hw⟩
         haveI hg2 := named_grown hw
         haveI hb2 := named_below (w := w) hw
         (try haveI hb21 := named_below (w := w1) hw)
         have hc2 := named_cell hw
         haveI hi2 := named_in hw
         have O2 := Lib.hid ho2
         clear hw ho2
         obtain ⟨og2, cp2, rfl⟩ := owns_form O2.out))
  all_goals
    go_wp2_with fail
    go_ret2
    refine ⟨_, _, rfl, ⟨heap_alloc_new _ _, ?_, ?_, HF.out⟩, grown_of⟩
    · exact (grown_now (w := w) (W := w2)).size
    · exact owns_base (owns_grown O2.out (by exact grown_of)) (by exact (grown_now (w := w)).size)
set_option maxRecDepth 100000 in
set_option maxHeartbeats 1000000 in
theorem chunkmake_any (s : Int) (p : Ps) (w : World) (hp : Pl p.1 p.2) :
    Calls Tryz.prog 96 #[.int .i64 s, .agg #[.int .i64 p.1, .int .i64 p.2]] w (MadeChunk p (rleN (blkS s p.1 p.2) 8192) w) := by
  have HF := Lib.hid (gr_fine s p).1
  have GE := fun W => genchunk_any s p.1 p.2 W hp
  clear hp
  generalize rleN (blkS s p.1 p.2) 8192 = rs at *
  go_enter Tryz.func96, Tryz.ntmps96
  go_wp2_with fail
  go_region_law
    (first
      | (go_simp; go_at_call 140; refine (GE _).mono ?_; rintro e w2 ⟨v2, rfl, ho2, _t, hw⟩
         haveI hg2 := named_grown hw
         haveI hb2 := named_below (w := w) hw
         have hc2 := named_cell hw
         haveI hi2 := named_in hw
         have O2 := Lib.hid ho2
         clear hw ho2
         obtain ⟨og2, cp2, rfl⟩ := owns_form O2.out))
  all_goals
    go_wp2_with fail
    go_ret
    refine ⟨_, _, rfl, ⟨heap_alloc_new _ _, ?_, ?_, HF.out⟩, grown_of⟩
    · exact (grown_now (w := w) (W := w2)).size
    · exact owns_base (owns_grown O2.out (by exact grown_of)) (by exact (grown_now (w := w)).size)
set_option maxRecDepth 100000 in
set_option maxHeartbeats 1000000 in
theorem chunkread_any (p : Ps) (rs : List Rn) (g o c : Nat) (w : World) (h : Fine rs) (hcl : (codeW rs).length ≤ c) (hc : BytesAt w g o (codeW rs)) :
    Calls Tryz.prog 95 #[.agg #[.int .i64 p.1, .int .i64 p.2], .slice (some ⟨g, o, none⟩) (codeW rs).length c] w (MadeChunk2 p rs w) := by
  have RD := fun W (hW : ∃ f, W = ext w f) => coderead_any rs g o c W h hcl (hc.grown hW)
  have HF := Lib.hid h
  clear h hcl hc
  go_enter Tryz.func95, Tryz.ntmps95
  go_wp2_with fail
  refine (RD _ (by exact grown_of)).mono ?_
  rintro e w1 ⟨v1, rfl, ho1, _t, hw⟩
  have hc1 := named_cell hw
  have hz1 := named_frozen hw
  have hh1 := named_heap hw
  haveI hi1 := named_in hw
  haveI hb1 := named_below (w := w) hw
  clear hw
  have O1 := Lib.hid ho1
  clear ho1 RD
  go_wp2_with fail
  refine (chunknew_any p rs v1 w.heap.size _ (owns_base O1.out (by simp)) HF.out).mono ?_
  rintro e w2 ⟨k, rv, rfl, hk, _t, hw⟩
  haveI hg2 := named_grown hw
  haveI hb2 := named_below (w := w) hw
  have H2 := Lib.hid (hk.base (grown_now (w := w) (W := w1)).size)
  clear hw hk
  go_wp2_with fail
  go_ret2
  exact ⟨k, rv, rfl, H2.out, grown_of⟩
theorem chunkread_nil (p : Ps) (w : World) : Calls Tryz.prog 95 #[.agg #[.int .i64 p.1, .int .i64 p.2], .slice none 0 0] w fun e w' => e = .returned (.tuple #[.pointer none, .int .i64 3]) ∧ ∃ f, w' = ext w f := by
  go_enter Tryz.func95, Tryz.ntmps95
  go_wp2_with fail
  refine (coderead_nil _).mono ?_
  rintro e w1 ⟨rfl, _t, hw⟩
  have hc1 := named_cell hw
  have hz1 := named_frozen hw
  have hh1 := named_heap hw
  haveI hi1 := named_in hw
  haveI hb1 := named_below (w := w) hw
  clear hw
  go_wp2_with fail
  go_ret2
  exact ⟨rfl, grown_of⟩
/-- Bytes of the call's own. -/
def MadeOnly (l : List Nat) (w : World) (e : Ending) (w' : World) : Prop := ∃ v, e = .returned v ∧ w'.ownsRow w.heap.size 5 1 v l.length (bV l) ∧ ∃ f, w' = ext w f
set_option maxRecDepth 100000 in
theorem chunkbytes_any (B k : Nat) (p : Ps) (rs : List Rn) (rv : Value) (w : World) (h : ChunkAt B w k p rs rv) :
    Calls Tryz.prog 142 #[.pointer (some ⟨k, 0, none⟩)] w (MadeOnly (codeW rs) w) := by
  obtain ⟨g, cap, rfl, hr⟩ := runs_of_owns h.own h.fine.full
  have c2 := cell_of_block (i := 2) h.blk rfl
  haveI := in_of_cell c2
  have CW := codewrite_any rs g cap w h.fine hr
  clear h hr
  go_enter Tryz.func142, Tryz.ntmps142
  go_wp2_with fail
  refine (CW).mono ?_
  rintro e w1 ⟨v1, rfl, ho1, _t, hw⟩
  have hc1 := named_cell hw
  have hz1 := named_frozen hw
  have hh1 := named_heap hw
  haveI hi1 := named_in hw
  haveI hb1 := named_below (w := w) hw
  clear hw
  have O1 := Lib.hid ho1
  clear ho1 CW
  obtain ⟨og1, cp1, rfl⟩ := owns_form O1.out
  go_wp2_with fail
  go_ret
  exact ⟨_, rfl, O1.out, grown_of⟩
/-- A chunk with a cell set. -/
def SetChunk (B k : Nat) (p : Ps) (rs : List Rn) (w : World) (e : Ending) (w' : World) : Prop := e = .returned (.int .i64 0) ∧ (∃ rv, ChunkAt B w' k p rs rv) ∧ Turn (fun j => j = k) w w'
set_option maxRecDepth 100000 in
set_option maxHeartbeats 1000000 in
theorem chunkset_any (B k : Nat) (rs : List Rn) (rv : Value) (x y z b : Int) (w : World) (h : ChunkAt B w k (divS x 16, divS z 16) rs rv) (hB : B ≤ w.heap.size) (hx : Fit x) (hz : Fit z) (h1 : 0 ≤ y) (h2 : y ≤ 31) (hb : GoodB b) :
    Calls Tryz.prog 320 #[.pointer (some ⟨k, 0, none⟩), .agg #[.int .i64 x, .int .i64 y, .int .i64 z], .int .i64 b] w (SetChunk B k (divS x 16, divS z 16) (fillG rs (idxS x y z) (idxS x y z + 1) b) w) := by
  obtain ⟨g, cap, rfl, hr⟩ := runs_of_owns h.own h.fine.full
  have c0 := cell_of_block (i := 0) h.blk rfl
  have c1 := cell_of_block (i := 1) h.blk rfl
  have c2 := cell_of_block (i := 2) h.blk rfl
  have f2 := free_of_block 2 h.blk
  haveI := in_of_cell c0
  obtain ⟨b0, b1⟩ := idxS_bd (x := x) (z := z) h1 h2
  obtain ⟨i, hi⟩ := Int.eq_ofNat_of_zero_le b0
  rw [hi] at b1 ⊢
  have IX := fun W => placeindex_in x y z W hx hz h1 h2
  rw [hi] at IX
  have MB := fun W => may_any b hb W
  have ST := fun W (hW : ∃ f, W = ext w f) => runsset_any rs i b g cap W h.fine (by omega) hb (hr.grown hW)
  have HF := Lib.hid (fill_fine h.fine i b (by omega) hb)
  have HH := Lib.hid h
  have HB := Lib.hid hB
  clear hr h b0 b1 hi hb hB
  go_enter Tryz.func320, Tryz.ntmps320
  go_wp2_with fail
  refine wp_region_ext ?_ ?_ ?_
  · kernel_rfl
  · kernel_rfl
  repeat (go_big_quiet_step (first | (go_at_call 128; exact ext_call (IX _))))
  refine wpQuiet_nil ?_
  rintro w1 ⟨_t, hw⟩
  have hc1 := named_cell hw
  have hz1 := named_frozen hw
  have hh1 := named_heap hw
  haveI hi1 := named_in hw
  haveI hb1 := named_below (w := w) hw
  clear hw
  go_wp2_with fail
  refine (MB _).mono ?_
  rintro e w2 ⟨rfl, _t, hw⟩
  haveI hb2_1 := named_below (w := w1) hw
  have hc2 := named_cell hw
  have hz2 := named_frozen hw
  have hh2 := named_heap hw
  haveI hi2 := named_in hw
  haveI hb2 := named_below (w := w) hw
  clear hw
  go_wp2_with fail
  have B2 := Lib.hid (grown_now (w := w) (W := w2))
  refine (ST w2 (ext_of B2.out)).mono ?_
  rintro e w3 ⟨v3, rfl, ho3, _t, hw⟩
  haveI hb3_2 := named_below (w := w2) hw
  have hc3 := named_cell hw
  have hz3 := named_frozen hw
  have hh3 := named_heap hw
  haveI hi3 := named_in hw
  haveI hb3 := named_below (w := w) hw
  clear hw
  have O3 := Lib.hid ho3
  clear ho3
  obtain ⟨og3, cp3, rfl⟩ := owns_form O3.out
  have hk3 := (grown_now (w := w) (W := w3)).block _ (lt_of_block HH.out.blk)
  have K3 := Lib.hid (hk3.trans HH.out.blk)
  clear hk3
  go_wp2_with fail
  go_ret
  have hlt := lt_of_block HH.out.blk
  have hTT : Turn (fun j => j = k) w w3 := turn_below grown_now
  refine ⟨rfl, ⟨_, ⟨block_set K3.out _ (by simp), HH.out.lo, ?_, HF.out⟩⟩, hTT.setIn rfl _⟩
  refine ((Turn.refl (fun j => j = k) w3).setIn rfl _).owns (owns_base O3.out (by have := HB.out; have := B2.out.size; omega)) ?_
  rintro j hj rfl
  have := (O3.out.lt j hj).1
  have := B2.out.size
  omega
#print axioms chunkset_any
end Go.Proofs.YtnogfelfgclajaaGreatDoor
end

section
namespace Go.Proofs.YtnogfelfgclajaaGreatDoor
open Go.RowKit
attribute [local go_sem] ext_ext drew_ext ext_drew ext_cell ext_frozen in_lt in_le in_ne in_en in_ne1 in_en1 in_le1 in_ltn in_len in_nen in_enn size_le ite_max ite_min
set_option linter.unusedVariables false
set_option linter.unusedSimpArgs false
attribute [local go_sem ↓] eqp_any

theorem makefunc (fn : Fn) (first cap : Array Value) (w : World) : (Instr.makeFunc fn first cap).run Tryz.prog w = .ok (.func fn first cap) w := rfl
/-- A row of pointers, as the walk reads it. -/
def PtrsAt (w : World) (lv : Value) (its : List Nat) : Prop := ∃ og cap, lv = .slice og its.length cap ∧ its.length ≤ cap ∧ ∀ k (h : k < its.length), ∃ g, og = some ⟨g, 0, none⟩ ∧ w.cell? ⟨g, k, none⟩ = some (.pointer (some ⟨its[k], 0, none⟩))
theorem ptrs_at {B : Nat} {w : World} {T : TypeId} {lv : Value} {its : List Nat} (h : SRow B w T lv (ptrs its)) : PtrsAt w lv its := by
  rcases Nat.eq_zero_or_pos its.length with h0 | h0
  · rcases h with ⟨rfl, _⟩ | ⟨g, cap, cur, rfl, _, _, h1, _⟩
    · exact ⟨_, _, by rw [h0], by omega, fun k hk => by omega⟩
    · rw [ptrs_len] at h1 ⊢
      exact ⟨_, _, rfl, h1, fun k hk => by omega⟩
  · obtain ⟨g, cap, rfl, h1, _, _, _, hc⟩ := h.got (by rw [ptrs_len]; exact h0)
    rw [ptrs_len] at h1 ⊢
    exact ⟨_, _, rfl, h1, fun k hk => ⟨g, rfl, hc k _ (by simp [ptrs, hk])⟩⟩
theorem PtrsAt.ext {w : World} {lv : Value} {its : List Nat} (h : PtrsAt w lv its) (W : World) (hW : ∃ f, W = Go.Proofs.YtnogfelfgclajaaGreatDoor.ext w f) : PtrsAt W lv its := by
  obtain ⟨og, cap, e, h1, h2⟩ := h
  obtain ⟨f, rfl⟩ := hW
  refine ⟨og, cap, e, h1, fun k hk => ?_⟩
  obtain ⟨g, e1, h3⟩ := h2 k hk
  exact ⟨g, e1, ((ext_below w f).cell (p := ⟨g, k, none⟩) (World.block_lt_of_cell? w _ h3)).trans h3⟩
/-- The first index of which a test says yes; -1: there is none. -/
def FirstIx (n : Nat) (P : Nat → Bool) (r : Int) : Prop := (r = -1 ∧ ∀ j, j < n → P j = false) ∨ ∃ k : Nat, r = (k : Int) ∧ k < n ∧ P k = true ∧ ∀ j, j < k → P j = false
set_option maxRecDepth 100000 in
set_option maxHeartbeats 1000000 in
theorem indexfunc_any (its : List Nat) (P : Nat → Bool) (g : Nat) (caps : Array Value) (lv : Value) (r : Int) (w : World) (hn : its.length ≤ 1000) (hl : PtrsAt w lv its)
    (eg : ∀ args W, (callFunc g args).run Tryz.prog W = .ok (.enter g args) W)
    (hp : ∀ W, (∃ f, W = ext w f) → ∀ k (h : k < its.length), Calls Tryz.prog g (#[.pointer (some ⟨its[k], 0, none⟩)] ++ caps) W fun e w' => e = .returned (.bool (P k)) ∧ ∃ f, w' = ext W f)
    (hr : FirstIx its.length P r) :
    Calls Tryz.prog 124 #[lv, .func (.func g) #[] caps] w fun e w' => e = .returned (.int .i64 r) ∧ ∃ f, w' = ext w f := by
  obtain ⟨og, cap, rfl, _, hc⟩ := hl
  have HC := Lib.hid hc
  have HP := Lib.hid hp
  obtain ⟨n, hj⟩ : ∃ n, its.length = n := ⟨_, rfl⟩
  rw [hj] at hr hn ⊢
  have HR := Lib.hid hr
  have HJ := Lib.hid hj
  clear hc hp hr hj
  go_enter Tryz.func124, Tryz.ntmps124
  go_wp2_with fail
  go_loopw [5, 8] (fun _ s8 wr => ∃ k : Nat, k ≤ n ∧ s8 = .int .i64 k ∧ Hid (∀ j, j < k → P j = false) ∧ ∃ f, wr = ext w f) (fun _ s8 _ => n - (intOf s8).toNat)
  case atStart => exact ⟨0, by omega, rfl, Lib.hid (fun j hj => by omega), ⟨id, by unfold ext; split <;> rfl⟩⟩
  case round =>
    obtain ⟨k, hk, rfl, hA, _, hw⟩ := hrel
    rename World => w1
    haveI hg1 := named_grown hw
    have hc1 := named_cell hw
    haveI hb1 := named_below (w := w) hw
    haveI hi1 := named_in hw
    clear hw
    by_cases hlt : k < n
    · have hki : k < its.length := by have := HJ.out; omega
      obtain ⟨gb, rfl, d0⟩ := HC.out k (by omega)
      haveI := in_of_cell d0
      have HK := Lib.hid (And.intro hk hlt)
      have CL := HP.out w1 (by exact grown_of) k (by omega)
      generalize its[k] = it at *
      have k1 : (k : Int) < (n : Int) := by omega
      have k2 : (n : Int) ≤ 1000 := by omega
      clear hki hk hlt
      cases hP : P k with
      | true =>
        rw [hP] at CL
        have HX := Lib.hid hP
        clear hP
        go_wp2_with fail
        go_at_fn g
        refine CL.mono ?_
        rintro e w2 ⟨rfl, _t, hw⟩
        haveI hg2 := named_grown hw
        haveI hb2 := named_below (w := w) hw
        clear hw CL
        go_wp2_with fail
        go_ret
        refine ⟨?_, grown_of⟩
        rcases HR.out with ⟨_, h2⟩ | ⟨k', rfl, h2, h3, h4⟩
        · have := h2 k HK.out.2; rw [HX.out] at this; cases this
        · rcases Nat.lt_trichotomy k k' with h5 | h5 | h5
          · have := h4 k h5; rw [HX.out] at this; cases this
          · rw [h5]
            rfl
          · have := hA.out k' h5; rw [h3] at this; cases this
      | false =>
        rw [hP] at CL
        have HX := Lib.hid hP
        clear hP
        go_wp2_with fail
        go_at_fn g
        refine CL.mono ?_
        rintro e w2 ⟨rfl, _t, hw⟩
        haveI hg2 := named_grown hw
        haveI hb2 := named_below (w := w) hw
        clear hw CL
        go_wp2_with fail
        go_roundw
        case rel =>
          exact ⟨k + 1, by have := HK.out; omega, by go_num, Lib.hid (fun j hj => by
            by_cases e : j = k
            · subst e; exact HX.out
            · exact hA.out j (by omega)), grown_of⟩
        case measure => have := HK.out; simp [intOf]; omega
    · have k1 : ¬ (k : Int) < (n : Int) := by omega
      have HK : Hid (k = n) := Lib.hid (by omega)
      clear hlt hk
      go_wp2_with fail
      go_ret
      refine ⟨?_, grown_of⟩
      rcases HR.out with ⟨rfl, _⟩ | ⟨k', rfl, h2, h3, h4⟩
      · rfl
      · have := hA.out k' (by have := HK.out; omega); rw [h3] at this; cases this

/-- Is it this one? -/
theorem find1_any (B it k : Nat) (p : Ps) (d : Bool) (rs : List Rn) (rv : Value) (x z : Int) (pb : Nat) (w : World) (h : ItemAt B w it k p d rs rv) (h0 : w.cell? ⟨pb, 0, none⟩ = some (.int .i64 x)) (h1 : w.cell? ⟨pb, 1, none⟩ = some (.int .i64 z)) :
    Calls Tryz.prog 125 #[.pointer (some ⟨it, 0, none⟩), .pointer (some ⟨pb, 0, none⟩)] w fun e w' => e = .returned (.bool (eqpS p.1 p.2 x z)) ∧ ∃ f, w' = ext w f := by
  have c0 := cell_of_block (i := 0) h.blk rfl
  have k0 := cell_of_block (i := 0) h.chunk.blk rfl
  have k1 := cell_of_block (i := 1) h.chunk.blk rfl
  haveI := in_of_cell c0
  haveI := in_of_cell k0
  haveI := in_of_cell h0
  clear h
  go_enter Tryz.func125, Tryz.ntmps125
  go_wp2_with fail
  refine wp_region_ext ?_ ?_ ?_
  · kernel_rfl
  · kernel_rfl
  repeat (go_big_quiet_step (first | (go_at_call 126; exact ext_call (place_any _ _ _))))
  refine wpQuiet_nil ?_
  rintro w1 ⟨_t, hw⟩
  have hc1 := named_cell hw
  have hz1 := named_frozen hw
  have hh1 := named_heap hw
  haveI hi1 := named_in hw
  haveI hb1 := named_below (w := w) hw
  clear hw
  go_wp2_with fail
  go_ret
  exact ⟨rfl, grown_of⟩
/-- Where a chunk stands. -/
def IxOf (T : List (Ps × Bool)) (p : Ps) (r : Int) : Prop := (r = -1 ∧ ∀ c ∈ T, c.1 ≠ p) ∨ ∃ (k : Nat) (h : k < T.length), r = (k : Int) ∧ T[k].1 = p
theorem ix_ex (T : List (Ps × Bool)) (p : Ps) : ∃ r, IxOf T p r := by
  by_cases h : ∃ c ∈ T, c.1 = p
  · obtain ⟨c, hc, e⟩ := h
    obtain ⟨k, hk, rfl⟩ := List.getElem_of_mem hc
    exact ⟨k, .inr ⟨k, hk, rfl, e⟩⟩
  · exact ⟨-1, .inl ⟨rfl, fun c hc e => h ⟨c, hc, e⟩⟩⟩
theorem once_ix {T : List (Ps × Bool)} (h : (T.map (·.1)).Nodup) {i j : Nat} (hi : i < T.length) (hj : j < T.length) (e : T[i].1 = T[j].1) : i = j := by
  have h1 := List.nodup_iff_pairwise_ne.1 h
  rcases Nat.lt_trichotomy i j with h2 | h2 | h2
  · have := List.pairwise_iff_getElem.1 h1 i j (by simpa using hi) (by simpa using hj) h2
    simp at this
    exact absurd e this
  · exact h2
  · have := List.pairwise_iff_getElem.1 h1 j i (by simpa using hj) (by simpa using hi) h2
    simp at this
    exact absurd e.symm this
set_option maxRecDepth 100000 in
set_option maxHeartbeats 1000000 in
theorem find_any {B t q e st d mb N : Nat} {s lim : Int} {G : Ps → List Int} {T : List (Ps × Bool)} {lv : Value} {its : List Nat} {D : Int → Option (List Nat)} (w : World) (h : TabAt B w t s lim q e G T st d mb lv its D N) (x z : Int) (r : Int) (hr : IxOf T (x, z) r) :
    Calls Tryz.prog 80 #[.pointer (some ⟨t, 0, none⟩), .agg #[.int .i64 x, .int .i64 z]] w fun e w' => e = .returned (.int .i64 r) ∧ ∃ f, w' = ext w f := by
  have hmf := makefunc
  have c3 := cell_of_block (i := 3) h.tab rfl
  haveI := in_of_cell c3
  have hlen := h.items.len
  have hT : T.length ≤ 16 := by have := h.full; have := h.lim2; omega
  have FI : FirstIx its.length (fun k => if hk : k < T.length then eqpS T[k].1.1 T[k].1.2 x z else false) r := by
    rcases hr with ⟨rfl, h2⟩ | ⟨k, hk, rfl, h2⟩
    · refine .inl ⟨rfl, fun j hj => ?_⟩
      (try simp only)
      rw [dif_pos (by omega)]
      have h3 := h2 T[j] (List.getElem_mem _)
      unfold eqpS
      simp only [decide_eq_false_iff_not]
      rintro ⟨e1, e2⟩
      exact h3 (Prod.ext e1 e2)
    · refine .inr ⟨k, rfl, by omega, ?_, fun j hj => ?_⟩
      · (try simp only)
        rw [dif_pos hk, h2]
        exact eqpS_refl x z
      · (try simp only)
        rw [dif_pos (by omega)]
        unfold eqpS
        simp only [decide_eq_false_iff_not]
        rintro ⟨e1, e2⟩
        have h3 : T[j].1 = T[k].1 := by rw [h2]; exact Prod.ext e1 e2
        have := once_ix h.hold.once (by omega) hk h3
        omega
  have IX := fun W (hW : Below w.heap.size w W) pb (h0 : W.cell? ⟨pb, 0, none⟩ = some (.int .i64 x)) (h1 : W.cell? ⟨pb, 1, none⟩ = some (.int .i64 z)) =>
    indexfunc_any its _ 125 #[.pointer (some ⟨pb, 0, none⟩)] lv r W (by omega) ((ptrs_at h.row).ext W (ext_of hW)) (fun args W => by kernel_rfl) (fun W' hW' k hk => by
      obtain ⟨f, rfl⟩ := hW'
      have hb := ext_below W f
      have h2 := (h.items.turn (turn_below (F := fun _ => False) (hW.trans (hb.mono hW.size))) (fun _ _ _ _ => id) (fun _ _ _ _ => id) (fun _ _ _ _ => id)).get k hk (by omega)
      obtain ⟨k', rs, rv, h2, _⟩ := h2
      (try simp only)
      rw [dif_pos (by omega)]
      exact find1_any B its[k] k' _ _ rs rv x z pb _ h2 ((hb.cell (p := ⟨pb, 0, none⟩) (World.block_lt_of_cell? W _ h0)).trans h0) ((hb.cell (p := ⟨pb, 1, none⟩) (World.block_lt_of_cell? W _ h1)).trans h1)) FI
  have HX := Lib.hid IX
  clear IX FI h hr hT hlen
  go_enter Tryz.func80, Tryz.ntmps80
  go_wp2_with fail
  refine (HX.out _ (by exact grown_now) _ (by go_simp) (by go_simp)).mono ?_
  rintro e w1 ⟨rfl, _t, hw⟩
  have hc1 := named_cell hw
  have hz1 := named_frozen hw
  have hh1 := named_heap hw
  haveI hi1 := named_in hw
  haveI hb1 := named_below (w := w) hw
  clear hw
  go_wp2_with fail
  go_ret
  exact ⟨rfl, grown_of⟩
/-- No chunk is pinned. -/
theorem room1_any (B it k : Nat) (p : Ps) (d : Bool) (rs : List Rn) (rv : Value) (w : World) (h : ItemAt B w it k p d rs rv) :
    Calls Tryz.prog 135 #[.pointer (some ⟨it, 0, none⟩)] w fun e w' => e = .returned (.bool true) ∧ w = w' := by
  have c2 := cell_of_block (i := 2) h.blk rfl
  clear h
  go_enter Tryz.func135, Tryz.ntmps135
  go_wp2_with fail
  go_ret
  exact ⟨rfl, rfl⟩
#print axioms find_any
end Go.Proofs.YtnogfelfgclajaaGreatDoor
end
