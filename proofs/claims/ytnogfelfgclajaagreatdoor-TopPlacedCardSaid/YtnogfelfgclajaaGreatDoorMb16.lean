/-
  A table: a cell told.
  A table: a cell set.
  A cell's neighbours, a chunk and those beside it: what the Go functions hand back.
  A cell's six neighbours, as the Go function lays them down.
  What tells cells' blocks: a function value that answers so in every grown world; no more.
  A cell's neighbours, where the cell is near 0; those beside it.
-/
import Derived.Test.YtnogfelfgclajaaGreatDoorMb15
import Derived.Test.YtnogfelfgclajaaGreatDoorMb11
import Derived.Test.YtnogfelfgclajaaGreatDoorMb01
import Derived.Test.YtnogfelfgclajaaGreatDoorMb03
import Derived.LoopN
import Derived.Test.YtnogfelfgclajaaGreatDoorMb06
section
namespace Go.Proofs.YtnogfelfgclajaaGreatDoor
open Go.RowKit
attribute [local go_sem] ext_ext drew_ext ext_drew ext_cell ext_frozen in_lt in_le in_ne in_en in_ne1 in_en1 in_le1 in_ltn in_len in_nen in_enn size_le ite_max ite_min
set_option linter.unusedVariables false
set_option linter.unusedSimpArgs false

/-- Is a chunk here? -/
def hereB (T : List (Ps × Bool)) (p : Ps) : Bool := T.any (fun c => c.1 == p)
theorem here_yes {T : List (Ps × Bool)} {p : Ps} (h : ∃ c ∈ T, c.1 = p) : hereB T p = true := by
  obtain ⟨c, hc, e⟩ := h
  exact List.any_eq_true.2 ⟨c, hc, by simp [e]⟩
theorem here_no {T : List (Ps × Bool)} {p : Ps} (h : ∀ c ∈ T, c.1 ≠ p) : hereB T p = false := by
  unfold hereB
  rw [List.any_eq_false]
  intro c hc
  simp [h c hc]
/-- A cell of the flat world. -/
def cellG (G : Ps → List Int) (x y z : Int) : Int := if y < 0 then 1 else if y ≤ 31 then ((G (divS x 16, divS z 16))[(idxS x y z).toNat]?).getD 0 else 0
/-- What a table tells of a cell. -/
def viewT (G : Ps → List Int) (T : List (Ps × Bool)) (x y z : Int) : Int := if hereB T (divS x 16, divS z 16) then cellG G x y z else -1
theorem view_no {G : Ps → List Int} {T : List (Ps × Bool)} {x y z : Int} (h : ∀ c ∈ T, c.1 ≠ (divS x 16, divS z 16)) : viewT G T x y z = -1 := by
  unfold viewT
  rw [here_no h]
  rfl
theorem view_yes {G : Ps → List Int} {T : List (Ps × Bool)} {x y z : Int} (h : ∃ c ∈ T, c.1 = (divS x 16, divS z 16)) : viewT G T x y z = cellG G x y z := by
  unfold viewT
  rw [here_yes h]
  rfl
theorem cellG_low {G : Ps → List Int} {x y z : Int} (h : y < 0) : cellG G x y z = 1 := if_pos h
theorem cellG_top {G : Ps → List Int} {x y z : Int} (h : 31 < y) : cellG G x y z = 0 := by
  unfold cellG
  rw [if_neg (by omega), if_neg (by omega)]
theorem cellG_in {G : Ps → List Int} {x y z : Int} {rs : List Rn} (h0 : 0 ≤ y) (h1 : y ≤ 31) (hf : Fine rs) (hG : cellsR rs = G (divS x 16, divS z 16)) : cellG G x y z = atG rs (idxS x y z) := by
  obtain ⟨b0, b1⟩ := idxS_bd (x := x) (z := z) h0 h1
  unfold cellG
  rw [if_neg (by omega), if_pos h1, ← hG, at_cells hf _ b0 (by omega)]
  rfl
theorem ret_same {a b : Int} (h : a = b) : Ending.returned (.int .i64 a) = .returned (.int .i64 b) := by rw [h]
set_option maxRecDepth 100000 in
set_option maxHeartbeats 4000000 in
theorem tabat_any {B : Nat} {w : World} {t q e st d mb N : Nat} {s lim : Int} {G : Ps → List Int} {T : List (Ps × Bool)} {lv : Value} {its : List Nat} {D : Int → Option (List Nat)} (h : TabAt B w t s lim q e G T st d mb lv its D N) (x y z : Int) (hx : Fit x) (hz : Fit z) :
    Calls Tryz.prog 41 #[.pointer (some ⟨t, 0, none⟩), .agg #[.int .i64 x, .int .i64 y, .int .i64 z]] w fun en w' => en = .returned (.int .i64 (viewT G T x y z)) ∧ ∃ f, w' = ext w f := by
  obtain ⟨r, hr⟩ := ix_ex T (divS x 16, divS z 16)
  have c3 := cell_of_block (i := 3) h.tab rfl
  haveI := in_of_block h.tab
  have H := Lib.hid h
  have FI := Lib.hid (fun W (hW : Below w.heap.size w W) => find_any W (h.grown hW) (divS x 16) (divS z 16) r hr)
  rcases hr with ⟨rfl, hno⟩ | ⟨i, hi, rfl, he⟩
  · rw [view_no hno]
    clear h hno
    obtain ⟨og, cap, rfl⟩ := H.out.row.form
    go_enter Tryz.func41, Tryz.ntmps41
    go_wp2_with fail
    refine (chunk_any x y z _ hx hz).mono ?_
    rintro e w1 ⟨rfl, _t, hw⟩
    have hc1 := named_cell hw
    have hz1 := named_frozen hw
    have hh1 := named_heap hw
    haveI hi1 := named_in hw
    haveI hb1 := named_below (w := w) hw
    clear hw
    go_wp2_with fail
    refine (FI.out _ (by exact grown_now)).mono ?_
    rintro e w2 ⟨rfl, _t, hw⟩
    haveI hb2_1 := named_below (w := w1) hw
    have hc2 := named_cell hw
    have hz2 := named_frozen hw
    have hh2 := named_heap hw
    haveI hi2 := named_in hw
    haveI hb2 := named_below (w := w) hw
    clear hw
    clear FI
    go_wp2_with fail
    go_ret
    exact ⟨rfl, grown_of⟩
  · rw [view_yes ⟨T[i], List.getElem_mem _, he⟩]
    have hi2 : i < its.length := by rw [h.items.len]; exact hi
    obtain ⟨k, rs, rv, hit, hG⟩ := h.items.get i hi2 hi
    rw [he] at hit hG
    have e0 := cell_of_block (i := 0) hit.blk rfl
    obtain ⟨og, cap, rfl, hcp, hpt⟩ := ptrs_at h.row
    obtain ⟨g, rfl, d0⟩ := hpt i hi2
    have i0 : (0 : Int) ≤ (i : Int) := by omega
    have i1 : (i : Int) < (its.length : Int) := by omega
    have K := Lib.hid (And.intro hit.chunk hG)
    generalize its[i] = it at d0 e0
    haveI := in_of_cell d0
    haveI := in_of_cell e0
    clear h hpt he hit hG
    by_cases hy : y < 0
    · rw [cellG_low hy]
      go_enter Tryz.func41, Tryz.ntmps41
      go_wp2_with fail
      refine (chunk_any x y z _ hx hz).mono ?_
      rintro e w1 ⟨rfl, _t, hw⟩
      have hc1 := named_cell hw
      have hz1 := named_frozen hw
      have hh1 := named_heap hw
      haveI hi1 := named_in hw
      haveI hb1 := named_below (w := w) hw
      clear hw
      go_wp2_with fail
      refine (FI.out _ (by exact grown_now)).mono ?_
      rintro e w2 ⟨rfl, _t, hw⟩
      haveI hb2_1 := named_below (w := w1) hw
      have hc2 := named_cell hw
      have hz2 := named_frozen hw
      have hh2 := named_heap hw
      haveI hi2 := named_in hw
      haveI hb2 := named_below (w := w) hw
      clear hw
      clear FI
      go_wp2_with fail
      go_ret
      exact ⟨rfl, grown_of⟩
    · by_cases hy2 : y ≤ 31
      · have h0 : 0 ≤ y := by omega
        rw [cellG_in h0 hy2 K.out.1.fine K.out.2]
        have AT := fun W (hW : Below w.heap.size w W) => chunkat_in B k rs rv x y z W (K.out.1.grown hW) hx hz h0 hy2
        go_enter Tryz.func41, Tryz.ntmps41
        go_wp2_with fail
        refine (chunk_any x y z _ hx hz).mono ?_
        rintro e w1 ⟨rfl, _t, hw⟩
        have hc1 := named_cell hw
        have hz1 := named_frozen hw
        have hh1 := named_heap hw
        haveI hi1 := named_in hw
        haveI hb1 := named_below (w := w) hw
        clear hw
        go_wp2_with fail
        refine (FI.out _ (by exact grown_now)).mono ?_
        rintro e w2 ⟨rfl, _t, hw⟩
        haveI hb2_1 := named_below (w := w1) hw
        have hc2 := named_cell hw
        have hz2 := named_frozen hw
        have hh2 := named_heap hw
        haveI hi2 := named_in hw
        haveI hb2 := named_below (w := w) hw
        clear hw
        clear FI
        have B2 := Lib.hid (grown_now (w := w) (W := w2))
        go_wp2_with fail
        refine wp_region_ext ?_ ?_ ?_
        · kernel_rfl
        · kernel_rfl
        repeat (go_big_quiet_step (first | (go_at_call 82; exact ext_call (AT _ (B2.out.trans ((ext_below w2 _).mono B2.out.size))))))
        refine wpQuiet_nil ?_
        rintro w3 ⟨_t, hw⟩
        haveI hb3_2 := named_below (w := w2) hw
        have hc3 := named_cell hw
        have hz3 := named_frozen hw
        have hh3 := named_heap hw
        haveI hi3 := named_in hw
        haveI hb3 := named_below (w := w) hw
        clear hw
        go_wp2_with fail
        go_ret
        exact ⟨rfl, grown_of⟩
      · have h0 : 31 < y := by omega
        rw [cellG_top h0]
        have AT := fun W (hW : Below w.heap.size w W) => chunkat_out B k _ rs rv x y z W (K.out.1.grown hW) (.inr h0)
        go_enter Tryz.func41, Tryz.ntmps41
        go_wp2_with fail
        refine (chunk_any x y z _ hx hz).mono ?_
        rintro e w1 ⟨rfl, _t, hw⟩
        have hc1 := named_cell hw
        have hz1 := named_frozen hw
        have hh1 := named_heap hw
        haveI hi1 := named_in hw
        haveI hb1 := named_below (w := w) hw
        clear hw
        go_wp2_with fail
        refine (FI.out _ (by exact grown_now)).mono ?_
        rintro e w2 ⟨rfl, _t, hw⟩
        haveI hb2_1 := named_below (w := w1) hw
        have hc2 := named_cell hw
        have hz2 := named_frozen hw
        have hh2 := named_heap hw
        haveI hi2 := named_in hw
        haveI hb2 := named_below (w := w) hw
        clear hw
        clear FI
        have B2 := Lib.hid (grown_now (w := w) (W := w2))
        go_wp2_with fail
        refine wp_region_ext ?_ ?_ ?_
        · kernel_rfl
        · kernel_rfl
        repeat (go_big_quiet_step (first | (go_at_call 82; exact ext_call (AT _ (B2.out.trans ((ext_below w2 _).mono B2.out.size))))))
        refine wpQuiet_nil ?_
        rintro w3 ⟨_t, hw⟩
        haveI hb3_2 := named_below (w := w2) hw
        have hc3 := named_cell hw
        have hz3 := named_frozen hw
        have hh3 := named_heap hw
        haveI hi3 := named_in hw
        haveI hb3 := named_below (w := w) hw
        clear hw
        go_wp2_with fail
        go_ret
        exact ⟨rfl, grown_of⟩
#print axioms tabat_any
end Go.Proofs.YtnogfelfgclajaaGreatDoor
end

section
namespace Go.Proofs.YtnogfelfgclajaaGreatDoor
open Go.RowKit
attribute [local go_sem] ext_ext drew_ext ext_drew ext_cell ext_frozen in_lt in_le in_ne in_en in_ne1 in_en1 in_le1 in_ltn in_len in_nen in_enn size_le ite_max ite_min
set_option linter.unusedVariables false
set_option linter.unusedSimpArgs false

theorem tab_set {B : Nat} {w W : World} {t q e st d mb N : Nat} {s lim : Int} {G : Ps → List Int} {T : List (Ps × Bool)} {lv : Value} {its : List Nat} {D : Int → Option (List Nat)} (h : TabAt B w t s lim q e G T st d mb lv its D N) (i : Nat) (hi : i < its.length) (hj : i < T.length)
    {k : Nat} {rs rs' : List Rn} {rv rv' : Value} (hit : ItemAt B w its[i] k T[i].1 T[i].2 rs rv) (hG : cellsR rs = G T[i].1) (hT : Turn (fun x => x = its[i] ∨ x = k) w W) {d' : Bool} (hnew : ItemAt B W its[i] k T[i].1 d' rs' rv') {j : Nat} {b was : Int}
    (hw : (G T[i].1)[j]? = some was) (hb : GoodB b) (he : e ≤ 14) (hd : d' = (T[i].2 || !(was == b))) (hc : cellsR rs' = (G T[i].1).set j b) : TabAt B W t s lim q (e + 1) (setP G T[i].1 j b) (T.set i (T[i].1, d')) st d mb lv its D N := by
  have hF : ∀ (g : Nat) (c : Array Value) (T : TypeId) (fz : Nat × Nat), w.heap[g]? = some (.cells c T fz) → T ∉ [134, 187] → ¬ (g = its[i] ∨ g = k) := by
    rintro g c T fz hg hn (h1 | h1)
    · exact ne_ty hit.blk hg (fun e => hn (by simp [e])) h1
    · exact ne_ty hit.chunk.blk hg (fun e => hn (by simp [e])) h1
  have hmb : ¬ (mb = its[i] ∨ mb = k) := by
    rintro (h1 | h1)
    · exact h.dsk.map.cells hit.blk h1
    · exact h.dsk.map.cells hit.chunk.blk h1
  refine ⟨(hT.block _ (lt_of_block h.tab) (hF _ _ _ _ h.tab (by decide))).trans h.tab, (hT.block _ (lt_of_block h.sto) (hF _ _ _ _ h.sto (by decide))).trans h.sto, h.dsk.turn hT (hF _ _ _ _ h.dsk.blk (by decide)) hmb (fun g c fz hg => hF _ _ _ _ hg (by decide)),
    h.row.turn hT (fun g c fz hg => hF _ _ _ _ hg (by decide)), ?_, ?_, h.tlo, h.slo, h.lim1, h.lim2, by rw [List.length_set]; exact h.full, h.far, Nat.lt_of_lt_of_le h.qlt hT.size⟩
  · refine h.items.set hi ⟨k, rs', rv', hnew, ?_⟩ (fun m hm hm' hne hio => ?_)
    · rw [hc]; unfold setP; rw [if_pos rfl]
    · have hpos : T[m].1 ≠ T[i].1 := fun e => hne (once_ix h.hold.once hm' hj e)
      have hG' : setP G T[i].1 j b T[m].1 = G T[m].1 := by unfold setP; rw [if_neg hpos]
      rw [hG']
      obtain ⟨k2, rs2, rv2, h2, h3⟩ := hio
      have hk2 : k2 ≠ k := fun e => by
        subst e
        have e := h2.chunk.blk.symm.trans hit.chunk.blk
        injection e with e
        injection e with e _ _
        have e1 := congrArg (·[0]?) e
        have e2 := congrArg (·[1]?) e
        simp at e1 e2
        exact hpos (Prod.ext e1 e2)
      have hm2 : its[m] ≠ its[i] := items_ne h.items h.hold.once hm hi hne
      have n1 : ¬ (its[m] = its[i] ∨ its[m] = k) := by
        rintro (h1 | h1)
        · exact hm2 h1
        · exact ne_ty hit.chunk.blk h2.blk (by decide) h1
      have n2 : ¬ (k2 = its[i] ∨ k2 = k) := by
        rintro (h1 | h1)
        · exact ne_ty hit.blk h2.chunk.blk (by decide) h1
        · exact hk2 h1
      exact ⟨k2, rs2, rv2, ⟨(hT.block _ (lt_of_block h2.blk) n1).trans h2.blk, h2.lo, (hT.block _ (lt_of_block h2.chunk.blk) n2).trans h2.chunk.blk, h2.chunk.lo,
        hT.owns h2.chunk.own (fun g hg => by
          obtain ⟨g', cap, cur, rfl, hb, hgg, _⟩ := (h2.chunk.own.2).resolve_left (fun e => by have := e.2; have := h2.chunk.fine.full; omega)
          simp [Value.ownBlock] at hg
          subst hg
          exact hF _ _ _ _ hgg (by decide)), h2.chunk.fine⟩, h3⟩
  · have hti : T[i] = (T[i].1, T[i].2) := rfl
    have := Hold.set (p := T[i].1) (d := T[i].2) (T := T.eraseIdx i) (h.hold.perm (by exact idx_perm hj)) hb hw he
    rw [← hd] at this
    exact this.perm (set_perm hj _)
/-- A cell set. -/
def TabSet (B t : Nat) (s lim : Int) (q e : Nat) (G : Ps → List Int) (T : List (Ps × Bool)) (w : World) (en : Ending) (w' : World) : Prop :=
  en = .returned (.int .i64 0) ∧ (∃ T', TabOf B w' t s lim q e G T' ∧ Same T T') ∧ Turn (Ty B tyTab w) w w'
set_option maxRecDepth 100000 in
set_option maxHeartbeats 4000000 in
theorem tabset_any {B : Nat} {w : World} {t q e st d mb N : Nat} {s lim : Int} {G : Ps → List Int} {T : List (Ps × Bool)} {lv : Value} {its : List Nat} {D : Int → Option (List Nat)} (h : TabAt B w t s lim q e G T st d mb lv its D N) (x y z b : Int) (hx : Fit x) (hz : Fit z) (h0 : 0 ≤ y) (h1 : y ≤ 31) (hb : GoodB b) (he : e ≤ 14)
    (hh : ∃ c ∈ T, c.1 = (divS x 16, divS z 16)) (j : Nat) (hj : idxS x y z = (j : Int)) :
    Calls Tryz.prog 264 #[.pointer (some ⟨t, 0, none⟩), .agg #[.int .i64 x, .int .i64 y, .int .i64 z], .int .i64 b] w (TabSet B t s lim q (e + 1) (setP G (divS x 16, divS z 16) j b) T w) := by
  obtain ⟨c, hc, hcp⟩ := hh
  obtain ⟨i, hi, hci⟩ := List.getElem_of_mem hc
  have hip : T[i].1 = (divS x 16, divS z 16) := by rw [hci]; exact hcp
  have FI := Lib.hid (fun W (hW : Below w.heap.size w W) => find_any W (h.grown hW) (divS x 16) (divS z 16) (i : Int) (.inr ⟨i, hi, rfl, hip⟩))
  have MB := fun W => may_any b hb W
  have hi2 : i < its.length := by rw [h.items.len]; exact hi
  have TC := Lib.hid (fun W (hW : Below w.heap.size w W) => tabtouch_any (h.grown hW) i hi2 hi)
  haveI := in_of_block h.tab
  have H := Lib.hid h
  have HX := Lib.hid (And.intro hb he)
  have HJ := Lib.hid hj
  have i0 : (0 : Int) ≤ (i : Int) := by omega
  obtain ⟨b0, b1⟩ := idxS_bd (x := x) (z := z) h0 h1
  have IXI := fun W => index_in x y z W hx hz h0 h1
  -- the row behind the touch
  obtain ⟨T', hT'⟩ : ∃ T', T.eraseIdx i ++ [T[i]] = T' := ⟨_, rfl⟩
  obtain ⟨it, hit⟩ : ∃ it, its[i] = it := ⟨_, rfl⟩
  obtain ⟨its', hits'⟩ : ∃ its', its.eraseIdx i ++ [its[i]] = its' := ⟨_, rfl⟩
  have hlen : its.length = T.length := h.items.len
  obtain ⟨m, hm, hm', hTm, him⟩ : ∃ m, ∃ (hm : m < its'.length) (hm' : m < T'.length), T'[m] = T[i] ∧ its'[m] = it := by
    subst hT' hits' hit
    refine ⟨T.length - 1, by simp [List.length_eraseIdx]; split <;> omega, by simp [List.length_eraseIdx]; split <;> omega, ?_, ?_⟩
    · rw [List.getElem_append_right (by rw [List.length_eraseIdx]; split <;> omega)]
      simp
    · rw [List.getElem_append_right (by rw [List.length_eraseIdx]; split <;> omega)]
      simp
  rw [hits', hT', hit] at TC
  have HM := Lib.hid (And.intro hTm him)
  have HP := Lib.hid hip
  have KE := Lib.hid (show Same T T' from by rw [← hT']; exact same_perm (List.perm_append_comm.trans (idx_perm hi)))
  clear h hj hb hc hcp hci hlen hTm him hits' hit hT'
  go_enter Tryz.func264, Tryz.ntmps264
  go_wp2_with fail
  refine (chunk_any x y z _ hx hz).mono ?_
  rintro e w1 ⟨rfl, _t, hw⟩
  have hc1 := named_cell hw
  have hz1 := named_frozen hw
  have hh1 := named_heap hw
  haveI hi1 := named_in hw
  haveI hb1 := named_below (w := w) hw
  clear hw
  go_wp2_with fail
  refine (FI.out _ (by exact grown_now)).mono ?_
  rintro e w2 ⟨rfl, _t, hw⟩
  haveI hb2_1 := named_below (w := w1) hw
  have hc2 := named_cell hw
  have hz2 := named_frozen hw
  have hh2 := named_heap hw
  haveI hi2 := named_in hw
  haveI hb2 := named_below (w := w) hw
  clear hw
  go_wp2_with fail
  refine (IXI _).mono ?_
  rintro e w3 ⟨rfl, _t, hw⟩
  haveI hb3_1 := named_below (w := w1) hw
  haveI hb3_2 := named_below (w := w2) hw
  have hc3 := named_cell hw
  have hz3 := named_frozen hw
  have hh3 := named_heap hw
  haveI hi3 := named_in hw
  haveI hb3 := named_below (w := w) hw
  clear hw
  go_wp2_with fail
  refine (MB _).mono ?_
  rintro e w4 ⟨rfl, _t, hw⟩
  haveI hb4_1 := named_below (w := w1) hw
  haveI hb4_2 := named_below (w := w2) hw
  haveI hb4_3 := named_below (w := w3) hw
  have hc4 := named_cell hw
  have hz4 := named_frozen hw
  have hh4 := named_heap hw
  haveI hi4 := named_in hw
  haveI hb4 := named_below (w := w) hw
  clear hw
  have B4 := Lib.hid (grown_now (w := w) (W := w4))
  have P4 : Hid (w4.heap[w.heap.size]? = some (.cells #[.int .i64 x, .int .i64 y, .int .i64 z] 30 (0, 0))) := Lib.hid ((hh4 _).trans ((hh3 _).trans ((hh2 _).trans ((hh1 _).trans (heap_alloc_new w _)))))
  go_wp2_with fail
  refine (TC.out w4 B4.out).mono ?_
  rintro e5 w5 ⟨rfl, ⟨lv5, h5⟩, hT5⟩
  have P5' := (hT5.block _ (lt_of_block P4.out) (ty_no P4.out (by decide))).trans P4.out
  have p0 := cell_of_block (i := 0) P5' rfl
  have p1 := cell_of_block (i := 1) P5' rfl
  have p2 := cell_of_block (i := 2) P5' rfl
  haveI := in_of_cell p0
  obtain ⟨k, rs, rv, hI, hG⟩ := h5.items.get m hm hm'
  rw [HM.out.1, HP.out] at hG
  have hI2 := hI
  rw [HM.out.1, HP.out, HM.out.2] at hI2
  generalize hdd : T[i].2 = dd at hI2
  have DD := Lib.hid hdd
  have c0 := cell_of_block (i := 0) hI2.blk rfl
  have c1 := cell_of_block (i := 1) hI2.blk rfl
  have f1 := free_of_block 1 hI2.blk
  haveI := in_of_cell c0
  have AT := Lib.hid (fun W (hW : Below w5.heap.size w5 W) => chunkat_in B k rs rv x y z W (hI2.chunk.grown hW) hx hz h0 h1)
  have T5 := Lib.hid ((turn_below (F := Ty B tyTab w) B4.out).ty hT5)
  have H5 := Lib.hid h5
  have I5 := Lib.hid hI
  have J5 := Lib.hid hI2
  have G5 := Lib.hid hG
  have P5 := Lib.hid P5'
  clear P5' h5 hI hI2 hG hT5 hdd FI TC P4 B4
  obtain ⟨was, hwas⟩ : ∃ was, atG rs (idxS x y z) = was := ⟨_, rfl⟩
  rw [hwas] at AT
  have HW := Lib.hid hwas
  clear hwas
  go_wp2_with fail
  refine wp_region_ext ?_ ?_ ?_
  · kernel_rfl
  · kernel_rfl
  repeat (go_big_quiet_step (first | (go_at_call 82; exact ext_call (AT.out _ (ext_below w5 _)))))
  refine wpQuiet_nil ?_
  rintro w6 ⟨_t, hw⟩
  have hc6 := named_cell hw
  have hz6 := named_frozen hw
  have hh6 := named_heap hw
  haveI hi6 := named_in hw
  haveI hb6 := named_below (w := w5) hw
  clear hw
  have B6 := Lib.hid (grown_now (w := w5) (W := w6))
  have FIN := Lib.hid (show ∀ (d' : Bool) (w8 w9 : World) (rv' : Value), d' = (dd || !(was == b)) → Below w6.heap.size (w6.setCell ⟨it, 1, none⟩ (.bool d')) w8 → ChunkAt B w9 k (divS x 16, divS z 16) (fillG rs (idxS x y z) (idxS x y z + 1) b) rv' → Turn (fun j => j = k) w8 w9 →
      (∃ T', TabOf B w9 t s lim q (e + 1) (setP G (divS x 16, divS z 16) j b) T' ∧ Same T T') ∧ Turn (Ty B tyTab w) w w9 from fun d' w8 w9 rv' hd hW hk hT => by
    have h6 := H5.out.grown B6.out
    have i6 := I5.out.turn (turn_below (F := fun _ => False) B6.out) (fun _ _ _ _ => id) (fun _ _ _ _ => id) (fun _ _ _ _ => id)
    have j6 := J5.out.turn (turn_below (F := fun _ => False) B6.out) (fun _ _ _ _ => id) (fun _ _ _ _ => id) (fun _ _ _ _ => id)
    have hS : Turn (fun x => x = it ∨ x = k) w6 (w6.setCell ⟨it, 1, none⟩ (.bool d')) := (Turn.refl _ w6).setIn (.inl rfl) _
    have hT6 : Turn (fun x => x = it ∨ x = k) w6 w9 := (hS.trans (turn_below (F := fun _ => False) (hW.mono (by simp))) (fun _ _ h => h.elim)).trans hT (fun _ _ h => .inr h)
    have hit7 := block_set (i := 1) j6.blk (.bool d') (by simp)
    have hne : it ≠ k := fun e => ne_ty j6.chunk.blk j6.blk (by decide) e
    have hit9 : w9.heap[it]? = some (.cells #[.pointer (some ⟨k, 0, none⟩), .bool d', .int .i64 0] 134 (0, 0)) := (hT.block it (by have := lt_of_block hit7; have := hW.size; simp at *; omega) hne).trans ((hW.block it (lt_of_block j6.blk)).trans hit7)
    have key := tab_set h6 m hm hm' i6 (by rw [G5.out, HM.out.1, HP.out]) (by rw [HM.out.2]; exact hT6) (d' := d') (rs' := fillG rs (idxS x y z) (idxS x y z + 1) b) (rv' := rv') (by rw [HM.out.2, HM.out.1, HP.out]; exact ⟨hit9, j6.lo, hk⟩) (j := j) (b := b) (was := was)
      (by
        rw [HM.out.1, HP.out, ← G5.out, ← HW.out]
        have h2 := at_cells j6.chunk.fine (idxS x y z) b0 (by omega)
        rw [show (idxS x y z).toNat = j by rw [HJ.out]; rfl] at h2
        exact h2) HX.out.1 HX.out.2 (by rw [HM.out.1, DD.out]; exact hd)
      (by
        rw [HM.out.1, HP.out, ← G5.out, HJ.out]
        exact setG_cells rs j6.chunk.fine.nonneg j b (by rw [j6.chunk.fine.len, ← HJ.out]; omega))
    rw [HM.out.1, HP.out] at key
    refine ⟨⟨_, ⟨st, d, mb, _, _, D, N, key⟩, KE.out.trans (same_set hm' (by rw [HM.out.1, HP.out]) d')⟩, ?_⟩
    · refine T5.out.ty ((turn_below (F := Ty B tyTab w5) B6.out).ty (hT6.mono (fun x _ hx => ?_)))
      rcases hx with rfl | rfl
      · exact ty_yes j6.lo j6.blk (by decide)
      · exact ty_yes j6.chunk.lo j6.chunk.blk (by decide))
  have Q5 := Lib.hid (And.intro (show w6.cell? ⟨it, 0, none⟩ = some (.pointer (some ⟨k, 0, none⟩)) from (hc6 _ _).trans c0) (And.intro ((hc6 w.heap.size 0).trans p0) (And.intro ((hc6 w.heap.size 1).trans p1) ((hc6 w.heap.size 2).trans p2))))
  have K6 := Lib.hid (J5.out.chunk.grown B6.out)
  have N5 := Lib.hid (show ¬ it = k ∧ ¬ it = w.heap.size from ⟨fun e => ne_ty J5.out.chunk.blk J5.out.blk (by decide) e, fun e => by have := ne_ty (w := w5) J5.out.blk (g := w.heap.size) P5.out (by decide); exact this e.symm⟩)
  obtain ⟨d', hd'⟩ : ∃ d', (was != b) = d' := ⟨_, rfl⟩
  have HD := Lib.hid hd'
  cases dd
  · go_wp2_with fail
    have S7 := Lib.hid (show (w6.setCell ⟨it, 1, none⟩ (.bool d')).cell? ⟨it, 0, none⟩ = some (.pointer (some ⟨k, 0, none⟩)) ∧ (w6.setCell ⟨it, 1, none⟩ (.bool d')).cell? ⟨w.heap.size, 0, none⟩ = some (.int .i64 x) ∧ (w6.setCell ⟨it, 1, none⟩ (.bool d')).cell? ⟨w.heap.size, 1, none⟩ = some (.int .i64 y) ∧ (w6.setCell ⟨it, 1, none⟩ (.bool d')).cell? ⟨w.heap.size, 2, none⟩ = some (.int .i64 z) from
      ⟨by rw [World.cell?_setCell_other _ _ _ _ (by simp)]; exact Q5.out.1, by rw [World.cell?_setCell_other _ _ _ _ (by have := N5.out.2; first | (simp; done) | (simp; exact fun e => absurd e.symm this))]; exact Q5.out.2.1, by rw [World.cell?_setCell_other _ _ _ _ (by have := N5.out.2; first | (simp; done) | (simp; exact fun e => absurd e.symm this))]; exact Q5.out.2.2.1, by rw [World.cell?_setCell_other _ _ _ _ (by have := N5.out.2; first | (simp; done) | (simp; exact fun e => absurd e.symm this))]; exact Q5.out.2.2.2⟩)
    have K7 := Lib.hid (K6.out.turn ((Turn.refl (fun j => j = it) w6).setIn (a := ⟨it, 1, none⟩) rfl (.bool d')) (fun g c fz hg => ne_ty (w := w6) ((B6.out.block it (lt_of_block J5.out.blk)).trans J5.out.blk) hg (by decide)) (fun g c fz hg => ne_ty (w := w6) ((B6.out.block it (lt_of_block J5.out.blk)).trans J5.out.blk) hg (by decide)))
    have Z7 := Lib.hid (show (w6.setCell ⟨it, 1, none⟩ (.bool d')).heap.size = w6.heap.size by simp)
    have FIN7 := Lib.hid (fun (w8 w9 : World) (rv' : Value) => FIN.out d' w8 w9 rv' (by rw [← HD.out]; simp [bne]))
    clear FIN
    generalize w6.setCell ⟨it, 1, none⟩ (.bool d') = w7 at *
    obtain ⟨q0, q1, q2, q3⟩ := S7.out
    haveI := in_of_cell q0
    haveI := in_of_cell q1
    haveI := in_of_cell (cell_of_block (i := 0) K7.out.blk rfl)
    refine wp_region_ext_tail 6 ?_ ?_ ?_
    · kernel_rfl
    · kernel_rfl
    simp only [List.take_succ_cons, List.take_zero, List.drop_succ_cons, List.drop_zero]
    repeat (go_big_quiet_step (first | fail))
    refine wpQuiet_nil ?_
    rintro w8 ⟨_t, hw⟩
    have hc8 := named_cell hw
    have hz8 := named_frozen hw
    have hh8 := named_heap hw
    haveI hi8 := named_in hw
    haveI hb8 := named_below (w := w7) hw
    clear hw
    have B8 := Lib.hid (grown_now (w := w7) (W := w8))
    have CS := Lib.hid (chunkset_any B k rs rv x y z b w8 (K7.out.grown B8.out) (by have := K7.out.lo; have := lt_of_block K7.out.blk; have := B8.out.size; omega) hx hz h0 h1 HX.out.1)
    go_wp2_with fail
    refine CS.out.mono ?_
    rintro e9 w9 ⟨rfl, ⟨rv9, hk9⟩, hT9⟩
    have F9 := Lib.hid (FIN7.out w8 w9 rv9 (by rw [← Z7.out]; exact B8.out) hk9 hT9)
    clear hk9 hT9 CS
    go_wp2_with fail
    go_ret
    exact ⟨rfl, F9.out.1, F9.out.2⟩
  · go_wp2_with fail
    have S7 := Lib.hid (show (w6.setCell ⟨it, 1, none⟩ (.bool true)).cell? ⟨it, 0, none⟩ = some (.pointer (some ⟨k, 0, none⟩)) ∧ (w6.setCell ⟨it, 1, none⟩ (.bool true)).cell? ⟨w.heap.size, 0, none⟩ = some (.int .i64 x) ∧ (w6.setCell ⟨it, 1, none⟩ (.bool true)).cell? ⟨w.heap.size, 1, none⟩ = some (.int .i64 y) ∧ (w6.setCell ⟨it, 1, none⟩ (.bool true)).cell? ⟨w.heap.size, 2, none⟩ = some (.int .i64 z) from
      ⟨by rw [World.cell?_setCell_other _ _ _ _ (by simp)]; exact Q5.out.1, by rw [World.cell?_setCell_other _ _ _ _ (by have := N5.out.2; first | (simp; done) | (simp; exact fun e => absurd e.symm this))]; exact Q5.out.2.1, by rw [World.cell?_setCell_other _ _ _ _ (by have := N5.out.2; first | (simp; done) | (simp; exact fun e => absurd e.symm this))]; exact Q5.out.2.2.1, by rw [World.cell?_setCell_other _ _ _ _ (by have := N5.out.2; first | (simp; done) | (simp; exact fun e => absurd e.symm this))]; exact Q5.out.2.2.2⟩)
    have K7 := Lib.hid (K6.out.turn ((Turn.refl (fun j => j = it) w6).setIn (a := ⟨it, 1, none⟩) rfl (.bool true)) (fun g c fz hg => ne_ty (w := w6) ((B6.out.block it (lt_of_block J5.out.blk)).trans J5.out.blk) hg (by decide)) (fun g c fz hg => ne_ty (w := w6) ((B6.out.block it (lt_of_block J5.out.blk)).trans J5.out.blk) hg (by decide)))
    have Z7 := Lib.hid (show (w6.setCell ⟨it, 1, none⟩ (.bool true)).heap.size = w6.heap.size by simp)
    have FIN7 := Lib.hid (fun (w8 w9 : World) (rv' : Value) => FIN.out true w8 w9 rv' (by simp))
    clear FIN
    generalize w6.setCell ⟨it, 1, none⟩ (.bool true) = w7 at *
    obtain ⟨q0, q1, q2, q3⟩ := S7.out
    haveI := in_of_cell q0
    haveI := in_of_cell q1
    haveI := in_of_cell (cell_of_block (i := 0) K7.out.blk rfl)
    refine wp_region_ext_tail 6 ?_ ?_ ?_
    · kernel_rfl
    · kernel_rfl
    simp only [List.take_succ_cons, List.take_zero, List.drop_succ_cons, List.drop_zero]
    repeat (go_big_quiet_step (first | fail))
    refine wpQuiet_nil ?_
    rintro w8 ⟨_t, hw⟩
    have hc8 := named_cell hw
    have hz8 := named_frozen hw
    have hh8 := named_heap hw
    haveI hi8 := named_in hw
    haveI hb8 := named_below (w := w7) hw
    clear hw
    have B8 := Lib.hid (grown_now (w := w7) (W := w8))
    have CS := Lib.hid (chunkset_any B k rs rv x y z b w8 (K7.out.grown B8.out) (by have := K7.out.lo; have := lt_of_block K7.out.blk; have := B8.out.size; omega) hx hz h0 h1 HX.out.1)
    go_wp2_with fail
    refine CS.out.mono ?_
    rintro e9 w9 ⟨rfl, ⟨rv9, hk9⟩, hT9⟩
    have F9 := Lib.hid (FIN7.out w8 w9 rv9 (by rw [← Z7.out]; exact B8.out) hk9 hT9)
    clear hk9 hT9 CS
    go_wp2_with fail
    go_ret
    exact ⟨rfl, F9.out.1, F9.out.2⟩
#print axioms tabset_any
end Go.Proofs.YtnogfelfgclajaaGreatDoor
end

section
namespace Go.Proofs.YtnogfelfgclajaaGreatDoor
open Go.RowKit
attribute [local go_sem] ext_ext drew_ext ext_drew ext_cell ext_frozen in_lt in_le in_ne in_en in_ne1 in_en1 in_le1 in_ltn in_len in_nen in_enn size_le ite_max ite_min
set_option linter.unusedVariables false
set_option linter.unusedSimpArgs false
attribute [local go_sem] cutS_fold cutS_cutS


theorem near1_any (x y z a b c : Int) (g : Nat) (w : World) (h0 : w.cell? ⟨g, 0, none⟩ = some (.int .i64 a)) (h1 : w.cell? ⟨g, 1, none⟩ = some (.int .i64 b)) (h2 : w.cell? ⟨g, 2, none⟩ = some (.int .i64 c))
    (x1 : -1 ≤ x) (x2 : x ≤ 1) (y1 : -1 ≤ y) (y2 : y ≤ 1) (z1 : -1 ≤ z) (z2 : z ≤ 1) :
    Calls Tryz.prog 257 #[.int .i64 x, .int .i64 y, .int .i64 z, .pointer (some ⟨g, 0, none⟩)] w fun e w' => e = .returned (.agg #[.int .i64 (cutS (cutS a + x)), .int .i64 (cutS (cutS b + y)), .int .i64 (cutS (cutS c + z))]) ∧ ∃ f, w' = ext w f := by
  haveI := in_of_cell h0
  obtain ⟨a1, a2⟩ := cutS_bd a
  obtain ⟨b1, b2⟩ := cutS_bd b
  obtain ⟨c1, c2⟩ := cutS_bd c
  go_enter Tryz.func257, Tryz.ntmps257
  go_wp2_with fail
  first | (with_reducible refine wp_region_ext_tail_on 17 ?_ ?_ ?_) | refine wp_region_ext_tail 17 ?_ ?_ ?_
  · kernel_rfl
  · kernel_rfl
  simp only [List.take_succ_cons, List.take_zero, List.drop_succ_cons, List.drop_zero]
  repeat (go_big_quiet_step (first | (go_at_call 258; exact ext_same (cut_any _ _)) | (go_at_call 247; exact ext_call (cutcell_any _ _ _ _))))
  refine wpQuiet_nil ?_
  rintro _ ⟨t, rfl⟩
  go_wp2
  go_returns
  exact ⟨rfl, grown_of⟩

/-- The six neighbours' cells, one behind the other. -/
def nearS (x y z : Int) : Array Value := #[.int .i64 (cutS (cutS x + -1)), .int .i64 (cutS y), .int .i64 (cutS z), .int .i64 (cutS (cutS x + 1)), .int .i64 (cutS y), .int .i64 (cutS z), .int .i64 (cutS x), .int .i64 (cutS (cutS y + -1)), .int .i64 (cutS z), .int .i64 (cutS x), .int .i64 (cutS (cutS y + 1)), .int .i64 (cutS z), .int .i64 (cutS x), .int .i64 (cutS y), .int .i64 (cutS (cutS z + -1)), .int .i64 (cutS x), .int .i64 (cutS y), .int .i64 (cutS (cutS z + 1))]

end Go.Proofs.YtnogfelfgclajaaGreatDoor
end

section
namespace Go.Proofs.YtnogfelfgclajaaGreatDoor
open Go.RowKit
attribute [local go_sem] ext_ext drew_ext ext_drew ext_cell ext_frozen in_lt in_le in_ne in_en in_ne1 in_en1 in_le1 in_ltn in_len in_nen in_enn size_le ite_max ite_min
set_option linter.unusedVariables false
set_option linter.unusedSimpArgs false
attribute [local go_sem] cutS_fold cutS_cutS

theorem near_size : (Tryz.prog.info? 269).map (·.size) = some 18 := by kernel_rfl

theorem near_one (x y z : Int) : (nearS x y z).all (·.oneCell') = true := by simp [nearS, Value.oneCell']

set_option maxHeartbeats 1000000 in
theorem near_any (x y z : Int) (w : World) :
    Calls Tryz.prog 201 #[.agg #[.int .i64 x, .int .i64 y, .int .i64 z]] w fun e w' => e = .returned (.agg (nearS x y z)) ∧ ∃ f, w' = ext w f := by
  have hmf : ∀ (fn : Fn) (first cap : Array Value) (w : World), (Instr.makeFunc fn first cap).run Tryz.prog w = .ok (.func fn first cap) w := fun _ _ _ _ => rfl
  go_enter Tryz.func201, Tryz.ntmps201
  go_wp2_with (first
    | (go_at_call 257; refine (near1_any _ _ _ x y z _ _ ?_ ?_ ?_ (by omega) (by omega) (by omega) (by omega) (by omega) (by omega)).mono ?_; (go_simp); (go_simp); (go_simp); rintro e w1 ⟨rfl, t1, rfl⟩)
    | (refine wpList_store_mid rfl 269 (.tmp 2) (.tmp 17) rfl (w.heap.size + 1) 0 (nearS x y z) rfl rfl (there_ext _ (there_new _ _ _ (by simp) (by simp [nearS]))) near_size (near_one x y z) ?_
       repeat go_step
       refine post_stored (nearS x y z).toList rfl Tryz.underlying269 rfl near_size rfl rfl (there_ext _ (there_new _ _ _ (by simp) (by simp [nearS]))) ?_
       exact ⟨rfl, grown_of⟩))
end Go.Proofs.YtnogfelfgclajaaGreatDoor
end

section
namespace Go.Proofs.YtnogfelfgclajaaGreatDoor
open Go.RowKit
attribute [local go_sem] ext_ext drew_ext ext_drew ext_cell ext_frozen in_lt in_le in_ne in_en in_ne1 in_en1 in_le1 in_ltn in_len in_nen in_enn size_le ite_max ite_min
set_option linter.unusedVariables false
set_option linter.unusedSimpArgs false

/-- Not too far from 0. -/
def Wid (x : Int) : Prop := -2000 ≤ x ∧ x ≤ 2000
/-- A function value that answers V in every world grown out of w. -/
structure IsView (P : Program) (f : FuncId) (first caps : Array Value) (V : Int → Int → Int → Int) (w : World) : Prop where
  enters : ∀ args W, (callFunc f args).run P W = .ok (.enter f args) W
  tells : ∀ W, (∃ g, W = ext w g) → ∀ x y z : Int, Wid x → Wid y → Wid z → Calls P f (first ++ #[.agg #[.int .i64 x, .int .i64 y, .int .i64 z]] ++ caps) W fun e w' => e = .returned (.int .i64 (V x y z)) ∧ ∃ g, w' = ext W g
theorem IsView.grow {P : Program} {f : FuncId} {first caps : Array Value} {V : Int → Int → Int → Int} {w W : World} (h : IsView P f first caps V w) (hW : ∃ g, W = ext w g) : IsView P f first caps V W := by
  obtain ⟨g, rfl⟩ := hW
  refine ⟨h.enters, fun W' hW' => ?_⟩
  obtain ⟨g', rfl⟩ := hW'
  exact h.tells _ ⟨_, ext_ext w g g'⟩

/-- A view. -/
def ViewVal (P : Program) (v : Value) (V : Int → Int → Int → Int) (w : World) : Prop := ∃ f first caps, v = .func (.func f) first caps ∧ IsView P f first caps V w
theorem ViewVal.grow {P : Program} {v : Value} {V : Int → Int → Int → Int} {w W : World} (h : ViewVal P v V w) (hW : ∃ g, W = ext w g) : ViewVal P v V W := by
  obtain ⟨f, first, caps, e, h⟩ := h
  exact ⟨f, first, caps, e, h.grow hW⟩
end Go.Proofs.YtnogfelfgclajaaGreatDoor
end

section
namespace Go.Proofs.YtnogfelfgclajaaGreatDoor
open Go.RowKit
attribute [local go_sem] ext_ext drew_ext ext_drew ext_cell ext_frozen in_lt in_le in_ne in_en in_ne1 in_en1 in_le1 in_ltn in_len in_nen in_enn size_le ite_max ite_min
set_option linter.unusedVariables false
set_option linter.unusedSimpArgs false

/-- Near enough to 0. -/
def Mid (x : Int) : Prop := -1000 ≤ x ∧ x ≤ 1000
theorem Mid.wid {x : Int} (h : Mid x) : Wid x := by have h1 := h.1; have h2 := h.2; exact ⟨by omega, by omega⟩
theorem Mid.up {x : Int} (h : Mid x) : Wid (x + 1) := by have h1 := h.1; have h2 := h.2; exact ⟨by omega, by omega⟩
theorem Mid.down {x : Int} (h : Mid x) : Wid (x + -1) := by have h1 := h.1; have h2 := h.2; exact ⟨by omega, by omega⟩
theorem mid_cut {x d : Int} (h : Mid x) (h1 : -1 ≤ d) (h2 : d ≤ 1) : cutS (cutS x + d) = x + d := by
  have h3 := h.1
  have h4 := h.2
  rw [cutS_in (n := x) (by omega) (by omega)]
  exact cutS_in (by omega) (by omega)
theorem mid_cut0 {x : Int} (h : Mid x) : cutS x = x := by
  have h3 := h.1
  have h4 := h.2
  exact cutS_in (by omega) (by omega)

/-- A cell's six neighbours. -/
def nbS (x y z : Int) : Array Value := #[.int .i64 (x + -1), .int .i64 y, .int .i64 z, .int .i64 (x + 1), .int .i64 y, .int .i64 z, .int .i64 x, .int .i64 (y + -1), .int .i64 z, .int .i64 x, .int .i64 (y + 1), .int .i64 z, .int .i64 x, .int .i64 y, .int .i64 (z + -1), .int .i64 x, .int .i64 y, .int .i64 (z + 1)]
theorem nb_near {x y z : Int} (hx : Mid x) (hy : Mid y) (hz : Mid z) : nearS x y z = nbS x y z := by
  unfold nearS nbS
  rw [mid_cut hx (by omega) (by omega), mid_cut hx (by omega) (by omega), mid_cut hy (by omega) (by omega), mid_cut hy (by omega) (by omega), mid_cut hz (by omega) (by omega), mid_cut hz (by omega) (by omega), mid_cut0 hx, mid_cut0 hy, mid_cut0 hz]
theorem nb_any (x y z : Int) (w : World) (hx : Mid x) (hy : Mid y) (hz : Mid z) :
    Calls Tryz.prog 201 #[.agg #[.int .i64 x, .int .i64 y, .int .i64 z]] w fun e w' => e = .returned (.agg (nbS x y z)) ∧ ∃ f, w' = ext w f := by
  have h := near_any x y z w
  rw [nb_near hx hy hz] at h
  exact h
theorem nb_size : (Tryz.prog.info? 269).map (·.size) = some 18 := by kernel_rfl
theorem nb_one (x y z : Int) : (nbS x y z).all (·.oneCell') = true := by simp [nbS, Value.oneCell']
theorem nb_under (x y z : Int) (w : World) : (Instr.index 269 (.agg (nbS x y z)) (.int .i64 2)).run Tryz.prog w = .ok (.agg #[.int .i64 x, .int .i64 (y + -1), .int .i64 z]) w := by kernel_rfl
theorem nb_over (x y z : Int) (w : World) : (Instr.index 269 (.agg (nbS x y z)) (.int .i64 3)).run Tryz.prog w = .ok (.agg #[.int .i64 x, .int .i64 (y + 1), .int .i64 z]) w := by kernel_rfl

/-- The cells beside one, number by number. -/
def sideL (x y z : Int) : List Value := [.int .i64 (x + -1), .int .i64 y, .int .i64 z, .int .i64 (x + 1), .int .i64 y, .int .i64 z, .int .i64 x, .int .i64 y, .int .i64 (z + -1), .int .i64 x, .int .i64 y, .int .i64 (z + 1)]
theorem cellInfo : (Tryz.prog.info? 30).map (fun i => (i.zero, i.size, i.bytes)) = some (some (.agg #[.int .i64 0, .int .i64 0, .int .i64 0]), 3, 24) := by kernel_rfl

end Go.Proofs.YtnogfelfgclajaaGreatDoor
end
