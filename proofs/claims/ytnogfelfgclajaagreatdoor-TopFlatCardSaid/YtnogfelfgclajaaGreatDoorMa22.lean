/-
  A table: a chunk loaded.
  A table: a chunk unloaded, flushed; all flushed.
-/
import Derived.Test.YtnogfelfgclajaaGreatDoorMa21
section
namespace Go.Proofs.YtnogfelfgclajaaGreatDoor
open Go.RowKit
attribute [local go_sem] ext_ext drew_ext ext_drew ext_cell ext_frozen in_lt in_le in_ne in_en in_ne1 in_en1 in_le1 in_ltn in_len in_nen in_enn size_le ite_max ite_min
set_option linter.unusedVariables false
set_option linter.unusedSimpArgs false

theorem Close.pl {p : Ps} (h : Close p) : Pl p.1 p.2 := ⟨by have := h.x0; omega, by have := h.x1; omega, by have := h.z0; omega, by have := h.z1; omega⟩
theorem load_fin {B : Nat} {w W w9 : World} {t q e st d mb N k : Nat} {s lim : Int} {G : Ps → List Int} {T : List (Ps × Bool)} {lv v9 rv : Value} {its : List Nat} {D : Int → Option (List Nat)} {p : Ps} {rs : List Rn} (h : TabAt B w t s lim q e G T st d mb lv its D N) (hk : ChunkAt B w k p rs rv) (hG : cellsR rs = G p) (hp : Close p)
    (hn : ∀ c ∈ T, c.1 ≠ p) (hl : (T.length : Int) < lim) (hW : Below w.heap.size w W) (hit : W.heap[w.heap.size]? = some (.cells #[.pointer (some ⟨k, 0, none⟩), .bool false, .int .i64 0] 134 (0, 0)))
    (hr : SRow B w9 126 v9 (ptrs (its ++ [w.heap.size]))) (ht : w9.heap[t]? = some (.cells #[.pointer (some ⟨st, 0, none⟩), .int .i64 s, .int .i64 lim, lv] 130 (0, 0))) (hT : Turn (Ty B tyOut W) W w9) :
    TabOf B (w9.setCell ⟨t, 3, none⟩ v9) t s lim q e G (T ++ [(p, false)]) ∧ Turn (Ty B tyOut w) w (w9.setCell ⟨t, 3, none⟩ v9) := by
  have hB := tab_size h
  have hWt := h.grown hW
  have hS : Turn (Ty B tyOut W) W (w9.setCell ⟨t, 3, none⟩ v9) := hT.setIn (ty_yes h.tlo hWt.tab (by decide)) _
  refine ⟨⟨st, d, mb, v9, _, D, N, tab_row hWt hS ⟨block_set ht _ (by simp), h.tlo, ?_⟩ (hWt.items.snoc (c := (p, false)) ⟨k, rs, rv, ⟨hit, hB, hk.grown hW⟩, hG⟩) ?_ ?_⟩, (turn_below (F := Ty B tyOut w) hW).ty hS⟩
  · exact hr.turn ((Turn.refl (fun j => j = t) w9).setIn rfl _) (fun g c fz hg => ne_ty ht hg (by decide))
  · exact (h.hold.cons hp hn).perm (List.perm_append_comm.trans (List.Perm.refl _))
  · rw [List.length_append]; simp; omega
/-- A chunk loaded: it is here. -/
def TabLoaded (B t : Nat) (s lim : Int) (q e : Nat) (G : Ps → List Int) (p : Ps) (w : World) (en : Ending) (w' : World) : Prop :=
  en = .returned (.int .i64 0) ∧ (∃ T', TabOf B w' t s lim q e G T' ∧ ∃ c ∈ T', c.1 = p) ∧ Turn (Ty B tyTab w) w w'
set_option maxRecDepth 100000 in
set_option maxHeartbeats 4000000 in
theorem tabload_any {B : Nat} {w : World} {t q e st d mb N : Nat} {s lim : Int} {G : Ps → List Int} {T : List (Ps × Bool)} {lv : Value} {its : List Nat} {D : Int → Option (List Nat)} (h : TabAt B w t s lim q e G T st d mb lv its D N) (p : Ps) (hp : Close p) :
    Calls Tryz.prog 48 #[.pointer (some ⟨t, 0, none⟩), .agg #[.int .i64 p.1, .int .i64 p.2]] w (TabLoaded B t s lim q e G p w) := by
  obtain ⟨r, hr⟩ := ix_ex T p
  haveI := in_of_block h.tab
  have H := Lib.hid h
  have HP := Lib.hid hp
  have FI := Lib.hid (fun W (hW : Below w.heap.size w W) => find_any W (h.grown hW) p.1 p.2 r hr)
  rcases hr with ⟨rfl, hno⟩ | ⟨i, hi, rfl, he⟩
  · have HNO := Lib.hid hno
    clear h hp hno
    go_enter Tryz.func48, Tryz.ntmps48
    go_wp2_with fail
    refine (tabid_any p HP.out _).mono ?_
    rintro e w1 ⟨rfl, _t, hw⟩
    have hc1 := named_cell hw
    have hz1 := named_frozen hw
    have hh1 := named_heap hw
    haveI hi1 := named_in hw
    haveI hb1 := named_below (w := w) hw
    clear hw
    go_wp2_with fail
    refine (FI.out _ (by exact grown_now)).mono ?_
    rintro e w2 ⟨rfl, _t, hw⟩
    haveI hb2_1 := named_below (w := w1) hw
    have hc2 := named_cell hw
    have hz2 := named_frozen hw
    have hh2 := named_heap hw
    haveI hi2 := named_in hw
    haveI hb2 := named_below (w := w) hw
    clear hw
    have B2 := Lib.hid (grown_now (w := w) (W := w2))
    have P2 : Hid (w2.heap[w.heap.size]? = some (.cells #[.int .i64 p.1, .int .i64 p.2] 35 (0, 0))) := Lib.hid ((hh2 _).trans ((hh1 _).trans (heap_alloc_new w _)))
    have RM := Lib.hid (tabroom_any (H.out.grown B2.out))
    clear FI
    go_wp2_with fail
    refine RM.out.mono ?_
    rintro e3 w3 ⟨rfl, ⟨T', ⟨st3, d3, mb3, lv3, its3, D3, N3, h3⟩, hl3, hs3⟩, hT3⟩
    have P3 := (hT3.block _ (lt_of_block P2.out) (ty_no P2.out (by decide))).trans P2.out
    have p0 := cell_of_block (i := 0) P3 rfl
    have p1 := cell_of_block (i := 1) P3 rfl
    haveI := in_of_cell p0
    have T3 := Lib.hid ((turn_below (F := Ty B tyTab w) B2.out).ty hT3)
    have N3' := Lib.hid (show ∀ c ∈ T', c.1 ≠ p from fun c hc e' => by
      obtain ⟨c', hc', e''⟩ := hs3 c hc
      exact HNO.out c' hc' (e''.symm.trans e'))
    have L3 := Lib.hid hl3
    obtain ⟨og3, cp3, rfl⟩ := h3.row.form
    have H3 := Lib.hid h3
    have c3 := cell_of_block (i := 3) h3.tab rfl
    have c0 := cell_of_block (i := 0) h3.tab rfl
    have c1 := cell_of_block (i := 1) h3.tab rfl
    haveI := in_of_cell c0
    obtain ⟨v, x, hr, hvN, hx⟩ := h3.hold.disk p HP.out
    have hx := hx (fun c hc e' => absurd e' (N3'.out c hc))
    have LD := Lib.hid (storeload_any B d3 mb3 st3 D3 N3 (idP p) v x w3 h3.dsk (cell_of_block (i := 0) h3.sto rfl) (idP_bd HP.out).1 (idP_bd HP.out).2 hr)
    have hok := hr.ok
    clear RM P3 hT3 hl3 hs3 h3 hr hvN B2 P2 HNO
    rcases hx with ⟨rfl, hgr⟩ | ⟨hv0, rs, hf, rfl, hcells⟩
    · obtain rfl : x = [] := by
        rcases hok with ⟨_, h⟩ | h
        · exact h
        · have := h.lo; omega
      have HG := Lib.hid hgr
      clear hok hgr
      go_wp2_with fail
      refine LD.out.mono ?_
      rintro e4 w4 ⟨bv, rfl, hb4, _t, hw⟩
      obtain rfl : bv = .slice none 0 0 := by
        rcases hb4 with ⟨_, h⟩ | ⟨h, _⟩
        · exact h
        · simp at h
      haveI hg4 := named_grown hw
      haveI hb43 := named_below (w := w3) hw
      have hc4 := named_cell hw
      have hz4 := named_frozen hw
      haveI hi4 := named_in hw
      clear hw hb4 LD
      go_wp2_with fail
      refine (chunkread_nil p _).mono ?_
      rintro e w5 ⟨rfl, _t, hw⟩
      haveI hb5_4 := named_below (w := w4) hw
      have hc5 := named_cell hw
      have hz5 := named_frozen hw
      have hh5 := named_heap hw
      haveI hi5 := named_in hw
      haveI hb5 := named_below (w := w3) hw
      clear hw
      have B5 := Lib.hid (grown_now (w := w3) (W := w5))
      have Q0 : w5.cell? ⟨w.heap.size, 0, none⟩ = some (.int .i64 p.1) := by rw [hc5, hc4]; exact p0
      have Q1 : w5.cell? ⟨w.heap.size, 1, none⟩ = some (.int .i64 p.2) := by rw [hc5, hc4]; exact p1
      have Q2 : w5.cell? ⟨t, 1, none⟩ = some (.int .i64 s) := by rw [hc5, hc4]; exact c1
      go_wp2_with fail
      go_region_law
        (first
          | (go_simp; go_at_call 96; refine (chunkmake_any s p _ HP.out.pl).mono ?_; rintro e w6 ⟨k6, rv6, rfl, hk6, _t, hw⟩
             haveI hg6 := named_grown hw
             haveI hb6 := named_below (w := w3) hw
             have hc6 := named_cell hw
             have hz6 := named_frozen hw
             haveI hi6 := named_in hw
             have K6 := Lib.hid (hk6.base (B' := B) (by exact Nat.le_trans (tab_size H3.out) (grown_now (w := w3)).size))
             clear hw hk6))
      all_goals
        have B6 := Lib.hid (grown_now (w := w3) (W := w6))
        have FIN := Lib.hid (fun (W w9 : World) (v9 : Value) hW hit hr ht hT => load_fin (W := W) (w9 := w9) (v9 := v9) (H3.out.grown B6.out) K6.out ((gr_fine s p).2.trans HG.out.symm) HP.out N3'.out L3.out hW hit hr ht hT)
        have SN := Lib.hid (fun (ty : TypeId) (W : World) (hW : Below w6.heap.size w6 W) (b : Nat) hc => snoc_row B t st3 s lim its3 _ w6.heap.size b H3.out.short W ⟨(hW.block t (lt_of_block (H3.out.grown B6.out).tab)).trans (H3.out.grown B6.out).tab, H3.out.tlo, (H3.out.grown B6.out).row.grown hW⟩ (Nat.le_trans (tab_size (H3.out.grown B6.out)) hW.size) ty hc)
        have Q3 : w6.cell? ⟨t, 3, none⟩ = some (.slice og3 (ptrs its3).length cp3) := cell_of_block (i := 3) (H3.out.grown B6.out).tab rfl
        have f3 := free_of_block 3 (H3.out.grown B6.out).tab
        go_wp2_with
          (at_builtin; refine wpList_append_of (by rfl) (.tmp 62) (.tmp 66) 128 128 (by rfl) _ _ (by rfl) (by rfl) (SN.out _ _ (by exact grown_now) _ (by go_simp)) ?_; rintro v9 w9 ⟨hrow9, htab9, hT9, _t⟩
           go_loud (have F9 := Lib.hid (FIN.out _ _ _ (by exact grown_now) (by first | exact heap_alloc_new _ _ | (rw [heap_alloc_old _ _ (by simp)]; exact heap_alloc_new _ _)) hrow9 htab9 hT9))
           have c9 := cell_of_block (i := 3) htab9 rfl
           have f9 := free_of_block 3 htab9
           obtain ⟨og9, cp9, hv9⟩ := hrow9.form
           subst hv9
           clear hrow9 htab9 hT9 _t)
        go_ret
        exact ⟨rfl, ⟨_, F9.out.1, ⟨(p, false), by simp, rfl⟩⟩, (T3.out.ty (turn_below (F := Ty B tyTab w3) B6.out)).ty (F9.out.2.tyMono (by decide))⟩
    · obtain ⟨cg, hcg⟩ : ∃ cg, cellsR rs = cg := ⟨_, rfl⟩
      have HC := Lib.hid hcells
      have HF := Lib.hid hf
      clear hok hcells hcg cg
      go_wp2_with fail
      refine LD.out.mono ?_
      rintro e4 w4 ⟨bv, rfl, hb4, _t, hw⟩
      obtain ⟨g4, o4, cp4, rfl, hcp4, hby4⟩ : ∃ g o cap, bv = .slice (some ⟨g, o, none⟩) (codeW rs).length cap ∧ (codeW rs).length ≤ cap ∧ BytesAt w4 g o (codeW rs) := by
        rcases hb4 with ⟨h, _⟩ | ⟨_, h⟩
        · have := codeW_pos HF.out
          rw [h] at this
          simp at this
        · exact h
      haveI hg4 := named_grown hw
      haveI hb43 := named_below (w := w3) hw
      have hc4 := named_cell hw
      have hz4 := named_frozen hw
      haveI hi4 := named_in hw
      have RD := Lib.hid (chunkread_any p rs g4 o4 cp4 w4 HF.out hcp4 hby4)
      have N4 := Lib.hid hv0
      clear hw hb4 LD hcp4 hby4 hv0
      go_wp2_with fail
      refine RD.out.mono ?_
      rintro e6 w6 ⟨k6, rv6, rfl, hk6, _t, hw⟩
      haveI hg6 := named_grown hw
      haveI hb6 := named_below (w := w3) hw
      have hc6 := named_cell hw
      have hz6 := named_frozen hw
      haveI hi6 := named_in hw
      have K6 := Lib.hid (hk6.base (B' := B) (by exact Nat.le_trans (tab_size H3.out) (grown_now (w := w3)).size))
      clear hw hk6
      have B6 := Lib.hid (grown_now (w := w3) (W := w6))
      have FIN := Lib.hid (fun (W w9 : World) (v9 : Value) hW hit hr ht hT => load_fin (W := W) (w9 := w9) (v9 := v9) (H3.out.grown B6.out) K6.out HC.out HP.out N3'.out L3.out hW hit hr ht hT)
      have SN := Lib.hid (fun (ty : TypeId) (W : World) (hW : Below w6.heap.size w6 W) (b : Nat) hc => snoc_row B t st3 s lim its3 _ w6.heap.size b H3.out.short W ⟨(hW.block t (lt_of_block (H3.out.grown B6.out).tab)).trans (H3.out.grown B6.out).tab, H3.out.tlo, (H3.out.grown B6.out).row.grown hW⟩ (Nat.le_trans (tab_size (H3.out.grown B6.out)) hW.size) ty hc)
      have Q3 : w6.cell? ⟨t, 3, none⟩ = some (.slice og3 (ptrs its3).length cp3) := cell_of_block (i := 3) (H3.out.grown B6.out).tab rfl
      have f3 := free_of_block 3 (H3.out.grown B6.out).tab
      go_wp2_with
        (at_builtin; refine wpList_append_of (by rfl) (.tmp 62) (.tmp 66) 128 128 (by rfl) _ _ (by rfl) (by rfl) (SN.out _ _ (by exact grown_now) _ (by go_simp)) ?_; rintro v9 w9 ⟨hrow9, htab9, hT9, _t⟩
         go_loud (have F9 := Lib.hid (FIN.out _ _ _ (by exact grown_now) (by first | exact heap_alloc_new _ _ | (rw [heap_alloc_old _ _ (by simp)]; exact heap_alloc_new _ _)) hrow9 htab9 hT9))
         have c9 := cell_of_block (i := 3) htab9 rfl
         have f9 := free_of_block 3 htab9
         obtain ⟨og9, cp9, hv9⟩ := hrow9.form
         subst hv9
         clear hrow9 htab9 hT9 _t)
      go_ret
      exact ⟨rfl, ⟨_, F9.out.1, ⟨(p, false), by simp, rfl⟩⟩, (T3.out.ty (turn_below (F := Ty B tyTab w3) B6.out)).ty (F9.out.2.tyMono (by decide))⟩
  · have HI := Lib.hid he
    have TC := Lib.hid (fun W (hW : Below w.heap.size w W) => tabtouch_any (H.out.grown hW) i (by rw [H.out.items.len]; exact hi) hi)
    have HM := Lib.hid (show ∃ c ∈ T.eraseIdx i ++ [T[i]], c.1 = p from ⟨T[i], by simp, he⟩)
    have i0 : (0 : Int) ≤ (i : Int) := by omega
    clear h hp he
    go_enter Tryz.func48, Tryz.ntmps48
    go_wp2_with fail
    refine (tabid_any p HP.out _).mono ?_
    rintro e w1 ⟨rfl, _t, hw⟩
    have hc1 := named_cell hw
    have hz1 := named_frozen hw
    have hh1 := named_heap hw
    haveI hi1 := named_in hw
    haveI hb1 := named_below (w := w) hw
    clear hw
    go_wp2_with fail
    refine (FI.out _ (by exact grown_now)).mono ?_
    rintro e w2 ⟨rfl, _t, hw⟩
    haveI hb2_1 := named_below (w := w1) hw
    have hc2 := named_cell hw
    have hz2 := named_frozen hw
    have hh2 := named_heap hw
    haveI hi2 := named_in hw
    haveI hb2 := named_below (w := w) hw
    clear hw
    have B2 := Lib.hid (grown_now (w := w) (W := w2))
    clear FI
    go_wp2_with fail
    refine (TC.out w2 B2.out).mono ?_
    rintro e3 w3 ⟨rfl, ⟨lv3, h3⟩, hT3⟩
    have H3 := Lib.hid (And.intro h3 hT3)
    clear h3 hT3 TC
    go_wp2_with fail
    go_ret
    exact ⟨rfl, ⟨_, ⟨st, d, mb, lv3, _, D, N, H3.out.1⟩, HM.out⟩, (turn_below (F := Ty B tyTab w) B2.out).ty H3.out.2⟩
#print axioms tabload_any
end Go.Proofs.YtnogfelfgclajaaGreatDoor
end

section
namespace Go.Proofs.YtnogfelfgclajaaGreatDoor
open Go.RowKit
attribute [local go_sem] ext_ext drew_ext ext_drew ext_cell ext_frozen in_lt in_le in_ne in_en in_ne1 in_en1 in_le1 in_ltn in_len in_nen in_enn size_le ite_max ite_min
set_option linter.unusedVariables false
set_option linter.unusedSimpArgs false

/-- What a call that may let chunks go, or save some, hands back. -/
def TabSome (B t : Nat) (s lim : Int) (q e : Nat) (G : Ps → List Int) (w : World) (en : Ending) (w' : World) : Prop :=
  (∃ n : Nat, n ≤ 6 ∧ en = .returned (.int .i64 (n : Int))) ∧ (∃ T', TabOf B w' t s lim q e G T') ∧ Turn (Ty B tyTab w) w w'
set_option maxRecDepth 100000 in
set_option maxHeartbeats 4000000 in
theorem tabflush_any {B : Nat} {w : World} {t q e st d mb N : Nat} {s lim : Int} {G : Ps → List Int} {T : List (Ps × Bool)} {lv : Value} {its : List Nat} {D : Int → Option (List Nat)} (h : TabAt B w t s lim q e G T st d mb lv its D N) (p : Ps) :
    Calls Tryz.prog 50 #[.pointer (some ⟨t, 0, none⟩), .agg #[.int .i64 p.1, .int .i64 p.2]] w (TabSome B t s lim q e G w) := by
  obtain ⟨r, hr⟩ := ix_ex T p
  have c3 := cell_of_block (i := 3) h.tab rfl
  haveI := in_of_block h.tab
  have H := Lib.hid h
  have FI := Lib.hid (fun W (hW : Below w.heap.size w W) => find_any W (h.grown hW) p.1 p.2 r hr)
  rcases hr with ⟨rfl, hno⟩ | ⟨i, hi, rfl, he⟩
  · clear h hno
    obtain ⟨og, cap, rfl⟩ := H.out.row.form
    go_enter Tryz.func50, Tryz.ntmps50
    go_wp2_with fail
    refine (FI.out _ (by exact grown_now)).mono ?_
    rintro e w1 ⟨rfl, _t, hw⟩
    have hc1 := named_cell hw
    have hz1 := named_frozen hw
    have hh1 := named_heap hw
    haveI hi1 := named_in hw
    haveI hb1 := named_below (w := w) hw
    clear hw
    have B1 := Lib.hid (grown_now (w := w) (W := w1))
    clear FI
    go_wp2_with fail
    go_ret
    exact ⟨⟨6, by omega, rfl⟩, ⟨T, st, d, mb, _, its, D, N, H.out.grown B1.out⟩, turn_below B1.out⟩
  · have hi2 : i < its.length := by rw [h.items.len]; exact hi
    have SV := Lib.hid (fun W (hW : Below w.heap.size w W) => tabsave_any (h.grown hW) i hi2 hi)
    obtain ⟨og, cap, rfl, hcp, hpt⟩ := ptrs_at h.row
    obtain ⟨g, rfl, d0⟩ := hpt i hi2
    haveI := in_of_cell d0
    generalize its[i] = it at d0 SV
    have i0 : (0 : Int) ≤ (i : Int) := by omega
    have i1 : (i : Int) < (its.length : Int) := by omega
    clear h hpt he
    go_enter Tryz.func50, Tryz.ntmps50
    go_wp2_with fail
    refine (FI.out _ (by exact grown_now)).mono ?_
    rintro e w1 ⟨rfl, _t, hw⟩
    have hc1 := named_cell hw
    have hz1 := named_frozen hw
    have hh1 := named_heap hw
    haveI hi1 := named_in hw
    haveI hb1 := named_below (w := w) hw
    clear hw
    have B1 := Lib.hid (grown_now (w := w) (W := w1))
    clear FI
    go_wp2_with fail
    refine (SV.out w1 B1.out).mono ?_
    rintro e3 w3 ⟨rfl, h3, hT3⟩
    have H3 := Lib.hid (And.intro h3 hT3)
    clear h3 hT3 SV
    go_wp2_with fail
    go_ret
    refine ⟨⟨0, by omega, rfl⟩, ?_, (turn_below (F := Ty B tyTab w) B1.out).ty H3.out.2⟩
    obtain ⟨mb', D', N', h'⟩ := H3.out.1
    exact ⟨_, st, d, mb', _, _, D', N', h'⟩
set_option maxRecDepth 100000 in
set_option maxHeartbeats 4000000 in
theorem tabunload_any {B : Nat} {w : World} {t q e st d mb N : Nat} {s lim : Int} {G : Ps → List Int} {T : List (Ps × Bool)} {lv : Value} {its : List Nat} {D : Int → Option (List Nat)} (h : TabAt B w t s lim q e G T st d mb lv its D N) (p : Ps) :
    Calls Tryz.prog 49 #[.pointer (some ⟨t, 0, none⟩), .agg #[.int .i64 p.1, .int .i64 p.2]] w (TabSome B t s lim q e G w) := by
  obtain ⟨r, hr⟩ := ix_ex T p
  have c3 := cell_of_block (i := 3) h.tab rfl
  haveI := in_of_block h.tab
  have H := Lib.hid h
  have FI := Lib.hid (fun W (hW : Below w.heap.size w W) => find_any W (h.grown hW) p.1 p.2 r hr)
  rcases hr with ⟨rfl, hno⟩ | ⟨i, hi, rfl, he⟩
  · clear h hno
    obtain ⟨og, cap, rfl⟩ := H.out.row.form
    go_enter Tryz.func49, Tryz.ntmps49
    go_wp2_with fail
    refine (FI.out _ (by exact grown_now)).mono ?_
    rintro e w1 ⟨rfl, _t, hw⟩
    have hc1 := named_cell hw
    have hz1 := named_frozen hw
    have hh1 := named_heap hw
    haveI hi1 := named_in hw
    haveI hb1 := named_below (w := w) hw
    clear hw
    have B1 := Lib.hid (grown_now (w := w) (W := w1))
    clear FI
    go_wp2_with fail
    go_ret
    exact ⟨⟨6, by omega, rfl⟩, ⟨T, st, d, mb, _, its, D, N, H.out.grown B1.out⟩, turn_below B1.out⟩
  · have hi2 : i < its.length := by rw [h.items.len]; exact hi
    have SV := Lib.hid (fun W (hW : Below w.heap.size w W) => tabsave_any (h.grown hW) i hi2 hi)
    obtain ⟨k, rs, rv, hit, _⟩ := h.items.get i hi2 hi
    have e2 := cell_of_block (i := 2) hit.blk rfl
    obtain ⟨og, cap, rfl, hcp, hpt⟩ := ptrs_at h.row
    obtain ⟨g, rfl, d0⟩ := hpt i hi2
    haveI := in_of_cell d0
    have HI := Lib.hid (And.intro hi hi2)
    have j0 : (0 : Int) ≤ (i : Int) := by omega
    have j1 : (i : Int) < (its.length : Int) := by omega
    clear hit
    generalize its[i] = it at d0 SV e2
    haveI := in_of_cell e2
    clear h hpt he
    go_enter Tryz.func49, Tryz.ntmps49
    go_wp2_with fail
    refine (FI.out _ (by exact grown_now)).mono ?_
    rintro e w1 ⟨rfl, _t, hw⟩
    have hc1 := named_cell hw
    have hz1 := named_frozen hw
    have hh1 := named_heap hw
    haveI hi1 := named_in hw
    haveI hb1 := named_below (w := w) hw
    clear hw
    have B1 := Lib.hid (grown_now (w := w) (W := w1))
    clear FI
    go_wp2_with fail
    refine (SV.out w1 B1.out).mono ?_
    rintro e3 w3 ⟨rfl, ⟨mb3, D3, N3, h3⟩, hT3⟩
    have H3 := Lib.hid (And.intro h3 hT3)
    have OU := Lib.hid (tabout_any h3 i HI.out.2 (by simpa using HI.out.1) (by simp))
    clear h3 hT3 SV
    go_wp2_with fail
    refine OU.out.mono ?_
    rintro e4 w4 ⟨⟨v4, rfl⟩, h4, hT4⟩
    have H4 := Lib.hid (And.intro h4 hT4)
    clear h4 hT4 OU
    go_wp2_with fail
    go_ret
    exact ⟨⟨0, by omega, rfl⟩, ⟨_, H4.out.1⟩, ((turn_below (F := Ty B tyTab w) B1.out).ty H3.out.2).ty H4.out.2⟩
/-- All that are dirty saved. -/
def TabAll (B t : Nat) (s lim : Int) (q e : Nat) (G : Ps → List Int) (w : World) (en : Ending) (w' : World) : Prop :=
  (∃ n : Nat, n < 100 ∧ en = .returned (.tuple #[.int .i64 (n : Int), .int .i64 0])) ∧ (∃ T', TabOf B w' t s lim q e G T') ∧ Turn (Ty B tyTab w) w w'
set_option maxRecDepth 100000 in
set_option maxHeartbeats 4000000 in
theorem tabflushall_any {B : Nat} {w : World} {t q e st d mb N : Nat} {s lim : Int} {G : Ps → List Int} {T : List (Ps × Bool)} {lv : Value} {its : List Nat} {D : Int → Option (List Nat)} (h : TabAt B w t s lim q e G T st d mb lv its D N) :
    Calls Tryz.prog 99 #[.pointer (some ⟨t, 0, none⟩)] w (TabAll B t s lim q e G w) := by
  have c3 := cell_of_block (i := 3) h.tab rfl
  haveI := in_of_block h.tab
  have H := Lib.hid h
  have hs := h.short
  obtain ⟨og, cap, rfl, hcp, hpt⟩ := ptrs_at h.row
  have HP := Lib.hid hpt
  obtain ⟨n, hn⟩ : ∃ n, its.length = n := ⟨_, rfl⟩
  rw [hn] at c3 hs
  have HN := Lib.hid hn
  clear h hpt hn hcp
  have n0 : (n : Int) ≤ 16 := by omega
  go_enter Tryz.func99, Tryz.ntmps99
  go_wp2_with fail
  go_loopw [4, 6, 7, 8, 14] (fun s4 _ _ _ s14 wr => ∃ k m : Nat, k ≤ n ∧ m ≤ k ∧ s14 = .int .i64 (k : Int) ∧ s4 = .int .i64 (m : Int) ∧ (∃ mb D N T', Hid (TabAt B wr t s lim q e G T' st d mb (.slice og its.length cap) its D N)) ∧ Hid (Turn (Ty B tyTab w) w wr)) (fun _ _ _ _ s14 _ => n - (intOf s14).toNat)
  case atStart => exact ⟨0, 0, by omega, by omega, rfl, rfl, ⟨mb, D, N, T, H⟩, Lib.hid (Turn.refl _ _)⟩
  case round =>
    obtain ⟨k, m, hk, hm, rfl, rfl, ⟨mb1, D1, N1, T1, H1⟩, HT⟩ := hrel
    rename World => w1
    have k0 : (0 : Int) ≤ (k : Int) := Int.natCast_nonneg _
    have m0 : (0 : Int) ≤ (m : Int) := Int.natCast_nonneg _
    have m1 : (m : Int) ≤ 16 := by omega
    by_cases hlt : k < n
    · have k1 : (k : Int) < (n : Int) := by omega
      have hk2 : k < its.length := by have := HN.out; omega
      have hk3 : k < T1.length := by have := H1.out.items.len; omega
      obtain ⟨g, rfl, d0⟩ := HP.out k hk2
      have d1 : w1.cell? ⟨g, k, none⟩ = some (.pointer (some ⟨its[k], 0, none⟩)) := by
        obtain ⟨og', cap', hv, _, hp⟩ := ptrs_at H1.out.row
        injection hv with e1 e2 e3
        obtain ⟨g', e4, h5⟩ := hp k hk2
        rw [← e1] at e4
        injection e4 with e4
        injection e4 with e4
        rw [e4]
        exact h5
      have e1 : w1.cell? ⟨its[k], 1, none⟩ = some (.bool T1[k].2) := by
        obtain ⟨kk, rs, rv, hit, _⟩ := H1.out.items.get k hk2 hk3
        exact cell_of_block (i := 1) hit.blk rfl
      have SV := Lib.hid (tabsave_any H1.out k hk2 hk3)
      generalize T1[k].2 = dd at e1
      generalize its[k] = it at d1 SV e1
      have HK := Lib.hid (And.intro hlt hm)
      clear d0 hlt hk hm
      cases dd
      · go_wp2_with fail
        refine SV.out.mono ?_
        rintro e3 w3 ⟨rfl, ⟨mb3, D3, N3, h3⟩, hT3⟩
        have H3 := Lib.hid h3
        have T3 := Lib.hid (HT.out.ty hT3)
        clear h3 hT3 SV
        go_wp2_with fail
        go_roundw
        case rel => exact ⟨k + 1, m, by have := HK.out.1; omega, by have := HK.out.2; omega, by go_num, rfl, ⟨mb3, D3, N3, _, H3⟩, T3⟩
        case measure => have := HK.out.1; simp [intOf]; omega
      · go_wp2_with fail
        refine SV.out.mono ?_
        rintro e3 w3 ⟨rfl, ⟨mb3, D3, N3, h3⟩, hT3⟩
        have H3 := Lib.hid h3
        have T3 := Lib.hid (HT.out.ty hT3)
        clear h3 hT3 SV
        go_wp2_with fail
        go_roundw
        case rel => exact ⟨k + 1, m + 1, by have := HK.out.1; omega, by have := HK.out.2; omega, by go_num, by go_num, ⟨mb3, D3, N3, _, H3⟩, T3⟩
        case measure => have := HK.out.1; simp [intOf]; omega
    · have k1 : ¬ (k : Int) < (n : Int) := by omega
      have HM := Lib.hid (show m < 100 by omega)
      clear hlt hk hm
      go_wp2_with fail
      go_ret2
      exact ⟨⟨m, HM.out, rfl⟩, ⟨T1, st, d, mb1, _, its, D1, N1, H1.out⟩, HT.out⟩
#print axioms tabflushall_any
end Go.Proofs.YtnogfelfgclajaaGreatDoor
end
