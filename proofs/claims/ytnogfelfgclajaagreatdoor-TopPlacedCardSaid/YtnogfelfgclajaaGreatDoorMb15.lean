/-
  A table: one of its chunks saved.
  A table: a chunk let go; a chunk touched; room made.
  A table: a chunk loaded.
  A table: a chunk unloaded, flushed; all flushed.
-/
import Derived.Test.YtnogfelfgclajaaGreatDoorMb14
section
namespace Go.Proofs.YtnogfelfgclajaaGreatDoor
open Go.RowKit
attribute [local go_sem] ext_ext drew_ext ext_drew ext_cell ext_frozen in_lt in_le in_ne in_en in_ne1 in_en1 in_le1 in_ltn in_len in_nen in_enn size_le ite_max ite_min
set_option linter.unusedVariables false
set_option linter.unusedSimpArgs false

theorem Items.of_get {B : Nat} {w : World} {G : Ps → List Int} : ∀ {its : List Nat} {T : List (Ps × Bool)}, its.length = T.length → (∀ (i : Nat) (hi : i < its.length) (hj : i < T.length), ItemOf B w its[i] T[i].1 T[i].2 (G T[i].1)) → Items B w G its T
  | [], [], _, _ => .nil
  | [], _ :: _, h, _ => by simp at h
  | _ :: _, [], h, _ => by simp at h
  | it :: its, c :: T, h, f => .cons _ _ _ _ (f 0 (by simp) (by simp)) (Items.of_get (by simpa using h) (fun i hi hj => f (i + 1) (by simpa using hi) (by simpa using hj)))
theorem items_ne {B : Nat} {w : World} {G : Ps → List Int} {its : List Nat} {T : List (Ps × Bool)} (h : Items B w G its T) (ho : (T.map (·.1)).Nodup) {i j : Nat} (hi : i < its.length) (hj : j < its.length) (hne : i ≠ j) : its[i] ≠ its[j] := fun e => by
  have hl := h.len
  have h1 := h.get i hi (by omega)
  have h2 := h.get j hj (by omega)
  rw [e] at h1
  exact hne (once_ix ho (by omega) (by omega) (h1.same h2))
theorem Items.set {B : Nat} {w W : World} {G G' : Ps → List Int} {its : List Nat} {T : List (Ps × Bool)} (h : Items B w G its T) {i : Nat} {c : Ps × Bool} (hi : i < its.length) (hnew : ItemOf B W its[i] c.1 c.2 (G' c.1))
    (hold : ∀ (j : Nat) (hj : j < its.length) (hk : j < T.length), j ≠ i → ItemOf B w its[j] T[j].1 T[j].2 (G T[j].1) → ItemOf B W its[j] T[j].1 T[j].2 (G' T[j].1)) : Items B W G' its (T.set i c) := by
  have hl := h.len
  refine Items.of_get (by simp [hl]) (fun j hj hk => ?_)
  rw [List.length_set] at hk
  by_cases e : i = j
  · subst e
    rw [List.getElem_set_self]
    exact hnew
  · rw [List.getElem_set_ne e]
    exact hold j hj hk (fun e' => e e'.symm) (h.get j hj hk)
theorem idx_perm {α : Type} : ∀ {l : List α} {i : Nat} (h : i < l.length), (l[i] :: l.eraseIdx i).Perm l
  | [], _, h => by simp at h
  | _ :: _, 0, _ => List.Perm.refl _
  | a :: l, i + 1, h => (List.Perm.swap a (l[i]'(by simpa using h)) _).trans ((idx_perm (l := l) (i := i) (by simpa using h)).cons a)
theorem set_perm {α : Type} {l : List α} {i : Nat} (h : i < l.length) (c : α) : (l.set i c).Perm (c :: l.eraseIdx i) := by
  have h1 := idx_perm (l := l.set i c) (i := i) (by simpa using h)
  rw [List.getElem_set_self, List.eraseIdx_set_eq] at h1
  exact h1.symm
theorem ItemOf.turnOne {F : Nat → Prop} {B : Nat} {w W : World} {it : Nat} {p : Ps} {d : Bool} {L : List Int} (h : ItemOf B w it p d L) (hT : Turn F w W) (h0 : ¬ F it) (h1 : ∀ g c fz, w.heap[g]? = some (.cells c 187 fz) → ¬ F g) (h2 : ∀ g c fz, w.heap[g]? = some (.cells c 235 fz) → ¬ F g) : ItemOf B W it p d L := by
  obtain ⟨k, rs, rv, h, e⟩ := h
  exact ⟨k, rs, rv, ⟨(hT.block _ (lt_of_block h.blk) h0).trans h.blk, h.lo, h.chunk.turn hT h1 h2⟩, e⟩
theorem tab_size {B : Nat} {w : World} {t q e st d mb N : Nat} {s lim : Int} {G : Ps → List Int} {T : List (Ps × Bool)} {lv : Value} {its : List Nat} {D : Int → Option (List Nat)} (h : TabAt B w t s lim q e G T st d mb lv its D N) : B ≤ w.heap.size := by
  have := h.tlo; have := lt_of_block h.tab; omega

/-- A chunk of a table is saved, if it is dirty. -/
def TabSaved (B t : Nat) (s lim : Int) (q e : Nat) (G : Ps → List Int) (T : List (Ps × Bool)) (st d : Nat) (lv : Value) (its : List Nat) (w : World) (en : Ending) (w' : World) : Prop :=
  en = .returned (.int .i64 0) ∧ (∃ mb D N, TabAt B w' t s lim q e G T st d mb lv its D N) ∧ Turn (Ty B tyTab w) w w'
theorem tabsave_any {B : Nat} {w : World} {t q e st d mb N : Nat} {s lim : Int} {G : Ps → List Int} {T : List (Ps × Bool)} {lv : Value} {its : List Nat} {D : Int → Option (List Nat)} (h : TabAt B w t s lim q e G T st d mb lv its D N) (i : Nat) (hi : i < its.length) (hj : i < T.length) :
    Calls Tryz.prog 97 #[.pointer (some ⟨t, 0, none⟩), .pointer (some ⟨its[i], 0, none⟩)] w (TabSaved B t s lim q e G (T.set i (T[i].1, false)) st d lv its w) := by
  obtain ⟨k, rs, rv, hit, hG⟩ := h.items.get i hi hj
  by_cases hd : T[i].2 = false
  · rw [hd] at hit
    refine (save_clean t its[i] B k _ rs rv w hit).mono ?_
    rintro en w' ⟨rfl, rfl⟩
    have e : T.set i (T[i].1, false) = T := by
      have : (T[i].1, false) = T[i] := Prod.ext rfl hd.symm
      rw [this]
      exact List.set_getElem_self hj
    rw [e]
    exact ⟨rfl, ⟨mb, D, N, h⟩, Turn.refl _ _⟩
  · have hd : T[i].2 = true := by simpa using hd
    rw [hd] at hit
    have hcl : Close T[i].1 := h.hold.close _ (List.getElem_mem hj)
    obtain ⟨v, x, hr, hvN, _⟩ := h.hold.disk T[i].1 hcl
    have hro := h.hold.room
    have hmo := h.hold.most
    obtain ⟨_, _, hch⟩ := h.hold.good T[i].1 hcl
    have hti : T[i] = (T[i].1, true) := Prod.ext rfl hd
    refine (save_dirty B t its[i] k st d mb T[i].1 rs rv D N v x w (tab_size h) hit h.dsk (by omega) (cell_of_block (i := 0) h.tab rfl) h.sto hcl hr (by omega) (codeW_short hit.chunk.fine (by rw [hG]; omega))).mono ?_
    rintro en w' ⟨rfl, hI, ⟨mb', D', hd', hr', hf', hm'⟩, hT⟩
    have hF : ∀ (g : Nat) (c : Array Value) (T : TypeId) (fz : Nat × Nat), w.heap[g]? = some (.cells c T fz) → T ∉ [210, 134] → ¬ (Ty B tyDisk w g ∨ g = its[i]) := by
      rintro g c T fz hg hn (h1 | h1)
      · exact ty_no hg (fun hm => hn (by simp at hm; simp [hm])) h1
      · exact ne_ty hit.blk hg (fun e => hn (by simp [e])) h1
    refine ⟨rfl, ⟨mb', D', N + 1, ?_⟩, hT.mono (fun j _ hj => ?_)⟩
    · refine ⟨(hT.block _ (lt_of_block h.tab) (hF _ _ _ _ h.tab (by decide))).trans h.tab, (hT.block _ (lt_of_block h.sto) (hF _ _ _ _ h.sto (by decide))).trans h.sto, hd', h.row.turn hT (fun g c fz hg => hF _ _ _ _ hg (by decide)), ?_, ?_, h.tlo, h.slo, h.lim1, h.lim2, by rw [List.length_set]; exact h.full, ?_, Nat.lt_of_lt_of_le h.qlt hT.size⟩
      · refine h.items.set hi ⟨k, rs, rv, hI, hG⟩ (fun j hj hk hne hio => hio.turnOne hT ?_ (fun g c fz hg => hF _ _ _ _ hg (by decide)) (fun g c fz hg => hF _ _ _ _ hg (by decide)))
        rintro (h1 | h1)
        · obtain ⟨k2, rs2, rv2, h2, _⟩ := hio
          exact ty_no h2.blk (by decide) h1
        · exact items_ne h.items h.hold.once hj hi hne h1
      · refine Hold.perm (Hold.save (p := T[i].1) (T := T.eraseIdx i) (h.hold.perm ?_) hit.chunk.fine hG hr' hr hvN hf') (set_perm hj _)
        rw [← hti]
        exact idx_perm hj
      · have := h.qlt; omega
    · rcases hj with hj | rfl
      · exact ⟨hj.1, by obtain ⟨c, T, fz, h1, h2⟩ := hj.2; exact ⟨c, T, fz, h1, by simp at h2; simp [h2]⟩⟩
      · exact ty_yes hit.lo hit.blk (by decide)
end Go.Proofs.YtnogfelfgclajaaGreatDoor
end

section
namespace Go.Proofs.YtnogfelfgclajaaGreatDoor
open Go.RowKit
attribute [local go_sem] ext_ext drew_ext ext_drew ext_cell ext_frozen in_lt in_le in_ne in_en in_ne1 in_en1 in_le1 in_ltn in_len in_nen in_enn size_le ite_max ite_min
set_option linter.unusedVariables false
set_option linter.unusedSimpArgs false

/-- A table, whatever blocks it lies in. -/
def TabOf (B : Nat) (w : World) (t : Nat) (s lim : Int) (q e : Nat) (G : Ps → List Int) (T : List (Ps × Bool)) : Prop := ∃ st d mb lv its D N, TabAt B w t s lim q e G T st d mb lv its D N
section
variable {B : Nat} {w W : World} {t q e st d mb N : Nat} {s lim : Int} {G : Ps → List Int} {T T' : List (Ps × Bool)} {lv lv' : Value} {its its' : List Nat} {D : Int → Option (List Nat)}
theorem tab_row (h : TabAt B w t s lim q e G T st d mb lv its D N) (hT : Turn (Ty B tyOut w) w W) (hr : RowNow B W t st s lim its' lv') (hi : Items B w G its' T') (hh : Hold s e G T' D N) (hf : (T'.length : Int) ≤ lim) : TabAt B W t s lim q e G T' st d mb lv' its' D N := by
  have hF : ∀ (g : Nat) (c : Array Value) (T : TypeId) (fz : Nat × Nat), w.heap[g]? = some (.cells c T fz) → T ∉ tyOut → ¬ Ty B tyOut w g := fun g c T fz hg hn => ty_no hg hn
  exact ⟨hr.tab, (hT.block _ (lt_of_block h.sto) (hF _ _ _ _ h.sto (by decide))).trans h.sto,
    h.dsk.turn hT (hF _ _ _ _ h.dsk.blk (by decide)) (by obtain ⟨mv, ⟨es, cl, h5, _⟩, _⟩ := h.dsk.map; exact ty_map h5) (fun g c fz hg => hF _ _ _ _ hg (by decide)),
    hr.row, hi.turn hT (fun g c fz hg => hF _ _ _ _ hg (by decide)) (fun g c fz hg => hF _ _ _ _ hg (by decide)) (fun g c fz hg => hF _ _ _ _ hg (by decide)), hh, h.tlo, h.slo, h.lim1, h.lim2, hf, h.far, Nat.lt_of_lt_of_le h.qlt hT.size⟩
theorem TabAt.rowNow (h : TabAt B w t s lim q e G T st d mb lv its D N) : RowNow B w t st s lim its lv := ⟨h.tab, h.tlo, h.row⟩
theorem TabAt.short (h : TabAt B w t s lim q e G T st d mb lv its D N) : its.length ≤ 16 := by
  have := h.items.len; have := h.full; have := h.lim2; omega
theorem out_tab {B : Nat} {TS : List TypeId} (h : Turn (Ty B tyOut w) w W) (hs : ∀ T ∈ tyOut, T ∈ TS) : Turn (Ty B TS w) w W := h.tyMono hs
/-- A chunk that is clean is let go. -/
theorem tabout_any (h : TabAt B w t s lim q e G T st d mb lv its D N) (i : Nat) (hi : i < its.length) (hj : i < T.length) (hc : T[i].2 = false) :
    Calls Tryz.prog 98 #[.pointer (some ⟨t, 0, none⟩), .int .i64 (i : Int)] w fun en w' => (∃ v, en = .returned v) ∧ TabOf B w' t s lim q e G (T.eraseIdx i) ∧ Turn (Ty B tyTab w) w w' := by
  refine (out_any B t st s lim its lv i hi h.short w h.rowNow (tab_size h)).mono ?_
  rintro en w' ⟨rfl, ⟨lv', hr⟩, hT⟩
  refine ⟨⟨_, rfl⟩, ⟨st, d, mb, lv', _, D, N, tab_row h hT hr (h.items.erase i) ?_ ?_⟩, hT.tyMono (by decide)⟩
  · exact Hold.tail (h.hold.perm (idx_perm hj)) hc
  · have := h.full; rw [List.length_eraseIdx]; split <;> omega
/-- A chunk is touched. -/
def TabTouched (B t : Nat) (s lim : Int) (q e : Nat) (G : Ps → List Int) (T : List (Ps × Bool)) (st d mb it : Nat) (its : List Nat) (D : Int → Option (List Nat)) (N : Nat) (w : World) (en : Ending) (w' : World) : Prop :=
  en = .returned (.pointer (some ⟨it, 0, none⟩)) ∧ (∃ lv, TabAt B w' t s lim q e G T st d mb lv its D N) ∧ Turn (Ty B tyTab w) w w'
theorem tabtouch_any (h : TabAt B w t s lim q e G T st d mb lv its D N) (i : Nat) (hi : i < its.length) (hj : i < T.length) :
    Calls Tryz.prog 92 #[.pointer (some ⟨t, 0, none⟩), .int .i64 (i : Int)] w (TabTouched B t s lim q e G (T.eraseIdx i ++ [T[i]]) st d mb its[i] (its.eraseIdx i ++ [its[i]]) D N w) := by
  refine (touch_any B t st s lim its lv i hi h.short w h.rowNow (tab_size h)).mono ?_
  rintro en w' ⟨rfl, ⟨lv', hr⟩, hT⟩
  refine ⟨rfl, ⟨lv', tab_row h hT hr ((h.items.erase i).snoc (h.items.get i hi hj)) ?_ ?_⟩, hT.tyMono (by decide)⟩
  · refine h.hold.perm ((List.perm_append_comm).trans ?_)
    exact idx_perm hj
  · have := h.full; rw [List.length_append, List.length_eraseIdx, if_pos hj]; simp; omega
end
/-- Chunks that are here stay here. -/
def Stay (T T' : List (Ps × Bool)) : Prop := ∀ p, (∃ c ∈ T, c.1 = p) → ∃ c ∈ T', c.1 = p
/-- .. and at most one comes. -/
def Keeps (T T' : List (Ps × Bool)) : Prop := Stay T T' ∧ T'.length ≤ T.length + 1
/-- .. and none comes. -/
def Same (T T' : List (Ps × Bool)) : Prop := Stay T T' ∧ T'.length = T.length
theorem same_perm {T T' : List (Ps × Bool)} (h : T'.Perm T) : Same T T' := ⟨fun _ ⟨c, hc, e⟩ => ⟨c, h.mem_iff.2 hc, e⟩, h.length_eq⟩
theorem Same.keeps {T T' : List (Ps × Bool)} (h : Same T T') : Keeps T T' := ⟨h.1, by have := h.2; omega⟩
theorem Same.trans {A B C : List (Ps × Bool)} (h : Same A B) (k : Same B C) : Same A C := ⟨fun p hp => k.1 p (h.1 p hp), k.2.trans h.2⟩
theorem same_set {T : List (Ps × Bool)} {m : Nat} (hm : m < T.length) {p : Ps} (hp : T[m].1 = p) (d : Bool) : Same T (T.set m (p, d)) := by
  refine ⟨fun q ⟨c, hc, e⟩ => ?_, List.length_set⟩
  obtain ⟨i, hi, hci⟩ := List.getElem_of_mem hc
  by_cases him : i = m
  · subst him
    refine ⟨(p, d), ?_, by rw [← e, ← hci]; exact hp.symm⟩
    have h2 : i < (T.set i (p, d)).length := by simpa using hi
    have h4 := List.getElem_mem h2
    rw [List.getElem_set_self] at h4
    exact h4
  · refine ⟨c, ?_, e⟩
    have h2 : i < (T.set m (p, d)).length := by simpa using hi
    have h4 := List.getElem_mem h2
    rw [List.getElem_set_ne (fun e => him e.symm), hci] at h4
    exact h4
theorem keeps_snoc (T : List (Ps × Bool)) (c : Ps × Bool) : Keeps T (T ++ [c]) := ⟨fun _ ⟨c', hc, e⟩ => ⟨c', List.mem_append_left _ hc, e⟩, by simp⟩
/-- Room made. -/
def RoomDone (B t : Nat) (s lim : Int) (q e : Nat) (G : Ps → List Int) (T : List (Ps × Bool)) (w : World) (en : Ending) (w' : World) : Prop :=
  en = .returned (.int .i64 0) ∧ (∃ T', TabOf B w' t s lim q e G T' ∧ (T'.length : Int) < lim ∧ (∀ c ∈ T', ∃ c' ∈ T, c.1 = c'.1) ∧ ((T.length : Int) < lim → T' = T)) ∧ Turn (Ty B tyTab w) w w'
set_option maxRecDepth 100000 in
set_option maxHeartbeats 2000000 in
theorem tabroom_any {B : Nat} {w : World} {t q e st d mb N : Nat} {s lim : Int} {G : Ps → List Int} {T : List (Ps × Bool)} {lv : Value} {its : List Nat} {D : Int → Option (List Nat)} (h : TabAt B w t s lim q e G T st d mb lv its D N) :
    Calls Tryz.prog 93 #[.pointer (some ⟨t, 0, none⟩)] w (RoomDone B t s lim q e G T w) := by
  have c2 := cell_of_block (i := 2) h.tab rfl
  have c3 := cell_of_block (i := 3) h.tab rfl
  haveI := in_of_cell c3
  have H := Lib.hid h
  obtain ⟨og, cap, rfl⟩ := h.row.form
  have hlen := h.items.len
  have hT : T.length ≤ 16 := by have := h.full; have := h.lim2; omega
  rw [ptrs_len, hlen] at c3
  by_cases hlt : (T.length : Int) < lim
  · have HL := Lib.hid hlt
    clear h hlen hT
    generalize T.length = n at c3 hlt
    go_enter Tryz.func93, Tryz.ntmps93
    go_wp2_with fail
    refine wp_region_ext ?_ ?_ ?_
    · kernel_rfl
    · kernel_rfl
    repeat (go_big_quiet_step (first | fail))
    refine wpQuiet_nil ?_
    rintro w1 ⟨_t, hw⟩
    have hc1 := named_cell hw
    have hz1 := named_frozen hw
    have hh1 := named_heap hw
    haveI hi1 := named_in hw
    haveI hb1 := named_below (w := w) hw
    clear hw
    have B1 := Lib.hid (grown_now (w := w) (W := w1))
    go_wp2_with fail
    go_ret
    exact ⟨rfl, ⟨T, ⟨st, d, mb, _, its, D, N, H.out.grown B1.out⟩, HL.out, fun c hc => ⟨c, hc, rfl⟩, fun _ => rfl⟩, turn_below B1.out⟩
  · have h0 : 0 < T.length := by have := h.lim1; omega
    have hi : 0 < its.length := by omega
    have IX := Lib.hid (fun W (hW : Below w.heap.size w W) => indexfunc_any its (fun _ => true) 135 #[] (.slice og (ptrs its).length cap) 0 W (by omega) ((ptrs_at h.row).ext W (ext_of hW)) (fun args W => by kernel_rfl) (fun W' hW' k hk => by
      obtain ⟨f, rfl⟩ := hW'
      have hb := ext_below W f
      have h2 := (h.items.turn (turn_below (F := fun _ => False) (hW.trans (hb.mono hW.size))) (fun _ _ _ _ => id) (fun _ _ _ _ => id) (fun _ _ _ _ => id)).get k hk (by omega)
      obtain ⟨k', rs, rv, h2, _⟩ := h2
      rw [Array.append_empty]
      exact (room1_any B its[k] k' _ _ rs rv _ h2).mono (fun e w' ⟨h1, h3⟩ => ⟨h1, ext_of (h3 ▸ Below.refl _ _)⟩)) (.inr ⟨0, rfl, hi, rfl, fun j hj => by omega⟩))
    obtain ⟨og', cap', hv, _, hp⟩ := ptrs_at h.row
    injection hv with e1 e2 e3
    subst e1 e3
    obtain ⟨g, rfl, d0⟩ := hp 0 hi
    haveI := in_of_cell d0
    have SV := Lib.hid (fun W (hW : Below w.heap.size w W) => tabsave_any (h.grown hW) 0 hi h0)
    have H0 := Lib.hid (And.intro h0 (And.intro hi h.full))
    have t0 : T.length ≠ 0 := by omega
    have t1 : (0 : Int) < (T.length : Int) := by omega
    rw [ptrs_len, hlen] at IX
    generalize its[0] = it at d0 SV
    clear h hp hT
    obtain ⟨n, hn⟩ : ∃ n, T.length = n := ⟨_, rfl⟩
    rw [hn] at c3 hlt t0 t1
    have HN := Lib.hid hn
    rw [hn] at IX
    clear hn hlen
    go_enter Tryz.func93, Tryz.ntmps93
    go_wp2_with fail
    refine wp_region_ext ?_ ?_ ?_
    · kernel_rfl
    · kernel_rfl
    repeat (go_big_quiet_step (first | fail))
    refine wpQuiet_nil ?_
    rintro w1 ⟨_t, hw⟩
    have hc1 := named_cell hw
    have hz1 := named_frozen hw
    have hh1 := named_heap hw
    haveI hi1 := named_in hw
    haveI hb1 := named_below (w := w) hw
    clear hw
    go_wp2_with fail
    refine (IX.out _ (by exact grown_now)).mono ?_
    rintro e w2 ⟨rfl, _t, hw⟩
    haveI hb2_1 := named_below (w := w1) hw
    have hc2 := named_cell hw
    have hz2 := named_frozen hw
    have hh2 := named_heap hw
    haveI hi2 := named_in hw
    haveI hb2 := named_below (w := w) hw
    clear hw
    have B2 := Lib.hid (grown_now (w := w) (W := w2))
    go_wp2_with fail
    refine (SV.out w2 B2.out).mono ?_
    rintro e w3 ⟨rfl, ⟨mb3, D3, N3, h3⟩, hT3⟩
    have H3 := Lib.hid h3
    have T3 := Lib.hid ((turn_below (F := Ty B tyTab w) B2.out).ty hT3)
    clear h3 hT3 SV IX
    have OU := Lib.hid (tabout_any H3.out 0 H0.out.2.1 (by simpa using H0.out.1) (by simp))
    go_wp2_with fail
    refine OU.out.mono ?_
    rintro e w4 ⟨⟨v4, rfl⟩, h4, hT4⟩
    have H4 := Lib.hid (And.intro h4 hT4)
    clear h4 hT4
    go_wp2_with fail
    go_ret
    refine ⟨rfl, ⟨_, H4.out.1, ?_, fun c hc => ?_, fun hl => ?_⟩, T3.out.ty H4.out.2⟩
    · have := H0.out.1
      have := H0.out.2.2
      rw [List.length_eraseIdx, if_pos (by simpa using H0.out.1), List.length_set]
      omega
    · have := List.mem_of_mem_eraseIdx hc
      rcases List.mem_or_eq_of_mem_set this with h5 | h5
      · exact ⟨c, h5, rfl⟩
      · exact ⟨T[0]'H0.out.1, List.getElem_mem _, by rw [h5]⟩
    · rw [HN.out] at hl
      omega
#print axioms tabroom_any
end Go.Proofs.YtnogfelfgclajaaGreatDoor
end

section
namespace Go.Proofs.YtnogfelfgclajaaGreatDoor
open Go.RowKit
attribute [local go_sem] ext_ext drew_ext ext_drew ext_cell ext_frozen in_lt in_le in_ne in_en in_ne1 in_en1 in_le1 in_ltn in_len in_nen in_enn size_le ite_max ite_min
set_option linter.unusedVariables false
set_option linter.unusedSimpArgs false

theorem Close.pl {p : Ps} (h : Close p) : Pl p.1 p.2 := ⟨by have := h.x0; omega, by have := h.x1; omega, by have := h.z0; omega, by have := h.z1; omega⟩
theorem load_fin {B : Nat} {w W w9 : World} {t q e st d mb N k : Nat} {s lim : Int} {G : Ps → List Int} {T : List (Ps × Bool)} {lv v9 rv : Value} {its : List Nat} {D : Int → Option (List Nat)} {p : Ps} {rs : List Rn} (h : TabAt B w t s lim q e G T st d mb lv its D N) (hk : ChunkAt B w k p rs rv) (hG : cellsR rs = G p) (hp : Close p)
    (hn : ∀ c ∈ T, c.1 ≠ p) (hl : (T.length : Int) < lim) (hW : Below w.heap.size w W) (hit : W.heap[w.heap.size]? = some (.cells #[.pointer (some ⟨k, 0, none⟩), .bool false, .int .i64 0] 134 (0, 0)))
    (hr : SRow B w9 126 v9 (ptrs (its ++ [w.heap.size]))) (ht : w9.heap[t]? = some (.cells #[.pointer (some ⟨st, 0, none⟩), .int .i64 s, .int .i64 lim, lv] 130 (0, 0))) (hT : Turn (Ty B tyOut W) W w9) :
    TabOf B (w9.setCell ⟨t, 3, none⟩ v9) t s lim q e G (T ++ [(p, false)]) ∧ Turn (Ty B tyOut w) w (w9.setCell ⟨t, 3, none⟩ v9) := by
  have hB := tab_size h
  have hWt := h.grown hW
  have hS : Turn (Ty B tyOut W) W (w9.setCell ⟨t, 3, none⟩ v9) := hT.setIn (ty_yes h.tlo hWt.tab (by decide)) _
  refine ⟨⟨st, d, mb, v9, _, D, N, tab_row hWt hS ⟨block_set ht _ (by simp), h.tlo, ?_⟩ (hWt.items.snoc (c := (p, false)) ⟨k, rs, rv, ⟨hit, hB, hk.grown hW⟩, hG⟩) ?_ ?_⟩, (turn_below (F := Ty B tyOut w) hW).ty hS⟩
  · exact hr.turn ((Turn.refl (fun j => j = t) w9).setIn rfl _) (fun g c fz hg => ne_ty ht hg (by decide))
  · exact (h.hold.cons hp hn).perm (List.perm_append_comm.trans (List.Perm.refl _))
  · rw [List.length_append]; simp; omega
/-- A chunk loaded: it is here. -/
def TabLoaded (B t : Nat) (s lim : Int) (q e : Nat) (G : Ps → List Int) (T : List (Ps × Bool)) (p : Ps) (w : World) (en : Ending) (w' : World) : Prop :=
  en = .returned (.int .i64 0) ∧ (∃ T', TabOf B w' t s lim q e G T' ∧ (∃ c ∈ T', c.1 = p) ∧ ((T.length : Int) < lim → Keeps T T')) ∧ Turn (Ty B tyTab w) w w'
set_option maxRecDepth 100000 in
set_option maxHeartbeats 4000000 in
theorem tabload_any {B : Nat} {w : World} {t q e st d mb N : Nat} {s lim : Int} {G : Ps → List Int} {T : List (Ps × Bool)} {lv : Value} {its : List Nat} {D : Int → Option (List Nat)} (h : TabAt B w t s lim q e G T st d mb lv its D N) (p : Ps) (hp : Close p) :
    Calls Tryz.prog 48 #[.pointer (some ⟨t, 0, none⟩), .agg #[.int .i64 p.1, .int .i64 p.2]] w (TabLoaded B t s lim q e G T p w) := by
  obtain ⟨r, hr⟩ := ix_ex T p
  haveI := in_of_block h.tab
  have H := Lib.hid h
  have HP := Lib.hid hp
  have FI := Lib.hid (fun W (hW : Below w.heap.size w W) => find_any W (h.grown hW) p.1 p.2 r hr)
  rcases hr with ⟨rfl, hno⟩ | ⟨i, hi, rfl, he⟩
  · have HNO := Lib.hid hno
    clear h hp hno
    go_enter Tryz.func48, Tryz.ntmps48
    go_wp2_with fail
    refine (tabid_any p HP.out _).mono ?_
    rintro e w1 ⟨rfl, _t, hw⟩
    have hc1 := named_cell hw
    have hz1 := named_frozen hw
    have hh1 := named_heap hw
    haveI hi1 := named_in hw
    haveI hb1 := named_below (w := w) hw
    clear hw
    go_wp2_with fail
    refine (FI.out _ (by exact grown_now)).mono ?_
    rintro e w2 ⟨rfl, _t, hw⟩
    haveI hb2_1 := named_below (w := w1) hw
    have hc2 := named_cell hw
    have hz2 := named_frozen hw
    have hh2 := named_heap hw
    haveI hi2 := named_in hw
    haveI hb2 := named_below (w := w) hw
    clear hw
    have B2 := Lib.hid (grown_now (w := w) (W := w2))
    have P2 : Hid (w2.heap[w.heap.size]? = some (.cells #[.int .i64 p.1, .int .i64 p.2] 35 (0, 0))) := Lib.hid ((hh2 _).trans ((hh1 _).trans (heap_alloc_new w _)))
    have RM := Lib.hid (tabroom_any (H.out.grown B2.out))
    clear FI
    go_wp2_with fail
    refine RM.out.mono ?_
    rintro e3 w3 ⟨rfl, ⟨T', ⟨st3, d3, mb3, lv3, its3, D3, N3, h3⟩, hl3, hs3, ht3⟩, hT3⟩
    have P3 := (hT3.block _ (lt_of_block P2.out) (ty_no P2.out (by decide))).trans P2.out
    have p0 := cell_of_block (i := 0) P3 rfl
    have p1 := cell_of_block (i := 1) P3 rfl
    haveI := in_of_cell p0
    have T3 := Lib.hid ((turn_below (F := Ty B tyTab w) B2.out).ty hT3)
    have N3' := Lib.hid (show ∀ c ∈ T', c.1 ≠ p from fun c hc e' => by
      obtain ⟨c', hc', e''⟩ := hs3 c hc
      exact HNO.out c' hc' (e''.symm.trans e'))
    have L3 := Lib.hid hl3
    have KP := Lib.hid (show (T.length : Int) < lim → Keeps T (T' ++ [(p, false)]) from fun hl => by rw [ht3 hl]; exact keeps_snoc T _)
    clear ht3
    obtain ⟨og3, cp3, rfl⟩ := h3.row.form
    have H3 := Lib.hid h3
    have c3 := cell_of_block (i := 3) h3.tab rfl
    have c0 := cell_of_block (i := 0) h3.tab rfl
    have c1 := cell_of_block (i := 1) h3.tab rfl
    haveI := in_of_cell c0
    obtain ⟨v, x, hr, hvN, hx⟩ := h3.hold.disk p HP.out
    have hx := hx (fun c hc e' => absurd e' (N3'.out c hc))
    have LD := Lib.hid (storeload_any B d3 mb3 st3 D3 N3 (idP p) v x w3 h3.dsk (cell_of_block (i := 0) h3.sto rfl) (idP_bd HP.out).1 (idP_bd HP.out).2 hr)
    have hok := hr.ok
    clear RM P3 hT3 hl3 hs3 h3 hr hvN B2 P2 HNO
    rcases hx with ⟨rfl, hgr⟩ | ⟨hv0, rs, hf, rfl, hcells⟩
    · obtain rfl : x = [] := by
        rcases hok with ⟨_, h⟩ | h
        · exact h
        · have := h.lo; omega
      have HG := Lib.hid hgr
      clear hok hgr
      go_wp2_with fail
      refine LD.out.mono ?_
      rintro e4 w4 ⟨bv, rfl, hb4, _t, hw⟩
      obtain rfl : bv = .slice none 0 0 := by
        rcases hb4 with ⟨_, h⟩ | ⟨h, _⟩
        · exact h
        · simp at h
      haveI hg4 := named_grown hw
      haveI hb43 := named_below (w := w3) hw
      have hc4 := named_cell hw
      have hz4 := named_frozen hw
      haveI hi4 := named_in hw
      clear hw hb4 LD
      go_wp2_with fail
      refine (chunkread_nil p _).mono ?_
      rintro e w5 ⟨rfl, _t, hw⟩
      haveI hb5_4 := named_below (w := w4) hw
      have hc5 := named_cell hw
      have hz5 := named_frozen hw
      have hh5 := named_heap hw
      haveI hi5 := named_in hw
      haveI hb5 := named_below (w := w3) hw
      clear hw
      have B5 := Lib.hid (grown_now (w := w3) (W := w5))
      have Q0 : w5.cell? ⟨w.heap.size, 0, none⟩ = some (.int .i64 p.1) := by rw [hc5, hc4]; exact p0
      have Q1 : w5.cell? ⟨w.heap.size, 1, none⟩ = some (.int .i64 p.2) := by rw [hc5, hc4]; exact p1
      have Q2 : w5.cell? ⟨t, 1, none⟩ = some (.int .i64 s) := by rw [hc5, hc4]; exact c1
      go_wp2_with fail
      go_region_law
        (first
          | (go_simp; go_at_call 96; refine (chunkmake_any s p _ HP.out.pl).mono ?_; rintro e w6 ⟨k6, rv6, rfl, hk6, _t, hw⟩
             haveI hg6 := named_grown hw
             haveI hb6 := named_below (w := w3) hw
             have hc6 := named_cell hw
             have hz6 := named_frozen hw
             haveI hi6 := named_in hw
             have K6 := Lib.hid (hk6.base (B' := B) (by exact Nat.le_trans (tab_size H3.out) (grown_now (w := w3)).size))
             clear hw hk6))
      all_goals
        have B6 := Lib.hid (grown_now (w := w3) (W := w6))
        have FIN := Lib.hid (fun (W w9 : World) (v9 : Value) hW hit hr ht hT => load_fin (W := W) (w9 := w9) (v9 := v9) (H3.out.grown B6.out) K6.out ((gr_fine s p).2.trans HG.out.symm) HP.out N3'.out L3.out hW hit hr ht hT)
        have SN := Lib.hid (fun (ty : TypeId) (W : World) (hW : Below w6.heap.size w6 W) (b : Nat) hc => snoc_row B t st3 s lim its3 _ w6.heap.size b H3.out.short W ⟨(hW.block t (lt_of_block (H3.out.grown B6.out).tab)).trans (H3.out.grown B6.out).tab, H3.out.tlo, (H3.out.grown B6.out).row.grown hW⟩ (Nat.le_trans (tab_size (H3.out.grown B6.out)) hW.size) ty hc)
        have Q3 : w6.cell? ⟨t, 3, none⟩ = some (.slice og3 (ptrs its3).length cp3) := cell_of_block (i := 3) (H3.out.grown B6.out).tab rfl
        have f3 := free_of_block 3 (H3.out.grown B6.out).tab
        go_wp2_with
          (at_builtin; refine wpList_append_of (by rfl) (.tmp 62) (.tmp 66) 128 128 (by rfl) _ _ (by rfl) (by rfl) (SN.out _ _ (by exact grown_now) _ (by go_simp)) ?_; rintro v9 w9 ⟨hrow9, htab9, hT9, _t⟩
           go_loud (have F9 := Lib.hid (FIN.out _ _ _ (by exact grown_now) (by first | exact heap_alloc_new _ _ | (rw [heap_alloc_old _ _ (by simp)]; exact heap_alloc_new _ _)) hrow9 htab9 hT9))
           have c9 := cell_of_block (i := 3) htab9 rfl
           have f9 := free_of_block 3 htab9
           obtain ⟨og9, cp9, hv9⟩ := hrow9.form
           subst hv9
           clear hrow9 htab9 hT9 _t)
        go_ret
        exact ⟨rfl, ⟨_, F9.out.1, ⟨(p, false), by simp, rfl⟩, KP.out⟩, (T3.out.ty (turn_below (F := Ty B tyTab w3) B6.out)).ty (F9.out.2.tyMono (by decide))⟩
    · obtain ⟨cg, hcg⟩ : ∃ cg, cellsR rs = cg := ⟨_, rfl⟩
      have HC := Lib.hid hcells
      have HF := Lib.hid hf
      clear hok hcells hcg cg
      go_wp2_with fail
      refine LD.out.mono ?_
      rintro e4 w4 ⟨bv, rfl, hb4, _t, hw⟩
      obtain ⟨g4, o4, cp4, rfl, hcp4, hby4⟩ : ∃ g o cap, bv = .slice (some ⟨g, o, none⟩) (codeW rs).length cap ∧ (codeW rs).length ≤ cap ∧ BytesAt w4 g o (codeW rs) := by
        rcases hb4 with ⟨h, _⟩ | ⟨_, h⟩
        · have := codeW_pos HF.out
          rw [h] at this
          simp at this
        · exact h
      haveI hg4 := named_grown hw
      haveI hb43 := named_below (w := w3) hw
      have hc4 := named_cell hw
      have hz4 := named_frozen hw
      haveI hi4 := named_in hw
      have RD := Lib.hid (chunkread_any p rs g4 o4 cp4 w4 HF.out hcp4 hby4)
      have N4 := Lib.hid hv0
      clear hw hb4 LD hcp4 hby4 hv0
      go_wp2_with fail
      refine RD.out.mono ?_
      rintro e6 w6 ⟨k6, rv6, rfl, hk6, _t, hw⟩
      haveI hg6 := named_grown hw
      haveI hb6 := named_below (w := w3) hw
      have hc6 := named_cell hw
      have hz6 := named_frozen hw
      haveI hi6 := named_in hw
      have K6 := Lib.hid (hk6.base (B' := B) (by exact Nat.le_trans (tab_size H3.out) (grown_now (w := w3)).size))
      clear hw hk6
      have B6 := Lib.hid (grown_now (w := w3) (W := w6))
      have FIN := Lib.hid (fun (W w9 : World) (v9 : Value) hW hit hr ht hT => load_fin (W := W) (w9 := w9) (v9 := v9) (H3.out.grown B6.out) K6.out HC.out HP.out N3'.out L3.out hW hit hr ht hT)
      have SN := Lib.hid (fun (ty : TypeId) (W : World) (hW : Below w6.heap.size w6 W) (b : Nat) hc => snoc_row B t st3 s lim its3 _ w6.heap.size b H3.out.short W ⟨(hW.block t (lt_of_block (H3.out.grown B6.out).tab)).trans (H3.out.grown B6.out).tab, H3.out.tlo, (H3.out.grown B6.out).row.grown hW⟩ (Nat.le_trans (tab_size (H3.out.grown B6.out)) hW.size) ty hc)
      have Q3 : w6.cell? ⟨t, 3, none⟩ = some (.slice og3 (ptrs its3).length cp3) := cell_of_block (i := 3) (H3.out.grown B6.out).tab rfl
      have f3 := free_of_block 3 (H3.out.grown B6.out).tab
      go_wp2_with
        (at_builtin; refine wpList_append_of (by rfl) (.tmp 62) (.tmp 66) 128 128 (by rfl) _ _ (by rfl) (by rfl) (SN.out _ _ (by exact grown_now) _ (by go_simp)) ?_; rintro v9 w9 ⟨hrow9, htab9, hT9, _t⟩
         go_loud (have F9 := Lib.hid (FIN.out _ _ _ (by exact grown_now) (by first | exact heap_alloc_new _ _ | (rw [heap_alloc_old _ _ (by simp)]; exact heap_alloc_new _ _)) hrow9 htab9 hT9))
         have c9 := cell_of_block (i := 3) htab9 rfl
         have f9 := free_of_block 3 htab9
         obtain ⟨og9, cp9, hv9⟩ := hrow9.form
         subst hv9
         clear hrow9 htab9 hT9 _t)
      go_ret
      exact ⟨rfl, ⟨_, F9.out.1, ⟨(p, false), by simp, rfl⟩, KP.out⟩, (T3.out.ty (turn_below (F := Ty B tyTab w3) B6.out)).ty (F9.out.2.tyMono (by decide))⟩
  · have HI := Lib.hid he
    have TC := Lib.hid (fun W (hW : Below w.heap.size w W) => tabtouch_any (H.out.grown hW) i (by rw [H.out.items.len]; exact hi) hi)
    have HM := Lib.hid (show ∃ c ∈ T.eraseIdx i ++ [T[i]], c.1 = p from ⟨T[i], by simp, he⟩)
    have KP := Lib.hid (show Keeps T (T.eraseIdx i ++ [T[i]]) from (same_perm (List.perm_append_comm.trans (idx_perm hi))).keeps)
    have i0 : (0 : Int) ≤ (i : Int) := by omega
    clear h hp he
    go_enter Tryz.func48, Tryz.ntmps48
    go_wp2_with fail
    refine (tabid_any p HP.out _).mono ?_
    rintro e w1 ⟨rfl, _t, hw⟩
    have hc1 := named_cell hw
    have hz1 := named_frozen hw
    have hh1 := named_heap hw
    haveI hi1 := named_in hw
    haveI hb1 := named_below (w := w) hw
    clear hw
    go_wp2_with fail
    refine (FI.out _ (by exact grown_now)).mono ?_
    rintro e w2 ⟨rfl, _t, hw⟩
    haveI hb2_1 := named_below (w := w1) hw
    have hc2 := named_cell hw
    have hz2 := named_frozen hw
    have hh2 := named_heap hw
    haveI hi2 := named_in hw
    haveI hb2 := named_below (w := w) hw
    clear hw
    have B2 := Lib.hid (grown_now (w := w) (W := w2))
    clear FI
    go_wp2_with fail
    refine (TC.out w2 B2.out).mono ?_
    rintro e3 w3 ⟨rfl, ⟨lv3, h3⟩, hT3⟩
    have H3 := Lib.hid (And.intro h3 hT3)
    clear h3 hT3 TC
    go_wp2_with fail
    go_ret
    exact ⟨rfl, ⟨_, ⟨st, d, mb, lv3, _, D, N, H3.out.1⟩, HM.out, fun _ => KP.out⟩, (turn_below (F := Ty B tyTab w) B2.out).ty H3.out.2⟩
#print axioms tabload_any
end Go.Proofs.YtnogfelfgclajaaGreatDoor
end

section
namespace Go.Proofs.YtnogfelfgclajaaGreatDoor
open Go.RowKit
attribute [local go_sem] ext_ext drew_ext ext_drew ext_cell ext_frozen in_lt in_le in_ne in_en in_ne1 in_en1 in_le1 in_ltn in_len in_nen in_enn size_le ite_max ite_min
set_option linter.unusedVariables false
set_option linter.unusedSimpArgs false

/-- What a call that may let chunks go, or save some, hands back. -/
def TabSome (B t : Nat) (s lim : Int) (q e : Nat) (G : Ps → List Int) (w : World) (en : Ending) (w' : World) : Prop :=
  (∃ n : Nat, n ≤ 6 ∧ en = .returned (.int .i64 (n : Int))) ∧ (∃ T', TabOf B w' t s lim q e G T') ∧ Turn (Ty B tyTab w) w w'
set_option maxRecDepth 100000 in
set_option maxHeartbeats 4000000 in
theorem tabflush_any {B : Nat} {w : World} {t q e st d mb N : Nat} {s lim : Int} {G : Ps → List Int} {T : List (Ps × Bool)} {lv : Value} {its : List Nat} {D : Int → Option (List Nat)} (h : TabAt B w t s lim q e G T st d mb lv its D N) (p : Ps) :
    Calls Tryz.prog 50 #[.pointer (some ⟨t, 0, none⟩), .agg #[.int .i64 p.1, .int .i64 p.2]] w (TabSome B t s lim q e G w) := by
  obtain ⟨r, hr⟩ := ix_ex T p
  have c3 := cell_of_block (i := 3) h.tab rfl
  haveI := in_of_block h.tab
  have H := Lib.hid h
  have FI := Lib.hid (fun W (hW : Below w.heap.size w W) => find_any W (h.grown hW) p.1 p.2 r hr)
  rcases hr with ⟨rfl, hno⟩ | ⟨i, hi, rfl, he⟩
  · clear h hno
    obtain ⟨og, cap, rfl⟩ := H.out.row.form
    go_enter Tryz.func50, Tryz.ntmps50
    go_wp2_with fail
    refine (FI.out _ (by exact grown_now)).mono ?_
    rintro e w1 ⟨rfl, _t, hw⟩
    have hc1 := named_cell hw
    have hz1 := named_frozen hw
    have hh1 := named_heap hw
    haveI hi1 := named_in hw
    haveI hb1 := named_below (w := w) hw
    clear hw
    have B1 := Lib.hid (grown_now (w := w) (W := w1))
    clear FI
    go_wp2_with fail
    go_ret
    exact ⟨⟨6, by omega, rfl⟩, ⟨T, st, d, mb, _, its, D, N, H.out.grown B1.out⟩, turn_below B1.out⟩
  · have hi2 : i < its.length := by rw [h.items.len]; exact hi
    have SV := Lib.hid (fun W (hW : Below w.heap.size w W) => tabsave_any (h.grown hW) i hi2 hi)
    obtain ⟨og, cap, rfl, hcp, hpt⟩ := ptrs_at h.row
    obtain ⟨g, rfl, d0⟩ := hpt i hi2
    haveI := in_of_cell d0
    generalize its[i] = it at d0 SV
    have i0 : (0 : Int) ≤ (i : Int) := by omega
    have i1 : (i : Int) < (its.length : Int) := by omega
    clear h hpt he
    go_enter Tryz.func50, Tryz.ntmps50
    go_wp2_with fail
    refine (FI.out _ (by exact grown_now)).mono ?_
    rintro e w1 ⟨rfl, _t, hw⟩
    have hc1 := named_cell hw
    have hz1 := named_frozen hw
    have hh1 := named_heap hw
    haveI hi1 := named_in hw
    haveI hb1 := named_below (w := w) hw
    clear hw
    have B1 := Lib.hid (grown_now (w := w) (W := w1))
    clear FI
    go_wp2_with fail
    refine (SV.out w1 B1.out).mono ?_
    rintro e3 w3 ⟨rfl, h3, hT3⟩
    have H3 := Lib.hid (And.intro h3 hT3)
    clear h3 hT3 SV
    go_wp2_with fail
    go_ret
    refine ⟨⟨0, by omega, rfl⟩, ?_, (turn_below (F := Ty B tyTab w) B1.out).ty H3.out.2⟩
    obtain ⟨mb', D', N', h'⟩ := H3.out.1
    exact ⟨_, st, d, mb', _, _, D', N', h'⟩
set_option maxRecDepth 100000 in
set_option maxHeartbeats 4000000 in
theorem tabunload_any {B : Nat} {w : World} {t q e st d mb N : Nat} {s lim : Int} {G : Ps → List Int} {T : List (Ps × Bool)} {lv : Value} {its : List Nat} {D : Int → Option (List Nat)} (h : TabAt B w t s lim q e G T st d mb lv its D N) (p : Ps) :
    Calls Tryz.prog 49 #[.pointer (some ⟨t, 0, none⟩), .agg #[.int .i64 p.1, .int .i64 p.2]] w (TabSome B t s lim q e G w) := by
  obtain ⟨r, hr⟩ := ix_ex T p
  have c3 := cell_of_block (i := 3) h.tab rfl
  haveI := in_of_block h.tab
  have H := Lib.hid h
  have FI := Lib.hid (fun W (hW : Below w.heap.size w W) => find_any W (h.grown hW) p.1 p.2 r hr)
  rcases hr with ⟨rfl, hno⟩ | ⟨i, hi, rfl, he⟩
  · clear h hno
    obtain ⟨og, cap, rfl⟩ := H.out.row.form
    go_enter Tryz.func49, Tryz.ntmps49
    go_wp2_with fail
    refine (FI.out _ (by exact grown_now)).mono ?_
    rintro e w1 ⟨rfl, _t, hw⟩
    have hc1 := named_cell hw
    have hz1 := named_frozen hw
    have hh1 := named_heap hw
    haveI hi1 := named_in hw
    haveI hb1 := named_below (w := w) hw
    clear hw
    have B1 := Lib.hid (grown_now (w := w) (W := w1))
    clear FI
    go_wp2_with fail
    go_ret
    exact ⟨⟨6, by omega, rfl⟩, ⟨T, st, d, mb, _, its, D, N, H.out.grown B1.out⟩, turn_below B1.out⟩
  · have hi2 : i < its.length := by rw [h.items.len]; exact hi
    have SV := Lib.hid (fun W (hW : Below w.heap.size w W) => tabsave_any (h.grown hW) i hi2 hi)
    obtain ⟨k, rs, rv, hit, _⟩ := h.items.get i hi2 hi
    have e2 := cell_of_block (i := 2) hit.blk rfl
    obtain ⟨og, cap, rfl, hcp, hpt⟩ := ptrs_at h.row
    obtain ⟨g, rfl, d0⟩ := hpt i hi2
    haveI := in_of_cell d0
    have HI := Lib.hid (And.intro hi hi2)
    have j0 : (0 : Int) ≤ (i : Int) := by omega
    have j1 : (i : Int) < (its.length : Int) := by omega
    clear hit
    generalize its[i] = it at d0 SV e2
    haveI := in_of_cell e2
    clear h hpt he
    go_enter Tryz.func49, Tryz.ntmps49
    go_wp2_with fail
    refine (FI.out _ (by exact grown_now)).mono ?_
    rintro e w1 ⟨rfl, _t, hw⟩
    have hc1 := named_cell hw
    have hz1 := named_frozen hw
    have hh1 := named_heap hw
    haveI hi1 := named_in hw
    haveI hb1 := named_below (w := w) hw
    clear hw
    have B1 := Lib.hid (grown_now (w := w) (W := w1))
    clear FI
    go_wp2_with fail
    refine (SV.out w1 B1.out).mono ?_
    rintro e3 w3 ⟨rfl, ⟨mb3, D3, N3, h3⟩, hT3⟩
    have H3 := Lib.hid (And.intro h3 hT3)
    have OU := Lib.hid (tabout_any h3 i HI.out.2 (by simpa using HI.out.1) (by simp))
    clear h3 hT3 SV
    go_wp2_with fail
    refine OU.out.mono ?_
    rintro e4 w4 ⟨⟨v4, rfl⟩, h4, hT4⟩
    have H4 := Lib.hid (And.intro h4 hT4)
    clear h4 hT4 OU
    go_wp2_with fail
    go_ret
    exact ⟨⟨0, by omega, rfl⟩, ⟨_, H4.out.1⟩, ((turn_below (F := Ty B tyTab w) B1.out).ty H3.out.2).ty H4.out.2⟩
/-- All that are dirty saved. -/
def TabAll (B t : Nat) (s lim : Int) (q e : Nat) (G : Ps → List Int) (w : World) (en : Ending) (w' : World) : Prop :=
  (∃ n : Nat, n < 100 ∧ en = .returned (.tuple #[.int .i64 (n : Int), .int .i64 0])) ∧ (∃ T', TabOf B w' t s lim q e G T') ∧ Turn (Ty B tyTab w) w w'
set_option maxRecDepth 100000 in
set_option maxHeartbeats 4000000 in
theorem tabflushall_any {B : Nat} {w : World} {t q e st d mb N : Nat} {s lim : Int} {G : Ps → List Int} {T : List (Ps × Bool)} {lv : Value} {its : List Nat} {D : Int → Option (List Nat)} (h : TabAt B w t s lim q e G T st d mb lv its D N) :
    Calls Tryz.prog 99 #[.pointer (some ⟨t, 0, none⟩)] w (TabAll B t s lim q e G w) := by
  have c3 := cell_of_block (i := 3) h.tab rfl
  haveI := in_of_block h.tab
  have H := Lib.hid h
  have hs := h.short
  obtain ⟨og, cap, rfl, hcp, hpt⟩ := ptrs_at h.row
  have HP := Lib.hid hpt
  obtain ⟨n, hn⟩ : ∃ n, its.length = n := ⟨_, rfl⟩
  rw [hn] at c3 hs
  have HN := Lib.hid hn
  clear h hpt hn hcp
  have n0 : (n : Int) ≤ 16 := by omega
  go_enter Tryz.func99, Tryz.ntmps99
  go_wp2_with fail
  go_loopw [4, 6, 7, 8, 14] (fun s4 _ _ _ s14 wr => ∃ k m : Nat, k ≤ n ∧ m ≤ k ∧ s14 = .int .i64 (k : Int) ∧ s4 = .int .i64 (m : Int) ∧ (∃ mb D N T', Hid (TabAt B wr t s lim q e G T' st d mb (.slice og its.length cap) its D N)) ∧ Hid (Turn (Ty B tyTab w) w wr)) (fun _ _ _ _ s14 _ => n - (intOf s14).toNat)
  case atStart => exact ⟨0, 0, by omega, by omega, rfl, rfl, ⟨mb, D, N, T, H⟩, Lib.hid (Turn.refl _ _)⟩
  case round =>
    obtain ⟨k, m, hk, hm, rfl, rfl, ⟨mb1, D1, N1, T1, H1⟩, HT⟩ := hrel
    rename World => w1
    have k0 : (0 : Int) ≤ (k : Int) := Int.natCast_nonneg _
    have m0 : (0 : Int) ≤ (m : Int) := Int.natCast_nonneg _
    have m1 : (m : Int) ≤ 16 := by omega
    by_cases hlt : k < n
    · have k1 : (k : Int) < (n : Int) := by omega
      have hk2 : k < its.length := by have := HN.out; omega
      have hk3 : k < T1.length := by have := H1.out.items.len; omega
      obtain ⟨g, rfl, d0⟩ := HP.out k hk2
      have d1 : w1.cell? ⟨g, k, none⟩ = some (.pointer (some ⟨its[k], 0, none⟩)) := by
        obtain ⟨og', cap', hv, _, hp⟩ := ptrs_at H1.out.row
        injection hv with e1 e2 e3
        obtain ⟨g', e4, h5⟩ := hp k hk2
        rw [← e1] at e4
        injection e4 with e4
        injection e4 with e4
        rw [e4]
        exact h5
      have e1 : w1.cell? ⟨its[k], 1, none⟩ = some (.bool T1[k].2) := by
        obtain ⟨kk, rs, rv, hit, _⟩ := H1.out.items.get k hk2 hk3
        exact cell_of_block (i := 1) hit.blk rfl
      have SV := Lib.hid (tabsave_any H1.out k hk2 hk3)
      generalize T1[k].2 = dd at e1
      generalize its[k] = it at d1 SV e1
      have HK := Lib.hid (And.intro hlt hm)
      clear d0 hlt hk hm
      cases dd
      · go_wp2_with fail
        refine SV.out.mono ?_
        rintro e3 w3 ⟨rfl, ⟨mb3, D3, N3, h3⟩, hT3⟩
        have H3 := Lib.hid h3
        have T3 := Lib.hid (HT.out.ty hT3)
        clear h3 hT3 SV
        go_wp2_with fail
        go_roundw
        case rel => exact ⟨k + 1, m, by have := HK.out.1; omega, by have := HK.out.2; omega, by go_num, rfl, ⟨mb3, D3, N3, _, H3⟩, T3⟩
        case measure => have := HK.out.1; simp [intOf]; omega
      · go_wp2_with fail
        refine SV.out.mono ?_
        rintro e3 w3 ⟨rfl, ⟨mb3, D3, N3, h3⟩, hT3⟩
        have H3 := Lib.hid h3
        have T3 := Lib.hid (HT.out.ty hT3)
        clear h3 hT3 SV
        go_wp2_with fail
        go_roundw
        case rel => exact ⟨k + 1, m + 1, by have := HK.out.1; omega, by have := HK.out.2; omega, by go_num, by go_num, ⟨mb3, D3, N3, _, H3⟩, T3⟩
        case measure => have := HK.out.1; simp [intOf]; omega
    · have k1 : ¬ (k : Int) < (n : Int) := by omega
      have HM := Lib.hid (show m < 100 by omega)
      clear hlt hk hm
      go_wp2_with fail
      go_ret2
      exact ⟨⟨m, HM.out, rfl⟩, ⟨T1, st, d, mb1, _, its, D1, N1, H1.out⟩, HT.out⟩
#print axioms tabflushall_any
end Go.Proofs.YtnogfelfgclajaaGreatDoor
end
