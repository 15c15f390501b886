/-
  A table: where a chunk stands.
  A table: a chunk let go; a chunk touched.
-/
import Derived.Test.YtnogfelfgclajaaGreatDoorMb12
import Derived.IntWalk
section
namespace Go.Proofs.YtnogfelfgclajaaGreatDoor
open Go.RowKit
attribute [local go_sem] ext_ext drew_ext ext_drew ext_cell ext_frozen in_lt in_le in_ne in_en in_ne1 in_en1 in_le1 in_ltn in_len in_nen in_enn size_le ite_max ite_min
set_option linter.unusedVariables false
set_option linter.unusedSimpArgs false
attribute [local go_sem ↓] eqp_any

theorem makefunc (fn : Fn) (first cap : Array Value) (w : World) : (Instr.makeFunc fn first cap).run Tryz.prog w = .ok (.func fn first cap) w := rfl
/-- A row of pointers, as the walk reads it. -/
def PtrsAt (w : World) (lv : Value) (its : List Nat) : Prop := ∃ og cap, lv = .slice og its.length cap ∧ its.length ≤ cap ∧ ∀ k (h : k < its.length), ∃ g, og = some ⟨g, 0, none⟩ ∧ w.cell? ⟨g, k, none⟩ = some (.pointer (some ⟨its[k], 0, none⟩))
theorem ptrs_at {B : Nat} {w : World} {T : TypeId} {lv : Value} {its : List Nat} (h : SRow B w T lv (ptrs its)) : PtrsAt w lv its := by
  rcases Nat.eq_zero_or_pos its.length with h0 | h0
  · rcases h with ⟨rfl, _⟩ | ⟨g, cap, cur, rfl, _, _, h1, _⟩
    · exact ⟨_, _, by rw [h0], by omega, fun k hk => by omega⟩
    · rw [ptrs_len] at h1 ⊢
      exact ⟨_, _, rfl, h1, fun k hk => by omega⟩
  · obtain ⟨g, cap, rfl, h1, _, _, _, hc⟩ := h.got (by rw [ptrs_len]; exact h0)
    rw [ptrs_len] at h1 ⊢
    exact ⟨_, _, rfl, h1, fun k hk => ⟨g, rfl, hc k _ (by simp [ptrs, hk])⟩⟩
theorem PtrsAt.ext {w : World} {lv : Value} {its : List Nat} (h : PtrsAt w lv its) (W : World) (hW : ∃ f, W = Go.Proofs.YtnogfelfgclajaaGreatDoor.ext w f) : PtrsAt W lv its := by
  obtain ⟨og, cap, e, h1, h2⟩ := h
  obtain ⟨f, rfl⟩ := hW
  refine ⟨og, cap, e, h1, fun k hk => ?_⟩
  obtain ⟨g, e1, h3⟩ := h2 k hk
  exact ⟨g, e1, ((ext_below w f).cell (p := ⟨g, k, none⟩) (World.block_lt_of_cell? w _ h3)).trans h3⟩
/-- The first index of which a test says yes; -1: there is none. -/
def FirstIx (n : Nat) (P : Nat → Bool) (r : Int) : Prop := (r = -1 ∧ ∀ j, j < n → P j = false) ∨ ∃ k : Nat, r = (k : Int) ∧ k < n ∧ P k = true ∧ ∀ j, j < k → P j = false
set_option maxRecDepth 100000 in
set_option maxHeartbeats 1000000 in
theorem indexfunc_any (its : List Nat) (P : Nat → Bool) (g : Nat) (caps : Array Value) (lv : Value) (r : Int) (w : World) (hn : its.length ≤ 1000) (hl : PtrsAt w lv its)
    (eg : ∀ args W, (callFunc g args).run Tryz.prog W = .ok (.enter g args) W)
    (hp : ∀ W, (∃ f, W = ext w f) → ∀ k (h : k < its.length), Calls Tryz.prog g (#[.pointer (some ⟨its[k], 0, none⟩)] ++ caps) W fun e w' => e = .returned (.bool (P k)) ∧ ∃ f, w' = ext W f)
    (hr : FirstIx its.length P r) :
    Calls Tryz.prog 124 #[lv, .func (.func g) #[] caps] w fun e w' => e = .returned (.int .i64 r) ∧ ∃ f, w' = ext w f := by
  obtain ⟨og, cap, rfl, _, hc⟩ := hl
  have HC := Lib.hid hc
  have HP := Lib.hid hp
  obtain ⟨n, hj⟩ : ∃ n, its.length = n := ⟨_, rfl⟩
  rw [hj] at hr hn ⊢
  have HR := Lib.hid hr
  have HJ := Lib.hid hj
  clear hc hp hr hj
  go_enter Tryz.func124, Tryz.ntmps124
  go_wp2_with fail
  go_loopw [5, 8] (fun _ s8 wr => ∃ k : Nat, k ≤ n ∧ s8 = .int .i64 k ∧ Hid (∀ j, j < k → P j = false) ∧ ∃ f, wr = ext w f) (fun _ s8 _ => n - (intOf s8).toNat)
  case atStart => exact ⟨0, by omega, rfl, Lib.hid (fun j hj => by omega), ⟨id, by unfold ext; split <;> rfl⟩⟩
  case round =>
    obtain ⟨k, hk, rfl, hA, _, hw⟩ := hrel
    rename World => w1
    haveI hg1 := named_grown hw
    have hc1 := named_cell hw
    haveI hb1 := named_below (w := w) hw
    haveI hi1 := named_in hw
    clear hw
    by_cases hlt : k < n
    · have hki : k < its.length := by have := HJ.out; omega
      obtain ⟨gb, rfl, d0⟩ := HC.out k (by omega)
      haveI := in_of_cell d0
      have HK := Lib.hid (And.intro hk hlt)
      have CL := HP.out w1 (by exact grown_of) k (by omega)
      generalize its[k] = it at *
      have k1 : (k : Int) < (n : Int) := by omega
      have k2 : (n : Int) ≤ 1000 := by omega
      clear hki hk hlt
      cases hP : P k with
      | true =>
        rw [hP] at CL
        have HX := Lib.hid hP
        clear hP
        go_wp2_with fail
        go_at_fn g
        refine CL.mono ?_
        rintro e w2 ⟨rfl, _t, hw⟩
        haveI hg2 := named_grown hw
        haveI hb2 := named_below (w := w) hw
        clear hw CL
        go_wp2_with fail
        go_ret
        refine ⟨?_, grown_of⟩
        rcases HR.out with ⟨_, h2⟩ | ⟨k', rfl, h2, h3, h4⟩
        · have := h2 k HK.out.2; rw [HX.out] at this; cases this
        · rcases Nat.lt_trichotomy k k' with h5 | h5 | h5
          · have := h4 k h5; rw [HX.out] at this; cases this
          · rw [h5]
            rfl
          · have := hA.out k' h5; rw [h3] at this; cases this
      | false =>
        rw [hP] at CL
        have HX := Lib.hid hP
        clear hP
        go_wp2_with fail
        go_at_fn g
        refine CL.mono ?_
        rintro e w2 ⟨rfl, _t, hw⟩
        haveI hg2 := named_grown hw
        haveI hb2 := named_below (w := w) hw
        clear hw CL
        go_wp2_with fail
        go_roundw
        case rel =>
          exact ⟨k + 1, by have := HK.out; omega, by go_num, Lib.hid (fun j hj => by
            by_cases e : j = k
            · subst e; exact HX.out
            · exact hA.out j (by omega)), grown_of⟩
        case measure => have := HK.out; simp [intOf]; omega
    · have k1 : ¬ (k : Int) < (n : Int) := by omega
      have HK : Hid (k = n) := Lib.hid (by omega)
      clear hlt hk
      go_wp2_with fail
      go_ret
      refine ⟨?_, grown_of⟩
      rcases HR.out with ⟨rfl, _⟩ | ⟨k', rfl, h2, h3, h4⟩
      · rfl
      · have := hA.out k' (by have := HK.out; omega); rw [h3] at this; cases this

/-- Is it this one? -/
theorem find1_any (B it k : Nat) (p : Ps) (d : Bool) (rs : List Rn) (rv : Value) (x z : Int) (pb : Nat) (w : World) (h : ItemAt B w it k p d rs rv) (h0 : w.cell? ⟨pb, 0, none⟩ = some (.int .i64 x)) (h1 : w.cell? ⟨pb, 1, none⟩ = some (.int .i64 z)) :
    Calls Tryz.prog 125 #[.pointer (some ⟨it, 0, none⟩), .pointer (some ⟨pb, 0, none⟩)] w fun e w' => e = .returned (.bool (eqpS p.1 p.2 x z)) ∧ ∃ f, w' = ext w f := by
  have c0 := cell_of_block (i := 0) h.blk rfl
  have k0 := cell_of_block (i := 0) h.chunk.blk rfl
  have k1 := cell_of_block (i := 1) h.chunk.blk rfl
  haveI := in_of_cell c0
  haveI := in_of_cell k0
  haveI := in_of_cell h0
  clear h
  go_enter Tryz.func125, Tryz.ntmps125
  go_wp2_with fail
  refine wp_region_ext ?_ ?_ ?_
  · kernel_rfl
  · kernel_rfl
  repeat (go_big_quiet_step (first | (go_at_call 126; exact ext_call (place_any _ _ _))))
  refine wpQuiet_nil ?_
  rintro w1 ⟨_t, hw⟩
  have hc1 := named_cell hw
  have hz1 := named_frozen hw
  have hh1 := named_heap hw
  haveI hi1 := named_in hw
  haveI hb1 := named_below (w := w) hw
  clear hw
  go_wp2_with fail
  go_ret
  exact ⟨rfl, grown_of⟩
/-- Where a chunk stands. -/
def IxOf (T : List (Ps × Bool)) (p : Ps) (r : Int) : Prop := (r = -1 ∧ ∀ c ∈ T, c.1 ≠ p) ∨ ∃ (k : Nat) (h : k < T.length), r = (k : Int) ∧ T[k].1 = p
theorem ix_ex (T : List (Ps × Bool)) (p : Ps) : ∃ r, IxOf T p r := by
  by_cases h : ∃ c ∈ T, c.1 = p
  · obtain ⟨c, hc, e⟩ := h
    obtain ⟨k, hk, rfl⟩ := List.getElem_of_mem hc
    exact ⟨k, .inr ⟨k, hk, rfl, e⟩⟩
  · exact ⟨-1, .inl ⟨rfl, fun c hc e => h ⟨c, hc, e⟩⟩⟩
theorem once_ix {T : List (Ps × Bool)} (h : (T.map (·.1)).Nodup) {i j : Nat} (hi : i < T.length) (hj : j < T.length) (e : T[i].1 = T[j].1) : i = j := by
  have h1 := List.nodup_iff_pairwise_ne.1 h
  rcases Nat.lt_trichotomy i j with h2 | h2 | h2
  · have := List.pairwise_iff_getElem.1 h1 i j (by simpa using hi) (by simpa using hj) h2
    simp at this
    exact absurd e this
  · exact h2
  · have := List.pairwise_iff_getElem.1 h1 j i (by simpa using hj) (by simpa using hi) h2
    simp at this
    exact absurd e.symm this
set_option maxRecDepth 100000 in
set_option maxHeartbeats 1000000 in
theorem find_any {B t q e st d mb N : Nat} {s lim : Int} {G : Ps → List Int} {T : List (Ps × Bool)} {lv : Value} {its : List Nat} {D : Int → Option (List Nat)} (w : World) (h : TabAt B w t s lim q e G T st d mb lv its D N) (x z : Int) (r : Int) (hr : IxOf T (x, z) r) :
    Calls Tryz.prog 80 #[.pointer (some ⟨t, 0, none⟩), .agg #[.int .i64 x, .int .i64 z]] w fun e w' => e = .returned (.int .i64 r) ∧ ∃ f, w' = ext w f := by
  have hmf := makefunc
  have c3 := cell_of_block (i := 3) h.tab rfl
  haveI := in_of_cell c3
  have hlen := h.items.len
  have hT : T.length ≤ 16 := by have := h.full; have := h.lim2; omega
  have FI : FirstIx its.length (fun k => if hk : k < T.length then eqpS T[k].1.1 T[k].1.2 x z else false) r := by
    rcases hr with ⟨rfl, h2⟩ | ⟨k, hk, rfl, h2⟩
    · refine .inl ⟨rfl, fun j hj => ?_⟩
      (try simp only)
      rw [dif_pos (by omega)]
      have h3 := h2 T[j] (List.getElem_mem _)
      unfold eqpS
      simp only [decide_eq_false_iff_not]
      rintro ⟨e1, e2⟩
      exact h3 (Prod.ext e1 e2)
    · refine .inr ⟨k, rfl, by omega, ?_, fun j hj => ?_⟩
      · (try simp only)
        rw [dif_pos hk, h2]
        exact eqpS_refl x z
      · (try simp only)
        rw [dif_pos (by omega)]
        unfold eqpS
        simp only [decide_eq_false_iff_not]
        rintro ⟨e1, e2⟩
        have h3 : T[j].1 = T[k].1 := by rw [h2]; exact Prod.ext e1 e2
        have := once_ix h.hold.once (by omega) hk h3
        omega
  have IX := fun W (hW : Below w.heap.size w W) pb (h0 : W.cell? ⟨pb, 0, none⟩ = some (.int .i64 x)) (h1 : W.cell? ⟨pb, 1, none⟩ = some (.int .i64 z)) =>
    indexfunc_any its _ 125 #[.pointer (some ⟨pb, 0, none⟩)] lv r W (by omega) ((ptrs_at h.row).ext W (ext_of hW)) (fun args W => by kernel_rfl) (fun W' hW' k hk => by
      obtain ⟨f, rfl⟩ := hW'
      have hb := ext_below W f
      have h2 := (h.items.turn (turn_below (F := fun _ => False) (hW.trans (hb.mono hW.size))) (fun _ _ _ _ => id) (fun _ _ _ _ => id) (fun _ _ _ _ => id)).get k hk (by omega)
      obtain ⟨k', rs, rv, h2, _⟩ := h2
      (try simp only)
      rw [dif_pos (by omega)]
      exact find1_any B its[k] k' _ _ rs rv x z pb _ h2 ((hb.cell (p := ⟨pb, 0, none⟩) (World.block_lt_of_cell? W _ h0)).trans h0) ((hb.cell (p := ⟨pb, 1, none⟩) (World.block_lt_of_cell? W _ h1)).trans h1)) FI
  have HX := Lib.hid IX
  clear IX FI h hr hT hlen
  go_enter Tryz.func80, Tryz.ntmps80
  go_wp2_with fail
  refine (HX.out _ (by exact grown_now) _ (by go_simp) (by go_simp)).mono ?_
  rintro e w1 ⟨rfl, _t, hw⟩
  have hc1 := named_cell hw
  have hz1 := named_frozen hw
  have hh1 := named_heap hw
  haveI hi1 := named_in hw
  haveI hb1 := named_below (w := w) hw
  clear hw
  go_wp2_with fail
  go_ret
  exact ⟨rfl, grown_of⟩
/-- No chunk is pinned. -/
theorem room1_any (B it k : Nat) (p : Ps) (d : Bool) (rs : List Rn) (rv : Value) (w : World) (h : ItemAt B w it k p d rs rv) :
    Calls Tryz.prog 135 #[.pointer (some ⟨it, 0, none⟩)] w fun e w' => e = .returned (.bool true) ∧ w = w' := by
  have c2 := cell_of_block (i := 2) h.blk rfl
  clear h
  go_enter Tryz.func135, Tryz.ntmps135
  go_wp2_with fail
  go_ret
  exact ⟨rfl, rfl⟩
#print axioms find_any
end Go.Proofs.YtnogfelfgclajaaGreatDoor
end

section
namespace Go.Proofs.YtnogfelfgclajaaGreatDoor
open Go.RowKit
attribute [local go_sem] ext_ext drew_ext ext_drew ext_cell ext_frozen in_lt in_le in_ne in_en in_ne1 in_en1 in_le1 in_ltn in_len in_nen in_enn size_le ite_max ite_min
set_option linter.unusedVariables false
set_option linter.unusedSimpArgs false

theorem itemPtrInfo : (Tryz.prog.info? 126).map (fun i => (i.zero, i.size, i.bytes)) = some (some (.pointer none), 1, 8) := by kernel_rfl
/-- What turns where a table's row does. -/
abbrev tyOut : List TypeId := [130, 126]
/-- A table's block, its row as told. -/
structure RowNow (B : Nat) (w : World) (t st : Nat) (s lim : Int) (its : List Nat) (lv : Value) : Prop where
  tab : w.heap[t]? = some (.cells #[.pointer (some ⟨st, 0, none⟩), .int .i64 s, .int .i64 lim, lv] 130 (0, 0))
  lo : B ≤ t
  row : SRow B w 126 lv (ptrs its)
/-- A chunk taken out of the row, or moved to its end. -/
def RowDone (B t st : Nat) (s lim : Int) (it : Nat) (its : List Nat) (w : World) (e : Ending) (w' : World) : Prop := e = .returned (.pointer (some ⟨it, 0, none⟩)) ∧ (∃ lv', RowNow B w' t st s lim its lv') ∧ Turn (Ty B tyOut w) w w'
theorem ptrs_take (its : List Nat) (k : Nat) : (ptrs its).take k = ptrs (its.take k) := by simp [ptrs, List.map_take]
theorem ptrs_append (a b : List Nat) : ptrs a ++ ptrs b = ptrs (a ++ b) := by simp [ptrs]
theorem ptrs_one {its : List Nat} (v : Value) (h : v ∈ ptrs its) : v.oneCell' = true := by
  obtain ⟨k, _, rfl⟩ := List.mem_map.1 h
  rfl
theorem ptrs_at? (its : List Nat) (j : Nat) (u : Value) (h : (ptrs its)[j]? = some u) : ∃ h : j < its.length, u = .pointer (some ⟨its[j], 0, none⟩) := by
  have hj : j < its.length := by have := (List.getElem?_eq_some_iff.1 h).1; simpa [ptrs] using this
  refine ⟨hj, ?_⟩
  simp [ptrs, hj] at h
  exact h.symm

set_option maxRecDepth 100000 in
set_option maxHeartbeats 2000000 in
theorem out_any (B t st : Nat) (s lim : Int) (its : List Nat) (lv : Value) (i : Nat) (hi : i < its.length) (hn : its.length ≤ 16) (w : World) (h : RowNow B w t st s lim its lv) (hB : B ≤ w.heap.size) :
    Calls Tryz.prog 98 #[.pointer (some ⟨t, 0, none⟩), .int .i64 (i : Int)] w (RowDone B t st s lim its[i] (its.eraseIdx i) w) := by
  obtain ⟨i0, iz0, iz1, iz2, iz3⟩ := info_parts itemPtrInfo
  obtain ⟨g, cap, rfl, h1, h2, hg, ⟨cur, hcur, hcs⟩, hc⟩ := h.row.got (by rw [ptrs_len]; omega)
  rw [ptrs_len] at h1
  have c3 := cell_of_block (i := 3) h.tab rfl
  have f3 := free_of_block 3 h.tab
  have d0 : w.cell? ⟨g, i, none⟩ = some (.pointer (some ⟨its[i], 0, none⟩)) := hc i _ (by simp [ptrs, hi])
  haveI := in_of_cell c3
  haveI := in_of_cell d0
  rw [ptrs_len] at c3 h
  have HT := Lib.hid h
  have HC := Lib.hid hc
  have HB := Lib.hid hB
  have HI := Lib.hid hi
  have HN := Lib.hid hn
  have HG := Lib.hid hcur
  have AP := Lib.hid (show ∀ (ty : TypeId) (W : World) (off m c : Nat), Below w.heap.size w W → m + (i + 1) = its.length → (off = i + 1 ∨ m = 0) →
      ∃ v' w', (Builtin.append_ #[128, 128] ty #[.slice (some ⟨g, 0, none⟩) i i, .slice (some ⟨g, off, none⟩) m c]).run Tryz.prog W = .ok v' w' ∧ (SRow B w' 126 v' (ptrs (its.eraseIdx i)) ∧ Turn (fun k => k = g) W w') from fun ty W off m c hW hm ho => by
    have hcut := (h.row.cut i (by rw [ptrs_len]; omega)).grown hW
    obtain ⟨v', w', hr, r1, r2⟩ := run_append_s (P := Tryz.prog) 128 ty i0 _ 8 Tryz.underlying128 iz0 iz1 iz2 iz3 rfl hcut ⟨g, off, none⟩ m c (ptrs (its.drop (i + 1))) (by rw [ptrs_len, List.length_drop]; omega)
      (fun j u hu => by
        obtain ⟨hj, rfl⟩ := ptrs_at? _ j u hu
        rw [List.length_drop] at hj
        have ho' : off = i + 1 := by omega
        rw [addr_add, List.getElem_drop, ho']
        have hx : i + 1 + j < its.length := by omega
        have := hc (i + 1 + j) (.pointer (some ⟨its[i + 1 + j], 0, none⟩)) (by simp [ptrs, hx])
        exact (hW.cell (p := ⟨g, i + 1 + j, none⟩) (World.block_lt_of_cell? w _ this)).trans this) (fun u hu => ptrs_one u hu)
      (by rw [List.length_take, ptrs_len]; unfold maxLen; omega) (by rw [List.length_take, ptrs_len]; omega) (by have := hW.size; omega)
    rw [ptrs_take, ptrs_append, ← List.eraseIdx_eq_take_drop_succ] at r1
    exact ⟨v', w', hr, r1, r2.mono (fun k _ e => by simp [Value.ownBlock] at e; exact e.symm)⟩)
  have hne : ¬ t = g := fun e => by
    subst e
    have := hcur.symm.trans h.tab
    injection this with this
    injection this with _ this
    exact absurd this (by decide)
  have HD := Lib.hid (show i + 1 ≤ cap ∧ its.length ≤ cap by omega)
  generalize its[i] = it at *
  obtain ⟨n, hj⟩ : ∃ n, its.length = n := ⟨_, rfl⟩
  rw [hj] at c3 hi hn h1
  have HJ := Lib.hid hj
  have j0 : (i : Int) < (n : Int) := by omega
  have j1 : (n : Int) ≤ 16 := by omega
  have j2 : (i : Int) ≤ (cap : Int) := by omega
  have j3 : (i : Int) + 1 ≤ (n : Int) := by omega
  have j4 : (n : Int) ≤ (cap : Int) := by omega
  have e1 : IntKind.i64.wrap ((i : Int) + 1) = (i : Int) + 1 := IntWalk.i64_in _ (by omega)
  have e2 : ((i : Int) + 1).toNat = i + 1 := by omega
  have e3 : (i : Int) + 1 ≤ (cap : Int) := by omega
  have j5 : (0 : Int) ≤ (i : Int) + 1 := by omega
  have j6 : (i : Int) ≤ (i : Int) + 1 := by omega
  have HGB := Lib.hid hg
  have HNE := Lib.hid hne
  have TY : Hid (∀ (W w9 : World), Below w.heap.size w W → Turn (fun k => k = g) W w9 → Turn (Ty B tyOut w) w w9) := Lib.hid (fun W w9 hW hT => (turn_below hW).trans hT (fun i _ e => by subst e; exact ty_yes hg hcur (by decide)))
  clear h hc hB hi hn hcur hcs h1 h2 hg hj hne
  by_cases hcap : cap = i + 1
  all_goals
    go_enter Tryz.func98, Tryz.ntmps98
    go_wp2_with fail
    go_region_law
      (refine step_append_of (by rfl) (.tmp 20) (.tmp 27) 128 128 (by rfl) _ _ (by rfl) (by rfl) (AP.out _ _ _ _ _ (by exact grown_now) (by have := HJ.out; omega) (by first | exact .inl rfl | (right; omega))) ?_; rintro v9 w9 ⟨hrow9, hT9⟩
       have hTw := TY.out _ _ (by exact grown_now) hT9
       have tb9 := (hT9.block t (Nat.lt_of_lt_of_le (lt_of_block HT.out.tab) (grown_now (w := w)).size) HNE.out).trans (((grown_now (w := w)).block t (lt_of_block HT.out.tab)).trans HT.out.tab)
       obtain ⟨og9, cp9, hv9⟩ := hrow9.form
       have R9 := Lib.hid hrow9
       have T9 := Lib.hid hTw
       have c9 := cell_of_block (i := 3) tb9 rfl
       have f9 := free_of_block 3 tb9
       have B9 := Lib.hid tb9
       subst hv9
       clear hrow9 hT9 hTw tb9)
    all_goals
      go_wp2_with fail
      go_ret
      refine ⟨rfl, ⟨_, ⟨block_set B9.out _ (by simp), HT.out.lo, ?_⟩⟩, T9.out.setIn (ty_yes HT.out.lo HT.out.tab (by decide)) _⟩
      exact R9.out.turn ((Turn.refl (fun j => j = t) w9).setIn rfl _) (by rintro g' c fz h5 rfl; rw [B9.out] at h5; injection h5 with h5; injection h5 with _ h5; exact absurd h5 (by decide))

set_option maxRecDepth 100000 in
set_option maxHeartbeats 2000000 in
/-- One more behind the row. -/
theorem snoc_row (B t st : Nat) (s lim : Int) (its : List Nat) (lv : Value) (it b : Nat) (hn : its.length ≤ 16) (w : World) (h : RowNow B w t st s lim its lv) (hB : B ≤ w.heap.size) (ty : TypeId) (hc : w.cell? ⟨b, 0, none⟩ = some (.pointer (some ⟨it, 0, none⟩))) :
    ∃ v' w', (Builtin.append_ #[128, 128] ty #[lv, .slice (some ⟨b, 0, none⟩) 1 1]).run Tryz.prog w = .ok v' w' ∧
      (SRow B w' 126 v' (ptrs (its ++ [it])) ∧ w'.heap[t]? = some (.cells #[.pointer (some ⟨st, 0, none⟩), .int .i64 s, .int .i64 lim, lv] 130 (0, 0)) ∧ Turn (Ty B tyOut w) w w' ∧ Turn (fun k => lv.ownBlock = some k) w w') := by
  obtain ⟨i0, iz0, iz1, iz2, iz3⟩ := info_parts itemPtrInfo
  obtain ⟨v', w', hr, r1, r2⟩ := run_append_s (P := Tryz.prog) 128 ty i0 _ 8 Tryz.underlying128 iz0 iz1 iz2 iz3 rfl h.row ⟨b, 0, none⟩ 1 1 (ptrs [it]) rfl
    (fun j u hu => by
      obtain ⟨hj, rfl⟩ := ptrs_at? _ j u hu
      obtain rfl : j = 0 := by simp at hj; omega
      rw [addr_add]
      exact hc) (fun u hu => ptrs_one u hu) (by rw [ptrs_len]; unfold maxLen; omega) (by rw [ptrs_len]; omega) hB
  rw [ptrs_append] at r1
  have hne : ∀ k, lv.ownBlock = some k → k ≠ t := fun k hk e => by
    subst e
    have := h.row.lt k hk
    rcases h.row with ⟨rfl, _⟩ | ⟨g, cap, cur, rfl, hB, hg, _⟩
    · cases hk
    · obtain rfl := Option.some.inj hk
      have := hg.symm.trans h.tab
      injection this with this
      injection this with _ this
      exact absurd this (by decide)
  exact ⟨v', w', hr, r1, (r2.block t (lt_of_block h.tab) (fun e => hne t e rfl)).trans h.tab, r2.mono (fun k _ hk => h.row.ty k hk (by simp)), r2⟩
set_option maxRecDepth 100000 in
set_option maxHeartbeats 2000000 in
theorem touch_any (B t st : Nat) (s lim : Int) (its : List Nat) (lv : Value) (i : Nat) (hi : i < its.length) (hn : its.length ≤ 16) (w : World) (h : RowNow B w t st s lim its lv) (hB : B ≤ w.heap.size) :
    Calls Tryz.prog 92 #[.pointer (some ⟨t, 0, none⟩), .int .i64 (i : Int)] w (RowDone B t st s lim its[i] (its.eraseIdx i ++ [its[i]]) w) := by
  have OU := out_any B t st s lim its lv i hi hn w h hB
  have HN := Lib.hid (show (its.eraseIdx i).length ≤ 16 by rw [List.length_eraseIdx]; split <;> omega)
  generalize its[i] = it at *
  have HB := Lib.hid hB
  haveI := in_of_block h.tab
  have HT := Lib.hid h.lo
  clear h hi hn hB
  go_enter Tryz.func92, Tryz.ntmps92
  go_wp2_with fail
  refine OU.mono ?_
  rintro e w1 ⟨rfl, ⟨lv1, h1⟩, hT1⟩
  have B1 := Lib.hid (show B ≤ w1.heap.size by have := HB.out; have := hT1.size; omega)
  have T1 := Lib.hid hT1
  have c3 := cell_of_block (i := 3) h1.tab rfl
  have f3 := free_of_block 3 h1.tab
  haveI := in_of_cell c3
  obtain ⟨og1, cp1, rfl⟩ := h1.row.form
  have H1 := Lib.hid h1
  have SN := Lib.hid (fun (ty : TypeId) (W : World) (hW : Below w1.heap.size w1 W) (b : Nat) hc => snoc_row B t st s lim _ _ it b HN.out W ⟨(hW.block t (lt_of_block h1.tab)).trans h1.tab, h1.lo, h1.row.grown hW⟩ (Nat.le_trans B1.out hW.size) ty hc)
  clear h1 hT1 OU
  go_wp2_with
    (at_builtin; refine wpList_append_of (by rfl) (.tmp 13) (.tmp 15) 128 128 (by rfl) _ _ (by rfl) (by rfl) (SN.out _ _ (by exact grown_now) _ (by go_simp)) ?_; rintro v9 w9 ⟨hrow9, htab9, hT9, _t⟩
     have T9 := Lib.hid (((turn_below (F := Ty B tyOut w1) (by exact grown_now)).ty hT9))
     have c9 := cell_of_block (i := 3) htab9 rfl
     have f9 := free_of_block 3 htab9
     obtain ⟨og9, cp9, hv9⟩ := hrow9.form
     subst hv9
     have R9 := Lib.hid hrow9
     have B9 := Lib.hid htab9
     clear hrow9 htab9 hT9)
  go_ret
  have h9 := B9.out
  refine ⟨rfl, ⟨_, ⟨block_set B9.out _ (by simp), HT.out, ?_⟩⟩, ?_⟩
  · exact R9.out.turn ((Turn.refl (fun j => j = t) w9).setIn rfl _) (by rintro g' c fz h5 rfl; rw [h9] at h5; injection h5 with h5; injection h5 with _ h5; exact absurd h5 (by decide))
  · exact T1.out.ty ((T9.out).setIn (ty_yes HT.out H1.out.tab (by decide)) _)
#print axioms touch_any
end Go.Proofs.YtnogfelfgclajaaGreatDoor
end
