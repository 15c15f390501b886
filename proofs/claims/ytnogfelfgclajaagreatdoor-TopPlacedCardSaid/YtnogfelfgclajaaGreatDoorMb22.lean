/-
  The chunks that are here; whether a cell is ready.
  Ways: a difference; the box of a body, where it looks from; whether it may be.
  The cells that a box overlaps, one by one: boxes over one column: the iterator's contract.
-/
import Derived.Test.YtnogfelfgclajaaGreatDoorMb21
import Derived.Test.YtnogfelfgclajaaGreatDoorMb11
import Derived.RangeFuncNested
import Derived.RangeFuncWrites
import Derived.RangeFuncBox
section
namespace Go.Proofs.YtnogfelfgclajaaGreatDoor
open Go.RowKit
attribute [local go_sem] ext_ext drew_ext ext_drew ext_cell ext_frozen in_lt in_le in_ne in_en in_ne1 in_en1 in_le1 in_ltn in_len in_nen in_enn size_le ite_max ite_min
set_option linter.unusedVariables false
set_option linter.unusedSimpArgs false
set_option maxRecDepth 1000000
attribute [local go_sem ↓] eqp_any
attribute [local go_sem] eqpS_refl

theorem posInfo : (Tryz.prog.info? 35).map (fun i => (i.zero, i.size, i.bytes)) = some (some (.agg #[.int .i64 0, .int .i64 0]), 2, 16) := by kernel_rfl
def psV (l : List Ps) : List Value := l.flatMap fun p => [.int .i64 p.1, .int .i64 p.2]
theorem psV_snoc (l : List Ps) (p : Ps) : psV (l ++ [p]) = psV l ++ [.int .i64 p.1, .int .i64 p.2] := by simp [psV]
theorem psV_at (l : List Ps) (k : Nat) (hk : k < l.length) : (psV l)[k * 2]? = some (.int .i64 l[k].1) ∧ (psV l)[k * 2 + 1]? = some (.int .i64 l[k].2) := by
  induction l generalizing k with
  | nil => simp at hk
  | cons c l ih =>
    cases k with
    | zero => exact ⟨rfl, rfl⟩
    | succ k =>
      have := ih k (by simpa using hk)
      simp only [List.getElem_cons_succ]
      have e : psV (c :: l) = .int .i64 c.1 :: .int .i64 c.2 :: psV l := rfl
      rw [e, show (k + 1) * 2 = k * 2 + 1 + 1 by omega]
      simpa [Nat.add_assoc] using this
/-- The places of the chunks that are here. -/
def psT (T : List (Ps × Bool)) : List Ps := T.map (·.1)
set_option maxHeartbeats 4000000 in
theorem here_any {B : Nat} {w : World} {t q e st d mb N : Nat} {s lim : Int} {G : Ps → List Int} {T : List (Ps × Bool)} {lv : Value} {its : List Nat} {D : Int → Option (List Nat)} (h : TabAt B w t s lim q e G T st d mb lv its D N) :
    Calls Tryz.prog 117 #[.pointer (some ⟨t, 0, none⟩)] w (MadeRow 35 2 T.length (psV (psT T)) w) := by
  have c3 := cell_of_block (i := 3) h.tab rfl
  haveI := in_of_cell c3
  have H := Lib.hid h
  have HP := Lib.hid (ptrs_at h.row)
  have hlen := h.items.len
  have hT : T.length ≤ 16 := by have := h.full; have := h.lim2; omega
  obtain ⟨og, cap, rfl, hcp, _⟩ := ptrs_at h.row
  rw [hlen] at c3 hcp
  have HT := Lib.hid (And.intro hT hlen)
  obtain ⟨i0, iz0, iz1, iz2, iz3⟩ := info_parts posInfo
  obtain ⟨n, hn⟩ : ∃ n, T.length = n := ⟨_, rfl⟩
  rw [hn] at c3 hcp
  have HN := Lib.hid hn
  rw [hn]
  clear h hlen hT hn
  have n0 : (0 : Int) ≤ (n : Int) := Int.natCast_nonneg _
  have n1 : (n : Int) ≤ 16 := by have := HT.out.1; have := HN.out; omega
  go_enter Tryz.func117, Tryz.ntmps117
  go_wp2_with fail
  go_loopw [3, 11] (fun s3 s11 wr => ∃ k : Nat, k ≤ n ∧ s11 = .int .i64 (k : Int) ∧ wr.ownsRow w.heap.size 35 2 s3 k (psV ((psT T).take k)) ∧ ∃ f, wr = ext w f) (fun _ s11 _ => n - (intOf s11).toNat)
  case atStart => exact ⟨0, by omega, rfl, World.ownsRow_nil .., ⟨id, by unfold ext; split <;> rfl⟩⟩
  case round =>
    obtain ⟨k, hk, rfl, ow, _, hw⟩ := hrel
    rename World => w1
    haveI hg1 := named_grown hw
    haveI hb1 := named_below (w := w) hw
    have hc1 := named_cell hw
    haveI hi1 := named_in hw
    clear hw
    have k0 : (0 : Int) ≤ (k : Int) := Int.natCast_nonneg _
    have OW := Lib.hid ow
    have B1 := Lib.hid (grown_now (w := w) (W := w1))
    by_cases hlt : k < n
    · have hkt : k < T.length := by have := HN.out; omega
      have hki : k < its.length := by have := HT.out.2; omega
      obtain ⟨kb, rs, rv, hI, hGc⟩ := H.out.items.get k hki hkt
      clear hGc
      obtain ⟨og', cap', hv, _, hp⟩ := HP.out
      injection hv with e1 e2 e3
      subst e1 e3
      obtain ⟨g, rfl, d0⟩ := hp k hki
      have i0' := cell_of_block (i := 0) hI.blk rfl
      have q0 := cell_of_block (i := 0) hI.chunk.blk rfl
      have q1 := cell_of_block (i := 1) hI.chunk.blk rfl
      haveI := in_of_cell d0
      haveI := in_of_cell i0'
      haveI := in_of_cell q0
      have HTK := Lib.hid (show psV ((psT T).take (k + 1)) = psV ((psT T).take k) ++ [.int .i64 T[k].1.1, .int .i64 T[k].1.2] from by
        rw [List.take_add_one, show (psT T)[k]? = some T[k].1 by simp [psT, hkt]]
        exact psV_snoc _ _)
      have HK := Lib.hid hlt
      have k1 : (k : Int) < (n : Int) := by omega
      generalize T[k].1.1 = a at *
      generalize T[k].1.2 = b at *
      generalize T[k].2 = dt at *
      generalize its[k] = it at *
      clear hI hp hkt hki hlt hk ow
      go_wp2_with fail
      refine (place_any _ _ _).mono ?_
      rintro e w2 ⟨rfl, _t, hw⟩
      haveI hb2_1 := named_below (w := w1) hw
      have hc2 := named_cell hw
      have hz2 := named_frozen hw
      have hh2 := named_heap hw
      haveI hi2 := named_in hw
      haveI hb2 := named_below (w := w) hw
      clear hw
      have O2 := Lib.hid (owns_grown OW.out (grown_of (w := w1) (W := w2)))
      have B2 := Lib.hid (B1.out.trans ((grown_now (w := w1) (W := w2)).mono B1.out.size))
      obtain ⟨og3, cp3, rfl⟩ := owns_form O2.out
      go_wp2_with (at_builtin; refine wpList_append_own _ rfl (.tmp 15) (.tmp 24) 176 rfl w.heap.size 35 i0 _ 2 16 Tryz.underlying176 iz0 iz1 iz2 iz3 rfl (by omega) _ _ _ rfl (O2.out.alloc _) _ 1 1 [.int .i64 a, .int .i64 b] rfl rfl (World.news_of_block (heap_alloc_new w2 _)) (by simp [Value.oneCell']) (by have := HK.out; unfold maxLen; omega) (by have := HK.out; omega) (by have := B2.out.size; simp; omega) ?_; intro v' w3 hown hgrow _)
      go_roundw
      case rel =>
        refine ⟨k + 1, HK.out, by go_num, by rw [HTK.out]; exact hown, ext_of ((B2.out.alloc B2.out.size _).grown hgrow (by have := B2.out.size; simp; omega) (fun q hq => (O2.out.lt q hq).1))⟩
      case measure => have := HK.out; simp [intOf]; omega
    · have k1 : ¬ (k : Int) < (n : Int) := by omega
      have e : k = n := by omega
      subst e
      clear ow hlt hk
      go_wp2_with fail
      go_ret
      refine ⟨_, rfl, ?_, grown_of⟩
      have := OW.out
      rwa [List.take_of_length_le (by simp [psT]; have := HN.out; omega)] at this
/-- Places, in a slice. -/
def PsAt (w : World) (v : Value) (l : List Ps) : Prop := ∃ o cap, v = .slice o l.length cap ∧ ∀ k (h : k < l.length), ∃ g, o = some ⟨g, 0, none⟩ ∧ w.cell? ⟨g, k * 2, none⟩ = some (.int .i64 l[k].1) ∧ w.cell? ⟨g, k * 2 + 1, none⟩ = some (.int .i64 l[k].2)
theorem psAt_of {B : Nat} {w : World} {v : Value} {l : List Ps} (h : w.ownsRow B 35 2 v l.length (psV l)) : PsAt w v l := by
  by_cases h0 : l.length = 0
  · rcases h.2 with ⟨rfl, _⟩ | ⟨g, cap, cur, rfl, _⟩
    · exact ⟨none, 0, by rw [h0], fun k hk => by omega⟩
    · exact ⟨_, _, rfl, fun k hk => by omega⟩
  · obtain ⟨g, cap, rfl, _, _, _, hc⟩ := owns_some h (by omega)
    refine ⟨_, _, rfl, fun k hk => ⟨g, rfl, ?_⟩⟩
    obtain ⟨t0, t1⟩ := psV_at l k hk
    exact ⟨hc _ _ t0, hc _ _ t1⟩
theorem PsAt.grown {w W : World} {v : Value} {l : List Ps} (h : PsAt w v l) (hW : Below w.heap.size w W) : PsAt W v l := by
  obtain ⟨o, cap, rfl, h⟩ := h
  refine ⟨o, cap, rfl, fun k hk => ?_⟩
  obtain ⟨g, e, h0, h1⟩ := h k hk
  exact ⟨g, e, (hW.cell (p := ⟨g, k * 2, none⟩) (World.block_lt_of_cell? w _ h0)).trans h0, (hW.cell (p := ⟨g, k * 2 + 1, none⟩) (World.block_lt_of_cell? w _ h1)).trans h1⟩
set_option maxHeartbeats 2000000 in
theorem posindex_yes (v : Value) (l : List Ps) (x z : Int) (w : World) (hl : l.length ≤ 1000) (h : PsAt w v l) (hm : (x, z) ∈ l) :
    Calls Tryz.prog 314 #[v, .agg #[.int .i64 x, .int .i64 z]] w fun e w' => (∃ i : Nat, i ≤ 1000 ∧ e = .returned (.int .i64 (i : Int))) ∧ ∃ f, w' = ext w f := by
  obtain ⟨o, cap, rfl, hc⟩ := h
  obtain ⟨n, hn⟩ : ∃ n, l.length = n := ⟨_, rfl⟩
  have HC := Lib.hid hc
  have HN := Lib.hid hn
  obtain ⟨i0, hi0, he0⟩ := List.getElem_of_mem hm
  have HI := Lib.hid (show i0 < l.length ∧ l[i0]? = some (x, z) from ⟨hi0, by rw [List.getElem?_eq_getElem hi0, he0]⟩)
  rw [hn]
  clear hc hn hi0 he0 hm
  have n0 : (0 : Int) ≤ (n : Int) := Int.natCast_nonneg _
  have n1 : (n : Int) ≤ 1000 := by have := HN.out; omega
  go_enter Tryz.func314, Tryz.ntmps314
  go_wp2_with fail
  go_loopw [5, 8] (fun _ s8 wr => ∃ k : Nat, k ≤ i0 ∧ s8 = .int .i64 (k : Int) ∧ wr.cell? ⟨w.heap.size, 0, none⟩ = some (.int .i64 x) ∧ wr.cell? ⟨w.heap.size, 1, none⟩ = some (.int .i64 z) ∧ ∃ f, wr = ext w f) (fun _ s8 _ => i0 + 1 - (intOf s8).toNat)
  case atStart => exact ⟨0, by omega, rfl, by go_simp, by go_simp, grown_of⟩
  case round =>
    obtain ⟨k, hk, rfl, d0, d1, _, hw⟩ := hrel
    rename World => w1
    haveI hg1 := named_grown hw
    haveI hb1 := named_below (w := w) hw
    have hc1 := named_cell hw
    haveI hi1 := named_in hw
    haveI := in_of_cell d0
    clear hw
    have hkl : k < l.length := by have := HI.out.1; omega
    have k0 : (0 : Int) ≤ (k : Int) := Int.natCast_nonneg _
    have k1 : (k : Int) < (n : Int) := by have := HN.out; omega
    obtain ⟨g, rfl, q0, q1⟩ := HC.out k hkl
    haveI := in_of_cell q0
    have HK := Lib.hid (show k < i0 ∨ (k = i0 ∧ l[k] = (x, z)) from by
      by_cases e : k = i0
      · subst e
        have h2 := HI.out.2
        rw [List.getElem?_eq_getElem hkl] at h2
        exact .inr ⟨rfl, Option.some.inj h2⟩
      · exact .inl (by omega))
    have HK2 := Lib.hid (And.intro hk hkl)
    generalize hlk : l[k] = p at *
    obtain ⟨a, b⟩ := p
    clear hlk hk hkl
    dsimp only at q0 q1
    obtain ⟨eb, heb⟩ : ∃ eb, eqpS x z a b = eb := ⟨_, rfl⟩
    have HE := Lib.hid heb
    cases eb
    · go_wp2_with fail
      refine wp_region_ext ?_ ?_ ?_
      · kernel_rfl
      · kernel_rfl
      repeat (go_big_quiet_step (first | fail))
      refine wpQuiet_nil ?_
      rintro w2 ⟨_t, hw⟩
      have hc2 := named_cell hw
      have hz2 := named_frozen hw
      have hh2 := named_heap hw
      haveI hi2 := named_in hw
      haveI hb2 := named_below (w := w) hw
      clear hw
      go_wp2_with fail
      go_roundw
      case rel =>
        refine ⟨k + 1, ?_, by go_num, (hc2 _ _).trans d0, (hc2 _ _).trans d1, grown_of⟩
        rcases HK.out with h | ⟨_, h⟩
        · exact h
        · injection h with h1 h2
          have := HE.out
          rw [h1, h2, eqpS_refl] at this
          cases this
      case measure => have := HK2.out.1; simp [intOf]; omega
    · go_wp2_with fail
      refine wp_region_ext ?_ ?_ ?_
      · kernel_rfl
      · kernel_rfl
      repeat (go_big_quiet_step (first | fail))
      refine wpQuiet_nil ?_
      rintro w2 ⟨_t, hw⟩
      have hc2 := named_cell hw
      have hz2 := named_frozen hw
      have hh2 := named_heap hw
      haveI hi2 := named_in hw
      haveI hb2 := named_below (w := w) hw
      clear hw
      go_wp2_with fail
      go_ret
      exact ⟨⟨k, by have := HK2.out.2; omega, rfl⟩, grown_of⟩
theorem poscontains_yes (v : Value) (l : List Ps) (x z : Int) (w : World) (hl : l.length ≤ 1000) (h : PsAt w v l) (hm : (x, z) ∈ l) :
    Calls Tryz.prog 251 #[v, .agg #[.int .i64 x, .int .i64 z]] w fun e w' => e = .returned (.bool true) ∧ ∃ f, w' = ext w f := by
  have IX := Lib.hid (fun W (hW : Below w.heap.size w W) => posindex_yes v l x z W hl (h.grown hW) hm)
  clear h hm hl
  go_enter Tryz.func251, Tryz.ntmps251
  go_wp2_with fail
  refine (IX.out _ (by exact grown_now)).mono ?_
  rintro e w1 ⟨⟨i, hi, rfl⟩, _t, hw⟩
  haveI hb1 := named_below (w := w) hw
  clear hw IX
  have i0 : (0 : Int) ≤ (i : Int) := Int.natCast_nonneg _
  go_wp2_with fail
  go_ret
  exact ⟨rfl, grown_of⟩
#print axioms poscontains_yes
end Go.Proofs.YtnogfelfgclajaaGreatDoor
end

section
namespace Go.Proofs.YtnogfelfgclajaaGreatDoor
open Go.RowKit
attribute [local go_sem] ext_ext drew_ext ext_drew ext_cell ext_frozen in_lt in_le in_ne in_en in_ne1 in_en1 in_le1 in_ltn in_len in_nen in_enn size_le ite_max ite_min
set_option linter.unusedVariables false
set_option linter.unusedSimpArgs false
attribute [local go_sem] calm calmUpon
set_option maxRecDepth 1000000
attribute [local go_sem] ix0 ix1 ix2 fcS_fold

def fsS (a b : Int) : Int := fcS (fcS a - fcS b)
theorem fsub_any (a b : Int) (w : World) : Calls Tryz.prog 256 #[.int .i64 a, .int .i64 b] w fun e w' => e = .returned (.int .i64 (fsS a b)) ∧ w = w' := by
  obtain ⟨a1, a2⟩ := fcS_bd a
  obtain ⟨b1, b2⟩ := fcS_bd b
  go_enter Tryz.func256, Tryz.ntmps256
  go_wp2_with (first | (go_at_call 315; refine (fcut_any _ _).mono ?_; rintro e w1 ⟨rfl, rfl⟩))
  go_ret
  exact ⟨rfl, rfl⟩

/-- What a difference's closure takes away: an axis's number. -/
theorem sub1_any (i n a b c m : Int) (g : Nat) (w : World) (hm : (i = 0 ∧ m = a) ∨ (i = 1 ∧ m = b) ∨ (i = 2 ∧ m = c)) (h0 : w.cell? ⟨g, 0, none⟩ = some (.int .i64 a)) (h1 : w.cell? ⟨g, 1, none⟩ = some (.int .i64 b)) (h2 : w.cell? ⟨g, 2, none⟩ = some (.int .i64 c)) :
    Calls Tryz.prog 317 #[.int .i64 i, .int .i64 n, .pointer (some ⟨g, 0, none⟩)] w fun e w' => e = .returned (.int .i64 (fsS n m)) ∧ ∃ f, w' = ext w f := by
  haveI := in_of_cell h0
  have C : ∀ w, Calls Tryz.prog 263 #[.agg #[.int .i64 a, .int .i64 b, .int .i64 c], .int .i64 i] w fun e w' => e = .returned (.int .i64 m) ∧ ∃ f, w' = ext w f := by
    intro w
    rcases hm with ⟨rfl, rfl⟩ | ⟨rfl, rfl⟩ | ⟨rfl, rfl⟩
    · exact axis0_any _ _ _ w
    · exact axis1_any _ _ _ w
    · exact axis2_any _ _ _ w
  go_enter Tryz.func317, Tryz.ntmps317
  go_wp2_with fail
  refine (C _).mono ?_
  rintro e w1 ⟨rfl, _t, hw⟩
  have hc1 := named_cell hw
  have hz1 := named_frozen hw
  have hh1 := named_heap hw
  haveI hi1 := named_in hw
  haveI hb1 := named_below (w := w) hw
  clear hw
  go_wp2_with (first | (go_at_call 256; refine (fsub_any _ _ _).mono ?_; rintro e w1 ⟨rfl, rfl⟩))
  go_ret
  exact ⟨rfl, grown_of⟩

set_option maxHeartbeats 4000000 in
/-- A difference, number by number. -/
theorem each_sub (x y z a b c : Int) (g : Nat) (w : World) (h0 : w.cell? ⟨g, 0, none⟩ = some (.int .i64 a)) (h1 : w.cell? ⟨g, 1, none⟩ = some (.int .i64 b)) (h2 : w.cell? ⟨g, 2, none⟩ = some (.int .i64 c)) :
    Calls Tryz.prog 275 #[.agg #[.int .i64 x, .int .i64 y, .int .i64 z], .func (.func 317) #[] #[.pointer (some ⟨g, 0, none⟩)]] w fun e w' => e = .returned (.agg #[.int .i64 (fsS x a), .int .i64 (fsS y b), .int .i64 (fsS z c)]) ∧ ∃ f, w' = ext w f := by
  haveI := in_of_cell h0
  go_enter Tryz.func275, Tryz.ntmps275
  go_wp2_with fail
  refine (parts_any _ (.int .i64 x) (.int .i64 y) (.int .i64 z) _ (by go_simp) (by go_simp) (by go_simp)).mono ?_
  rintro e w1 ⟨rfl, _t, hw⟩
  have hc1 := named_cell hw
  have hz1 := named_frozen hw
  have hh1 := named_heap hw
  haveI hi1 := named_in hw
  haveI hb1 := named_below (w := w) hw
  clear hw
  go_wp2_with fail
  refine wp_loop_rounds 4 ?_
  rw [rounds_succ]
  go_wp2_with fail
  refine (sub1_any _ _ a b c a g _ (.inl ⟨rfl, rfl⟩) (by go_simp) (by go_simp) (by go_simp)).mono ?_
  rintro e w2 ⟨rfl, _t, hw⟩
  have hc2 := named_cell hw
  have hz2 := named_frozen hw
  have hh2 := named_heap hw
  haveI hi2 := named_in hw
  haveI hb2 := named_below (w := w) hw
  clear hw
  go_wp2_with fail
  rw [rounds_succ]
  go_wp2_with fail
  refine (sub1_any _ _ a b c b g _ (.inr (.inl ⟨rfl, rfl⟩)) (by go_simp) (by go_simp) (by go_simp)).mono ?_
  rintro e w3 ⟨rfl, _t, hw⟩
  have hc3 := named_cell hw
  have hz3 := named_frozen hw
  have hh3 := named_heap hw
  haveI hi3 := named_in hw
  haveI hb3 := named_below (w := w) hw
  clear hw
  go_wp2_with fail
  rw [rounds_succ]
  go_wp2_with fail
  refine (sub1_any _ _ a b c c g _ (.inr (.inr ⟨rfl, rfl⟩)) (by go_simp) (by go_simp) (by go_simp)).mono ?_
  rintro e w4 ⟨rfl, _t, hw⟩
  have hc4 := named_cell hw
  have hz4 := named_frozen hw
  have hh4 := named_heap hw
  haveI hi4 := named_in hw
  haveI hb4 := named_below (w := w) hw
  clear hw
  go_wp2_with fail
  rw [rounds_succ]
  go_wp2_with fail
  refine bodyPost_ret (by simp [results, Tryz.results275, go_sem, hc1, hc2, hc3, hc4]; try rfl) rfl ?_
  exact ⟨rfl, grown_of⟩

theorem sub_any (x y z a b c : Int) (w : World) :
    Calls Tryz.prog 254 #[.agg #[.int .i64 x, .int .i64 y, .int .i64 z], .agg #[.int .i64 a, .int .i64 b, .int .i64 c]] w fun e w' => e = .returned (.agg #[.int .i64 (fsS x a), .int .i64 (fsS y b), .int .i64 (fsS z c)]) ∧ ∃ f, w' = ext w f := by
  have hmf : ∀ (fn : Fn) (first cap : Array Value) (w : World), (Instr.makeFunc fn first cap).run Tryz.prog w = .ok (.func fn first cap) w := fun _ _ _ _ => rfl
  go_enter Tryz.func254, Tryz.ntmps254
  go_wp2_with fail
  refine (each_sub x y z a b c _ _ (by go_simp) (by go_simp) (by go_simp)).mono ?_
  rintro e w1 ⟨rfl, _t, hw⟩
  have hc1 := named_cell hw
  have hz1 := named_frozen hw
  have hh1 := named_heap hw
  haveI hi1 := named_in hw
  haveI hb1 := named_below (w := w) hw
  clear hw
  go_wp2_with fail
  refine bodyPost_ret (by simp [results, Tryz.results254, go_sem, hc1]; try rfl) rfl ?_
  exact ⟨rfl, grown_of⟩

/-- The box of a body of this law: 40000 wide, 100000 high. -/
def standS (x y z : Int) : Array Value := #[.int .i64 (fsS x 20000), .int .i64 (fsS y 0), .int .i64 (fsS z 20000), .int .i64 (faS x 20000), .int .i64 (faS y 100000), .int .i64 (faS z 20000)]
set_option maxHeartbeats 1000000 in
theorem stand_any (x y z : Int) (w : World) : Calls Tryz.prog 199 #[.agg #[.int .i64 x, .int .i64 y, .int .i64 z], .int .i64 40000, .int .i64 100000] w fun e w' =>
    e = .returned (.agg (standS x y z)) ∧ ∃ f, w' = ext w f := by
  go_enter Tryz.func199, Tryz.ntmps199
  go_wp2_with fail
  refine wp_region_ext_tail 11 ?_ ?_ ?_
  · kernel_rfl
  · kernel_rfl
  simp only [List.take_succ_cons, List.take_zero, List.drop_succ_cons, List.drop_zero]
  repeat (go_big_quiet_step (first | (go_at_call 254; exact ext_call (sub_any _ _ _ _ _ _ _)) | (go_at_call 210; exact ext_call (add_any _ _ _ _ _ _ _))))
  refine wpQuiet_nil ?_
  rintro w1 ⟨_t, hw⟩
  have hc1 := named_cell hw
  have hz1 := named_frozen hw
  have hh1 := named_heap hw
  haveI hi1 := named_in hw
  haveI hb1 := named_below (w := w) hw
  clear hw
  go_wp2_with fail
  refine bodyPost_ret (by simp [results, Tryz.results199, go_sem, hc1]; try rfl) rfl ?_
  exact ⟨rfl, grown_of⟩
/-- A body of this law. -/
def bodyV (x y z : Int) (s : Bool) : Array Value := #[.int .i64 x, .int .i64 y, .int .i64 z, .int .i64 0, .int .i64 0, .int .i64 0, .int .i64 40000, .int .i64 100000, .bool s]
theorem bodybox_any (x y z : Int) (s : Bool) (w : World) : Calls Tryz.prog 154 #[.agg (bodyV x y z s)] w fun e w' => e = .returned (.agg (standS x y z)) ∧ ∃ f, w' = ext w f := by
  unfold bodyV
  go_enter Tryz.func154, Tryz.ntmps154
  go_wp2_with fail
  refine (stand_any _ _ _ _).mono ?_
  rintro e w1 ⟨rfl, _t, hw⟩
  have hc1 := named_cell hw
  have hz1 := named_frozen hw
  have hh1 := named_heap hw
  haveI hi1 := named_in hw
  haveI hb1 := named_below (w := w) hw
  clear hw
  unfold standS
  go_wp2_with fail
  refine bodyPost_ret (by simp [results, Tryz.results154, go_sem, hc1]; try rfl) rfl ?_
  exact ⟨rfl, grown_of⟩
theorem bodyeye_any (x y z : Int) (s : Bool) (w : World) : Calls Tryz.prog 164 #[.agg (bodyV x y z s)] w fun e w' => e = .returned (.agg #[.int .i64 (faS x 0), .int .i64 (faS y 80000), .int .i64 (faS z 0)]) ∧ ∃ f, w' = ext w f := by
  unfold bodyV
  go_enter Tryz.func164, Tryz.ntmps164
  go_wp2_with fail
  refine (add_any _ _ _ _ _ _ _).mono ?_
  rintro e w1 ⟨rfl, _t, hw⟩
  have hc1 := named_cell hw
  have hz1 := named_frozen hw
  have hh1 := named_heap hw
  haveI hi1 := named_in hw
  haveI hb1 := named_below (w := w) hw
  clear hw
  go_wp2_with fail
  refine bodyPost_ret (by simp [results, Tryz.results164, go_sem, hc1]; try rfl) rfl ?_
  exact ⟨rfl, grown_of⟩
theorem min3 (ats : Array TypeId) (t : TypeId) (x y z : Int) (W : World) : (Builtin.min_ ats t #[.int .i64 x, .int .i64 y, .int .i64 z]).run Tryz.prog W = .ok (.int .i64 (min (min x y) z)) W := by
  simp [Builtin.min_, Builtin.min2, go_sem, List.foldlM, ite_min]
  omega
theorem max3 (ats : Array TypeId) (t : TypeId) (x y z : Int) (W : World) : (Builtin.max_ ats t #[.int .i64 x, .int .i64 y, .int .i64 z]).run Tryz.prog W = .ok (.int .i64 (max (max x y) z)) W := by
  simp [Builtin.max_, Builtin.max2, go_sem, List.foldlM, ite_max]
attribute [local go_sem] min3 max3
theorem within_yes (x y z m : Int) (w : World) (h0 : 0 ≤ m) (h9 : m ≤ 1000000000000000) (h1 : -m ≤ x ∧ x ≤ m) (h2 : -m ≤ y ∧ y ≤ m) (h3 : -m ≤ z ∧ z ≤ m) : Calls Tryz.prog 195 #[.agg #[.int .i64 x, .int .i64 y, .int .i64 z], .int .i64 m] w fun e w' => e = .returned (.bool true) ∧ ∃ f, w' = ext w f := by
  have m1 : -m ≤ min x (min y z) := by omega
  have M2 := Lib.hid (show max x (max y z) ≤ m by omega)
  have m3 : IntKind.i64.wrap (-m) = -m := IntWalk.i64_in _ (by omega)
  go_enter Tryz.func195, Tryz.ntmps195
  go_wp2_with fail
  go_ret
  exact ⟨ret_boolv (decide_eq_true M2.out), grown_of⟩
theorem bodymay_any (x y z : Int) (w : World) (h1 : 0 ≤ x ∧ x ≤ 1000000000) (h2 : 0 ≤ y ∧ y ≤ 1000000000) (h3 : 0 ≤ z ∧ z ≤ 1000000000) : Calls Tryz.prog 150 #[.agg (bodyV x y z false)] w fun e w' => e = .returned (.bool true) ∧ ∃ f, w' = ext w f := by
  have W1 := Lib.hid (fun W => within_yes x y z 70368744177664 W (by omega) (by omega) (by omega) (by omega) (by omega))
  have W2 := Lib.hid (fun W => within_yes 0 0 0 262144 W (by omega) (by omega) (by omega) (by omega) (by omega))
  clear h1 h2 h3
  unfold bodyV
  go_enter Tryz.func150, Tryz.ntmps150
  go_wp2_with fail
  refine (W1.out _).mono ?_
  rintro e w1 ⟨rfl, _t, hw⟩
  have hc1 := named_cell hw
  have hz1 := named_frozen hw
  have hh1 := named_heap hw
  haveI hi1 := named_in hw
  haveI hb1 := named_below (w := w) hw
  clear hw
  go_wp2_with fail
  refine (W2.out _).mono ?_
  rintro e w2 ⟨rfl, _t, hw⟩
  haveI hb2_1 := named_below (w := w1) hw
  have hc2 := named_cell hw
  have hz2 := named_frozen hw
  have hh2 := named_heap hw
  haveI hi2 := named_in hw
  haveI hb2 := named_below (w := w) hw
  clear hw
  go_wp2_with fail
  go_ret
  exact ⟨rfl, grown_of⟩
#print axioms bodymay_any
end Go.Proofs.YtnogfelfgclajaaGreatDoor
end

section
namespace Go.Proofs.YtnogfelfgclajaaGreatDoor
open Go.RowKit Go.Shelf
attribute [local go_sem] ext_ext drew_ext ext_drew ext_cell ext_frozen in_lt in_le in_ne in_en in_ne1 in_en1 in_le1 in_ltn in_len in_nen in_enn size_le ite_max ite_min
set_option linter.unusedVariables false
set_option linter.unusedSimpArgs false
attribute [local go_sem] Oper.semAt_some
set_option maxRecDepth 1000000

/-- What a round keeps: blocks of cells of the world. -/
def KeepsC (W W' : World) : Prop := ∀ (b : Nat) (cs : Array Value) (fr : Nat × Nat), W.heap[b]? = some (.cells cs 30 fr) → W'.heap[b]? = some (.cells cs 30 fr)
theorem KeepsC.trans' {A B C : World} (h : KeepsC A B) (k : KeepsC B C) : KeepsC A C := fun b cs fr hb => k b cs fr (h b cs fr hb)
theorem keepsC_b {w : World} (W : World) (l : Nat) (o o' : Obj) (_ : w.heap.size ≤ l) (h : W.heap[l]? = some o) (ho : o.isCells = false) (_ : o.isWalk = false) : KeepsC W (W.putObj l o') := fun b cs fr hb => by
  by_cases e : b = l
  · subst e
    rw [hb] at h
    cases h
    cases ho
  · exact (World.putObj_heap_other e).trans hb
theorem keepsC_below {W W' : World} (h : Below W.heap.size W W') : KeepsC W W' := fun b cs fr hb => (h.block b (lt_of_block hb)).trans hb
/-- A box's cells are a column: of x, z; from y0 on, m of them. -/
def ColOf (bx : Array Value) (x y0 z : Int) (m : Nat) : Prop := ∀ W, Calls Tryz.prog 353 #[.agg bx] W fun e w' => e = .returned (.tuple #[.agg #[.int .i64 x, .int .i64 y0, .int .i64 z], .agg #[.int .i64 x, .int .i64 (y0 + m - 1), .int .i64 z], .bool true]) ∧ ∃ f, w' = ext W f
set_option maxHeartbeats 4000000 in
theorem each1_in (a b c d e f x y0 z : Int) (m : Nat) (hm : m ≤ 100) (hx : Mid x) (hy : Mid y0) (hz : Mid z) (n : Nat) (hn : 1 ≤ n) (SP : ColOf #[.int .i64 a, .int .i64 b, .int .i64 c, .int .i64 d, .int .i64 e, .int .i64 f] x y0 z m) (bp l : Nat) (J Jx : List Nat → World → Prop) (W : World) (hJ : AbidesFrom W.heap.size J)
    (hY : ∀ pre (i : Nat) W1, J pre W1 → pre.length < m → YieldAt Fence.wide (n - 1) Tryz.prog l #[.agg #[.int .i64 x, .int .i64 (y0 + ((min i (m - 1) : Nat) : Int)), .int .i64 z]] W1 fun e W' =>
      (e = .returned (.bool true) ∧ J (pre ++ [i]) W' ∧ KeepsC W1 W') ∨ (e = .returned (.bool false) ∧ Jx (pre ++ [i]) W'))
    (c0 : W.heap[bp]? = some (.cells #[.int .i64 a, .int .i64 b, .int .i64 c, .int .i64 d, .int .i64 e, .int .i64 f] 57 (0, 0))) (h0 : J [] W) :
    CallsIn Fence.wide n Tryz.prog 352 #[.func (.yield l) #[] #[], .pointer (some ⟨bp, 0, none⟩)] W fun e W' => (∃ v, e = .returned v) ∧
      ((∃ ys, ys = List.range m ∧ J ys W') ∨ (∃ pre, pre <+: List.range m ∧ Jx pre W')) := by
  have p0 := cell_of_block (i := 0) c0 rfl
  have p1 := cell_of_block (i := 1) c0 rfl
  have p2 := cell_of_block (i := 2) c0 rfl
  have p3 := cell_of_block (i := 3) c0 rfl
  have p4 := cell_of_block (i := 4) c0 rfl
  have p5 := cell_of_block (i := 5) c0 rfl
  haveI := in_of_cell p0
  refine callsIn_of_wp Tryz.func352 rfl trivial ?_ rfl
  simp only [Tryz.ntmps352, List.size_toArray, List.length_cons, List.length_nil, Nat.reduceAdd, Nat.reduceSub, Array.replicate_succ, Array.replicate_zero, List.push_toArray, List.append_toArray, List.nil_append, List.cons_append]
  have HJ := Lib.hid hJ
  have HY := Lib.hid hY
  have H0 := Lib.hid h0
  have HS := Lib.hid SP
  have HM := Lib.hid (And.intro hm (And.intro hx (And.intro hy hz)))
  clear hJ hY h0 SP c0 hm hx hy hz
  gi_wp2
  refine ⟨trivial, (callsIn_wide.2 (HS.out _)).mono ?_⟩
  rintro e w1 ⟨rfl, _t, hw⟩
  haveI hg1 := named_grown hw
  haveI hb1_W := named_below (w := W) hw
  have hc1 := named_cell hw
  have hz1 := named_frozen hw
  have hh1 := named_heap hw
  haveI hi1 := named_in hw
  clear hw
  gi_wp2
  have G2 := Lib.hid (show Below W.heap.size W ((w1.alloc (.cells #[.int .i64 x, .int .i64 y0, .int .i64 z] 30)).alloc (.cells #[.int .i64 x, .int .i64 (y0 + m - 1), .int .i64 z] 30)) from grown_now)
  have LA := Lib.hid (show ((w1.alloc (.cells #[.int .i64 x, .int .i64 y0, .int .i64 z] 30)).alloc (.cells #[.int .i64 x, .int .i64 (y0 + m - 1), .int .i64 z] 30)).heap[w1.heap.size]? = some (.cells #[.int .i64 x, .int .i64 y0, .int .i64 z] 30 (0, 0)) from by rw [heap_alloc_old _ _ (by simp)]; exact heap_alloc_new _ _)
  have LB := Lib.hid (show ((w1.alloc (.cells #[.int .i64 x, .int .i64 y0, .int .i64 z] 30)).alloc (.cells #[.int .i64 x, .int .i64 (y0 + m - 1), .int .i64 z] 30)).heap[w1.heap.size + 1]? = some (.cells #[.int .i64 x, .int .i64 (y0 + m - 1), .int .i64 z] 30 (0, 0)) from by have := heap_alloc_new (w1.alloc (.cells #[.int .i64 x, .int .i64 y0, .int .i64 z] 30)) (.cells #[.int .i64 x, .int .i64 (y0 + m - 1), .int .i64 z] 30); rw [World.size_alloc] at this; exact this)
  generalize (w1.alloc (.cells #[.int .i64 x, .int .i64 y0, .int .i64 z] 30)).alloc (.cells #[.int .i64 x, .int .i64 (y0 + m - 1), .int .i64 z] 30) = w2 at *
  obtain ⟨la, hla⟩ : ∃ b, w1.heap.size = b := ⟨_, rfl⟩
  rw [hla] at LA LB
  rw [hla]
  have J2 := Lib.hid (HJ.out [] W w2 none H0.out (grownBy_ext' (ext_of G2.out)) (fun r e => by cases e))
  clear hla
  gi_loopw [6] (fun s6 wr => ∃ i : Nat, i ≤ m ∧ s6 = .int .i64 (y0 + (i : Nat)) ∧ wr.heap[la]? = some (.cells #[.int .i64 x, .int .i64 y0, .int .i64 z] 30 (0, 0)) ∧ wr.heap[la + 1]? = some (.cells #[.int .i64 x, .int .i64 (y0 + m - 1), .int .i64 z] 30 (0, 0)) ∧ J (List.range i) wr) (fun s6 _ => (y0 + m - intOf s6).toNat)
  case atStart => exact ⟨0, by omega, by simp, LA.out, LB.out, J2.out⟩
  case round =>
    obtain ⟨i, hi, rfl, la4, lb4, hJi⟩ := hrel
    rename World => w4
    obtain ⟨hm, hx, hy, hz⟩ := HM.out
    have a0 := cell_of_block (i := 0) la4 rfl
    have a1 := cell_of_block (i := 1) la4 rfl
    have a2 := cell_of_block (i := 2) la4 rfl
    have b0 := cell_of_block (i := 0) lb4 rfl
    have b1 := cell_of_block (i := 1) lb4 rfl
    have b2 := cell_of_block (i := 2) lb4 rfl
    haveI := in_of_cell a0
    haveI := in_of_cell b0
    by_cases hlt : i < m
    · have y1 : y0 + (i : Int) ≤ y0 + m - 1 := by omega
      have hyy := HY.out _ i w4 hJi (by simpa using hlt)
      rw [show min i (m - 1) = i by omega] at hyy
      obtain ⟨fn, tmps, assign, body, hy', hR⟩ := hyy
      have LA4 := Lib.hid la4
      have LB4 := Lib.hid lb4
      have HI := Lib.hid (And.intro hlt hi)
      have HR := Lib.hid (show List.range (i + 1) = List.range i ++ [i] from List.range_succ)
      have hx0 := hx.1
      have hx1 := hx.2
      have hy0 := hy.1
      have hy1 := hy.2
      have hz0 := hz.1
      have hz1 := hz.2
      have wx : IntKind.i64.wrap (x + 1) = x + 1 := IntWalk.i64_in _ (by omega)
      have wz : IntKind.i64.wrap (z + 1) = z + 1 := IntWalk.i64_in _ (by omega)
      have wy : IntKind.i64.wrap (y0 + (i : Int) + 1) = y0 + (i : Int) + 1 := IntWalk.i64_in _ (by omega)
      have nx : ¬ x + 1 ≤ x := by omega
      have nz : ¬ z + 1 ≤ z := by omega
      clear la4 lb4 hJi hlt hi hx hy hz
      gi_wp2
      refine wpIn_loop_rounds 2 ?_
      rw [roundsIn_succ]
      gi_wp2
      refine wpIn_loop_rounds 2 ?_
      rw [roundsIn_succ]
      gi_wp2
      refine hR.mono ?_
      rintro e w6 (⟨rfl, hJ6, hK6⟩ | ⟨rfl, hJx6⟩)
      · have J6 := Lib.hid hJ6
        have LA6 := Lib.hid (hK6 _ _ _ LA4.out)
        have LB6 := Lib.hid (hK6 _ _ _ LB4.out)
        have b0 := cell_of_block (i := 0) LB6.out rfl
        have b2 := cell_of_block (i := 2) LB6.out rfl
        haveI := in_of_cell b0
        clear hJ6 hK6 hR hy'
        gi_wp2
        rw [roundsIn_succ]
        gi_wp2
        rw [roundsIn_succ]
        gi_wp2
        go_roundw
        case rel => exact ⟨i + 1, HI.out.1, by rw [Int.add_assoc]; rfl, LA6.out, LB6.out, by rw [HR.out]; exact J6.out⟩
        case measure => have := HI.out.1; simp [intOf]; omega
      · have HJX := Lib.hid hJx6
        clear hJx6 hR hy'
        gi_wp2
        refine bodyPost_ret (results_none rfl _ _ _) rfl ?_
        refine ⟨⟨_, rfl⟩, .inr ⟨List.range i ++ [i], ?_, HJX.out⟩⟩
        rw [← HR.out]
        have := HI.out.1
        exact ⟨(List.range m).drop (i + 1), by
          have e : List.range (i + 1) = (List.range m).take (i + 1) := by rw [List.take_range, Nat.min_eq_left (by omega)]
          rw [e, List.take_append_drop]⟩
    · have e8 : i = m := by omega
      have J8 : Hid (J (List.range m) w4) := Lib.hid (by rw [e8] at hJi; exact hJi)
      have y1 : ¬ y0 + (i : Int) ≤ y0 + m - 1 := by omega
      clear hJi e8 hlt hi la4 lb4
      gi_wp2
      go_end0
      first | exact ⟨⟨_, rfl⟩, .inl ⟨_, rfl, J8.out⟩⟩ | exact ⟨⟨_, rfl⟩, .inl J8.out⟩ | exact .inl J8.out
theorem each_stops (a b c d e f x y0 z : Int) (m : Nat) (hm : m ≤ 100) (hx : Mid x) (hy : Mid y0) (hz : Mid z) (n : Nat) (hn : 1 ≤ n) (SP : ColOf #[.int .i64 a, .int .i64 b, .int .i64 c, .int .i64 d, .int .i64 e, .int .i64 f] x y0 z m) (bp : Nat) (w : World)
    (c0 : w.heap[bp]? = some (.cells #[.int .i64 a, .int .i64 b, .int .i64 c, .int .i64 d, .int .i64 e, .int .i64 f] 57 (0, 0))) :
    SeqStopsK Fence.wide n Tryz.prog 352 #[.pointer (some ⟨bp, 0, none⟩)] (fun i : Nat => #[.agg #[.int .i64 x, .int .i64 (y0 + ((min i (m - 1) : Nat) : Int)), .int .i64 z]]) KeepsC (fun ys => ys = List.range m) (fun pre => pre <+: List.range m) m w := fun l J Jx W hW hJ _ hY h0 =>
  each1_in a b c d e f x y0 z m hm hx hy hz n hn SP bp l J Jx W hJ hY ((hW.block bp (lt_of_block c0)).trans c0) h0
theorem each_any (a b c d e f : Int) (w : World) :
    Calls Tryz.prog 316 #[.agg #[.int .i64 a, .int .i64 b, .int .i64 c, .int .i64 d, .int .i64 e, .int .i64 f]] w fun o w' => o = .returned (.func (.func 352) #[] #[.pointer (some ⟨w.heap.size, 0, none⟩)]) ∧
      w' = w.alloc (.cells #[.int .i64 a, .int .i64 b, .int .i64 c, .int .i64 d, .int .i64 e, .int .i64 f] 57) := by
  have hmf : ∀ (fn : Fn) (first cap : Array Value) (w : World), (Instr.makeFunc fn first cap).run Tryz.prog w = .ok (.func fn first cap) w := fun _ _ _ _ => rfl
  go_enter Tryz.func316, Tryz.ntmps316
  go_wp2
  go_ret
  exact ⟨rfl, rfl⟩
#print axioms each_stops
end Go.Proofs.YtnogfelfgclajaaGreatDoor
end
