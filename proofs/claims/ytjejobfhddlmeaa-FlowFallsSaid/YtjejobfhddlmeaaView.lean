/-
  What tells cells' blocks: a function value that answers so in every grown world; a small world's own.
-/
import Derived.Test.YtjejobfhddlmeaaBlk
import Derived.Test.YtjejobfhddlmeaaNear
import Derived.Test.YtjejobfhddlmeaaSlice
namespace Go.Proofs.Ytjejobfhddlmeaa
open Go.RowKit
attribute [local go_sem] ext_ext drew_ext ext_drew ext_cell ext_frozen in_lt in_le in_ne in_en in_ne1 in_en1 in_le1 in_ltn in_len in_nen in_enn size_le ite_max ite_min
set_option linter.unusedVariables false
set_option linter.unusedSimpArgs false

/-- Not too far from 0. -/
def Wid (x : Int) : Prop := -2000 ≤ x ∧ x ≤ 2000
/-- A function value that answers V in every world grown out of w. -/
structure IsView (P : Program) (f : FuncId) (caps : Array Value) (V : Int → Int → Int → Int) (w : World) : Prop where
  enters : ∀ args W, (callFunc f args).run P W = .ok (.enter f args) W
  tells : ∀ W, (∃ g, W = ext w g) → ∀ x y z : Int, Wid x → Wid y → Wid z → Calls P f (#[.agg #[.int .i64 x, .int .i64 y, .int .i64 z]] ++ caps) W fun e w' => e = .returned (.int .i64 (V x y z)) ∧ ∃ g, w' = ext W g
theorem IsView.grow {P : Program} {f : FuncId} {caps : Array Value} {V : Int → Int → Int → Int} {w W : World} (h : IsView P f caps V w) (hW : ∃ g, W = ext w g) : IsView P f caps V W := by
  obtain ⟨g, rfl⟩ := hW
  refine ⟨h.enters, fun W' hW' => ?_⟩
  obtain ⟨g', rfl⟩ := hW'
  exact h.tells _ ⟨_, ext_ext w g g'⟩

theorem blocks_cells {w : World} {base : Nat} {e : TypeId} {v : Value} {bs : List Int} (h : w.ownsRow base e 1 v bs.length (bs.map (Value.int .i64))) (hn : 0 < bs.length) :
    ∃ g cap, v = .slice (some ⟨g, 0, none⟩) bs.length cap ∧ ∀ k, k < bs.length → w.cell? ⟨g, k, none⟩ = some (.int .i64 (bs.getD k 0)) := by
  rcases h.2 with ⟨_, h0⟩ | ⟨g, cap, cur, rfl, hb, hgg, h1, h2, h3, h4⟩
  · omega
  · refine ⟨g, cap, rfl, fun k hk => ?_⟩
    have := h.cells (g := g) rfl k (.int .i64 (bs.getD k 0)) (by simp [hk])
    rcases Nat.eq_zero_or_pos k with rfl | h0
    · simpa [Addr.add] using this
    · have h0' : k ≠ 0 := by omega
      simpa [Addr.add, h0'] using this

/-- The blocks of a small world. -/
def Blocks (w : World) (sv : Value) (bs : List Int) : Prop := w.ownsRow 0 3 1 sv bs.length (bs.map (Value.int .i64)) ∧ bs.length ≤ 216
theorem Blocks.ext {w : World} {sv : Value} {bs : List Int} (h : Blocks w sv bs) (f : World → World) : Blocks (ext w f) sv bs :=
  ⟨owns_ext h.1 f, h.2⟩
theorem Blocks.grown {w W : World} {sv : Value} {bs : List Int} (h : Blocks w sv bs) (hW : ∃ f, W = Go.Proofs.Ytjejobfhddlmeaa.ext w f) : Blocks W sv bs := by
  obtain ⟨f, rfl⟩ := hW
  exact h.ext f
/-- What a small world tells. -/
def atS (bs : List Int) (el x y z : Int) : Int := if y < 0 then 1 else if 0 ≤ x ∧ x < 6 ∧ y < 6 ∧ 0 ≤ z ∧ z < 6 then bs.getD ((y * 6 + z) * 6 + x).toNat 0 else el

set_option maxHeartbeats 1000000 in
theorem refat_any (bs : List Int) (sv : Value) (el x y z : Int) (w : World) (h : Blocks w sv bs) :
    Calls Try.prog 13 #[.agg #[sv, .int .i64 el], .agg #[.int .i64 x, .int .i64 y, .int .i64 z]] w fun e w' => e = .returned (.int .i64 (atS bs el x y z)) ∧ ∃ f, w' = ext w f := by
  by_cases h1 : y < 0
  · have H := Lib.hid (show atS bs el x y z = 1 by unfold atS; rw [if_pos h1])
    clear h
    go_enter Try.func13, Try.ntmps13
    go_wp2
    go_ret
    exact ⟨ret_int H.out.symm, grown_of⟩
  have key : ¬ (0 ≤ x ∧ x < 6 ∧ y < 6 ∧ 0 ≤ z ∧ z < 6) → atS bs el x y z = el := fun hn => by unfold atS; rw [if_neg h1, if_neg hn]
  by_cases h2 : 0 ≤ x
  · by_cases h3 : x < 6
    · by_cases h4 : y < 6
      · by_cases h5 : 0 ≤ z
        · by_cases h6 : z < 6
          · clear key
            have H0 : atS bs el x y z = bs.getD ((y * 6 + z) * 6 + x).toNat 0 := by unfold atS; rw [if_neg h1, if_pos ⟨h2, h3, h4, h5, h6⟩]
            obtain ⟨hr, hl⟩ := h
            by_cases h7 : (y * 6 + z) * 6 + x < bs.length
            · have h8 : 0 ≤ (y * 6 + z) * 6 + x := by omega
              obtain ⟨g, cap, hv, hc⟩ := blocks_cells hr (by omega)
              have hk := hc ((y * 6 + z) * 6 + x).toNat (by omega)
              haveI := in_of_cell hk
              have H := Lib.hid H0
              subst hv
              clear hr hc H0
              go_enter Try.func13, Try.ntmps13
              go_wp2
              go_ret
              exact ⟨ret_int (by rw [H.out, List.getD_eq_getElem?_getD, List.getElem?_eq_getElem (by omega)]; rfl), grown_of⟩
            · have H := Lib.hid (show atS bs el x y z = 0 by rw [H0, List.getD_eq_getElem?_getD, List.getElem?_eq_none (by omega)]; rfl)
              obtain ⟨og, cap, rfl⟩ := owns_form hr
              clear H0 hr
              go_enter Try.func13, Try.ntmps13
              go_wp2
              go_ret
              exact ⟨ret_int H.out.symm, grown_of⟩
          · have H := Lib.hid (key (fun h => by omega))
            clear h key
            go_enter Try.func13, Try.ntmps13
            go_wp2
            go_ret
            exact ⟨ret_int H.out.symm, grown_of⟩
        · have H := Lib.hid (key (fun h => by omega))
          clear h key
          go_enter Try.func13, Try.ntmps13
          go_wp2
          go_ret
          exact ⟨ret_int H.out.symm, grown_of⟩
      · have H := Lib.hid (key (fun h => by omega))
        clear h key
        go_enter Try.func13, Try.ntmps13
        go_wp2
        go_ret
        exact ⟨ret_int H.out.symm, grown_of⟩
    · have H := Lib.hid (key (fun h => by omega))
      clear h key
      go_enter Try.func13, Try.ntmps13
      go_wp2
      go_ret
      exact ⟨ret_int H.out.symm, grown_of⟩
  · have H := Lib.hid (key (fun h => by omega))
    clear h key
    go_enter Try.func13, Try.ntmps13
    go_wp2
    go_ret
    exact ⟨ret_int H.out.symm, grown_of⟩

/-- A small world's view, wherever its value lies. -/
theorem view1_any (bs : List Int) (sv : Value) (el : Int) (p : Nat) (w : World) (h : Blocks w sv bs) (h0 : w.cell? ⟨p, 0, none⟩ = some sv) (h1 : w.cell? ⟨p, 1, none⟩ = some (.int .i64 el)) :
    IsView Try.prog 36 #[.pointer (some ⟨p, 0, none⟩)] (atS bs el) w := by
  refine ⟨fun args W => rfl, fun W hW x y z _ _ _ => ?_⟩
  obtain ⟨g, rfl⟩ := hW
  have hb := h.ext g
  haveI := in_of_cell h0
  have h0' : (ext w g).cell? ⟨p, 0, none⟩ = some sv := by go_simp
  have h1' : (ext w g).cell? ⟨p, 1, none⟩ = some (.int .i64 el) := by go_simp
  clear h h0 h1
  generalize ext w g = w at *
  haveI := in_of_cell h0'
  go_enter Try.func36, Try.ntmps36
  go_wp2_with fail
  refine (refat_any _ _ _ _ _ _ _ (Blocks.grown (by assumption) (by exact grown_of))).mono ?_
  rintro e w1 ⟨rfl, _t, hw⟩
  have hc1 := named_cell hw
  have hz1 := named_frozen hw
  have hh1 := named_heap hw
  haveI hi1 := named_in hw
  haveI hb1 := named_below (w := w) hw
  clear hw
  go_wp2_with fail
  go_ret
  exact ⟨rfl, grown_of⟩

/-- A value that is a view. -/
def ViewVal (P : Program) (v : Value) (V : Int → Int → Int → Int) (w : World) : Prop := ∃ f caps, v = .func (.func f) #[] caps ∧ IsView P f caps V w
theorem ViewVal.grow {P : Program} {v : Value} {V : Int → Int → Int → Int} {w W : World} (h : ViewVal P v V w) (hW : ∃ g, W = ext w g) : ViewVal P v V W := by
  obtain ⟨f, caps, rfl, h⟩ := h
  exact ⟨f, caps, rfl, h.grow hW⟩
/-- What a call that makes a view hands back. -/
def MadeView (P : Program) (V : Int → Int → Int → Int) (w : World) (e : Ending) (w' : World) : Prop := ∃ v, e = .returned v ∧ ViewVal P v V w' ∧ ∃ f, w' = ext w f
theorem view_any (bs : List Int) (sv : Value) (el : Int) (w : World) (h : Blocks w sv bs) :
    Calls Try.prog 11 #[.agg #[sv, .int .i64 el]] w (MadeView Try.prog (atS bs el) w) := by
  have hmf : ∀ (fn : Fn) (first cap : Array Value) (w : World), (Instr.makeFunc fn first cap).run Try.prog w = .ok (.func fn first cap) w := fun _ _ _ _ => rfl
  go_enter Try.func11, Try.ntmps11
  go_wp2
  go_ret
  exact ⟨_, rfl, ⟨_, _, rfl, view1_any bs sv el w.heap.size _ (h.grown (by exact grown_of)) (by go_simp) (by go_simp)⟩, grown_of⟩
end Go.Proofs.Ytjejobfhddlmeaa
