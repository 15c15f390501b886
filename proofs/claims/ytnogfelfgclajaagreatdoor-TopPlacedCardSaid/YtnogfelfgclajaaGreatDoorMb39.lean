/-
  Slices of ints, and of cells with blocks, as they come in.
  Slices of places, as they come in.
  strings.Builder: what is written into it.
  The example's two lines, taken apart.
  The example: two lines, run.
-/
import Derived.Test.YtnogfelfgclajaaGreatDoorMb38
import Derived.ChangeSlices
import Derived.Test.YtnogfelfgclajaaGreatDoorMb29
import Derived.Lib.Builder
section
namespace Go.Proofs.YtnogfelfgclajaaGreatDoor
open Go.RowKit Go.ChangeShapes Go.WideShapes Go.Deep
set_option linter.unusedVariables false

abbrev Ch := Int × Int × Int × Int
/-- A slice of ints as it comes in: what it holds. -/
structure IntsIn (w : World) (sv : Value) (bs : List Int) : Prop where
  fit : ∀ b ∈ bs, Fit b
  lies : (sv = .slice none 0 0 ∧ bs = []) ∨ ∃ g fo cap, sv = .slice (some ⟨g, fo, none⟩) bs.length cap ∧ bs.length ≤ 9223372036854775807 ∧ ∀ k, k < bs.length → w.cell? ⟨g, fo + k, none⟩ = some (.int .i64 (bs.getD k 0))

theorem slice_spot {P : Program} {w : World} {r : Reach} {b0 : Nat} {t e : TypeId} {a : Addr} {len cap : Nat} (ht : P.underlying t = some (.slice e)) (h : Cell.okWide P w r b0 t (.slice (some a) len cap)) : a.spot = none ∧ a.block < w.heap.size := by
  unfold Cell.okWide Cell.ok at h
  simp only [ht] at h
  obtain ⟨_, _, _, h1, row, cells, h2, _⟩ := h
  refine ⟨h1, ?_⟩
  unfold World.shape? at h2
  split at h2
  · rename_i hh
    exact (Array.getElem?_eq_some_iff.1 hh).1
  · cases h2

theorem fit_of_wf {n : Int} (hw : (Lit.int .i64 n).wf = true) : Fit n := by
  have hmin : IntKind.i64.min = -9223372036854775808 := rfl
  have hmax : IntKind.i64.max = 9223372036854775807 := rfl
  simp only [Lit.wf, Bool.and_eq_true, decide_eq_true_eq, hmin, hmax] at hw
  exact hw

section
variable {H : Type} {enc : TypeId × Value → H} {P : Program} {w : World} {base b0 : Nat} {sp : Nat → Bool} {held : Bool} {r : Reach}

theorem ints_in {t e : TypeId} {fuel : Nat} {v : Value} {y : DataW H × List MemPlace} (ht : P.underlying t = some (.slice e)) (he : P.underlying e = some (.int .i64)) (hc : P.cellsOf e = 1) (hk : Cell.okWide P w r b0 t v)
    (h : DataW.trod enc P w base sp held fuel t [v] = some y) : ∃ bs, IntsIn w v bs := by
  rcases open_ints ht he hc h with ⟨hv, _⟩ | ⟨a, len, cap, zs, hv, _, hl, hm, hz, _, hcell, hwf⟩
  · simp only [List.cons.injEq, and_true] at hv
    exact ⟨[], fun b hb => (by cases hb), .inl ⟨hv, rfl⟩⟩
  · simp only [List.cons.injEq, and_true] at hv
    subst hv
    obtain ⟨hs, _⟩ := slice_spot ht hk
    obtain ⟨g, fo, so⟩ := a
    simp only at hs
    subst hs
    have hlz : len ≤ zs.length := by rw [hz]; split <;> omega
    have hlen : (zs.take len).length = len := by simp; omega
    refine ⟨zs.take len, fun b hb => fit_of_wf (hwf b (List.mem_of_mem_take hb)), .inr ⟨g, fo, cap, by rw [hlen], ?_, fun k hk => ?_⟩⟩
    · rw [hlen]
      unfold maxLen at hm
      omega
    · rw [hlen] at hk
      have h1 := hcell k (by omega)
      rw [add_plain] at h1
      rw [h1]
      simp [List.getD, hk]

theorem open_ints1 {t e : TypeId} {v : Value} {d : DataW H} {p : List MemPlace} (ht : P.underlying t = some (.slice e)) (he : P.underlying e = some (.int .i64)) (hc : P.cellsOf e = 1) (hv : Value.okWide P w r b0 t v)
    (h : DataW.Trod enc P w base sp held t v d p) : ∃ bs, IntsIn w v bs := by
  have hk : Cell.okWide P w r b0 t v := by
    unfold Value.okWide at hv
    simpa only [ht] using hv
  obtain ⟨fuel, hf⟩ := h
  have hcells : v.cells = #[v] := by
    cases v <;> first | rfl | (unfold Cell.okWide Cell.ok at hk; simp only [ht] at hk)
  rw [hcells] at hf
  exact ints_in ht he hc hk hf
end
/-- A slice of cells, each with a block, as it comes in: what it holds. -/
structure ChIn (w : World) (v : Value) (cs : List Ch) : Prop where
  fit : ∀ c ∈ cs, Fit c.1 ∧ Fit c.2.1 ∧ Fit c.2.2.1 ∧ Fit c.2.2.2
  lies : (v = .slice none 0 0 ∧ cs = []) ∨ ∃ g fo cap, v = .slice (some ⟨g, fo, none⟩) cs.length cap ∧ cs.length ≤ 9223372036854775807 ∧
    ∀ k (hk : k < cs.length), w.cell? ⟨g, fo + k * 4, none⟩ = some (.int .i64 cs[k].1) ∧ w.cell? ⟨g, fo + k * 4 + 1, none⟩ = some (.int .i64 cs[k].2.1) ∧ w.cell? ⟨g, fo + k * 4 + 2, none⟩ = some (.int .i64 cs[k].2.2.1) ∧ w.cell? ⟨g, fo + k * 4 + 3, none⟩ = some (.int .i64 cs[k].2.2.2)

section
variable {H : Type} {enc : TypeId × Value → H} {P : Program} {w : World} {base b0 : Nat} {sp : Nat → Bool} {held : Bool} {r : Reach}

theorem change_of {te tc ti : TypeId} {f0 f1 g0 g1 g2 : Field} {fuel : Nat} {cs : List Value} {y : DataW H × List MemPlace} (hi : P.underlying ti = some (.int .i64)) (he : P.underlying te = some (.struct #[f0, f1])) (hcell : P.underlying tc = some (.struct #[g0, g1, g2]))
    (hone : oneCellFields P #[g0, g1, g2] = true) (hC3 : P.cellsOf tc = 3) (hC1 : P.cellsOf ti = 1) (o0 : f0.offset = 0) (o1 : f1.offset = 3) (t0 : f0.type = tc) (t1 : f1.type = ti) (h0 : g0.type = ti) (h1 : g1.type = ti) (h2 : g2.type = ti)
    (hl : cs.length = 4) (h : DataW.trod enc P w base sp held fuel te cs = some y) :
    ∃ a b c d : Int, cs = [.int .i64 a, .int .i64 b, .int .i64 c, .int .i64 d] ∧ Fit a ∧ Fit b ∧ Fit c ∧ Fit d := by
  obtain ⟨c0, c1, c2, c3, rfl⟩ : ∃ c0 c1 c2 c3, cs = [c0, c1, c2, c3] := by
    match cs, hl with
    | [c0, c1, c2, c3], _ => exact ⟨c0, c1, c2, c3, rfl⟩
  obtain ⟨y0, y1, n, _, _, k0, k1⟩ := trod_struct2 he h
  rw [t0, o0, hC3] at k0
  rw [t1, o1, hC1] at k1
  obtain ⟨_, _, _, _, _, _, a0, a1, a2⟩ := trod_struct3 hcell k0
  obtain ⟨p0, q0⟩ := hone_of hone 0 g0 rfl
  obtain ⟨p1, q1⟩ := hone_of hone 1 g1 rfl
  obtain ⟨p2, q2⟩ := hone_of hone 2 g2 rfl
  rw [p0, q0] at a0
  rw [p1, q1] at a1
  rw [p2, q2] at a2
  obtain ⟨a, rfl, fa⟩ := int_of (v := c0) (h0 ▸ hi) (by simpa using a0)
  obtain ⟨b, rfl, fb⟩ := int_of (v := c1) (h1 ▸ hi) (by simpa using a1)
  obtain ⟨c, rfl, fc⟩ := int_of (v := c2) (h2 ▸ hi) (by simpa using a2)
  obtain ⟨d, rfl, fd⟩ := int_of (v := c3) hi (by simpa using k1)
  exact ⟨a, b, c, d, rfl, fa, fb, fc, fd⟩

theorem open_changes {ts te tc ti : TypeId} {f0 f1 g0 g1 g2 : Field} {v : Value} {d : DataW H} {p : List MemPlace} (hi : P.underlying ti = some (.int .i64)) (hs : P.underlying ts = some (.slice te)) (he : P.underlying te = some (.struct #[f0, f1])) (hcell : P.underlying tc = some (.struct #[g0, g1, g2]))
    (hC : P.cellsOf te = 4) (hone : oneCellFields P #[g0, g1, g2] = true) (hC3 : P.cellsOf tc = 3) (hC1 : P.cellsOf ti = 1) (o0 : f0.offset = 0) (o1 : f1.offset = 3) (t0 : f0.type = tc) (t1 : f1.type = ti) (h0 : g0.type = ti) (h1 : g1.type = ti) (h2 : g2.type = ti)
    (hv : Value.okWide P w r b0 ts v) (h : DataW.Trod enc P w base sp held ts v d p) : ∃ cs, ChIn w v cs := by
  have hk : Cell.okWide P w r b0 ts v := by
    unfold Value.okWide at hv
    simpa only [hs] using hv
  obtain ⟨fuel, hf⟩ := h
  have hcells : v.cells = #[v] := by
    cases v <;> first | rfl | (unfold Cell.okWide Cell.ok at hk; simp only [hs] at hk)
  rw [hcells] at hf
  rcases DataW.trod_slice hs hf with ⟨hv0, _⟩ | ⟨a, len, cap, elems, rest, n, _, hv1, _, hb, hl, hm, hlen, hel, _, _⟩
  · simp only [List.cons.injEq, and_true] at hv0
    exact ⟨[], fun c hc => (by cases hc), .inl ⟨hv0, rfl⟩⟩
  · simp only [List.cons.injEq, and_true] at hv1
    subst hv1
    obtain ⟨hsp, _⟩ := slice_spot hs hk
    obtain ⟨g, fo, so⟩ := a
    simp only at hsp
    subst hsp
    have each : ∀ i, ∃ c : Ch, i < len → (Fit c.1 ∧ Fit c.2.1 ∧ Fit c.2.2.1 ∧ Fit c.2.2.2) ∧ w.cell? ⟨g, fo + i * 4, none⟩ = some (.int .i64 c.1) ∧ w.cell? ⟨g, fo + i * 4 + 1, none⟩ = some (.int .i64 c.2.1) ∧ w.cell? ⟨g, fo + i * 4 + 2, none⟩ = some (.int .i64 c.2.2.1) ∧ w.cell? ⟨g, fo + i * 4 + 3, none⟩ = some (.int .i64 c.2.2.2) := by
      intro i
      by_cases hil : i < len
      · have he1 := hel i hil
        rw [hC, List.getElem?_eq_getElem (by omega), Option.bind_eq_some_iff] at he1
        obtain ⟨cs', hcs, hy⟩ := he1
        obtain ⟨_, hcl, hcc⟩ := World.cells?_some hcs
        obtain ⟨x, y, z, b, rfl, fx, fy, fz, fb⟩ := change_of hi he hcell hone hC3 hC1 o0 o1 t0 t1 h0 h1 h2 hcl hy
        have m0 := hcc 0 (by omega)
        have m1 := hcc 1 (by omega)
        have m2 := hcc 2 (by omega)
        have m3 := hcc 3 (by omega)
        rw [add_plain, add_plain] at m0 m1 m2 m3
        exact ⟨(x, y, z, b), fun _ => ⟨⟨fx, fy, fz, fb⟩, m0, m1, m2, m3⟩⟩
      · exact ⟨(0, 0, 0, 0), fun h => absurd h hil⟩
    obtain ⟨f, hf⟩ := Classical.axiomOfChoice each
    have hlen2 : ((List.range len).map f).length = len := by simp
    refine ⟨(List.range len).map f, fun c hc => ?_, .inr ⟨g, fo, cap, by rw [hlen2], ?_, fun k hk => ?_⟩⟩
    · obtain ⟨i, hi, rfl⟩ := List.mem_map.1 hc
      exact (hf i (List.mem_range.1 hi)).1
    · rw [hlen2]
      unfold maxLen at hm
      omega
    · have hk2 : k < len := by rw [hlen2] at hk; exact hk
      have := (hf k hk2).2
      simpa using this
end
theorem ChIn.grown {w W : World} {v : Value} {cs : List Ch} (h : ChIn w v cs) (hW : ∃ f, W = ext w f) : ChIn W v cs := by
  obtain ⟨f, rfl⟩ := hW
  refine ⟨h.fit, ?_⟩
  rcases h.lies with h0 | ⟨g, fo, cap, h1, h2, h3⟩
  · exact .inl h0
  · refine .inr ⟨g, fo, cap, h1, h2, fun k hk => ?_⟩
    obtain ⟨m0, m1, m2, m3⟩ := h3 k hk
    have hg : g < w.heap.size := World.block_lt_of_cell? w _ m0
    have e : ∀ o, (ext w f).cell? ⟨g, o, none⟩ = w.cell? ⟨g, o, none⟩ := fun o => (ext_below w f).cell (p := ⟨g, o, none⟩) hg
    rw [e, e, e, e]
    exact ⟨m0, m1, m2, m3⟩
theorem ChIn.form {w : World} {v : Value} {cs : List Ch} (h : ChIn w v cs) : ∃ og cap, v = .slice og cs.length cap := by
  rcases h.lies with ⟨rfl, rfl⟩ | ⟨g, fo, cap, rfl, _, _⟩
  · exact ⟨none, 0, rfl⟩
  · exact ⟨_, _, rfl⟩
theorem ChIn.small {w : World} {v : Value} {cs : List Ch} (h : ChIn w v cs) : cs.length ≤ 9223372036854775807 := by
  rcases h.lies with ⟨rfl, rfl⟩ | ⟨g, fo, cap, rfl, h, _⟩
  · simp
  · exact h
theorem ChIn.at {w : World} {og : Option Addr} {n cap : Nat} {cs : List Ch} (h : ChIn w (.slice og n cap) cs) (k : Nat) (hk : k < cs.length) :
    ∃ g fo, og = some ⟨g, fo, none⟩ ∧ w.cell? ⟨g, fo + k * 4, none⟩ = some (.int .i64 cs[k].1) ∧ w.cell? ⟨g, fo + k * 4 + 1, none⟩ = some (.int .i64 cs[k].2.1) ∧ w.cell? ⟨g, fo + k * 4 + 2, none⟩ = some (.int .i64 cs[k].2.2.1) ∧ w.cell? ⟨g, fo + k * 4 + 3, none⟩ = some (.int .i64 cs[k].2.2.2) := by
  rcases h.lies with ⟨_, rfl⟩ | ⟨g, fo, cap, hv, _, h⟩
  · simp at hk
  · simp only [Value.slice.injEq] at hv
    exact ⟨g, fo, hv.1, h k hk⟩

theorem IntsIn.form {w : World} {v : Value} {bs : List Int} (h : IntsIn w v bs) : ∃ og cap, v = .slice og bs.length cap := by
  rcases h.lies with ⟨rfl, rfl⟩ | ⟨g, fo, cap, rfl, _, _⟩
  · exact ⟨none, 0, rfl⟩
  · exact ⟨_, _, rfl⟩
theorem IntsIn.small {w : World} {v : Value} {bs : List Int} (h : IntsIn w v bs) : bs.length ≤ 9223372036854775807 := by
  rcases h.lies with ⟨rfl, rfl⟩ | ⟨g, fo, cap, rfl, h, _⟩
  · simp
  · exact h
theorem IntsIn.at {w : World} {og : Option Addr} {n cap : Nat} {bs : List Int} (h : IntsIn w (.slice og n cap) bs) (k : Nat) (hk : k < bs.length) :
    ∃ g fo, og = some ⟨g, fo, none⟩ ∧ w.cell? ⟨g, fo + k, none⟩ = some (.int .i64 bs[k]) := by
  rcases h.lies with ⟨_, rfl⟩ | ⟨g, fo, cap, hv, _, h⟩
  · simp at hk
  · simp only [Value.slice.injEq] at hv
    have := h k hk
    rw [List.getD_eq_getElem?_getD, List.getElem?_eq_getElem hk] at this
    exact ⟨g, fo, hv.1, this⟩
#print axioms open_changes
end Go.Proofs.YtnogfelfgclajaaGreatDoor
end

section
namespace Go.Proofs.YtnogfelfgclajaaGreatDoor
open Go.RowKit Go.ChangeShapes Go.WideShapes Go.Deep
set_option linter.unusedVariables false

abbrev V3 := Int × Int × Int
/-- A slice of places as it comes in: what it holds. -/
structure VecsIn (w : World) (v : Value) (cs : List V3) : Prop where
  fit : ∀ c ∈ cs, Fit c.1 ∧ Fit c.2.1 ∧ Fit c.2.2
  lies : (v = .slice none 0 0 ∧ cs = []) ∨ ∃ g fo cap, v = .slice (some ⟨g, fo, none⟩) cs.length cap ∧ cs.length ≤ 9223372036854775807 ∧
    ∀ k (hk : k < cs.length), w.cell? ⟨g, fo + k * 3, none⟩ = some (.int .i64 cs[k].1) ∧ w.cell? ⟨g, fo + k * 3 + 1, none⟩ = some (.int .i64 cs[k].2.1) ∧ w.cell? ⟨g, fo + k * 3 + 2, none⟩ = some (.int .i64 cs[k].2.2)
section
variable {H : Type} {enc : TypeId × Value → H} {P : Program} {w : World} {base b0 : Nat} {sp : Nat → Bool} {held : Bool} {r : Reach}
theorem vec_of {tc ti : TypeId} {g0 g1 g2 : Field} {fuel : Nat} {cs : List Value} {y : DataW H × List MemPlace} (hi : P.underlying ti = some (.int .i64)) (hcell : P.underlying tc = some (.struct #[g0, g1, g2]))
    (hone : oneCellFields P #[g0, g1, g2] = true) (h0 : g0.type = ti) (h1 : g1.type = ti) (h2 : g2.type = ti)
    (hl : cs.length = 3) (h : DataW.trod enc P w base sp held fuel tc cs = some y) :
    ∃ a b c : Int, cs = [.int .i64 a, .int .i64 b, .int .i64 c] ∧ Fit a ∧ Fit b ∧ Fit c := by
  obtain ⟨c0, c1, c2, rfl⟩ : ∃ c0 c1 c2, cs = [c0, c1, c2] := by
    match cs, hl with
    | [c0, c1, c2], _ => exact ⟨c0, c1, c2, rfl⟩
  obtain ⟨_, _, _, _, _, _, a0, a1, a2⟩ := trod_struct3 hcell h
  obtain ⟨p0, q0⟩ := hone_of hone 0 g0 rfl
  obtain ⟨p1, q1⟩ := hone_of hone 1 g1 rfl
  obtain ⟨p2, q2⟩ := hone_of hone 2 g2 rfl
  rw [p0, q0] at a0
  rw [p1, q1] at a1
  rw [p2, q2] at a2
  obtain ⟨a, rfl, fa⟩ := int_of (v := c0) (h0 ▸ hi) (by simpa using a0)
  obtain ⟨b, rfl, fb⟩ := int_of (v := c1) (h1 ▸ hi) (by simpa using a1)
  obtain ⟨c, rfl, fc⟩ := int_of (v := c2) (h2 ▸ hi) (by simpa using a2)
  exact ⟨a, b, c, rfl, fa, fb, fc⟩
theorem open_vecs {ts tc ti : TypeId} {g0 g1 g2 : Field} {v : Value} {d : DataW H} {p : List MemPlace} (hi : P.underlying ti = some (.int .i64)) (hs : P.underlying ts = some (.slice tc)) (hcell : P.underlying tc = some (.struct #[g0, g1, g2]))
    (hC : P.cellsOf tc = 3) (hone : oneCellFields P #[g0, g1, g2] = true) (h0 : g0.type = ti) (h1 : g1.type = ti) (h2 : g2.type = ti)
    (hv : Value.okWide P w r b0 ts v) (h : DataW.Trod enc P w base sp held ts v d p) : ∃ cs, VecsIn w v cs := by
  have hk : Cell.okWide P w r b0 ts v := by
    unfold Value.okWide at hv
    simpa only [hs] using hv
  obtain ⟨fuel, hf⟩ := h
  have hcells : v.cells = #[v] := by
    cases v <;> first | rfl | (unfold Cell.okWide Cell.ok at hk; simp only [hs] at hk)
  rw [hcells] at hf
  rcases DataW.trod_slice hs hf with ⟨hv0, _⟩ | ⟨a, len, cap, elems, rest, n, _, hv1, _, hb, hl, hm, hlen, hel, _, _⟩
  · simp only [List.cons.injEq, and_true] at hv0
    exact ⟨[], fun c hc => (by cases hc), .inl ⟨hv0, rfl⟩⟩
  · simp only [List.cons.injEq, and_true] at hv1
    subst hv1
    obtain ⟨hsp, _⟩ := slice_spot hs hk
    obtain ⟨g, fo, so⟩ := a
    simp only at hsp
    subst hsp
    have each : ∀ i, ∃ c : V3, i < len → (Fit c.1 ∧ Fit c.2.1 ∧ Fit c.2.2) ∧ w.cell? ⟨g, fo + i * 3, none⟩ = some (.int .i64 c.1) ∧ w.cell? ⟨g, fo + i * 3 + 1, none⟩ = some (.int .i64 c.2.1) ∧ w.cell? ⟨g, fo + i * 3 + 2, none⟩ = some (.int .i64 c.2.2) := by
      intro i
      by_cases hil : i < len
      · have he1 := hel i hil
        rw [hC, List.getElem?_eq_getElem (by omega), Option.bind_eq_some_iff] at he1
        obtain ⟨cs', hcs, hy⟩ := he1
        obtain ⟨_, hcl, hcc⟩ := World.cells?_some hcs
        obtain ⟨x, y, z, rfl, fx, fy, fz⟩ := vec_of hi hcell hone h0 h1 h2 hcl hy
        have m0 := hcc 0 (by omega)
        have m1 := hcc 1 (by omega)
        have m2 := hcc 2 (by omega)
        rw [add_plain, add_plain] at m0 m1 m2
        exact ⟨(x, y, z), fun _ => ⟨⟨fx, fy, fz⟩, m0, m1, m2⟩⟩
      · exact ⟨(0, 0, 0), fun h => absurd h hil⟩
    obtain ⟨f, hf⟩ := Classical.axiomOfChoice each
    have hlen2 : ((List.range len).map f).length = len := by simp
    refine ⟨(List.range len).map f, fun c hc => ?_, .inr ⟨g, fo, cap, by rw [hlen2], ?_, fun k hk => ?_⟩⟩
    · obtain ⟨i, hi, rfl⟩ := List.mem_map.1 hc
      exact (hf i (List.mem_range.1 hi)).1
    · rw [hlen2]
      unfold maxLen at hm
      omega
    · have hk2 : k < len := by rw [hlen2] at hk; exact hk
      have := (hf k hk2).2
      simpa using this
end
theorem VecsIn.form {w : World} {v : Value} {cs : List V3} (h : VecsIn w v cs) : ∃ og cap, v = .slice og cs.length cap := by
  rcases h.lies with ⟨rfl, rfl⟩ | ⟨g, fo, cap, rfl, _, _⟩
  · exact ⟨none, 0, rfl⟩
  · exact ⟨_, _, rfl⟩
theorem VecsIn.small {w : World} {v : Value} {cs : List V3} (h : VecsIn w v cs) : cs.length ≤ 9223372036854775807 := by
  rcases h.lies with ⟨rfl, rfl⟩ | ⟨g, fo, cap, rfl, h, _⟩
  · simp
  · exact h
theorem VecsIn.at {w : World} {og : Option Addr} {n cap : Nat} {cs : List V3} (h : VecsIn w (.slice og n cap) cs) (k : Nat) (hk : k < cs.length) :
    ∃ g fo, og = some ⟨g, fo, none⟩ ∧ w.cell? ⟨g, fo + k * 3, none⟩ = some (.int .i64 cs[k].1) ∧ w.cell? ⟨g, fo + k * 3 + 1, none⟩ = some (.int .i64 cs[k].2.1) ∧ w.cell? ⟨g, fo + k * 3 + 2, none⟩ = some (.int .i64 cs[k].2.2) := by
  rcases h.lies with ⟨_, rfl⟩ | ⟨g, fo, cap, hv, _, h⟩
  · simp at hk
  · simp only [Value.slice.injEq] at hv
    exact ⟨g, fo, hv.1, h k hk⟩
#print axioms open_vecs
end Go.Proofs.YtnogfelfgclajaaGreatDoor
end

section
namespace Go.Proofs.YtnogfelfgclajaaGreatDoor
open Go.RowKit
attribute [local go_sem] ext_ext drew_ext ext_drew ext_cell ext_frozen in_lt in_le in_ne in_en in_ne1 in_en1 in_le1 in_ltn in_len in_nen in_enn size_le ite_max ite_min
set_option linter.unusedVariables false
set_option linter.unusedSimpArgs false
set_option maxRecDepth 1000000

theorem bufInfo : (Tryz.prog.info? 116).map (·.size) = some 2 := by kernel_rfl
theorem bufLies : liesAt Tryz.prog Tryz.prog.depth 116 (2 / Tryz.prog.cellsOf 116) 0 116 1 = true := by kernel_rfl
theorem bufused_any (b : Nat) (w : World) (h0 : w.cell? ⟨b, 0, none⟩ = some (.pointer (some ⟨b, 0, none⟩))) :
    Calls Tryz.prog 123 #[.pointer (some ⟨b, 0, none⟩)] w fun e w' => e = .returned (.tuple #[]) ∧ w' = w := by
  obtain ⟨j, hj, _⟩ := Option.map_eq_some_iff.1 bufInfo
  have hne := Lib.run_neq_ptr_same (P := Tryz.prog) w ⟨b, 0, none⟩ Tryz.underlying114 hj
  go_enter Tryz.func123, Tryz.ntmps123
  go_wp2
  go_end0
  exact ⟨rfl, rfl⟩
set_option maxHeartbeats 1000000 in
theorem buffresh_any (b : Nat) (w : World) (h0 : w.cell? ⟨b, 0, none⟩ = some (.pointer none)) (hsh : w.shape? b = some (116, 2)) (hfz : w.frozen? ⟨b, 0, none⟩ = false) :
    Calls Tryz.prog 123 #[.pointer (some ⟨b, 0, none⟩)] w fun e w' => e = .returned (.tuple #[]) ∧ w' = w.setCell ⟨b, 0, none⟩ (.pointer (some ⟨b, 0, none⟩)) := by
  obtain ⟨j, hj, hjs⟩ := Option.map_eq_some_iff.1 bufInfo
  have hne := Lib.run_neq_ptr_same (P := Tryz.prog) (w.setCell ⟨b, 0, none⟩ (.pointer (some ⟨b, 0, none⟩))) ⟨b, 0, none⟩ Tryz.underlying114 hj
  have hto := Lib.run_to_unsafe (P := Tryz.prog) w ⟨b, 0, none⟩ Tryz.underlying114 Tryz.underlying232 hj (by rw [hjs]; decide) hsh (Nat.zero_lt_succ 1)
  have hfrom := Lib.run_from_unsafe (P := Tryz.prog) w ⟨b, 0, none⟩ Tryz.underlying232 Tryz.underlying114 hj hsh bufLies
  haveI := in_of_cell h0
  have hno : (callFunc 172 #[.pointer (some ⟨b, 0, none⟩)]).run Tryz.prog w = .ok (.value (.pointer (some ⟨b, 0, none⟩))) w := by kernel_rfl
  clear hj hjs hsh
  go_enter Tryz.func123, Tryz.ntmps123
  go_wp2
  go_end0
  exact ⟨rfl, rfl⟩
/-- What every writing function calls first. -/
theorem bufcheck_any (B b : Nat) (bs : List Value) (w : World) (h : Lib.IsBuilder 116 5 B b bs w) :
    Calls Tryz.prog 123 #[.pointer (some ⟨b, 0, none⟩)] w fun e w' => e = .returned (.tuple #[]) ∧ Lib.BuilderAt 116 5 B b (.pointer (some ⟨b, 0, none⟩)) bs w' ∧ Below B w w' := by
  rcases h with h | h
  · refine (buffresh_any b w h.cell0 h.shape h.frozen0).mono ?_
    rintro e w' ⟨rfl, rfl⟩
    exact ⟨rfl, h.used _, (Below.refl B w).setCell (p := ⟨b, 0, none⟩) h.1 _⟩
  · refine (bufused_any b w h.cell0).mono ?_
    rintro e w' ⟨rfl, rfl⟩
    exact ⟨rfl, h, Below.refl B _⟩
/-- A text written. -/
theorem bufwrite_any (B b : Nat) (bs : List Value) (s : ByteArray) (w : World) (h : Lib.IsBuilder 116 5 B b bs w) (hlen : bs.length + s.size ≤ 100000) (hBw : B ≤ w.heap.size) :
    Calls Tryz.prog 73 #[.pointer (some ⟨b, 0, none⟩), .string s] w fun e w' => (∃ v, e = .returned v) ∧ Lib.BuilderAt 116 5 B b (.pointer (some ⟨b, 0, none⟩)) (bs ++ Lib.strCells s) w' ∧ Below B w w' := by
  obtain ⟨i0, hi, hz0, hz1, hz2⟩ := info_parts byteInfo
  go_enter Tryz.func73, Tryz.ntmps73
  go_wp2_with fail
  refine (bufcheck_any B b bs _ h).mono ?_
  rintro e w1 ⟨rfl, ⟨hB, v, hbk, hown, hne⟩, hb1⟩
  have c0 := cell_of_block (i := 0) hbk rfl
  have c1 := cell_of_block (i := 1) hbk rfl
  have s1 := hb1.size
  haveI := in_of_block hbk
  go_wp2_with (at_builtin; refine Lib.wpList_append_own_string _ rfl _ _ 87 9 rfl B 5 i0 Tryz.underlying87 Tryz.underlying9 hi hz0 hz1 hz2 _ _ _ rfl hown s rfl ?c3 ?c4 ?c5 ?_)
  case c3 => unfold maxLen; omega
  case c4 => omega
  case c5 => omega
  intro v' w2 hown' hgrow _
  have hb2 := (hgrow.block b (lt_of_block hbk) (fun e => hne e.symm)).trans hbk
  have d0 := cell_of_block (i := 0) hb2 rfl
  have d1 := cell_of_block (i := 1) hb2 rfl
  have f1 := free_of_block 1 hb2
  obtain ⟨ao, n', cap, rfl⟩ : ∃ ao n' cap, v' = .slice ao n' cap := by
    rcases hown'.2 with ⟨hv, _⟩ | ⟨g, cap, cur, hv, _⟩
    · exact ⟨_, _, _, hv⟩
    · exact ⟨_, _, _, hv⟩
  have H2 := Lib.hid (And.intro hb2 (And.intro hown' hgrow))
  have H1 := Lib.hid hown
  clear hb2 hown' hgrow hown hbk c0 c1
  go_wp2
  go_ret2
  refine ⟨⟨_, rfl⟩, ?_, ?_⟩
  · exact Lib.BuilderAt.put (T := 116) (e := 5) hB H2.out.1 (bs' := bs ++ Lib.strCells s) (by simpa [Lib.strCells_length] using H2.out.2.1) (by decide)
  · exact (hb1.grown H2.out.2.2 (by omega) (fun k hk => (H1.out.lt k hk).1)).setCell (p := ⟨b, 1, none⟩) hB _
#print axioms bufwrite_any
/-- The first text written. -/
theorem buffirst_any (B b : Nat) (s : ByteArray) (w : World) (hB : B ≤ b) (hb : w.heap[b]? = some (.cells #[.pointer none, .slice none 0 0] 116 (0, 0))) (hlen : s.size ≤ 100000) :
    Calls Tryz.prog 73 #[.pointer (some ⟨b, 0, none⟩), .string s] w fun e w' => (∃ v, e = .returned v) ∧ Lib.BuilderAt 116 5 B b (.pointer (some ⟨b, 0, none⟩)) (Lib.strCells s) w' ∧ Turn (fun k => k = b) w w' := by
  obtain ⟨i0, hi, hz0, hz1, hz2⟩ := info_parts byteInfo
  have hlt := lt_of_block hb
  have C0 := Lib.hid (buffresh_any b w (cell_of_block (i := 0) hb rfl) (by simp [World.shape?, hb]) (free_of_block 0 hb))
  have hb' := Lib.hid (block_set (i := 0) hb (.pointer (some ⟨b, 0, none⟩)) (by simp))
  go_enter Tryz.func73, Tryz.ntmps73
  go_wp2_with fail
  refine C0.out.mono ?_
  rintro e w1 ⟨rfl, h1⟩
  have hbk : w1.heap[b]? = some (.cells #[.pointer (some ⟨b, 0, none⟩), .slice none 0 0] 116 (0, 0)) := by rw [h1]; exact hb'.out
  have hT1 : Turn (fun k => k = b) w w1 := by rw [h1]; exact turn_one w b 0 _
  have c0 := cell_of_block (i := 0) hbk rfl
  have c1 := cell_of_block (i := 1) hbk rfl
  have s1 := hT1.size
  have T1 := Lib.hid hT1
  haveI := in_of_block hbk
  clear h1 hT1 C0 hb
  go_wp2_with (at_builtin; refine Lib.wpList_append_own_string _ rfl _ _ 87 9 rfl B 5 i0 Tryz.underlying87 Tryz.underlying9 hi hz0 hz1 hz2 _ _ _ rfl (World.ownsRow_nil _ B 5 1) s rfl ?c3 ?c4 ?c5 ?_)
  case c3 => unfold maxLen; omega
  case c4 => omega
  case c5 => omega
  intro v' w2 hown' hgrow _
  have hb2 := (hgrow.block b (lt_of_block hbk) (fun e => by cases e)).trans hbk
  have d0 := cell_of_block (i := 0) hb2 rfl
  have d1 := cell_of_block (i := 1) hb2 rfl
  have f1 := free_of_block 1 hb2
  obtain ⟨ao, n', cap, rfl⟩ : ∃ ao n' cap, v' = .slice ao n' cap := by
    rcases hown'.2 with ⟨hv, _⟩ | ⟨g, cap, cur, hv, _⟩
    · exact ⟨_, _, _, hv⟩
    · exact ⟨_, _, _, hv⟩
  have H2 := Lib.hid (And.intro hb2 (And.intro hown' hgrow))
  clear hb2 hown' hgrow hbk c0 c1
  go_wp2
  go_ret2
  refine ⟨⟨_, rfl⟩, ?_, ?_⟩
  · exact Lib.BuilderAt.put (T := 116) (e := 5) hB H2.out.1 (bs' := Lib.strCells s) (by simpa [Lib.strCells_length] using H2.out.2.1) (by decide)
  · exact (T1.out.trans (turn_by H2.out.2.2) (fun _ _ h => by cases h)).trans (turn_one w2 b 1 _) (fun _ _ h => h)
#print axioms buffirst_any
/-- A builder stays what it is. -/
theorem buf_turn {F : Nat → Prop} {B b : Nat} {p : Value} {l : List Value} {w W : World} (h : Lib.BuilderAt 116 5 B b p l w) (hT : Turn F w W) (hb : ∀ g c fz, w.heap[g]? = some (.cells c 116 fz) → ¬ F g) (hr : ∀ g c fz, w.heap[g]? = some (.cells c 5 fz) → ¬ F g) : Lib.BuilderAt 116 5 B b p l W := by
  obtain ⟨hB, v, hbk, hown, hne⟩ := h
  refine ⟨hB, v, (hT.block b (lt_of_block hbk) (hb _ _ _ hbk)).trans hbk, hT.owns hown (fun g hg => ?_), hne⟩
  rcases hown.2 with ⟨rfl, _⟩ | ⟨g', cap, cur, rfl, _, hgg, _⟩
  · cases hg
  · simp [Value.ownBlock] at hg
    subst hg
    exact hr _ _ _ hgg
end Go.Proofs.YtnogfelfgclajaaGreatDoor
end

section
namespace Go.Proofs.YtnogfelfgclajaaGreatDoor
open Go.RowKit
attribute [local go_sem] ext_ext drew_ext ext_drew ext_cell ext_frozen in_lt in_le in_ne in_en in_ne1 in_en1 in_le1 in_ltn in_len in_nen in_enn size_le ite_max ite_min
set_option linter.unusedVariables false
set_option linter.unusedSimpArgs false
set_option maxRecDepth 1000000

def exA : ByteArray := ⟨#[108, 111, 97, 100, 32, 48, 32, 48]⟩
def exB : ByteArray := ⟨#[97, 116, 32, 48, 32, 48, 32, 48]⟩
abbrev exT : ByteArray := ⟨#[108, 111, 97, 100, 32, 48, 32, 48, 10, 97, 116, 32, 48, 32, 48, 32, 48]⟩
theorem exCount : Lib.countByte exT.data.toList 10 = 1 := by decide
theorem exIndex : Lib.indexByte exT.data.toList 10 = 8 := by decide
theorem exCut : exT.extract 0 8 = exA ∧ exT.extract 9 17 = exB := ⟨by kernel_rfl, by kernel_rfl⟩
theorem gensplit_ex (w : World) : Calls Tryz.prog 122 #[.string exT, .string ⟨#[10]⟩, .int .i64 0, .int .i64 (-1)] w fun e w' =>
    e = .returned (.slice (some ⟨w.heap.size, 0, none⟩) 2 2) ∧ w'.heap[w.heap.size]? = some (.cells #[.string exA, .string exB] 9 (0, 0)) ∧ ∃ f, w' = ext w f := by
  have CN := Lib.hid (fun W => exCount ▸ Tryz.strings_Count_one exT 10 W)
  have IX := Lib.hid (fun W => exIndex ▸ Tryz.strings_Index_one exT 10 W)
  have hmin : (min 2 18 : Int) = 2 := by decide
  have hmk : ∀ w : World, (Instr.makeSlice 38 (.int .i64 2) (.int .i64 2)).run Tryz.prog w = .ok (.slice (some ⟨w.heap.size, 0, none⟩) 2 2) (w.alloc (.cells #[.string ⟨#[]⟩, .string ⟨#[]⟩] 9)) := fun _ => by kernel_rfl
  go_enter Tryz.func122, Tryz.ntmps122
  go_wp2_with (go_at_call 170; refine (CN.out _).mono ?_; rintro e w1 ⟨rfl, rfl⟩)
  refine wp_loop_rounds 2 ?_
  rw [rounds_succ]
  go_wp2_with (go_at_call 171; refine (IX.out _).mono ?_; rintro e w1 ⟨rfl, rfl⟩)
  rw [rounds_succ]
  go_wp2
  go_ret
  exact ⟨rfl, exCut.1 ▸ exCut.2 ▸ heap_alloc_new w1 _, grown_of⟩
theorem split_ex (w : World) : Calls Tryz.prog 72 #[.string exT, .string ⟨#[10]⟩] w fun e w' =>
    e = .returned (.slice (some ⟨w.heap.size, 0, none⟩) 2 2) ∧ w'.heap[w.heap.size]? = some (.cells #[.string exA, .string exB] 9 (0, 0)) ∧ ∃ f, w' = ext w f := by
  have GS := Lib.hid (gensplit_ex w)
  go_enter Tryz.func72, Tryz.ntmps72
  go_wp2_with fail
  refine GS.out.mono ?_
  rintro e w1 ⟨rfl, h1, h2⟩
  go_wp2_with fail
  go_ret
  exact ⟨rfl, h1, h2⟩
#print axioms split_ex
end Go.Proofs.YtnogfelfgclajaaGreatDoor
end

section
namespace Go.Proofs.YtnogfelfgclajaaGreatDoor
open Go.RowKit
attribute [local go_sem] ext_ext drew_ext ext_drew ext_cell ext_frozen in_lt in_le in_ne in_en in_ne1 in_en1 in_le1 in_ltn in_len in_nen in_enn size_le ite_max ite_min
set_option linter.unusedVariables false
set_option linter.unusedSimpArgs false
set_option maxRecDepth 1000000

theorem exA_is : exA = bs (joinW [[108, 111, 97, 100], decI 16 0, decI 16 0]) := by kernel_rfl
theorem exB_is : exB = bs (joinW [[97, 116], decI 16 0, decI 16 0, decI 16 0]) := by kernel_rfl
theorem num0 : Num 0 := ⟨by omega, by omega⟩
theorem zeroWd : Wd (decI 16 0) := decI_wd 16
def ldW : List UInt8 := [108, 111, 97, 100]
def atW : List UInt8 := [97, 116]
theorem ldWd : Wd ldW := ⟨by simp [ldW], by unfold ldW; decide⟩
theorem atWd : Wd atW := ⟨by simp [atW], by unfold atW; decide⟩
theorem exBlk : blkS 1 0 0 0 = 1 := by kernel_rfl
theorem exCell : cellG (GrAt 1) 0 0 0 = 1 := by
  have hi : idxS 0 0 0 = 0 := by kernel_rfl
  have hd : divS 0 16 = 0 := by kernel_rfl
  unfold cellG GrAt
  rw [if_neg (by omega), if_pos (by omega), hi, hd]
  simp [exBlk]
theorem exView {T : List (Ps × Bool)} (h : ∃ c ∈ T, c.1 = ((0, 0) : Ps)) : viewT (GrAt 1) T 0 0 0 = 1 := by
  have hd : divS 0 16 = 0 := by kernel_rfl
  rw [view_yes (by rw [hd]; exact h), exCell]
theorem exOk : okS ++ (⟨#[10]⟩ : ByteArray) = ⟨#[111, 107, 10]⟩ := by kernel_rfl
theorem exStone : nmB 1 ++ (⟨#[10]⟩ : ByteArray) = ⟨#[115, 116, 111, 110, 101, 10]⟩ := by kernel_rfl
theorem exCells : Lib.strCells ⟨#[111, 107, 10]⟩ ++ Lib.strCells ⟨#[115, 116, 111, 110, 101, 10]⟩ = Lib.byteCells [111, 107, 10, 115, 116, 111, 110, 101, 10] := by kernel_rfl
theorem close0 : Close ((0, 0) : Ps) := ⟨by simp, by simp, by simp, by simp⟩
theorem wordsA_any (w : World) : Calls Tryz.prog 27 #[.string exA] w (fun e w' => ∃ o, e = .returned (.slice o 3 3) ∧ ∃ f, w' = ext w f) := by
  rw [exA_is]
  refine (linewords_any [ldW, decI 16 0, decI 16 0] (by simp) (fun x hx => ?_) (by decide +kernel) w).mono ?_
  · simp at hx
    rcases hx with rfl | rfl
    · exact ldWd
    · exact zeroWd
  · rintro e w' ⟨v, rfl, ⟨o, rfl, _⟩, hw⟩
    exact ⟨o, rfl, hw⟩
theorem wordsB_any (w : World) : Calls Tryz.prog 27 #[.string exB] w (fun e w' => ∃ o, e = .returned (.slice o 4 4) ∧ ∃ f, w' = ext w f) := by
  rw [exB_is]
  refine (linewords_any [atW, decI 16 0, decI 16 0, decI 16 0] (by simp) (fun x hx => ?_) (by decide +kernel) w).mono ?_
  · simp at hx
    rcases hx with rfl | rfl
    · exact atWd
    · exact zeroWd
  · rintro e w' ⟨v, rfl, ⟨o, rfl, _⟩, hw⟩
    exact ⟨o, rfl, hw⟩
set_option maxHeartbeats 4000000 in
/-- The example, run. -/
theorem run_ex (w : World) : Calls Tryz.prog 35 #[.string exT] w fun e w' => e = .returned (.string ⟨#[111, 107, 10, 115, 116, 111, 110, 101, 10]⟩) ∧ Below w.heap.size w w' := by
  go_enter Tryz.func35, Tryz.ntmps35
  go_wp2_with fail
  refine (linesnew_any w.heap.size w (Nat.le_refl _)).mono ?_
  rintro e1 w1 ⟨sh, t, rfl, hS, f, hw⟩
  have B1 := Lib.hid (show Below w.heap.size w w1 by rw [hw]; exact ext_below w f)
  have S1 := Lib.hid hS
  clear hw hS
  go_wp2_with fail
  have B2 := Lib.hid ((Below.refl w1.heap.size w1).alloc (Nat.le_refl _) (.cells #[.pointer none, .slice none 0 0] 116))
  have X2 := Lib.hid (heap_alloc_new w1 (.cells #[.pointer none, .slice none 0 0] 116))
  generalize w1.alloc (.cells #[.pointer none, .slice none 0 0] 116) = w2 at *
  have L2 := Lib.hid (show w.heap.size ≤ w1.heap.size from B1.out.size)
  have S2 := Lib.hid (S1.out.grown B2.out)
  have b2 := Lib.hid (B1.out.trans (B2.out.mono B1.out.size))
  clear S1 B1 B2
  generalize w1.heap.size = bb at *
  refine (split_ex w2).mono ?_
  rintro e3 w3 ⟨rfl, hr, f, hw⟩
  have B3 := Lib.hid (show Below w2.heap.size w2 w3 by rw [hw]; exact ext_below w2 f)
  have R3 := Lib.hid hr
  clear hw hr
  have S3 := Lib.hid (S2.out.grown B3.out)
  have b3 := Lib.hid (b2.out.trans (B3.out.mono b2.out.size))
  have X3 := Lib.hid ((B3.out.block bb (lt_of_block X2.out)).trans X2.out)
  clear S2 b2 X2 B3
  generalize w2.heap.size = rb at *
  have c3 := cell_of_block (i := 0) R3.out rfl
  haveI := in_of_cell c3
  go_wp2_with fail
  refine wp_loop_rounds 3 ?_
  rw [rounds_succ]
  go_wp2_with fail
  refine (wordsA_any w3).mono ?_
  rintro e4 w4 ⟨o4, rfl, f, hw⟩
  have B4 := Lib.hid (show Below w3.heap.size w3 w4 by rw [hw]; exact ext_below w3 f)
  clear hw
  have S4 := Lib.hid (S3.out.grown B4.out)
  have b4 := Lib.hid (b3.out.trans (B4.out.mono b3.out.size))
  have X4 := Lib.hid ((B4.out.block bb (lt_of_block X3.out)).trans X3.out)
  have R4 := Lib.hid ((B4.out.block rb (lt_of_block R3.out)).trans R3.out)
  clear S3 b3 X3 R3 B4 c3
  go_wp2_with fail
  rw [exA_is]
  refine (sayload_any S4.out 0 0 num0 num0 close0).mono ?_
  rintro e5 w5 ⟨⟨_, rfl, rfl⟩, ⟨T5, hS5, hp5⟩, hT5⟩
  have S5 := Lib.hid (And.intro hS5 hp5)
  have b5 := Lib.hid (b4.out.trans (hT5.below (fun i _ hi => Nat.le_of_not_lt (fun h => lf_low h hi)) b4.out.size))
  have X5 := Lib.hid ((hT5.block bb (lt_of_block X4.out) (lf_no X4.out (by decide))).trans X4.out)
  have R5 := Lib.hid ((hT5.block rb (lt_of_block R4.out) (lf_no R4.out (by decide))).trans R4.out)
  clear hS5 hp5 hT5 S4 b4 X4 R4
  go_wp2_with fail
  rw [exOk]
  refine (buffirst_any w.heap.size bb ⟨#[111, 107, 10]⟩ w5 L2.out X5.out (by decide)).mono ?_
  rintro e6 w6 ⟨⟨v6, rfl⟩, hB6, hT6⟩
  have U6 := Lib.hid hB6
  have S6 := Lib.hid (And.intro (S5.out.1.turn hT6 (aside_one X5.out (by decide))) S5.out.2)
  have b6 := Lib.hid (b5.out.trans (hT6.below (fun i _ hi => by have := L2.out; omega) b5.out.size))
  have R6 := Lib.hid ((hT6.block rb (lt_of_block R5.out) (fun e => by
    have h1 := X5.out
    rw [← show rb = bb from e, R5.out] at h1
    injection h1 with h1
    injection h1 with _ h1
    exact absurd h1 (by decide))).trans R5.out)
  have c6 := cell_of_block (i := 1) R6.out rfl
  haveI := in_of_cell c6
  clear hB6 hT6 S5 b5 X5 R5
  go_wp2_with fail
  rw [rounds_succ]
  go_wp2_with fail
  refine (wordsB_any w6).mono ?_
  rintro e7 w7 ⟨o7, rfl, f, hw⟩
  have B7 := Lib.hid (show Below w6.heap.size w6 w7 by rw [hw]; exact ext_below w6 f)
  clear hw
  have S7 := Lib.hid (And.intro (S6.out.1.grown B7.out) S6.out.2)
  have b7 := Lib.hid (b6.out.trans (B7.out.mono b6.out.size))
  have U7 := Lib.hid (buf_turn U6.out (turn_below (F := fun _ => False) B7.out) (fun _ _ _ _ => id) (fun _ _ _ _ => id))
  clear S6 b6 U6 B7 R6 c6
  go_wp2_with fail
  rw [exB_is]
  refine (sayat_any S7.out.1 0 0 0 ⟨by omega, by omega⟩ ⟨by omega, by omega⟩ num0 1 (exView S7.out.2) (by omega) (by omega)).mono ?_
  rintro e8 w8 ⟨⟨_, rfl, rfl⟩, ⟨T8, hS8, hp8⟩, hT8⟩
  have b8 := Lib.hid (b7.out.trans (hT8.below (fun i _ hi => Nat.le_of_not_lt (fun h => lf_low h hi)) b7.out.size))
  have U8 := Lib.hid (buf_turn U7.out hT8 (fun _ _ _ hg => lf_no hg (by decide)) (fun _ _ _ hg => lf_no hg (by decide)))
  clear hS8 hp8 hT8 S7 b7 U7
  go_wp2_with fail
  rw [exStone]
  refine (bufwrite_any w.heap.size bb _ ⟨#[115, 116, 111, 110, 101, 10]⟩ w8 (.inr U8.out) (by rw [Lib.strCells_length]; decide) b8.out.size).mono ?_
  rintro e9 w9 ⟨⟨v9, rfl⟩, hB9, hb9⟩
  rw [exCells] at hB9
  have U9 := Lib.hid hB9
  have b9 := Lib.hid (b8.out.trans hb9)
  clear hB9 hb9 U8 b8
  go_wp2_with fail
  rw [rounds_succ]
  go_wp2_with fail
  refine (Tryz.Builder_String_any w.heap.size bb _ w9 (.inr U9.out) b9.out.size).mono ?_
  rintro e10 w10 ⟨rfl, hb10⟩
  go_wp2_with fail
  go_ret
  exact ⟨rfl, b9.out.trans hb10⟩
#print axioms run_ex
theorem exEq (W : World) : (binOp .eql 9 (.string ⟨#[111, 107, 10, 115, 116, 111, 110, 101, 10]⟩) (.string ⟨#[111, 107, 10, 115, 116, 111, 110, 101, 10]⟩)).run Tryz.prog W = .ok (.bool true) W := by kernel_rfl
/-- The document's own example. -/
theorem alive_any (w : World) : Calls Tryz.prog 16 #[] w fun e w' => e = .returned (.bool true) ∧ Below w.heap.size w w' := by
  have RU := Lib.hid (run_ex w)
  have hq := exEq
  go_enter Tryz.func16, Tryz.ntmps16
  go_wp2_with fail
  refine RU.out.mono ?_
  rintro e1 w1 ⟨rfl, hb⟩
  have B1 := Lib.hid hb
  clear hb
  go_wp2_with fail
  go_ret
  exact ⟨rfl, B1.out⟩
#print axioms alive_any
end Go.Proofs.YtnogfelfgclajaaGreatDoor
end
