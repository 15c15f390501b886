/-
  Slices of changes, as they come in.
-/
import Derived.Test.YtjejobfhddlmeaaOpen
namespace Go.Proofs.Ytjejobfhddlmeaa
open Go.RowKit Go.ChangeShapes Go.WideShapes Go.Deep
set_option linter.unusedVariables false

/-- A slice of changes as it comes in: what it holds. -/
structure ChIn (w : World) (v : Value) (cs : List Ch) : Prop where
  fit : ∀ c ∈ cs, Fit c.1 ∧ Fit c.2.1 ∧ Fit c.2.2.1 ∧ Fit c.2.2.2
  lies : (v = .slice none 0 0 ∧ cs = []) ∨ ∃ g fo cap, v = .slice (some ⟨g, fo, none⟩) cs.length cap ∧ cs.length ≤ 9223372036854775807 ∧
    ∀ k (hk : k < cs.length), w.cell? ⟨g, fo + k * 4, none⟩ = some (.int .i64 cs[k].1) ∧ w.cell? ⟨g, fo + k * 4 + 1, none⟩ = some (.int .i64 cs[k].2.1) ∧ w.cell? ⟨g, fo + k * 4 + 2, none⟩ = some (.int .i64 cs[k].2.2.1) ∧ w.cell? ⟨g, fo + k * 4 + 3, none⟩ = some (.int .i64 cs[k].2.2.2)

section
variable {H : Type} {enc : TypeId × Value → H} {P : Program} {w : World} {base b0 : Nat} {sp : Nat → Bool} {held : Bool} {r : Reach}

theorem change_of {te tc ti : TypeId} {f0 f1 g0 g1 g2 : Field} {fuel : Nat} {cs : List Value} {y : DataW H × List MemPlace} (hi : P.underlying ti = some (.int .i64)) (he : P.underlying te = some (.struct #[f0, f1])) (hcell : P.underlying tc = some (.struct #[g0, g1, g2]))
    (hone : oneCellFields P #[g0, g1, g2] = true) (hC3 : P.cellsOf tc = 3) (hC1 : P.cellsOf ti = 1) (o0 : f0.offset = 0) (o1 : f1.offset = 3) (t0 : f0.type = tc) (t1 : f1.type = ti) (h0 : g0.type = ti) (h1 : g1.type = ti) (h2 : g2.type = ti)
    (hl : cs.length = 4) (h : DataW.trod enc P w base sp held fuel te cs = some y) :
    ∃ a b c d : Int, cs = [.int .i64 a, .int .i64 b, .int .i64 c, .int .i64 d] ∧ Fit a ∧ Fit b ∧ Fit c ∧ Fit d := by
  obtain ⟨c0, c1, c2, c3, rfl⟩ : ∃ c0 c1 c2 c3, cs = [c0, c1, c2, c3] := by
    match cs, hl with
    | [c0, c1, c2, c3], _ => exact ⟨c0, c1, c2, c3, rfl⟩
  obtain ⟨y0, y1, n, _, _, k0, k1⟩ := trod_struct2 he h
  rw [t0, o0, hC3] at k0
  rw [t1, o1, hC1] at k1
  obtain ⟨_, _, _, _, _, _, a0, a1, a2⟩ := trod_struct3 hcell k0
  obtain ⟨p0, q0⟩ := hone_of hone 0 g0 rfl
  obtain ⟨p1, q1⟩ := hone_of hone 1 g1 rfl
  obtain ⟨p2, q2⟩ := hone_of hone 2 g2 rfl
  rw [p0, q0] at a0
  rw [p1, q1] at a1
  rw [p2, q2] at a2
  obtain ⟨a, rfl, fa⟩ := int_of (v := c0) (h0 ▸ hi) (by simpa using a0)
  obtain ⟨b, rfl, fb⟩ := int_of (v := c1) (h1 ▸ hi) (by simpa using a1)
  obtain ⟨c, rfl, fc⟩ := int_of (v := c2) (h2 ▸ hi) (by simpa using a2)
  obtain ⟨d, rfl, fd⟩ := int_of (v := c3) hi (by simpa using k1)
  exact ⟨a, b, c, d, rfl, fa, fb, fc, fd⟩

theorem open_changes {ts te tc ti : TypeId} {f0 f1 g0 g1 g2 : Field} {v : Value} {d : DataW H} {p : List MemPlace} (hi : P.underlying ti = some (.int .i64)) (hs : P.underlying ts = some (.slice te)) (he : P.underlying te = some (.struct #[f0, f1])) (hcell : P.underlying tc = some (.struct #[g0, g1, g2]))
    (hC : P.cellsOf te = 4) (hone : oneCellFields P #[g0, g1, g2] = true) (hC3 : P.cellsOf tc = 3) (hC1 : P.cellsOf ti = 1) (o0 : f0.offset = 0) (o1 : f1.offset = 3) (t0 : f0.type = tc) (t1 : f1.type = ti) (h0 : g0.type = ti) (h1 : g1.type = ti) (h2 : g2.type = ti)
    (hv : Value.okWide P w r b0 ts v) (h : DataW.Trod enc P w base sp held ts v d p) : ∃ cs, ChIn w v cs := by
  have hk : Cell.okWide P w r b0 ts v := by
    unfold Value.okWide at hv
    simpa only [hs] using hv
  obtain ⟨fuel, hf⟩ := h
  have hcells : v.cells = #[v] := by
    cases v <;> first | rfl | (unfold Cell.okWide Cell.ok at hk; simp only [hs] at hk)
  rw [hcells] at hf
  rcases DataW.trod_slice hs hf with ⟨hv0, _⟩ | ⟨a, len, cap, elems, rest, n, _, hv1, _, hb, hl, hm, hlen, hel, _, _⟩
  · simp only [List.cons.injEq, and_true] at hv0
    exact ⟨[], fun c hc => (by cases hc), .inl ⟨hv0, rfl⟩⟩
  · simp only [List.cons.injEq, and_true] at hv1
    subst hv1
    obtain ⟨hsp, _⟩ := slice_spot hs hk
    obtain ⟨g, fo, so⟩ := a
    simp only at hsp
    subst hsp
    have each : ∀ i, ∃ c : Ch, i < len → (Fit c.1 ∧ Fit c.2.1 ∧ Fit c.2.2.1 ∧ Fit c.2.2.2) ∧ w.cell? ⟨g, fo + i * 4, none⟩ = some (.int .i64 c.1) ∧ w.cell? ⟨g, fo + i * 4 + 1, none⟩ = some (.int .i64 c.2.1) ∧ w.cell? ⟨g, fo + i * 4 + 2, none⟩ = some (.int .i64 c.2.2.1) ∧ w.cell? ⟨g, fo + i * 4 + 3, none⟩ = some (.int .i64 c.2.2.2) := by
      intro i
      by_cases hil : i < len
      · have he1 := hel i hil
        rw [hC, List.getElem?_eq_getElem (by omega), Option.bind_eq_some_iff] at he1
        obtain ⟨cs', hcs, hy⟩ := he1
        obtain ⟨_, hcl, hcc⟩ := World.cells?_some hcs
        obtain ⟨x, y, z, b, rfl, fx, fy, fz, fb⟩ := change_of hi he hcell hone hC3 hC1 o0 o1 t0 t1 h0 h1 h2 hcl hy
        have m0 := hcc 0 (by omega)
        have m1 := hcc 1 (by omega)
        have m2 := hcc 2 (by omega)
        have m3 := hcc 3 (by omega)
        rw [add_plain, add_plain] at m0 m1 m2 m3
        exact ⟨(x, y, z, b), fun _ => ⟨⟨fx, fy, fz, fb⟩, m0, m1, m2, m3⟩⟩
      · exact ⟨(0, 0, 0, 0), fun h => absurd h hil⟩
    obtain ⟨f, hf⟩ := Classical.axiomOfChoice each
    have hlen2 : ((List.range len).map f).length = len := by simp
    refine ⟨(List.range len).map f, fun c hc => ?_, .inr ⟨g, fo, cap, by rw [hlen2], ?_, fun k hk => ?_⟩⟩
    · obtain ⟨i, hi, rfl⟩ := List.mem_map.1 hc
      exact (hf i (List.mem_range.1 hi)).1
    · rw [hlen2]
      unfold maxLen at hm
      omega
    · have hk2 : k < len := by rw [hlen2] at hk; exact hk
      have := (hf k hk2).2
      simpa using this
end
theorem ChIn.grown {w W : World} {v : Value} {cs : List Ch} (h : ChIn w v cs) (hW : ∃ f, W = ext w f) : ChIn W v cs := by
  obtain ⟨f, rfl⟩ := hW
  refine ⟨h.fit, ?_⟩
  rcases h.lies with h0 | ⟨g, fo, cap, h1, h2, h3⟩
  · exact .inl h0
  · refine .inr ⟨g, fo, cap, h1, h2, fun k hk => ?_⟩
    obtain ⟨m0, m1, m2, m3⟩ := h3 k hk
    have hg : g < w.heap.size := World.block_lt_of_cell? w _ m0
    have e : ∀ o, (ext w f).cell? ⟨g, o, none⟩ = w.cell? ⟨g, o, none⟩ := fun o => (ext_below w f).cell (p := ⟨g, o, none⟩) hg
    rw [e, e, e, e]
    exact ⟨m0, m1, m2, m3⟩
theorem ChIn.form {w : World} {v : Value} {cs : List Ch} (h : ChIn w v cs) : ∃ og cap, v = .slice og cs.length cap := by
  rcases h.lies with ⟨rfl, rfl⟩ | ⟨g, fo, cap, rfl, _, _⟩
  · exact ⟨none, 0, rfl⟩
  · exact ⟨_, _, rfl⟩
theorem ChIn.small {w : World} {v : Value} {cs : List Ch} (h : ChIn w v cs) : cs.length ≤ 9223372036854775807 := by
  rcases h.lies with ⟨rfl, rfl⟩ | ⟨g, fo, cap, rfl, h, _⟩
  · simp
  · exact h
theorem ChIn.at {w : World} {og : Option Addr} {n cap : Nat} {cs : List Ch} (h : ChIn w (.slice og n cap) cs) (k : Nat) (hk : k < cs.length) :
    ∃ g fo, og = some ⟨g, fo, none⟩ ∧ w.cell? ⟨g, fo + k * 4, none⟩ = some (.int .i64 cs[k].1) ∧ w.cell? ⟨g, fo + k * 4 + 1, none⟩ = some (.int .i64 cs[k].2.1) ∧ w.cell? ⟨g, fo + k * 4 + 2, none⟩ = some (.int .i64 cs[k].2.2.1) ∧ w.cell? ⟨g, fo + k * 4 + 3, none⟩ = some (.int .i64 cs[k].2.2.2) := by
  rcases h.lies with ⟨_, rfl⟩ | ⟨g, fo, cap, hv, _, h⟩
  · simp at hk
  · simp only [Value.slice.injEq] at hv
    exact ⟨g, fo, hv.1, h k hk⟩

end Go.Proofs.Ytjejobfhddlmeaa
