/-
  Slices of ints, and of cells with blocks, as they come in.
  TopFlat: what the walk keeps; the lines, by the texts that the walk makes of them.
-/
import Derived.Test.YtnogfelfgclajaaGreatDoorMa40
import Derived.ChangeSlices
import Derived.Test.YtnogfelfgclajaaGreatDoorMa39
section
namespace Go.Proofs.YtnogfelfgclajaaGreatDoor
open Go.RowKit Go.ChangeShapes Go.WideShapes Go.Deep
set_option linter.unusedVariables false

abbrev Ch := Int × Int × Int × Int
/-- A slice of ints as it comes in: what it holds. -/
structure IntsIn (w : World) (sv : Value) (bs : List Int) : Prop where
  fit : ∀ b ∈ bs, Fit b
  lies : (sv = .slice none 0 0 ∧ bs = []) ∨ ∃ g fo cap, sv = .slice (some ⟨g, fo, none⟩) bs.length cap ∧ bs.length ≤ 9223372036854775807 ∧ ∀ k, k < bs.length → w.cell? ⟨g, fo + k, none⟩ = some (.int .i64 (bs.getD k 0))

theorem slice_spot {P : Program} {w : World} {r : Reach} {b0 : Nat} {t e : TypeId} {a : Addr} {len cap : Nat} (ht : P.underlying t = some (.slice e)) (h : Cell.okWide P w r b0 t (.slice (some a) len cap)) : a.spot = none ∧ a.block < w.heap.size := by
  unfold Cell.okWide Cell.ok at h
  simp only [ht] at h
  obtain ⟨_, _, _, h1, row, cells, h2, _⟩ := h
  refine ⟨h1, ?_⟩
  unfold World.shape? at h2
  split at h2
  · rename_i hh
    exact (Array.getElem?_eq_some_iff.1 hh).1
  · cases h2

theorem fit_of_wf {n : Int} (hw : (Lit.int .i64 n).wf = true) : Fit n := by
  have hmin : IntKind.i64.min = -9223372036854775808 := rfl
  have hmax : IntKind.i64.max = 9223372036854775807 := rfl
  simp only [Lit.wf, Bool.and_eq_true, decide_eq_true_eq, hmin, hmax] at hw
  exact hw

section
variable {H : Type} {enc : TypeId × Value → H} {P : Program} {w : World} {base b0 : Nat} {sp : Nat → Bool} {held : Bool} {r : Reach}

theorem ints_in {t e : TypeId} {fuel : Nat} {v : Value} {y : DataW H × List MemPlace} (ht : P.underlying t = some (.slice e)) (he : P.underlying e = some (.int .i64)) (hc : P.cellsOf e = 1) (hk : Cell.okWide P w r b0 t v)
    (h : DataW.trod enc P w base sp held fuel t [v] = some y) : ∃ bs, IntsIn w v bs := by
  rcases open_ints ht he hc h with ⟨hv, _⟩ | ⟨a, len, cap, zs, hv, _, hl, hm, hz, _, hcell, hwf⟩
  · simp only [List.cons.injEq, and_true] at hv
    exact ⟨[], fun b hb => (by cases hb), .inl ⟨hv, rfl⟩⟩
  · simp only [List.cons.injEq, and_true] at hv
    subst hv
    obtain ⟨hs, _⟩ := slice_spot ht hk
    obtain ⟨g, fo, so⟩ := a
    simp only at hs
    subst hs
    have hlz : len ≤ zs.length := by rw [hz]; split <;> omega
    have hlen : (zs.take len).length = len := by simp; omega
    refine ⟨zs.take len, fun b hb => fit_of_wf (hwf b (List.mem_of_mem_take hb)), .inr ⟨g, fo, cap, by rw [hlen], ?_, fun k hk => ?_⟩⟩
    · rw [hlen]
      unfold maxLen at hm
      omega
    · rw [hlen] at hk
      have h1 := hcell k (by omega)
      rw [add_plain] at h1
      rw [h1]
      simp [List.getD, hk]

theorem open_ints1 {t e : TypeId} {v : Value} {d : DataW H} {p : List MemPlace} (ht : P.underlying t = some (.slice e)) (he : P.underlying e = some (.int .i64)) (hc : P.cellsOf e = 1) (hv : Value.okWide P w r b0 t v)
    (h : DataW.Trod enc P w base sp held t v d p) : ∃ bs, IntsIn w v bs := by
  have hk : Cell.okWide P w r b0 t v := by
    unfold Value.okWide at hv
    simpa only [ht] using hv
  obtain ⟨fuel, hf⟩ := h
  have hcells : v.cells = #[v] := by
    cases v <;> first | rfl | (unfold Cell.okWide Cell.ok at hk; simp only [ht] at hk)
  rw [hcells] at hf
  exact ints_in ht he hc hk hf
end
/-- A slice of cells, each with a block, as it comes in: what it holds. -/
structure ChIn (w : World) (v : Value) (cs : List Ch) : Prop where
  fit : ∀ c ∈ cs, Fit c.1 ∧ Fit c.2.1 ∧ Fit c.2.2.1 ∧ Fit c.2.2.2
  lies : (v = .slice none 0 0 ∧ cs = []) ∨ ∃ g fo cap, v = .slice (some ⟨g, fo, none⟩) cs.length cap ∧ cs.length ≤ 9223372036854775807 ∧
    ∀ k (hk : k < cs.length), w.cell? ⟨g, fo + k * 4, none⟩ = some (.int .i64 cs[k].1) ∧ w.cell? ⟨g, fo + k * 4 + 1, none⟩ = some (.int .i64 cs[k].2.1) ∧ w.cell? ⟨g, fo + k * 4 + 2, none⟩ = some (.int .i64 cs[k].2.2.1) ∧ w.cell? ⟨g, fo + k * 4 + 3, none⟩ = some (.int .i64 cs[k].2.2.2)

section
variable {H : Type} {enc : TypeId × Value → H} {P : Program} {w : World} {base b0 : Nat} {sp : Nat → Bool} {held : Bool} {r : Reach}

theorem change_of {te tc ti : TypeId} {f0 f1 g0 g1 g2 : Field} {fuel : Nat} {cs : List Value} {y : DataW H × List MemPlace} (hi : P.underlying ti = some (.int .i64)) (he : P.underlying te = some (.struct #[f0, f1])) (hcell : P.underlying tc = some (.struct #[g0, g1, g2]))
    (hone : oneCellFields P #[g0, g1, g2] = true) (hC3 : P.cellsOf tc = 3) (hC1 : P.cellsOf ti = 1) (o0 : f0.offset = 0) (o1 : f1.offset = 3) (t0 : f0.type = tc) (t1 : f1.type = ti) (h0 : g0.type = ti) (h1 : g1.type = ti) (h2 : g2.type = ti)
    (hl : cs.length = 4) (h : DataW.trod enc P w base sp held fuel te cs = some y) :
    ∃ a b c d : Int, cs = [.int .i64 a, .int .i64 b, .int .i64 c, .int .i64 d] ∧ Fit a ∧ Fit b ∧ Fit c ∧ Fit d := by
  obtain ⟨c0, c1, c2, c3, rfl⟩ : ∃ c0 c1 c2 c3, cs = [c0, c1, c2, c3] := by
    match cs, hl with
    | [c0, c1, c2, c3], _ => exact ⟨c0, c1, c2, c3, rfl⟩
  obtain ⟨y0, y1, n, _, _, k0, k1⟩ := trod_struct2 he h
  rw [t0, o0, hC3] at k0
  rw [t1, o1, hC1] at k1
  obtain ⟨_, _, _, _, _, _, a0, a1, a2⟩ := trod_struct3 hcell k0
  obtain ⟨p0, q0⟩ := hone_of hone 0 g0 rfl
  obtain ⟨p1, q1⟩ := hone_of hone 1 g1 rfl
  obtain ⟨p2, q2⟩ := hone_of hone 2 g2 rfl
  rw [p0, q0] at a0
  rw [p1, q1] at a1
  rw [p2, q2] at a2
  obtain ⟨a, rfl, fa⟩ := int_of (v := c0) (h0 ▸ hi) (by simpa using a0)
  obtain ⟨b, rfl, fb⟩ := int_of (v := c1) (h1 ▸ hi) (by simpa using a1)
  obtain ⟨c, rfl, fc⟩ := int_of (v := c2) (h2 ▸ hi) (by simpa using a2)
  obtain ⟨d, rfl, fd⟩ := int_of (v := c3) hi (by simpa using k1)
  exact ⟨a, b, c, d, rfl, fa, fb, fc, fd⟩

theorem open_changes {ts te tc ti : TypeId} {f0 f1 g0 g1 g2 : Field} {v : Value} {d : DataW H} {p : List MemPlace} (hi : P.underlying ti = some (.int .i64)) (hs : P.underlying ts = some (.slice te)) (he : P.underlying te = some (.struct #[f0, f1])) (hcell : P.underlying tc = some (.struct #[g0, g1, g2]))
    (hC : P.cellsOf te = 4) (hone : oneCellFields P #[g0, g1, g2] = true) (hC3 : P.cellsOf tc = 3) (hC1 : P.cellsOf ti = 1) (o0 : f0.offset = 0) (o1 : f1.offset = 3) (t0 : f0.type = tc) (t1 : f1.type = ti) (h0 : g0.type = ti) (h1 : g1.type = ti) (h2 : g2.type = ti)
    (hv : Value.okWide P w r b0 ts v) (h : DataW.Trod enc P w base sp held ts v d p) : ∃ cs, ChIn w v cs := by
  have hk : Cell.okWide P w r b0 ts v := by
    unfold Value.okWide at hv
    simpa only [hs] using hv
  obtain ⟨fuel, hf⟩ := h
  have hcells : v.cells = #[v] := by
    cases v <;> first | rfl | (unfold Cell.okWide Cell.ok at hk; simp only [hs] at hk)
  rw [hcells] at hf
  rcases DataW.trod_slice hs hf with ⟨hv0, _⟩ | ⟨a, len, cap, elems, rest, n, _, hv1, _, hb, hl, hm, hlen, hel, _, _⟩
  · simp only [List.cons.injEq, and_true] at hv0
    exact ⟨[], fun c hc => (by cases hc), .inl ⟨hv0, rfl⟩⟩
  · simp only [List.cons.injEq, and_true] at hv1
    subst hv1
    obtain ⟨hsp, _⟩ := slice_spot hs hk
    obtain ⟨g, fo, so⟩ := a
    simp only at hsp
    subst hsp
    have each : ∀ i, ∃ c : Ch, i < len → (Fit c.1 ∧ Fit c.2.1 ∧ Fit c.2.2.1 ∧ Fit c.2.2.2) ∧ w.cell? ⟨g, fo + i * 4, none⟩ = some (.int .i64 c.1) ∧ w.cell? ⟨g, fo + i * 4 + 1, none⟩ = some (.int .i64 c.2.1) ∧ w.cell? ⟨g, fo + i * 4 + 2, none⟩ = some (.int .i64 c.2.2.1) ∧ w.cell? ⟨g, fo + i * 4 + 3, none⟩ = some (.int .i64 c.2.2.2) := by
      intro i
      by_cases hil : i < len
      · have he1 := hel i hil
        rw [hC, List.getElem?_eq_getElem (by omega), Option.bind_eq_some_iff] at he1
        obtain ⟨cs', hcs, hy⟩ := he1
        obtain ⟨_, hcl, hcc⟩ := World.cells?_some hcs
        obtain ⟨x, y, z, b, rfl, fx, fy, fz, fb⟩ := change_of hi he hcell hone hC3 hC1 o0 o1 t0 t1 h0 h1 h2 hcl hy
        have m0 := hcc 0 (by omega)
        have m1 := hcc 1 (by omega)
        have m2 := hcc 2 (by omega)
        have m3 := hcc 3 (by omega)
        rw [add_plain, add_plain] at m0 m1 m2 m3
        exact ⟨(x, y, z, b), fun _ => ⟨⟨fx, fy, fz, fb⟩, m0, m1, m2, m3⟩⟩
      · exact ⟨(0, 0, 0, 0), fun h => absurd h hil⟩
    obtain ⟨f, hf⟩ := Classical.axiomOfChoice each
    have hlen2 : ((List.range len).map f).length = len := by simp
    refine ⟨(List.range len).map f, fun c hc => ?_, .inr ⟨g, fo, cap, by rw [hlen2], ?_, fun k hk => ?_⟩⟩
    · obtain ⟨i, hi, rfl⟩ := List.mem_map.1 hc
      exact (hf i (List.mem_range.1 hi)).1
    · rw [hlen2]
      unfold maxLen at hm
      omega
    · have hk2 : k < len := by rw [hlen2] at hk; exact hk
      have := (hf k hk2).2
      simpa using this
end
theorem ChIn.grown {w W : World} {v : Value} {cs : List Ch} (h : ChIn w v cs) (hW : ∃ f, W = ext w f) : ChIn W v cs := by
  obtain ⟨f, rfl⟩ := hW
  refine ⟨h.fit, ?_⟩
  rcases h.lies with h0 | ⟨g, fo, cap, h1, h2, h3⟩
  · exact .inl h0
  · refine .inr ⟨g, fo, cap, h1, h2, fun k hk => ?_⟩
    obtain ⟨m0, m1, m2, m3⟩ := h3 k hk
    have hg : g < w.heap.size := World.block_lt_of_cell? w _ m0
    have e : ∀ o, (ext w f).cell? ⟨g, o, none⟩ = w.cell? ⟨g, o, none⟩ := fun o => (ext_below w f).cell (p := ⟨g, o, none⟩) hg
    rw [e, e, e, e]
    exact ⟨m0, m1, m2, m3⟩
theorem ChIn.form {w : World} {v : Value} {cs : List Ch} (h : ChIn w v cs) : ∃ og cap, v = .slice og cs.length cap := by
  rcases h.lies with ⟨rfl, rfl⟩ | ⟨g, fo, cap, rfl, _, _⟩
  · exact ⟨none, 0, rfl⟩
  · exact ⟨_, _, rfl⟩
theorem ChIn.small {w : World} {v : Value} {cs : List Ch} (h : ChIn w v cs) : cs.length ≤ 9223372036854775807 := by
  rcases h.lies with ⟨rfl, rfl⟩ | ⟨g, fo, cap, rfl, h, _⟩
  · simp
  · exact h
theorem ChIn.at {w : World} {og : Option Addr} {n cap : Nat} {cs : List Ch} (h : ChIn w (.slice og n cap) cs) (k : Nat) (hk : k < cs.length) :
    ∃ g fo, og = some ⟨g, fo, none⟩ ∧ w.cell? ⟨g, fo + k * 4, none⟩ = some (.int .i64 cs[k].1) ∧ w.cell? ⟨g, fo + k * 4 + 1, none⟩ = some (.int .i64 cs[k].2.1) ∧ w.cell? ⟨g, fo + k * 4 + 2, none⟩ = some (.int .i64 cs[k].2.2.1) ∧ w.cell? ⟨g, fo + k * 4 + 3, none⟩ = some (.int .i64 cs[k].2.2.2) := by
  rcases h.lies with ⟨_, rfl⟩ | ⟨g, fo, cap, hv, _, h⟩
  · simp at hk
  · simp only [Value.slice.injEq] at hv
    exact ⟨g, fo, hv.1, h k hk⟩

theorem IntsIn.form {w : World} {v : Value} {bs : List Int} (h : IntsIn w v bs) : ∃ og cap, v = .slice og bs.length cap := by
  rcases h.lies with ⟨rfl, rfl⟩ | ⟨g, fo, cap, rfl, _, _⟩
  · exact ⟨none, 0, rfl⟩
  · exact ⟨_, _, rfl⟩
theorem IntsIn.small {w : World} {v : Value} {bs : List Int} (h : IntsIn w v bs) : bs.length ≤ 9223372036854775807 := by
  rcases h.lies with ⟨rfl, rfl⟩ | ⟨g, fo, cap, rfl, h, _⟩
  · simp
  · exact h
theorem IntsIn.at {w : World} {og : Option Addr} {n cap : Nat} {bs : List Int} (h : IntsIn w (.slice og n cap) bs) (k : Nat) (hk : k < bs.length) :
    ∃ g fo, og = some ⟨g, fo, none⟩ ∧ w.cell? ⟨g, fo + k, none⟩ = some (.int .i64 bs[k]) := by
  rcases h.lies with ⟨_, rfl⟩ | ⟨g, fo, cap, hv, _, h⟩
  · simp at hk
  · simp only [Value.slice.injEq] at hv
    have := h k hk
    rw [List.getD_eq_getElem?_getD, List.getElem?_eq_getElem hk] at this
    exact ⟨g, fo, hv.1, this⟩
#print axioms open_changes
end Go.Proofs.YtnogfelfgclajaaGreatDoor
end

section
namespace Go.Proofs.YtnogfelfgclajaaGreatDoor
open Go.RowKit
attribute [local go_sem] ext_ext drew_ext ext_drew ext_cell ext_frozen in_lt in_le in_ne in_en in_ne1 in_en1 in_le1 in_ltn in_len in_nen in_enn size_le ite_max ite_min
set_option linter.unusedVariables false
set_option linter.unusedSimpArgs false
set_option maxRecDepth 1000000

/-- A cell made near 0, a block made good. -/
def gdC (c : Ch) : Fl := ⟨arS c.1 41 - 20, arS c.2.1 32, arS c.2.2.1 41 - 20, gdS c.2.2.2⟩
def mkL (cs : List Ch) : List Fl := cs.map gdC
structure Nice (d : Fl) : Prop where
  x0 : -20 ≤ d.x
  x1 : d.x ≤ 20
  y0 : 0 ≤ d.y
  y1 : d.y ≤ 31
  z0 : -20 ≤ d.z
  z1 : d.z ≤ 20
  b : GoodB d.b
theorem gdC_nice (c : Ch) : Nice (gdC c) := by
  obtain ⟨a1, a2⟩ := arS_bd (n := c.1) (m := 41) (by omega)
  obtain ⟨b1, b2⟩ := arS_bd (n := c.2.1) (m := 32) (by omega)
  obtain ⟨d1, d2⟩ := arS_bd (n := c.2.2.1) (m := 41) (by omega)
  exact ⟨by unfold gdC; dsimp only; omega, by unfold gdC; dsimp only; omega, b1, by unfold gdC; dsimp only; omega, by unfold gdC; dsimp only; omega, by unfold gdC; dsimp only; omega, gd_good _⟩
theorem mkL_nice {cs : List Ch} {d : Fl} (h : d ∈ mkL cs) : Nice d := by
  obtain ⟨c, _, rfl⟩ := List.mem_map.1 h
  exact gdC_nice c
theorem mkL_len (cs : List Ch) : (mkL cs).length = cs.length := by simp [mkL]
theorem mkL_at (cs : List Ch) (k : Nat) (hk : k < cs.length) : (mkL cs)[k]? = some (gdC cs[k]) := by simp [mkL, hk]
theorem flat_take (s : Int) (l : List Fl) (x y z : Int) : ∀ (k n : Nat), k ≤ n → flatS s (l.take n) x y z k = flatS s l x y z k
  | 0, n, _ => rfl
  | k + 1, n, h => by
    unfold flatS
    rw [List.getElem?_take_of_lt (by omega), flat_take s l x y z k n (by omega)]
theorem blkC_good (s x y z : Int) : GoodB (blkC s x y z) := by
  unfold blkC
  split
  · exact ⟨by omega, by omega, by omega, by omega⟩
  · exact ofS_good _ _
theorem flatS_good (s : Int) (l : List Fl) (hl : ∀ d ∈ l, GoodB d.b) (x y z : Int) : ∀ k, GoodB (flatS s l x y z k)
  | 0 => blkC_good s x y z
  | k + 1 => by
    unfold flatS
    cases h : l[k]? with
    | none => exact flatS_good s l hl x y z k
    | some d =>
      show GoodB (if d.x = x ∧ d.y = y ∧ d.z = z then d.b else flatS s l x y z k)
      split
      · exact hl d (List.mem_of_getElem? h)
      · exact flatS_good s l hl x y z k
/-- Cells that were set, as a row. -/
def flV (l : List Fl) : List Value := l.flatMap fun d => [.int .i64 d.x, .int .i64 d.y, .int .i64 d.z, .int .i64 d.b]
theorem flV_snoc (l : List Fl) (d : Fl) : flV (l ++ [d]) = flV l ++ [.int .i64 d.x, .int .i64 d.y, .int .i64 d.z, .int .i64 d.b] := by simp [flV]
theorem flV_at (l : List Fl) (k : Nat) (hk : k < l.length) : (flV l)[k * 4]? = some (.int .i64 l[k].x) ∧ (flV l)[k * 4 + 1]? = some (.int .i64 l[k].y) ∧ (flV l)[k * 4 + 2]? = some (.int .i64 l[k].z) ∧ (flV l)[k * 4 + 3]? = some (.int .i64 l[k].b) := by
  induction l generalizing k with
  | nil => simp at hk
  | cons c l ih =>
    cases k with
    | zero => exact ⟨rfl, rfl, rfl, rfl⟩
    | succ k =>
      have := ih k (by simpa using hk)
      simp only [List.getElem_cons_succ]
      have e : flV (c :: l) = .int .i64 c.x :: .int .i64 c.y :: .int .i64 c.z :: .int .i64 c.b :: flV l := rfl
      rw [e, show (k + 1) * 4 = k * 4 + 1 + 1 + 1 + 1 by omega]
      simpa [Nat.add_assoc] using this
/-- The slice of the cells that were set. -/
abbrev FlRow (B : Nat) (w : World) (v : Value) (l : List Fl) : Prop := w.ownsRow B 33 4 v l.length (flV l)
theorem FlRow.at {B : Nat} {w : World} {v : Value} {l : List Fl} (h : FlRow B w v l) : FlAt w v l := by
  by_cases h0 : l.length = 0
  · rcases h.2 with ⟨rfl, _⟩ | ⟨g, cap, cur, rfl, _⟩
    · exact ⟨none, 0, by rw [h0], fun k hk => by omega⟩
    · exact ⟨_, _, rfl, fun k hk => by omega⟩
  · obtain ⟨g, cap, rfl, _, _, _, hc⟩ := owns_some h (by omega)
    refine ⟨_, _, rfl, fun k hk => ⟨g, rfl, ?_⟩⟩
    obtain ⟨t0, t1, t2, t3⟩ := flV_at l k hk
    exact ⟨hc _ _ t0, hc _ _ t1, hc _ _ t2, hc _ _ t3⟩
theorem FlRow.lf {B : Nat} {w W : World} {v : Value} {l : List Fl} {F : Nat → Prop} (h : FlRow B w v l) (hT : Turn F w W) (hF : ∀ g c fz, w.heap[g]? = some (.cells c 33 fz) → ¬ F g) : FlRow B W v l :=
  hT.owns h (fun g hg => by
    rcases h.2 with ⟨rfl, _⟩ | ⟨g', cap, cur, rfl, _, hgg, _⟩
    · cases hg
    · simp [Value.ownBlock] at hg
      subst hg
      exact hF _ _ _ hgg)
theorem FlRow.grown {B : Nat} {w W : World} {v : Value} {l : List Fl} (h : FlRow B w v l) (hW : Below w.heap.size w W) : FlRow B W v l := h.lf (turn_below (F := fun _ => False) hW) (fun _ _ _ _ => id)
theorem dec16_any (n : Int) (h : Num n) (w : World) : Calls Tryz.prog 8 #[.int .i64 n] w fun e w' => e = .returned (sV (decI 16 n)) ∧ ∃ f, w' = ext w f := by
  have h1 := h.lo
  have h2 := h.hi
  have hp : (10 : Int) ^ (16 + 1) = 100000000000000000 := by decide
  exact dec_any 16 n w (by omega) (by rw [hp]; omega) (by rw [hp]; omega) ⟨by omega, by omega⟩
/-- A row of two numbers. -/
theorem row2_any (a b : Int) (g cap : Nat) (w : World) (ha : Num a) (hb : Num b) (h : w.heap[g]? = some (.cells #[.int .i64 a, .int .i64 b] 3 (0, 0))) :
    Calls Tryz.prog 11 #[.slice (some ⟨g, 0, none⟩) 2 cap] w fun e w' => e = .returned (.string (bs (joinW (decs [a, b])))) ∧ ∃ f, w' = ext w f :=
  row_any [a, b] g cap w (by simp) (by simp) (by simp; exact ⟨small_num ha, small_num hb⟩) (fun k hk => by
    rcases k with _ | _ | k
    · exact cell_of_block (i := 0) h rfl
    · exact cell_of_block (i := 1) h rfl
    · simp at hk; omega)
/-- A system, whatever chunks are here. -/
def SysAny (B : Nat) (w : World) (sh t : Nat) (s lim : Int) (e c : Nat) (G : Ps → List Int) : Prop := ∃ T, SysOf B w sh t s lim e c G T
theorem SysAny.turn {F : Nat → Prop} {B : Nat} {w W : World} {sh t e c : Nat} {s lim : Int} {G : Ps → List Int} (h : SysAny B w sh t s lim e c G) (hT : Turn F w W) (hF : Aside w F) : SysAny B W sh t s lim e c G := by
  obtain ⟨T, h⟩ := h; exact ⟨T, h.turn hT hF⟩
theorem SysAny.grown {B : Nat} {w W : World} {sh t e c : Nat} {s lim : Int} {G : Ps → List Int} (h : SysAny B w sh t s lim e c G) (hW : Below w.heap.size w W) : SysAny B W sh t s lim e c G := by
  obtain ⟨T, h⟩ := h; exact ⟨T, h.grown hW⟩
/-- A system, in which the chunk p is here. -/
def SysAt (B : Nat) (w : World) (sh t : Nat) (s lim : Int) (e c : Nat) (G : Ps → List Int) (p : Ps) : Prop := ∃ T, SysOf B w sh t s lim e c G T ∧ ∃ c ∈ T, c.1 = p
theorem SysAt.turn {F : Nat → Prop} {B : Nat} {w W : World} {sh t e c : Nat} {s lim : Int} {G : Ps → List Int} {p : Ps} (h : SysAt B w sh t s lim e c G p) (hT : Turn F w W) (hF : Aside w F) : SysAt B W sh t s lim e c G p := by
  obtain ⟨T, h, hp⟩ := h; exact ⟨T, h.turn hT hF, hp⟩
theorem SysAt.grown {B : Nat} {w W : World} {sh t e c : Nat} {s lim : Int} {G : Ps → List Int} {p : Ps} (h : SysAt B w sh t s lim e c G p) (hW : Below w.heap.size w W) : SysAt B W sh t s lim e c G p := by
  obtain ⟨T, h, hp⟩ := h; exact ⟨T, h.grown hW, hp⟩
theorem SysAt.any {B : Nat} {w : World} {sh t e c : Nat} {s lim : Int} {G : Ps → List Int} {p : Ps} (h : SysAt B w sh t s lim e c G p) : SysAny B w sh t s lim e c G := by
  obtain ⟨T, h, _⟩ := h; exact ⟨T, h⟩
section
variable {B : Nat} {w : World} {sh t e c : Nat} {s lim : Int} {G : Ps → List Int}
/-- The texts of a line that is told ahead of an edit. -/
def wayS (x z : Int) : Nat → ByteArray
  | 0 => (⟨#[117, 110, 108, 111, 97, 100, 32]⟩ : ByteArray) ++ bs (joinW (decs [x, z]))
  | 1 => (⟨#[102, 108, 117, 115, 104, 32]⟩ : ByteArray) ++ bs (joinW (decs [x, z]))
  | 2 => ⟨#[102, 108, 117, 115, 104, 97, 108, 108]⟩
  | _ => ⟨#[108, 111, 97, 100, 32, 48, 32, 48]⟩
theorem Said.any {B : Nat} {P : List (Ps × Bool) → Prop} {R : ByteArray → Prop} {w : World} {en : Ending} {w' : World} (h : Said B (After B sh t s lim e c G P) R w en w') : Said B (fun W => SysAny B W sh t s lim e c G) (fun _ => True) w en w' := by
  obtain ⟨⟨x, h1, _⟩, ⟨T, h2, _⟩, h3⟩ := h
  exact ⟨⟨x, h1, trivial⟩, ⟨T, h2⟩, h3⟩
theorem Said.at {B : Nat} {p : Ps} {R : ByteArray → Prop} {w : World} {en : Ending} {w' : World} (h : Said B (After B sh t s lim e c G (fun T' => ∃ c ∈ T', c.1 = p)) R w en w') : Said B (fun W => SysAt B W sh t s lim e c G p) R w en w' := by
  obtain ⟨⟨x, h1, h4⟩, ⟨T, h2, h5⟩, h3⟩ := h
  exact ⟨⟨x, h1, h4⟩, ⟨T, h2, h5⟩, h3⟩
theorem calls_any {fn : Nat} {args : Array Value} {P : List (Ps × Bool) → Prop} {R : ByteArray → Prop} (h : Calls Tryz.prog fn args w (Said B (After B sh t s lim e c G P) R w)) : Calls Tryz.prog fn args w (Said B (fun W => SysAny B W sh t s lim e c G) (fun _ => True) w) :=
  h.mono (fun _ _ h => h.any)
theorem calls_at {fn : Nat} {args : Array Value} {p : Ps} {R : ByteArray → Prop} (h : Calls Tryz.prog fn args w (Said B (After B sh t s lim e c G (fun T' => ∃ c ∈ T', c.1 = p)) R w)) : Calls Tryz.prog fn args w (Said B (fun W => SysAt B W sh t s lim e c G p) R w) :=
  h.mono (fun _ _ h => h.at)
theorem tway_any (h : SysAny B w sh t s lim e c G) (x z : Int) (hx : Num x) (hz : Num z) (j : Nat) :
    Calls Tryz.prog 7 #[.pointer (some ⟨sh, 0, none⟩), .string (wayS x z j)] w (Said B (fun W => SysAny B W sh t s lim e c G) (fun _ => True) w) := by
  obtain ⟨T, h⟩ := h
  rcases j with _ | _ | _ | j
  · show Calls Tryz.prog 7 #[.pointer (some ⟨sh, 0, none⟩), .string ((⟨#[117, 110, 108, 111, 97, 100, 32]⟩ : ByteArray) ++ bs (joinW (decs [x, z])))] w _
    rw [txt_unload]
    exact calls_any (sayunload_any h x z hx hz)
  · show Calls Tryz.prog 7 #[.pointer (some ⟨sh, 0, none⟩), .string ((⟨#[102, 108, 117, 115, 104, 32]⟩ : ByteArray) ++ bs (joinW (decs [x, z])))] w _
    rw [txt_flush]
    exact calls_any (sayflush_any h x z hx hz)
  · show Calls Tryz.prog 7 #[.pointer (some ⟨sh, 0, none⟩), .string ⟨#[102, 108, 117, 115, 104, 97, 108, 108]⟩] w _
    rw [txt_flushall]
    exact calls_any (sayflushall_any h)
  · show Calls Tryz.prog 7 #[.pointer (some ⟨sh, 0, none⟩), .string exA] w _
    rw [exA_is]
    exact calls_any (sayload_any h 0 0 num0 num0 close0)
theorem tload_any (h : SysAny B w sh t s lim e c G) (x z : Int) (hx : Num x) (hz : Num z) (hc : Close (x, z)) :
    Calls Tryz.prog 7 #[.pointer (some ⟨sh, 0, none⟩), .string ((⟨#[108, 111, 97, 100, 32]⟩ : ByteArray) ++ bs (joinW (decs [x, z])))] w (Said B (fun W => SysAt B W sh t s lim e c G (x, z)) (fun y => y = okS) w) := by
  obtain ⟨T, h⟩ := h
  rw [txt_load]
  exact calls_at (sayload_any h x z hx hz hc)
theorem tedit_any (d : Fl) (hd : Nice d) (h : SysAt B w sh t s lim e c G (divS d.x 16, divS d.z 16)) (hc : c ≤ 800) (he : e ≤ 14) :
    Calls Tryz.prog 7 #[.pointer (some ⟨sh, 0, none⟩), .string (((⟨#[101, 100, 105, 116, 32]⟩ : ByteArray) ++ bs (joinW (decs [d.x, d.y, d.z]))) ++ (⟨#[32]⟩ : ByteArray) ++ nmB d.b)] w
      (Said B (fun W => SysAny B W sh t s lim (e + 1) (c + 8) (setC G d)) (fun y => y = okS) w) := by
  obtain ⟨T, h, hp⟩ := h
  rw [txt_edit]
  have h0 := hd.x0; have h1 := hd.x1; have h2 := hd.z0; have h3 := hd.z1
  refine (sayedit_any h hc d.x d.y d.z d.b ⟨by omega, by omega⟩ ⟨by omega, by omega⟩ hd.y0 hd.y1 hd.b he hp (idxS d.x d.y d.z).toNat (by obtain ⟨i0, i1⟩ := idxS_bd (x := d.x) (z := d.z) hd.y0 hd.y1; omega)).mono ?_
  rintro en w' ⟨⟨x, h1, h4⟩, ⟨T, h2, _⟩, h3⟩
  exact ⟨⟨x, h1, h4⟩, ⟨T, h2⟩, h3⟩
theorem tat_any (x y z v : Int) (hx : Mid x) (hz : Mid z) (hy : Num y) (h : SysAt B w sh t s lim e c G (divS x 16, divS z 16)) (hv : cellG G x y z = v) (hg : GoodB v) :
    Calls Tryz.prog 7 #[.pointer (some ⟨sh, 0, none⟩), .string ((⟨#[97, 116, 32]⟩ : ByteArray) ++ bs (joinW (decs [x, y, z])))] w (Said B (fun W => SysAt B W sh t s lim e c G (divS x 16, divS z 16)) (fun r => r = nmB v) w) := by
  obtain ⟨T, h, hp⟩ := h
  rw [txt_at]
  refine (sayat_any h x y z hx hz hy v ((view_yes hp).trans hv) hg.lo hg.hi).mono ?_
  rintro en w' ⟨⟨x, h1, h4⟩, ⟨T', h2, rfl⟩, h3⟩
  exact ⟨⟨x, h1, h4⟩, ⟨T', h2, hp⟩, h3⟩
end
#print axioms tat_any
end Go.Proofs.YtnogfelfgclajaaGreatDoor
end
