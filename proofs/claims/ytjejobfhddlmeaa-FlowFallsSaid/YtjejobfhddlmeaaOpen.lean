/-
  Slices of ints, and small worlds, as they come in.
-/
import Derived.Test.YtjejobfhddlmeaaWorld
import Derived.Test.YtjejobfhddlmeaaLaw
import Derived.ChangeSlices
namespace Go.Proofs.Ytjejobfhddlmeaa
open Go.RowKit Go.ChangeShapes Go.WideShapes Go.Deep
set_option linter.unusedVariables false

/-- A slice of ints as it comes in: what it holds. -/
structure IntsIn (w : World) (sv : Value) (bs : List Int) : Prop where
  fit : ∀ b ∈ bs, Fit b
  lies : (sv = .slice none 0 0 ∧ bs = []) ∨ ∃ g fo cap, sv = .slice (some ⟨g, fo, none⟩) bs.length cap ∧ bs.length ≤ 9223372036854775807 ∧ ∀ k, k < bs.length → w.cell? ⟨g, fo + k, none⟩ = some (.int .i64 (bs.getD k 0))

theorem slice_spot {P : Program} {w : World} {r : Reach} {b0 : Nat} {t e : TypeId} {a : Addr} {len cap : Nat} (ht : P.underlying t = some (.slice e)) (h : Cell.okWide P w r b0 t (.slice (some a) len cap)) : a.spot = none ∧ a.block < w.heap.size := by
  unfold Cell.okWide Cell.ok at h
  simp only [ht] at h
  obtain ⟨_, _, _, h1, row, cells, h2, _⟩ := h
  refine ⟨h1, ?_⟩
  unfold World.shape? at h2
  split at h2
  · rename_i hh
    exact (Array.getElem?_eq_some_iff.1 hh).1
  · cases h2

theorem row_first {P : Program} {w : World} {r : Reach} {b0 : Nat} {t t0 t1 : TypeId} {fs : Array Field} {v0 v1 : Value} (ht : P.underlying t = some (.struct fs)) (hc : P.cellTypes P.depth t = some [t0, t1]) (h : Value.okWide P w r b0 t (.agg #[v0, v1])) :
    Cell.okWide P w r b0 t0 v0 := by
  unfold Value.okWide at h
  simp only [ht] at h
  obtain ⟨cs, hcs, _, ts, hts, _, hall⟩ := h
  rw [hc] at hts
  obtain rfl := Option.some.inj hts
  simp only [Value.agg.injEq] at hcs
  subst hcs
  obtain ⟨u, hu, hk⟩ := hall 0 v0 rfl
  simp at hu
  subst hu
  exact hk

theorem fit_of_wf {n : Int} (hw : (Lit.int .i64 n).wf = true) : Fit n := by
  have hmin : IntKind.i64.min = -9223372036854775808 := rfl
  have hmax : IntKind.i64.max = 9223372036854775807 := rfl
  simp only [Lit.wf, Bool.and_eq_true, decide_eq_true_eq, hmin, hmax] at hw
  exact hw

section
variable {H : Type} {enc : TypeId × Value → H} {P : Program} {w : World} {base b0 : Nat} {sp : Nat → Bool} {held : Bool} {r : Reach}

theorem ints_in {t e : TypeId} {fuel : Nat} {v : Value} {y : DataW H × List MemPlace} (ht : P.underlying t = some (.slice e)) (he : P.underlying e = some (.int .i64)) (hc : P.cellsOf e = 1) (hk : Cell.okWide P w r b0 t v)
    (h : DataW.trod enc P w base sp held fuel t [v] = some y) : ∃ bs, IntsIn w v bs := by
  rcases open_ints ht he hc h with ⟨hv, _⟩ | ⟨a, len, cap, zs, hv, _, hl, hm, hz, _, hcell, hwf⟩
  · simp only [List.cons.injEq, and_true] at hv
    exact ⟨[], fun b hb => (by cases hb), .inl ⟨hv, rfl⟩⟩
  · simp only [List.cons.injEq, and_true] at hv
    subst hv
    obtain ⟨hs, _⟩ := slice_spot ht hk
    obtain ⟨g, fo, so⟩ := a
    simp only at hs
    subst hs
    have hlz : len ≤ zs.length := by rw [hz]; split <;> omega
    have hlen : (zs.take len).length = len := by simp; omega
    refine ⟨zs.take len, fun b hb => fit_of_wf (hwf b (List.mem_of_mem_take hb)), .inr ⟨g, fo, cap, by rw [hlen], ?_, fun k hk => ?_⟩⟩
    · rw [hlen]
      unfold maxLen at hm
      omega
    · rw [hlen] at hk
      have h1 := hcell k (by omega)
      rw [add_plain] at h1
      rw [h1]
      simp [List.getD, hk]

theorem open_ints1 {t e : TypeId} {v : Value} {d : DataW H} {p : List MemPlace} (ht : P.underlying t = some (.slice e)) (he : P.underlying e = some (.int .i64)) (hc : P.cellsOf e = 1) (hv : Value.okWide P w r b0 t v)
    (h : DataW.Trod enc P w base sp held t v d p) : ∃ bs, IntsIn w v bs := by
  have hk : Cell.okWide P w r b0 t v := by
    unfold Value.okWide at hv
    simpa only [ht] using hv
  obtain ⟨fuel, hf⟩ := h
  have hcells : v.cells = #[v] := by
    cases v <;> first | rfl | (unfold Cell.okWide Cell.ok at hk; simp only [ht] at hk)
  rw [hcells] at hf
  exact ints_in ht he hc hk hf

theorem open_world {t ts ti : TypeId} {f0 f1 : Field} {v : Value} {d : DataW H} {p : List MemPlace} (hi : P.underlying ti = some (.int .i64)) (hsl : P.underlying ts = some (.slice ti)) (hs : P.underlying t = some (.struct #[f0, f1]))
    (hone : oneCellFields P #[f0, f1] = true) (hC : P.cellsOf t = 2) (hC1 : P.cellsOf ti = 1) (hct : P.cellTypes P.depth t = some [ts, ti]) (h0 : f0.type = ts) (h1 : f1.type = ti)
    (hv : Value.okWide P w r b0 t v) (h : DataW.Trod enc P w base sp held t v d p) : ∃ sv bs el, v = .agg #[sv, .int .i64 el] ∧ IntsIn w sv bs ∧ Fit el := by
  obtain ⟨v0, v1, y0, y1, n, rfl, _, _, g0, g1⟩ := Joins.open_agg2 hs hone hC hv h
  rw [h0] at g0
  rw [h1] at g1
  obtain ⟨el, rfl, fe⟩ := int_of hi g1
  obtain ⟨bs, hbs⟩ := ints_in hsl hi hC1 (row_first hs hct hv) g0
  exact ⟨v0, bs, el, rfl, hbs, fe⟩
end

theorem goodw_any (sv : Value) (bs : List Int) (el : Int) (w : World) (h : IntsIn w sv bs) (fe : Fit el) :
    Calls Try.prog 9 #[.agg #[sv, .int .i64 el]] w (MadeWorld ((bs.take 216).map gdS) (arS el 3 - 1) w) := by
  rcases h.lies with ⟨rfl, rfl⟩ | ⟨g, fo, cap, rfl, hl, hc⟩
  · exact goodw_nil el w fe
  · exact goodw_some g fo cap el bs w hl h.fit fe hc
end Go.Proofs.Ytjejobfhddlmeaa
