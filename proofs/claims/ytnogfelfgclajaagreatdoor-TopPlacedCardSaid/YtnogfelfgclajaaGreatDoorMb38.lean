/-
  From a law's walk to the law's row: what a call leaves behind where it makes memory of its own alone and hands back true; structs of ints as they come in.
-/
import Derived.Test.YtnogfelfgclajaaGreatDoorRows
import Derived.Test.YtnogfelfgclajaaGreatDoorMb01
import Derived.Test.YtnogfelfgclajaaGreatDoorMb02
import Derived.ProofKit
import Derived.Carry
import Derived.Lib.SmallJoins
section
namespace Go.Proofs.YtnogfelfgclajaaGreatDoor
open Go.RowKit Go.ChangeShapes Go.WideShapes Go.Deep
set_option linter.unusedVariables false

theorem own : ownKnob Tryz.prog.godebug = none := by kernel_rfl
theorem laidOut : laidOutB Tryz.prog = true := by kernel_rfl

section
variable {H : Type} {enc : TypeId × Value → H} {P : Program}

/-- What was read ahead of the call reads so behind it. -/
theorem all_stay (hl : laidOutB P = true) {W W' : World} (hb : Below W.heap.size W W') {sp : Nat → Bool} :
    ∀ {ts : List TypeId} {vs : List Value} {ds : List (DataW H)} {ps : List MemPlace}, (∀ t ∈ ts, P.readableRec t = true ∧ t < P.types.size) →
      DataW.TrodAll enc P W 0 (fun _ => true) true ts vs ds ps → (∀ x ∈ ps, x.block < W.heap.size) → (∀ x ∈ ps, sp x.block = true) → DataW.TrodAll enc P W' 0 sp true ts vs ds ps := by
  intro ts
  induction ts with
  | nil =>
    intro vs ds ps _ h _ _
    obtain ⟨rfl, rfl, rfl⟩ := trodAll_nil h
    exact trodAll_mk0
  | cons t ts ih =>
    intro vs ds ps ht h hlt hsp
    obtain ⟨v, vs', d, ds', p, q, rfl, rfl, rfl, h1, h2⟩ := trodAll_cons h
    have hlp : ∀ x ∈ p, x.block < W.heap.size := fun x hx => hlt x (List.mem_append_left _ hx)
    exact trodAll_cons_mk (WideElems.Trod_stays hl (ht t (by simp)).1 (ht t (by simp)).2 h1 (fun x hx => hb.same (hlp x hx)) (fun x hx => hsp x (List.mem_append_left _ hx)))
      (ih (fun u hu => ht u (by simp [hu])) h2 (fun x hx => hlt x (List.mem_append_right _ hx)) (fun x hx => hsp x (List.mem_append_right _ hx)))

/-- A law's end: true, and the arguments as they were. -/
theorem law_post {f : Func} {s : ChangeSpec} {W W' : World} {args : Array Value} {ds : List (DataW H)} {before : List MemPlace} {tb : TypeId} (hl : laidOutB P = true) (hv : s.vars = [])
    (hs : s.fn H (ds ++ []) = { results := [.lit (.bool true)], args := ds }) (hr : f.resultTypes = #[tb]) (hb : P.underlying tb = some .bool) (hp : ∀ t ∈ f.params.toList, P.readableRec t = true ∧ t < P.types.size)
    (hW : DataW.Whole enc P f.params.toList s.vars false W args.toList ds [] before) (hB : Below W.heap.size W W') : s.post enc P f false true false false W args (.bool true) W' := by
  have hlt : ∀ p ∈ before, p.block < W.heap.size := fun p hp => hW.lt p hp
  have hW0 := hW
  obtain ⟨p, q, hA, hV, he, hz, hn⟩ := hW
  rw [hv] at hV
  obtain ⟨_, rfl⟩ := trodVars_none hV
  rw [List.append_nil] at he
  subst he
  have hres : ∀ b sp hd, DataW.TrodAll enc P W' b sp hd f.resultTypes.toList ((Value.bool true).resultList f.resultTypes.size) (s.fn H (ds ++ [])).results [] := by
    intro b sp hd
    rw [hs, hr]
    exact trodAll_cons_mk (shut_bool hb _) trodAll_mk0
  have hargs : ∀ sp : Nat → Bool, (∀ x ∈ before, sp x.block = true) → DataW.TrodAll enc P W' 0 sp true f.params.toList args.toList (s.fn H (ds ++ [])).args before := by
    intro sp hsp
    rw [hs]
    exact all_stay hl hB hp hA hlt hsp
  have hvars : ∀ sp : Nat → Bool, DataW.TrodVars enc P W' sp s.vars (s.fn H (ds ++ [])).vars [] := by
    intro sp
    rw [hs, hv]
    rfl
  have hold : ∀ x ∈ before, (fun b => decide (b < W.heap.size)) x.block = true := fun x hx => by simpa using hlt x hx
  refine ⟨ds, [], before, [], before, [], hW0, hres _ _ _, hargs _ hold, hvars _, World.keptBut_mono (fun x hx => ⟨hx, .inr (.inl hx)⟩) (hB.frame (· ∈ before)), fun h => by cases h⟩

theorem int_of {t : TypeId} {w : World} {base : Nat} {sp : Nat → Bool} {held : Bool} {fuel : Nat} {v : Value} {y : DataW H × List MemPlace} (ht : P.underlying t = some (.int .i64))
    (h : DataW.trod enc P w base sp held fuel t [v] = some y) : ∃ n, v = .int .i64 n ∧ Fit n := by
  obtain ⟨n, h1, _, hw⟩ := DataW.trod_int ht h
  have hmin : IntKind.i64.min = -9223372036854775808 := rfl
  have hmax : IntKind.i64.max = 9223372036854775807 := rfl
  simp only [Lit.wf, Bool.and_eq_true, decide_eq_true_eq, hmin, hmax] at hw
  exact ⟨n, by simpa using h1, hw⟩

theorem open_one {r : Reach} {b0 : Nat} {t : TypeId} {v : Value} {d : DataW H} {p : List MemPlace} {w : World} {base : Nat} {sp : Nat → Bool} {held : Bool} (hi : P.underlying t = some (.int .i64))
    (hv : Value.okWide P w r b0 t v) (h : DataW.Trod enc P w base sp held t v d p) : ∃ a, v = .int .i64 a ∧ Fit a := by
  obtain ⟨n, rfl, rfl, rfl, hw⟩ := open_int hi hv h
  have hmin : IntKind.i64.min = -9223372036854775808 := rfl
  have hmax : IntKind.i64.max = 9223372036854775807 := rfl
  simp only [Lit.wf, Bool.and_eq_true, decide_eq_true_eq, hmin, hmax] at hw
  exact ⟨n, rfl, hw⟩

theorem open_two {r : Reach} {b0 : Nat} {t ti : TypeId} {f0 f1 : Field} {v : Value} {d : DataW H} {p : List MemPlace} {w : World} {base : Nat} {sp : Nat → Bool} {held : Bool} (hi : P.underlying ti = some (.int .i64))
    (hs : P.underlying t = some (.struct #[f0, f1])) (hone : oneCellFields P #[f0, f1] = true) (hC : P.cellsOf t = 2) (h0 : f0.type = ti) (h1 : f1.type = ti)
    (hv : Value.okWide P w r b0 t v) (h : DataW.Trod enc P w base sp held t v d p) : ∃ a b, v = .agg #[.int .i64 a, .int .i64 b] ∧ Fit a ∧ Fit b := by
  obtain ⟨v0, v1, y0, y1, n, rfl, _, _, g0, g1⟩ := Joins.open_agg2 hs hone hC hv h
  obtain ⟨a, rfl, fa⟩ := int_of (h0 ▸ hi) g0
  obtain ⟨b, rfl, fb⟩ := int_of (h1 ▸ hi) g1
  exact ⟨a, b, rfl, fa, fb⟩

theorem open_three {r : Reach} {b0 : Nat} {t ti : TypeId} {f0 f1 f2 : Field} {v : Value} {d : DataW H} {p : List MemPlace} {w : World} {base : Nat} {sp : Nat → Bool} {held : Bool} (hi : P.underlying ti = some (.int .i64))
    (hs : P.underlying t = some (.struct #[f0, f1, f2])) (hone : oneCellFields P #[f0, f1, f2] = true) (hC : P.cellsOf t = 3) (h0 : f0.type = ti) (h1 : f1.type = ti) (h2 : f2.type = ti)
    (hv : Value.okWide P w r b0 t v) (h : DataW.Trod enc P w base sp held t v d p) : ∃ a b c, v = .agg #[.int .i64 a, .int .i64 b, .int .i64 c] ∧ Fit a ∧ Fit b ∧ Fit c := by
  obtain ⟨v0, v1, v2, y0, y1, y2, n, rfl, _, _, g0, g1, g2⟩ := Joins.open_agg3 hs hone hC hv h
  obtain ⟨a, rfl, fa⟩ := int_of (h0 ▸ hi) g0
  obtain ⟨b, rfl, fb⟩ := int_of (h1 ▸ hi) g1
  obtain ⟨c, rfl, fc⟩ := int_of (h2 ▸ hi) g2
  exact ⟨a, b, c, rfl, fa, fb, fc⟩
end
end Go.Proofs.YtnogfelfgclajaaGreatDoor
end
