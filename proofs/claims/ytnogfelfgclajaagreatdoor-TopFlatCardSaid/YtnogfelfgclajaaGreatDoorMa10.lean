/-
  No Go in sight. A region that draws its order: operations that yield one value in whatever world (addresses), which may come up at any time; then operations that yield the same in every grown world, in any order; then a tail in its order. The three are named by lists of numbers.
-/
import Derived.Test.YtnogfelfgclajaaGreatDoorMa01
section
namespace Go.Proofs.YtnogfelfgclajaaGreatDoor
set_option linter.unusedVariables false
open Go.RowKit

section
variable {P : Program} {ops : Array Oper} {md : Region.Mode} {C : World → Prop}

/-- The operations that a list names. -/
def pick (l : List Oper) : List Nat → List Oper
  | [] => []
  | i :: is => match l[i]? with
    | some o => o :: pick l is
    | none => pick l is

def closeStep (md : Region.Mode) (ops : Array Oper) (L : List Nat) : List Nat := (List.range ops.size).filter fun i => L.contains i || L.any fun j => Region.waitsFor md ops j i
def closeN (md : Region.Mode) (ops : Array Oper) : Nat → List Nat → List Nat
  | 0, L => L
  | k + 1, L => closeN md ops k (closeStep md ops L)

structure Inv (md : Region.Mode) (ops : Array Oper) (ps : List Nat) (listed : Array Bool) : Prop where
  size : listed.size = ops.size
  closed : ∀ j oj, ops[j]? = some oj → listed.getD j false = true → ∀ e ∈ oj.after, Region.binds md e = true → listed.getD e.on false = true
  pures : ∀ p ∈ ps, listed.getD p false = true

theorem closeN_listed {listed : Array Bool} (hcl : ∀ j oj, ops[j]? = some oj → listed.getD j false = true → ∀ e ∈ oj.after, Region.binds md e = true → listed.getD e.on false = true) :
    ∀ (k : Nat) (L : List Nat), (∀ j ∈ L, listed.getD j false = true) → ∀ i ∈ closeN md ops k L, listed.getD i false = true := by
  intro k
  induction k with
  | zero => intro L h i hi; exact h i hi
  | succ k ih =>
    intro L h i hi
    refine ih (closeStep md ops L) (fun j hj => ?_) i hi
    simp only [closeStep, List.mem_filter, Bool.or_eq_true] at hj
    rcases hj.2 with h1 | h1
    · exact h j (by simpa using h1)
    · obtain ⟨m, hm, hw⟩ := List.any_eq_true.1 h1
      obtain ⟨om, hom, e, he, hb, hon⟩ := Region.waitsFor_spec hw
      rw [← hon]
      exact hcl m om hom (h m hm) e he hb

/-- What is neither pure nor of the head waits, through others or not, for all of the head. -/
def tailB (md : Region.Mode) (ops : Array Oper) (fuel : Nat) (ps hs : List Nat) : Bool :=
  (List.range ops.size).all fun j => ps.contains j || hs.contains j || hs.all fun i => (closeN md ops fuel ((List.range ops.size).filter fun m => Region.waitsFor md ops j m)).contains i

theorem in_head {fuel i j : Nat} {ps hs : List Nat} {listed : Array Bool} (hB : tailB md ops fuel ps hs = true) (inv : Inv md ops ps listed) (hi : i ∈ hs) (hun : listed.getD i true = false)
    (hj : j ∈ Region.ready md ops listed) : j ∈ hs := by
  obtain ⟨hjun, oj, hoj, hall⟩ := mem_ready.1 hj
  have hjs : j < ops.size := (Array.getElem?_eq_some_iff.1 hoj).1
  have h1 := List.all_eq_true.1 hB j (List.mem_range.2 hjs)
  simp only [Bool.or_eq_true] at h1
  rcases h1 with (h1 | h1) | h1
  · have h2 := inv.pures j (by simpa using h1)
    rw [getD_both hjun] at h2
    cases h2
  · simpa using h1
  · have h2 := List.all_eq_true.1 h1 i hi
    have h3 := closeN_listed inv.closed fuel ((List.range ops.size).filter fun m => Region.waitsFor md ops j m) (fun m hm => by
      obtain ⟨o', ho', e, he, hb, hon⟩ := Region.waitsFor_spec (List.mem_filter.1 hm).2
      obtain rfl : o' = oj := Option.some.inj (ho'.symm.trans hoj)
      rw [← hon]
      exact hall e he hb) i (by simpa using h2)
    rw [getD_both hun] at h3
    cases h3

theorem Inv.set {ps : List Nat} {i : Nat} {listed : Array Bool} (inv : Inv md ops ps listed) (hi : i ∈ Region.ready md ops listed) : Inv md ops ps (listed.setIfInBounds i true) := by
  obtain ⟨_, oi, hoi, hall⟩ := mem_ready.1 hi
  refine ⟨by simp [inv.size], fun j oj hj hl e he hb => ?_, fun p hp => getD_set_true (inv.pures p hp)⟩
  by_cases hij : i = j
  · subst hij
    obtain rfl : oj = oi := Option.some.inj (hj.symm.trans hoi)
    exact getD_set_true (hall e he hb)
  · rw [getD_set_ne false hij] at hl
    exact getD_set_true (inv.closed j oj hj hl e he hb)

theorem Inv.add {ps : List Nat} {i : Nat} {listed : Array Bool} (inv : Inv md ops ps listed) (hi : i ∈ Region.ready md ops listed) : Inv md ops (ps ++ [i]) (listed.setIfInBounds i true) := by
  refine ⟨(inv.set hi).size, (inv.set hi).closed, fun p hp => ?_⟩
  rcases List.mem_append.1 hp with h | h
  · exact (inv.set hi).pures p h
  · obtain rfl : p = i := by simpa using h
    obtain ⟨_, oi, hoi, _⟩ := mem_ready.1 hi
    have hlt : p < listed.size := by rw [inv.size]; exact (Array.getElem?_eq_some_iff.1 hoi).1
    simp [hlt]

/-- k operations more come up, all of the head; then L. -/
def upToL (P : Program) (md : Region.Mode) (ops : Array Oper) (C : World → Prop) (hs : List Nat) (L : Array Bool → Act → Prop) : Nat → Array Bool → Act → Prop
  | 0, listed, a => L listed a
  | k + 1, listed, a => Region.ready md ops listed ≠ [] ∧ ∀ i ∈ Region.ready md ops listed, i ∈ hs ∧ qOp P ops C i (upToL P md ops C hs L k (listed.setIfInBounds i true)) a

theorem any_of_upToL {hs : List Nat} {m : Nat} {L : Array Bool → Act → Prop} {Q : Exit → Act → World → Prop} (hL : ∀ listed a, L listed a → ∀ w, C w → wpAny P md ops Q m listed a w) :
    ∀ (k : Nat) (listed : Array Bool) (a : Act), upToL P md ops C hs L k listed a → ∀ w, C w → wpAny P md ops Q (k + m) listed a w := by
  intro k
  induction k with
  | zero => intro listed a h w hw; rw [Nat.zero_add]; exact hL _ _ h w hw
  | succ k ih =>
    intro listed a h w hw
    rw [Nat.add_right_comm]
    exact ⟨fun h0 => absurd h0 h.1, fun i hi => wpOp_of_qOp hw (fun a' w' hw' h' => ih _ a' h' w' hw') (h.2 i hi).2⟩

theorem upToL_first {fuel i : Nat} {ps hs : List Nat} {oi : Oper} {v : Value} {L : Array Bool → Act → Prop} (hi : ops[i]? = some oi) (hsel : ∀ (j : Nat) (o : Oper) cs b, ops[j]? = some o → o.op ≠ .select cs b)
    (hB : tailB md ops fuel ps hs = true) (hin : i ∈ hs) (hdone : ∀ listed a, L listed a → ∀ j ∈ Region.ready md ops listed, j ∉ hs) :
    ∀ (k : Nat) (listed : Array Bool) (a : Act), Inv md ops ps listed →
      (∀ j oj, ops[j]? = some oj → j ≠ i → listed.getD j true = false → (∀ e ∈ oj.after, Region.binds md e = true → e.on ≠ i) → oi.apart ops oj = true) →
      i ∈ Region.ready md ops listed → YieldsIn P ops C oi v a →
      upToL P md ops C hs L k (listed.setIfInBounds i true) (a.put oi.dst v) → upToL P md ops C hs L (k + 1) listed a := by
  intro k
  induction k with
  | zero =>
    intro listed a inv _ hr hy H
    have hun := (mem_ready.1 hr).1
    refine ⟨fun h => (by rw [h] at hr; cases hr), fun j hj => ?_⟩
    have hjh := in_head hB inv hin hun hj
    refine ⟨hjh, ?_⟩
    by_cases hji : j = i
    · subst hji
      exact hy.qOp hi H
    · exact absurd hjh (hdone _ _ H j (ready_mono hj hji))
  | succ k ih =>
    intro listed a inv hfree hr hy H
    have hun := (mem_ready.1 hr).1
    refine ⟨fun h => (by rw [h] at hr; cases hr), fun j hj => ?_⟩
    refine ⟨in_head hB inv hin hun hj, ?_⟩
    by_cases hji : j = i
    · subst hji
      exact hy.qOp hi H
    · obtain ⟨hjun, oj, hoj, hall⟩ := mem_ready.1 hj
      have hnot : ∀ e ∈ oj.after, Region.binds md e = true → e.on ≠ i := fun e he hb heq => by
        have h1 := hall e he hb
        rw [heq, getD_both hun] at h1
        cases h1
      have hfree' : ∀ m om, ops[m]? = some om → m ≠ i → (listed.setIfInBounds j true).getD m true = false →
          (∀ e ∈ om.after, Region.binds md e = true → e.on ≠ i) → oi.apart ops om = true := fun m om hm hmi hun' hno => by
        refine hfree m om hm hmi ?_ hno
        by_cases hjm : j = m
        · subst hjm; exact hjun
        · rw [getD_set_ne true hjm] at hun'; exact hun'
      refine qOp_mono (fun a' h3 => ih _ a' (inv.set hj) hfree' (ready_mono hr (Ne.symm hji)) h3.1 ?_)
        (qOp_put hoj (hfree j oj hoj hji hjun hnot) (fun cs b => hsel i oi cs b hi) (fun cs b => hsel j oj cs b hoj) hy (H.2 j (ready_mono hj hji)).2)
      rw [Array.setIfInBounds_comm _ _ hji]
      exact h3.2

/-- The operations that a list names come up one by one, nothing else being ready. -/
def seqL (md : Region.Mode) (ops : Array Oper) : List Nat → Array Bool → Bool
  | [], listed => (Region.ready md ops listed).isEmpty
  | t :: ts, listed => decide (Region.ready md ops listed = [t]) && seqL md ops ts (listed.setIfInBounds t true)

theorem any_of_seqL {Q' : Exit → Act → World → Prop} : ∀ (ts : List Nat) (l : List Oper) (listed : Array Bool) (a : Act) (w : World), ts.map (ops[·]?) = l.map some →
    seqL md ops ts listed = true → wpList P ops Q' l a w → wpAny P md ops Q' ts.length listed a w
  | [], [], _, _, _, _, hB, h => ⟨by simpa [seqL] using hB, h⟩
  | [], _ :: _, _, _, _, hl, _, _ => by simp at hl
  | _ :: _, [], _, _, _, hl, _, _ => by simp at hl
  | t :: ts, o :: l, listed, a, w, hl, hB, h => by
    simp only [List.map_cons, List.cons.injEq] at hl
    simp only [seqL, Bool.and_eq_true, decide_eq_true_eq] at hB
    refine ⟨fun h1 => (by rw [hB.1] at h1; cases h1), fun i hi => ?_⟩
    rw [hB.1] at hi
    obtain rfl : i = t := by simpa using hi
    have hw : wpOp P ops Q' i (wpList P ops Q' l) a w := by unfold wpOp; simp only [hl.1]; exact h
    exact wpOp_mono (fun a' w' h' => any_of_seqL ts l _ a' w' hl.2 hB.2 h') hw

/-- The operations that a list names, in that order: each may come up when its turn comes, free of what has not come up; then F. -/
def ordB (md : Region.Mode) (ops : Array Oper) (F : Array Bool → Bool) : List Nat → Array Bool → Bool
  | [], listed => F listed
  | i :: is, listed => (Region.ready md ops listed).contains i && Region.free md ops listed i && ordB md ops F is (listed.setIfInBounds i true)

theorem seqL_out {hs ts : List Nat} {listed : Array Bool} (h : seqL md ops ts listed = true) (hd : ts.all (fun t => !hs.contains t) = true) : ∀ j ∈ Region.ready md ops listed, j ∉ hs := by
  cases ts with
  | nil => intro j hj; simp only [seqL, List.isEmpty_iff] at h; rw [h] at hj; cases hj
  | cons t ts =>
    intro j hj
    simp only [seqL, Bool.and_eq_true, decide_eq_true_eq] at h
    rw [h.1] at hj
    obtain rfl : j = t := by simpa using hj
    have := List.all_eq_true.1 hd j (by simp)
    simpa using this

theorem upToL_ord {fuel : Nat} {ps hs ts : List Nat} {T : Act → Prop} (hsel : Region.noSelect ops = true) (hB : tailB md ops fuel ps hs = true) (hd : ts.all (fun t => !hs.contains t) = true) :
    ∀ (is : List Nat) (l : List Oper) (listed : Array Bool) (a : Act), (∀ i ∈ is, i ∈ hs) → is.map (ops[·]?) = l.map some → Inv md ops ps listed → ordB md ops (seqL md ops ts) is listed = true →
    wpQuiet P ops C T l a → upToL P md ops C hs (fun listed' a' => seqL md ops ts listed' = true ∧ T a') is.length listed a := by
  intro is
  induction is with
  | nil =>
    intro l listed a _ hl _ hO h
    cases l with
    | nil => exact ⟨by simpa [ordB] using hO, h⟩
    | cons o l => simp at hl
  | cons i is ih =>
    intro l listed a hin hl inv hO h
    cases l with
    | nil => simp at hl
    | cons o l =>
      simp only [List.map_cons, List.cons.injEq] at hl
      obtain ⟨h0, hl⟩ := hl
      simp only [ordB, Bool.and_eq_true] at hO
      obtain ⟨⟨hr, hf⟩, hO'⟩ := hO
      have hr' : i ∈ Region.ready md ops listed := by simpa using hr
      obtain ⟨v, hy, hK⟩ := yieldsIn_of_qOp (C := C) (K := wpQuiet P ops C T l) h0 (by unfold qOp; simp only [h0]; exact h)
      exact upToL_first h0 (Region.noSelect_spec hsel) hB (hin i (by simp)) (fun _ _ hL => seqL_out hL.1 hd) is.length listed a inv (Region.free_spec h0 hf) hr' hy
        (ih l _ _ (fun j hj => hin j (by simp [hj])) hl (inv.set hr') hO' hK)

/-- One value in whatever world. -/
def wpPure (P : Program) (ops : Array Oper) (Q : Act → Prop) : List Oper → Act → Prop
  | [], a => Q a
  | o :: rest, a => if Region.wanted o (yielded ops a.tmps) then ∃ v, (∀ W, (execOp a.eval o).run P W = .ok (.value v) W) ∧ wpPure P ops Q rest (a.put o.dst v) else wpPure P ops Q rest (a.put o.dst undef)
theorem wpPure_nil {Q : Act → Prop} {a : Act} (h : Q a) : wpPure P ops Q [] a := h
theorem wpPure_step {Q : Act → Prop} {a : Act} {o : Oper} {rest : List Oper}
    (h : ∀ K : Act → Prop, (∀ a, wpPure P ops Q rest a → K a) → if Region.wanted o (yielded ops a.tmps) then ∃ v, (∀ W, (execOp a.eval o).run P W = .ok (.value v) W) ∧ K (a.put o.dst v) else K (a.put o.dst undef)) : wpPure P ops Q (o :: rest) a :=
  h _ fun _ h => h

theorem any_pure {F : Array Bool → Bool} {T : Act → Prop} {Q' : Exit → Act → World → Prop} {n : Nat} {w : World} (hsel : Region.noSelect ops = true)
    (hQ : ∀ d v c a w, Q' (.panic c) (Act.put a d v) w → Q' (.panic c) a w) :
    ∀ (is qs : List Nat) (l : List Oper) (listed : Array Bool) (a : Act), is.map (ops[·]?) = l.map some → Inv md ops qs listed → ordB md ops F is listed = true → wpPure P ops T l a →
    (∀ listed' a', Inv md ops (qs ++ is) listed' → F listed' = true → T a' → wpAny P md ops Q' n listed' a' w) → wpAny P md ops Q' (is.length + n) listed a w := by
  intro is
  induction is with
  | nil =>
    intro qs l listed a hl inv hO h H
    cases l with
    | nil => rw [List.length_nil, Nat.zero_add]; exact H _ _ (by simpa using inv) (by simpa [ordB] using hO) h
    | cons o l => simp at hl
  | cons i is ih =>
    intro qs l listed a hl inv hO h H
    cases l with
    | nil => simp at hl
    | cons o l =>
      simp only [List.map_cons, List.cons.injEq] at hl
      obtain ⟨h0, hl⟩ := hl
      simp only [ordB, Bool.and_eq_true] at hO
      obtain ⟨⟨hr, hf⟩, hO'⟩ := hO
      have hr' : i ∈ Region.ready md ops listed := by simpa using hr
      have key : ∃ v, Yields P ops o v a ∧ wpPure P ops T l (a.put o.dst v) := by
        unfold wpPure at h
        by_cases hw : Region.wanted o (yielded ops a.tmps) = true
        · rw [if_pos hw] at h
          obtain ⟨v, h1, h2⟩ := h
          exact ⟨v, .inl ⟨hw, h1⟩, h2⟩
        · rw [if_neg hw] at h
          exact ⟨undef, .inr ⟨by simpa using hw, rfl⟩, h⟩
      obtain ⟨v, hy, hK⟩ := key
      rw [List.length_cons, Nat.add_right_comm]
      exact wpAny_first h0 (Region.noSelect_spec hsel) (hQ o.dst v) (is.length + n) listed a w (Region.free_spec h0 hf) hr' hy
        (ih (qs ++ [i]) l _ _ hl (inv.add hr') hO' hK (fun listed' a' inv' => H listed' a' (by simpa using inv')))

def mixB (ops : Array Oper) (fuel : Nat) (ps hs ts : List Nat) : Bool :=
  Region.noSelect ops && ts.all (fun t => !hs.contains t) && decide (ps.length + (hs.length + ts.length) = ops.size) && tailB .any ops fuel ps hs &&
  ordB .any ops (ordB .any ops (seqL .any ops ts) hs) ps (Array.replicate ops.size false)
end

theorem pick_map {l : List Oper} : ∀ {is : List Nat}, is.all (fun i => decide (i < l.length)) = true → is.map (l.toArray[·]?) = (pick l is).map some
  | [], _ => rfl
  | i :: is, h => by
    simp only [List.all_cons, Bool.and_eq_true, decide_eq_true_eq] at h
    have := pick_map (l := l) h.2
    simp only [List.map_cons, pick, List.getElem?_toArray]
    rw [List.getElem?_eq_getElem h.1]
    simp only [List.map_cons, List.cons.injEq, true_and]
    simpa using this

theorem wp_region_mix {P : Program} {w : World} {id : Nat} {Q : Exit → Act → World → Prop} {a : Act} {l : List Oper} (fuel : Nat) (ps hs ts : List Nat) (hm : P.follows .mixedOrders = true)
    (hB : mixB l.toArray fuel ps hs ts = true) (hin : (ps ++ hs ++ ts).all (fun i => decide (i < l.length)) = true) (hQ : ∀ d v c a w, Q (.panic c) (Act.put a d v) w → Q (.panic c) a w)
    (h : wpPure P l.toArray (fun a1 => wpQuiet P l.toArray (fun w' => ∃ f, w' = ext w f) (fun a' => ∀ w', (∃ f, w' = ext w f) → wpList P l.toArray Q (pick l ts) a' w') (pick l hs) a1) (pick l ps) a) :
    (Code.region id l.toArray true).wp P Q a w := by
  simp only [mixB, Bool.and_eq_true, decide_eq_true_eq] at hB
  obtain ⟨⟨⟨⟨hsel, hd⟩, hlen⟩, htail⟩, hord⟩ := hB
  simp only [List.all_append, Bool.and_eq_true] at hin
  obtain ⟨⟨hp, hh⟩, ht⟩ := hin
  refine wp_region_any hm ?_
  have key : wpAny P .any l.toArray Q (ps.length + (hs.length + ts.length)) (Array.replicate l.toArray.size false) a { w with drawn := w.drawn + 1 } := ?_
  · rwa [hlen] at key
  refine any_pure (md := .any) (F := ordB .any l.toArray (seqL .any l.toArray ts) hs) hsel hQ ps [] (pick l ps) _ a (pick_map hp) ?_ hord h ?_
  · exact ⟨by simp, fun j oj _ hl => (by rw [getD_replicate_false] at hl; cases hl), fun p hp => by cases hp⟩
  · intro listed' a' inv hF hT
    have H := upToL_ord (md := .any) (ts := ts) hsel htail hd hs (pick l hs) listed' a' (fun _ h => h) (pick_map hh) (by simpa using inv) hF hT
    exact any_of_upToL (Q := Q) (m := ts.length) (fun listed a hL w' hw' => any_of_seqL ts (pick l ts) listed a w' (pick_map ht) hL.1 (hL.2 w' hw')) hs.length _ _ H _ (out_drawn w)

theorem pick_nil (l : List Oper) : pick l [] = [] := rfl
theorem pick_zero (o : Oper) (l : List Oper) (is : List Nat) : pick (o :: l) (0 :: is) = o :: pick (o :: l) is := rfl
theorem pick_some {l : List Oper} {i : Nat} {o : Oper} {is : List Nat} (h : l[i]? = some o) : pick l (i :: is) = o :: pick l is := by simp only [pick, h]
end Go.Proofs.YtnogfelfgclajaaGreatDoor
end
