/-
  No Go in sight. A region that draws its order and makes one variable (an alloc that waits for nobody, for which the tail alone waits) beside operations that yield the same in every grown world: whenever the variable is made, what stands behind the region is asked of a world grown out of one that made it.
  A place's cell, a cell's box: what the Go functions hand back, and the document's: the same.
  The engine, without bodies: a cell edited; a new engine.
  A chunk's place, and those beside it: what both Go functions hand back.
-/
import Derived.Test.YtnogfelfgclajaaGreatDoorMb01
import Derived.Test.YtnogfelfgclajaaGreatDoorMb20
import Derived.Test.YtnogfelfgclajaaGreatDoorMb02
import Derived.Test.YtnogfelfgclajaaGreatDoorProg
section
namespace Go.Proofs.YtnogfelfgclajaaGreatDoor
set_option linter.unusedVariables false
open Go.RowKit

def GrownFrom (W w' : World) : Prop := ∃ g, w' = ext W g

section
variable {P : Program} {ops : Array Oper} {md : Region.Mode} {w : World}

def calmUpon (P : Program) (W : World) (v : Value) : Result Next → Prop
  | .ok (.value u) w' => w' = W ∧ u = v
  | .ok .skip w' => w' = W ∧ v = undef
  | .ok (.enter f args) w' => w' = W ∧ Calls P f args W (fun e w'' => e = .returned v ∧ GrownFrom W w'')
  | _ => False

def calmAt (P : Program) (o : Oper) (a : Act) (w : World) (v : Value) : Prop := ∀ f, calmUpon P (ext w f) v ((execOp a.eval o).run P (ext w f))

/-- One value in every grown world; behind it a world grown out of that very one. -/
def calm (P : Program) (o : Oper) (a : Act) (w : World) (next : Act → Prop) : Prop := ∃ v, (∀ f, calmUpon P (ext w f) v ((execOp a.eval o).run P (ext w f))) ∧ next (a.put o.dst v)

def cOp (P : Program) (ops : Array Oper) (w : World) (i : Nat) (K : Act → Prop) (a : Act) : Prop :=
  match ops[i]? with
  | none => K a
  | some o => if Region.wanted o (yielded ops a.tmps) then calm P o a w K else K (a.put o.dst undef)

def wpCalm (P : Program) (ops : Array Oper) (w : World) (Q : Act → Prop) : List Oper → Act → Prop
  | [], a => Q a
  | o :: rest, a => if Region.wanted o (yielded ops a.tmps) then calm P o a w (wpCalm P ops w Q rest) else wpCalm P ops w Q rest (a.put o.dst undef)
theorem wpCalm_nil {Q : Act → Prop} {a : Act} (h : Q a) : wpCalm P ops w Q [] a := h
theorem wpCalm_step {Q : Act → Prop} {a : Act} {o : Oper} {rest : List Oper}
    (h : ∀ K : Act → Prop, (∀ a, wpCalm P ops w Q rest a → K a) → if Region.wanted o (yielded ops a.tmps) then calm P o a w K else K (a.put o.dst undef)) : wpCalm P ops w Q (o :: rest) a :=
  h _ fun _ h => h

theorem cOp_mono {i : Nat} {a : Act} {K K' : Act → Prop} (h : ∀ a, K a → K' a) (hh : cOp P ops w i K a) : cOp P ops w i K' a := by
  unfold cOp at *
  cases ho : ops[i]? with
  | none => simp only [ho] at hh ⊢; exact h _ hh
  | some o =>
    simp only [ho] at hh ⊢
    by_cases hw : Region.wanted o (yielded ops a.tmps) = true
    · simp only [hw, if_true] at hh ⊢
      obtain ⟨v, h1, h2⟩ := hh
      exact ⟨v, h1, h _ h2⟩
    · simp only [hw] at hh ⊢
      exact h _ hh

/-- In a world grown out of W, itself grown out of w: what comes behind is grown out of W too. -/
theorem op_of_calm {W : World} {i : Nat} {a : Act} {K : Act → Prop} {K' : Act → World → Prop} {Q : Exit → Act → World → Prop} (hW : Below w.heap.size w W) (hs : w.heap.size ≤ W.heap.size) {f : World → World}
    (h : ∀ a g, K a → K' a (ext W g)) (hh : cOp P ops w i K a) : wpOp P ops Q i K' a (ext W f) := by
  unfold cOp at hh
  unfold wpOp
  cases ho : ops[i]? with
  | none => simp only [ho] at hh ⊢; exact h _ _ hh
  | some o =>
    simp only [ho] at hh ⊢
    by_cases hw : Region.wanted o (yielded ops a.tmps) = true
    · simp only [hw, if_true] at hh ⊢
      obtain ⟨v, h1, h2⟩ := hh
      refine .inl ?_
      obtain ⟨f', hf'⟩ := ext_of (below_ext hW hs f)
      have h3 := h1 f'
      rw [← hf'] at h3
      unfold Oper.wp
      generalize (execOp a.eval o).run P (ext W f) = r at *
      cases r with
      | ok n w' =>
        cases n <;> simp only [calmUpon] at h3 <;> simp only [Oper.upon]
        case value u => obtain ⟨rfl, rfl⟩ := h3; exact h _ _ h2
        case skip => obtain ⟨rfl, rfl⟩ := h3; exact h _ _ h2
        case enter g args =>
          obtain ⟨rfl, hc⟩ := h3
          exact hc.mono fun e w'' ⟨he, g', hg⟩ => by
            subst he
            rw [hg, ext_ext]
            exact h _ _ h2
      | halt x w' => simp only [calmUpon] at h3
    · simp only [hw] at hh ⊢
      exact h _ _ hh

def YieldsCalm (P : Program) (ops : Array Oper) (w : World) (o : Oper) (v : Value) (a : Act) : Prop :=
  (Region.wanted o (yielded ops a.tmps) = true ∧ calmAt P o a w v) ∨ (Region.wanted o (yielded ops a.tmps) = false ∧ v = undef)

theorem YieldsCalm.cOp {i : Nat} {o : Oper} {v : Value} {a : Act} (hi : ops[i]? = some o) (hy : YieldsCalm P ops w o v a) {K : Act → Prop} (h : K (a.put o.dst v)) : cOp P ops w i K a := by
  unfold Go.Proofs.YtnogfelfgclajaaGreatDoor.cOp
  simp only [hi]
  rcases hy with ⟨hw, hv⟩ | ⟨hw, rfl⟩
  · simp only [hw, if_true]; exact ⟨v, hv, h⟩
  · simp only [hw, Bool.false_eq_true, if_false]; exact h

theorem YieldsCalm.same {o : Oper} {v : Value} {a a' : Act} (hy : YieldsCalm P ops w o v a) (he : execOp a'.eval o = execOp a.eval o)
    (hw : Region.wanted o (yielded ops a'.tmps) = Region.wanted o (yielded ops a.tmps)) : YieldsCalm P ops w o v a' := by
  unfold YieldsCalm calmAt at *
  rw [he, hw]
  exact hy

theorem yields_of_cOp {i : Nat} {o : Oper} {a : Act} {K : Act → Prop} (hi : ops[i]? = some o) (h : cOp P ops w i K a) : ∃ v, YieldsCalm P ops w o v a ∧ K (a.put o.dst v) := by
  unfold cOp at h
  simp only [hi] at h
  by_cases hw : Region.wanted o (yielded ops a.tmps) = true
  · simp only [hw, if_true] at h
    obtain ⟨v, h1, h2⟩ := h
    exact ⟨v, .inl ⟨hw, h1⟩, h2⟩
  · simp only [hw] at h
    exact ⟨undef, .inr ⟨by simpa using hw, rfl⟩, h⟩

theorem cOp_put {j : Nat} {oi oj : Oper} {v : Value} (hj : ops[j]? = some oj) (hap : oi.apart ops oj = true) (hsi : ∀ cs b, oi.op ≠ .select cs b) (hsj : ∀ cs b, oj.op ≠ .select cs b) {K : Act → Prop} {a : Act}
    (hy : YieldsCalm P ops w oi v a) (h : cOp P ops w j K (a.put oi.dst v)) : cOp P ops w j (fun a' => YieldsCalm P ops w oi v a' ∧ K (a'.put oi.dst v)) a := by
  obtain ⟨h1, h2, h3⟩ := Oper.apart_spec hap
  have keep : ∀ u, YieldsCalm P ops w oi v (a.put oj.dst u) := fun u => hy.same (execOp_put oi hsi a oj.dst u h3) (wanted_put oi a oj.dst u h3)
  unfold cOp at *
  simp only [hj] at *
  rw [wanted_put oj a oi.dst v h1] at h
  by_cases hw : Region.wanted oj (yielded ops a.tmps) = true
  · simp only [hw, if_true] at h ⊢
    obtain ⟨u, hu, hn⟩ := h
    refine ⟨u, fun f => ?_, keep u, by rw [← Act.put_comm a v u h2]; exact hn⟩
    have := hu f
    rwa [execOp_put oj hsj a oi.dst v h1] at this
  · simp only [hw] at h ⊢
    exact ⟨keep _, by rw [← Act.put_comm a v undef h2]; exact h⟩

/-- k operations more come up, all ahead of the tail; then L. -/
def upToC (P : Program) (md : Region.Mode) (ops : Array Oper) (w : World) (n : Nat) (L : Array Bool → Act → Prop) : Nat → Array Bool → Act → Prop
  | 0, listed, a => L listed a
  | k + 1, listed, a => Region.ready md ops listed ≠ [] ∧ ∀ i ∈ Region.ready md ops listed, i < n ∧ cOp P ops w i (upToC P md ops w n L k (listed.setIfInBounds i true)) a

theorem upToC_first {n i : Nat} {oi : Oper} {v : Value} {L : Array Bool → Act → Prop} (hi : ops[i]? = some oi) (hsel : ∀ (j : Nat) (o : Oper) cs b, ops[j]? = some o → o.op ≠ .select cs b)
    (hs : Region.sinkB md ops n = true) (hc : Region.chainB md ops n = true) (hn : n < ops.size) (hin : i < n) (hdone : ∀ listed a, L listed a → ∀ j ∈ Region.ready md ops listed, n ≤ j) :
    ∀ (k : Nat) (listed : Array Bool) (a : Act), HeadInv md ops n listed →
      (∀ j oj, ops[j]? = some oj → j ≠ i → listed.getD j true = false → (∀ e ∈ oj.after, Region.binds md e = true → e.on ≠ i) → oi.apart ops oj = true) →
      i ∈ Region.ready md ops listed → YieldsCalm P ops w oi v a →
      upToC P md ops w n L k (listed.setIfInBounds i true) (a.put oi.dst v) → upToC P md ops w n L (k + 1) listed a := by
  intro k
  induction k with
  | zero =>
    intro listed a inv _ hr hy H
    have hun := (mem_ready.1 hr).1
    refine ⟨fun h => (by rw [h] at hr; cases hr), fun j hj => ?_⟩
    have hjn : j < n := (Nat.lt_or_ge j n).elim id fun h => absurd hj (tail_waits hs hc hn inv _ i rfl hin hun j h)
    refine ⟨hjn, ?_⟩
    by_cases hji : j = i
    · subst hji
      exact hy.cOp hi H
    · have := hdone _ _ H j (ready_mono hj hji)
      omega
  | succ k ih =>
    intro listed a inv hfree hr hy H
    have hun := (mem_ready.1 hr).1
    refine ⟨fun h => (by rw [h] at hr; cases hr), fun j hj => ?_⟩
    have hjn : j < n := (Nat.lt_or_ge j n).elim id fun h => absurd hj (tail_waits hs hc hn inv _ i rfl hin hun j h)
    refine ⟨hjn, ?_⟩
    by_cases hji : j = i
    · subst hji
      exact hy.cOp hi H
    · obtain ⟨hjun, oj, hoj, hall⟩ := mem_ready.1 hj
      have hnot : ∀ e ∈ oj.after, Region.binds md e = true → e.on ≠ i := fun e he hb heq => by
        have h1 := hall e he hb
        rw [heq, getD_both hun] at h1
        cases h1
      have hfree' : ∀ m om, ops[m]? = some om → m ≠ i → (listed.setIfInBounds j true).getD m true = false →
          (∀ e ∈ om.after, Region.binds md e = true → e.on ≠ i) → oi.apart ops om = true := fun m om hm hmi hun' hno => by
        refine hfree m om hm hmi ?_ hno
        by_cases hjm : j = m
        · subst hjm; exact hjun
        · rw [getD_set_ne true hjm] at hun'; exact hun'
      refine cOp_mono (fun a' h3 => ih _ a' (inv.set hj hjn) hfree' (ready_mono hr (Ne.symm hji)) h3.1 ?_)
        (cOp_put hoj (hfree j oj hoj hji hjun hnot) (fun cs b => hsel i oi cs b hi) (fun cs b => hsel j oj cs b hoj) hy (H.2 j (ready_mono hj hji)).2)
      rw [Array.setIfInBounds_comm _ _ hji]
      exact h3.2

/-- The operations that 'is' names, in that order: each may come up when its turn comes, free of what has not come up; then the tail, one by one. -/
def turnsB (md : Region.Mode) (ops : Array Oper) (n g : Nat) : List Nat → Array Bool → Bool
  | [], listed => Region.seqB md ops g n listed
  | i :: is, listed => decide (i < n) && (Region.ready md ops listed).contains i && Region.free md ops listed i && turnsB md ops n g is (listed.setIfInBounds i true)

theorem upToC_turns {n g : Nat} {T : Act → Prop} (hsel : Region.noSelect ops = true) (hs : Region.sinkB md ops n = true) (hc : Region.chainB md ops n = true) (hn : n < ops.size) :
    ∀ (is : List Nat) (l : List Oper) (listed : Array Bool) (a : Act), is.map (ops[·]?) = l.map some → HeadInv md ops n listed → turnsB md ops n g is listed = true → wpCalm P ops w T l a →
    upToC P md ops w n (fun listed' a' => Region.seqB md ops g n listed' = true ∧ T a') is.length listed a := by
  intro is
  induction is with
  | nil =>
    intro l listed a hl _ hB h
    cases l with
    | nil => exact ⟨by simpa [turnsB] using hB, h⟩
    | cons o l => simp at hl
  | cons i is ih =>
    intro l listed a hl inv hB h
    cases l with
    | nil => simp at hl
    | cons o l =>
      simp only [List.map_cons, List.cons.injEq] at hl
      obtain ⟨h0, hl⟩ := hl
      simp only [turnsB, Bool.and_eq_true, decide_eq_true_eq] at hB
      obtain ⟨⟨⟨hin, hr⟩, hf⟩, hB'⟩ := hB
      have hr' : i ∈ Region.ready md ops listed := by simpa using hr
      obtain ⟨v, hy, hK⟩ := yields_of_cOp (w := w) (K := wpCalm P ops w T l) h0 (by unfold cOp; simp only [h0]; exact h)
      exact upToC_first h0 (Region.noSelect_spec hsel) hs hc hn hin (fun _ _ hL => seqB_ready hL.1) is.length listed a inv (Region.free_spec h0 hf) hr' hy
        (ih l _ _ hl (inv.set hr' hin) hB' hK)

/-- The variable has been made, in a world grown out of w. -/
theorem not_again {l0 : Array Bool} {k0 : Nat} (h : l0.getD k0 true = false) : (l0.setIfInBounds k0 true).getD k0 false = true := by
  rcases Nat.lt_or_ge k0 l0.size with h' | h'
  · simp [h']
  · simp [Array.getElem?_eq_none h'] at h

theorem any_made {n m k0 : Nat} {L : Array Bool → Act → Prop} {Q : Exit → Act → World → Prop} {W : World} (hW : Below w.heap.size w W) (hs : w.heap.size ≤ W.heap.size) {d : Option Tmp} {p : Value}
    (hap : ∀ (j : Nat) (o : Oper), j < n → j ≠ k0 → ops[j]? = some o → (∀ t, d = some t → t ∉ o.looksAt ops) ∧ (∀ t, d = some t → o.dst ≠ some t) ∧ (∀ cs b, o.op ≠ .select cs b))
    (hL : ∀ listed a, L listed a → ∀ g, wpAny P md ops Q m listed (a.put d p) (ext W g)) :
    ∀ (k : Nat) (listed : Array Bool) (a : Act), listed.getD k0 false = true → upToC P md ops w n L k listed a → ∀ g, wpAny P md ops Q (k + m) listed (a.put d p) (ext W g) := by
  intro k
  induction k with
  | zero => intro listed a _ h g; rw [Nat.zero_add]; exact hL _ _ h g
  | succ k ih =>
    intro listed a hk h g
    rw [Nat.add_right_comm]
    refine ⟨fun h0 => absurd h0 h.1, fun i hi => ?_⟩
    obtain ⟨hin, hc⟩ := h.2 i hi
    have hik : i ≠ k0 := fun e => by
      subst e
      have := getD_both (mem_ready.1 hi).1
      rw [hk] at this
      cases this
    refine op_of_calm (K := fun a' => ∃ a0, a' = a0.put d p ∧ upToC P md ops w n L k (listed.setIfInBounds i true) a0) hW hs (fun a' g' ⟨a0, e, h'⟩ => by rw [e]; exact ih _ _ (getD_set_true hk) h' g') ?_
    unfold cOp at hc ⊢
    cases ho : ops[i]? with
    | none => simp only [ho] at hc ⊢; exact ⟨a, rfl, hc⟩
    | some o =>
      obtain ⟨x1, x2, x3⟩ := hap i o hin hik ho
      simp only [ho] at hc ⊢
      rw [wanted_put o a d p x1]
      by_cases hw : Region.wanted o (yielded ops a.tmps) = true
      · simp only [hw, if_true] at hc ⊢
        obtain ⟨v, h1, h2⟩ := hc
        refine ⟨v, fun f => ?_, a.put o.dst v, (Act.put_comm a p v x2), h2⟩
        rw [execOp_put o x3 a d p x1]
        exact h1 f
      · simp only [hw] at hc ⊢
        exact ⟨a.put o.dst undef, (Act.put_comm a p undef x2), hc⟩

/-- It has not been made yet: it may be made now, or after any of the others. -/
theorem any_unmade {n m k0 : Nat} {d : Tmp} {T : TypeId} {z : Array Value} {o0 : Oper} {L : Array Bool → Act → Prop} {Q : Exit → Act → World → Prop}
    (h0 : ops[k0]? = some o0) (hd : o0.dst = some d) (hg : o0.guard = none) (haft : o0.after = #[])
    (hrun : ∀ (a : Act) (W : World), (execOp a.eval o0).run P W = .ok (.value (.pointer (some ⟨W.heap.size, 0, none⟩))) (W.alloc (.cells z T)))
    (hap : ∀ (j : Nat) (o : Oper), j < n → j ≠ k0 → ops[j]? = some o → (∀ t, some d = some t → t ∉ o.looksAt ops) ∧ (∀ t, some d = some t → o.dst ≠ some t) ∧ (∀ cs b, o.op ≠ .select cs b))
    (hwait : Region.waitsFor md ops n k0 = true) (hdone : ∀ listed a, L listed a → ∀ j ∈ Region.ready md ops listed, j = n)
    (hL : ∀ listed a, L listed a → ∀ f g, wpAny P md ops Q m listed (a.put (some d) (.pointer (some ⟨(ext w f).heap.size, 0, none⟩))) (ext ((ext w f).alloc (.cells z T)) g)) :
    ∀ (k : Nat) (l0 listed : Array Bool) (a : Act), l0.setIfInBounds k0 true = listed → l0.getD k0 true = false → upToC P md ops w n L k listed a → ∀ f, wpAny P md ops Q (k + m + 1) l0 a (ext w f) := by
  intro k
  have hmade : ∀ (k : Nat) (listed : Array Bool) (a : Act) (f : World → World), listed.getD k0 false = true → upToC P md ops w n L k listed a →
      wpAny P md ops Q (k + m) listed (a.put (some d) (.pointer (some ⟨(ext w f).heap.size, 0, none⟩))) ((ext w f).alloc (.cells z T)) := fun k listed a f hk h => by
    have hW : Below w.heap.size w ((ext w f).alloc (.cells z T)) := (ext_below w f).alloc (ext_size w f) _
    obtain ⟨g, hg⟩ := ext_of (Below.refl _ ((ext w f).alloc (.cells z T)))
    rw [hg]
    exact any_made hW hW.size hap (fun listed a hl g => hL listed a hl f g) k listed a hk h g
  induction k with
  | zero =>
    intro l0 listed a hl hun h f
    have hr : k0 ∈ Region.ready md ops l0 := mem_ready.2 ⟨hun, o0, h0, by rw [haft]; simp⟩
    refine ⟨fun hn => (by rw [hn] at hr; cases hr), fun i hi => ?_⟩
    by_cases hik : i = k0
    · subst hik
      unfold wpOp
      simp only [h0, Region.wanted, hg, if_true]
      refine .inl ?_
      unfold Oper.wp
      rw [hrun, Oper.upon_value, hd, hl]
      exact hmade 0 listed a f (hl ▸ not_again hun) h
    · have hi' := ready_mono hi hik
      rw [hl] at hi'
      have hin := hdone _ _ h i hi'
      subst hin
      obtain ⟨oj, hoj, e, he, hb, hon⟩ := Region.waitsFor_spec hwait
      obtain ⟨_, oi, hoi, hall⟩ := mem_ready.1 hi
      obtain rfl : oj = oi := Option.some.inj (hoj.symm.trans hoi)
      have h1 := hall e he hb
      rw [hon, getD_both hun] at h1
      cases h1
  | succ k ih =>
    intro l0 listed a hl hun h f
    have hr : k0 ∈ Region.ready md ops l0 := mem_ready.2 ⟨hun, o0, h0, by rw [haft]; simp⟩
    rw [show k + 1 + m + 1 = (k + m + 1) + 1 by omega]
    refine ⟨fun hn => (by rw [hn] at hr; cases hr), fun i hi => ?_⟩
    by_cases hik : i = k0
    · subst hik
      unfold wpOp
      simp only [h0, Region.wanted, hg, if_true]
      refine .inl ?_
      unfold Oper.wp
      rw [hrun, Oper.upon_value, hd, hl]
      have := hmade (k + 1) listed a f (hl ▸ not_again hun) h
      rwa [show k + 1 + m = k + m + 1 by omega] at this
    · have hi' := ready_mono hi hik
      rw [hl] at hi'
      obtain ⟨_, hc⟩ := h.2 i hi'
      refine op_of_calm (Below.refl _ w) (Nat.le_refl _) (fun a' g' h' => ih (l0.setIfInBounds i true) _ a' (by rw [Array.setIfInBounds_comm _ _ hik, hl]) ?_ h' g') hc
      rw [getD_set_ne true hik]
      exact hun

/-- All that is asked of the region, as one Bool: n: the tail's first; k0: the variable's making; d: its slot; 'is': the other operations of the head, in their order. -/
def freeB (ops : Array Oper) (n k0 : Nat) (d : Tmp) (is : List Nat) : Bool :=
  Region.noSelect ops && decide (n < ops.size) && decide (k0 < n) && Region.sinkB .any ops n && Region.chainB .any ops n && Region.waitsFor .any ops n k0 && decide (is.length + 1 + (ops.size - n) = ops.size) &&
  turnsB .any ops n (ops.size - n) is ((Array.replicate ops.size false).setIfInBounds k0 true) &&
  (List.range n).all (fun j => match ops[j]? with | some o => decide (j = k0) || (!(o.looksAt ops).contains d && o.dst != some d) | none => true)

theorem seqB_first {g n : Nat} {listed : Array Bool} (h : Region.seqB md ops (g + 1) n listed = true) : Region.ready md ops listed = [n] := by
  simp only [Region.seqB, Bool.and_eq_true, decide_eq_true_eq] at h
  exact h.1
end

theorem wp_region_free {P : Program} {w : World} {id : Nat} {Q : Exit → Act → World → Prop} {a : Act} {l : List Oper} (n k0 : Nat) (d : Tmp) (T : TypeId) (z : Array Value) (is : List Nat) (hl : List Oper) (o0 : Oper)
    (hm : P.follows .mixedOrders = true) (hB : freeB l.toArray n k0 d is = true) (h0 : l.toArray[k0]? = some o0) (hd : o0.dst = some d) (hg : o0.guard = none) (haft : o0.after = #[])
    (his : is.map (l.toArray[·]?) = hl.map some)
    (hrun : ∀ (a : Act) (W : World), (execOp a.eval o0).run P W = .ok (.value (.pointer (some ⟨W.heap.size, 0, none⟩))) (W.alloc (.cells z T)))
    (h : wpCalm P l.toArray w (fun a' => ∀ f g, wpList P l.toArray Q (l.drop n) (a'.put (some d) (.pointer (some ⟨(ext w f).heap.size, 0, none⟩))) (ext ((ext w f).alloc (.cells z T)) g)) hl a) :
    (Code.region id l.toArray true).wp P Q a w := by
  simp only [freeB, Bool.and_eq_true, decide_eq_true_eq] at hB
  obtain ⟨⟨⟨⟨⟨⟨⟨⟨hsel, hn⟩, hk⟩, hs⟩, hc⟩, hw⟩, hlen⟩, hturn⟩, hap⟩ := hB
  have hn' : n < l.length := by simpa using hn
  have hdl : (l.drop n).length = l.toArray.size - n := by simp
  obtain ⟨g, hgn⟩ : ∃ g, l.toArray.size - n = g + 1 := ⟨l.toArray.size - n - 1, by omega⟩
  have hsel' := Region.noSelect_spec hsel
  have hap' : ∀ (j : Nat) (o : Oper), j < n → j ≠ k0 → l.toArray[j]? = some o → (∀ t, some d = some t → t ∉ o.looksAt l.toArray) ∧ (∀ t, some d = some t → o.dst ≠ some t) ∧ (∀ cs b, o.op ≠ .select cs b) := by
    intro j o hj hne ho
    have h1 := List.all_eq_true.1 hap j (List.mem_range.2 hj)
    simp only [ho, Bool.or_eq_true, decide_eq_true_eq, Bool.and_eq_true] at h1
    have h2 := h1.resolve_left hne
    refine ⟨fun t ht => ?_, fun t ht => ?_, fun cs b => hsel' j o cs b ho⟩
    · obtain rfl := Option.some.inj ht
      simpa using h2.1
    · obtain rfl := Option.some.inj ht
      simpa using h2.2
  have hrep : (Array.replicate l.toArray.size false).getD k0 true = false := getD_in (by simp; omega) (getD_replicate_false _ _)
  have inv0 : HeadInv .any l.toArray n ((Array.replicate l.toArray.size false).setIfInBounds k0 true) := by
    refine ⟨by simp, fun j oj hj hl' e he hb => ?_, fun t ht ht' => ?_⟩
    · by_cases hjk : k0 = j
      · subst hjk
        obtain rfl : oj = o0 := Option.some.inj (hj.symm.trans h0)
        rw [haft] at he
        simp at he
      · rw [getD_set_ne false hjk, getD_replicate_false] at hl'
        cases hl'
    · rw [getD_set_ne true (by omega)]
      exact getD_in (by simpa using ht') (getD_replicate_false _ _)
  have H := upToC_turns (P := P) (w := w) (md := .any) (g := l.toArray.size - n) hsel hs hc hn is hl _ a his inv0 hturn h
  refine wp_region_any hm ?_
  have hfin := any_unmade (P := P) (w := w) (md := .any) (Q := Q) (n := n) (m := l.toArray.size - n) (k0 := k0) (d := d) (T := T) (z := z) (o0 := o0) h0 hd hg haft hrun hap' hw
    (fun listed a hL j hj => by
      have h1 := hL.1
      rw [hgn] at h1
      rw [seqB_first h1] at hj
      simpa using hj)
    (fun listed a' hL f g' => by
      have := wpAny_of_seq (md := .any) (Q' := Q) (l.drop n) n listed _ _ (fun j => by simp [List.getElem?_drop]) (by rw [hdl]; exact hL.1) (hL.2 f g')
      rwa [hdl] at this) is.length _ _ a rfl hrep H
  obtain ⟨f0, hf0⟩ := out_drawn w
  have := hfin f0
  rw [← hf0, show is.length + (l.toArray.size - n) + 1 = l.toArray.size by omega] at this
  exact this

/-- .. where the variable is the head's last. -/
theorem wp_region_free_last {P : Program} {w : World} {id : Nat} {Q : Exit → Act → World → Prop} {a : Act} {l : List Oper} {o0 : Oper} (k0 : Nat) (d : Tmp) (T : TypeId) (z : Array Value)
    (hm : P.follows .mixedOrders = true) (hB : freeB l.toArray (k0 + 1) k0 d (List.range k0) = true) (h0 : l.toArray[k0]? = some o0) (hd : o0.dst = some d) (hg : o0.guard = none) (haft : o0.after = #[])
    (hrun : ∀ (a : Act) (W : World), (execOp a.eval o0).run P W = .ok (.value (.pointer (some ⟨W.heap.size, 0, none⟩))) (W.alloc (.cells z T)))
    (h : wpCalm P l.toArray w (fun a' => ∀ f g, wpList P l.toArray Q (l.drop (k0 + 1)) (a'.put (some d) (.pointer (some ⟨(ext w f).heap.size, 0, none⟩))) (ext ((ext w f).alloc (.cells z T)) g)) (l.take k0) a) :
    (Code.region id l.toArray true).wp P Q a w := by
  have hlt : k0 < l.length := by
    have := (Array.getElem?_eq_some_iff.1 h0).1
    simpa using this
  refine wp_region_free (k0 + 1) k0 d T z (List.range k0) (l.take k0) o0 hm hB h0 hd hg haft ?_ hrun h
  apply List.ext_getElem?
  intro i
  rcases Nat.lt_or_ge i k0 with hi | hi
  · have : i < l.length := by omega
    simp [hi, this]
  · simp [hi]
    omega

/-- .. the worlds under names. -/
theorem wp_region_free_named {P : Program} {w : World} {id : Nat} {Q : Exit → Act → World → Prop} {a : Act} {l : List Oper} {o0 : Oper} (k0 : Nat) (d : Tmp) (T : TypeId) (z : Array Value)
    (hm : P.follows .mixedOrders = true) (hB : freeB l.toArray (k0 + 1) k0 d (List.range k0) = true) (h0 : l.toArray[k0]? = some o0) (hd : o0.dst = some d) (hg : o0.guard = none) (haft : o0.after = #[])
    (hrun : ∀ (a : Act) (W : World), (execOp a.eval o0).run P W = .ok (.value (.pointer (some ⟨W.heap.size, 0, none⟩))) (W.alloc (.cells z T)))
    (h : wpCalm P l.toArray w (fun a' => ∀ wa, (∃ f, wa = ext w f) → ∀ wb, (∃ g, wb = ext (wa.alloc (.cells z T)) g) →
      wpList P l.toArray Q (l.drop (k0 + 1)) (a'.put (some d) (.pointer (some ⟨wa.heap.size, 0, none⟩))) wb) (l.take k0) a) :
    (Code.region id l.toArray true).wp P Q a w := by
  refine wp_region_free_last k0 d T z hm hB h0 hd hg haft hrun ?_
  have hmono : ∀ (Q Q' : Act → Prop), (∀ a, Q a → Q' a) → ∀ (l' : List Oper) (a : Act), wpCalm P l.toArray w Q l' a → wpCalm P l.toArray w Q' l' a := by
    intro Q Q' hQ l'
    induction l' with
    | nil => intro a h; exact hQ _ h
    | cons o r ih =>
      intro a h
      unfold wpCalm at h ⊢
      split
      · rename_i hw
        rw [if_pos hw] at h
        obtain ⟨v, h1, h2⟩ := h
        exact ⟨v, h1, ih _ h2⟩
      · rename_i hw
        rw [if_neg hw] at h
        exact ih _ h
  exact hmono _ _ (fun a' h f g => h _ ⟨f, rfl⟩ _ ⟨g, rfl⟩) _ _ h

/-- A callee's contract, met in a grown world. -/
theorem calm_call {P : Program} {f : FuncId} {args : Array Value} {W : World} {v : Value} (h : Calls P f args W fun e w' => e = .returned v ∧ ∃ g, w' = ext W g) : Calls P f args W fun e w' => e = .returned v ∧ GrownFrom W w' := h
theorem calm_same {P : Program} {f : FuncId} {args : Array Value} {W : World} {v : Value} (h : Calls P f args W fun e w' => e = .returned v ∧ W = w') : Calls P f args W fun e w' => e = .returned v ∧ GrownFrom W w' :=
  h.mono fun _ _ ⟨he, hw⟩ => ⟨he, hw ▸ grown_of⟩
end Go.Proofs.YtnogfelfgclajaaGreatDoor
end

section
namespace Go.Proofs.YtnogfelfgclajaaGreatDoor
open Go.RowKit
attribute [local go_sem] ext_ext drew_ext ext_drew ext_cell ext_frozen in_lt in_le in_ne in_en in_ne1 in_en1 in_le1 in_ltn in_len in_nen in_enn size_le ite_max ite_min
set_option linter.unusedVariables false
set_option linter.unusedSimpArgs false
attribute [local go_sem] calm calmUpon
set_option maxRecDepth 1000000

theorem cellof_any (x y z : Int) (w : World) :
    Calls Tryz.prog 197 #[.agg #[.int .i64 x, .int .i64 y, .int .i64 z]] w fun e w' => e = .returned (.agg #[.int .i64 (flS x), .int .i64 (flS y), .int .i64 (flS z)]) ∧ ∃ f, w' = ext w f := by
  go_enter Tryz.func197, Tryz.ntmps197
  go_wp2_with fail
  first | (with_reducible refine wp_region_ext_tail_on 10 ?_ ?_ ?_) | refine wp_region_ext_tail 10 ?_ ?_ ?_
  · kernel_rfl
  · kernel_rfl
  simp only [List.take_succ_cons, List.take_zero, List.drop_succ_cons, List.drop_zero]
  repeat (go_big_quiet_step (first | (go_at_call 252; exact ext_same (floor_any _ _))))
  refine wpQuiet_nil ?_
  rintro _ ⟨t, rfl⟩
  go_wp2
  go_returns
  exact ⟨rfl, grown_of⟩
/-- A cell's box, its six numbers. -/
def boxS (x y z : Int) : Array Value := #[.int .i64 (cutS x * 65536), .int .i64 (cutS y * 65536), .int .i64 (cutS z * 65536), .int .i64 (faS (cutS x * 65536) 65536), .int .i64 (faS (cutS y * 65536) 65536), .int .i64 (faS (cutS z * 65536) 65536)]

set_option maxHeartbeats 1000000 in
theorem box_any (x y z : Int) (w : World) :
    Calls Tryz.prog 202 #[.agg #[.int .i64 x, .int .i64 y, .int .i64 z]] w fun e w' => e = .returned (.agg (boxS x y z)) ∧ ∃ f, w' = ext w f := by
  go_enter Tryz.func202, Tryz.ntmps202
  go_wp2_with fail
  refine wp_region_free_named 10 3 46 #[.int .i64 0, .int .i64 0, .int .i64 0] (by kernel_rfl) (by kernel_rfl) rfl rfl rfl rfl (by intro a W; go_simp) ?_
  simp only [List.take_succ_cons, List.take_zero, List.drop_succ_cons, List.drop_zero]
  repeat (refine wpCalm_step (fun K hK => ?_); go_simp; first | (refine hK _ ?_; clear hK K) | (apply Exists.intro; refine ⟨fun _ => ?_, hK _ ?_⟩; (first | rfl | (go_at_call 259; exact calm_same (fof_any _ _))); clear hK K))
  refine wpCalm_nil ?_
  rintro w1 ⟨_t, hw⟩ w2 ⟨_t2, hw2⟩
  have hc1 := named_cell hw
  have hz1 := named_frozen hw
  have hh1 := named_heap hw
  haveI hi1 := named_in hw
  haveI hb1 := named_below (w := w) hw
  clear hw
  have hc2 := named_cell hw2
  have hz2 := named_frozen hw2
  have hh2 := named_heap hw2
  haveI hi2 := named_in hw2
  haveI hb2 := named_below (w := w) hw2
  clear hw2
  go_wp2_with fail
  refine wp_region_ext_tail 5 ?_ ?_ ?_
  · kernel_rfl
  · kernel_rfl
  simp only [List.take_succ_cons, List.take_zero, List.drop_succ_cons, List.drop_zero]
  repeat (go_big_quiet_step (first | (go_at_call 210; exact ext_call (add_any _ _ _ _ _ _ _))))
  refine wpQuiet_nil ?_
  rintro w3 ⟨_t, hw⟩
  have hc3 := named_cell hw
  have hz3 := named_frozen hw
  have hh3 := named_heap hw
  haveI hi3 := named_in hw
  haveI hb3 := named_below (w := w) hw
  clear hw
  go_wp2_with fail
  refine bodyPost_ret (by simp [results, Tryz.results202, go_sem, hc1, hc2, hc3]; try rfl) rfl ?_
  exact ⟨rfl, grown_of⟩

end Go.Proofs.YtnogfelfgclajaaGreatDoor
end

section
namespace Go.Proofs.YtnogfelfgclajaaGreatDoor
open Go.RowKit
attribute [local go_sem] ext_ext drew_ext ext_drew ext_cell ext_frozen in_lt in_le in_ne in_en in_ne1 in_en1 in_le1 in_ltn in_len in_nen in_enn size_le ite_max ite_min
set_option linter.unusedVariables false
set_option linter.unusedSimpArgs false
set_option maxRecDepth 1000000

/-- An engine's cells, without bodies. -/
def engCells (sm : Nat) : Array Value := #[.pointer (some ⟨sm, 0, none⟩), .pointer none, .pointer none, .pointer none, .pointer none, .pointer none, .pointer none, .pointer none, .pointer none, .pointer none, .pointer none, .pointer none, .pointer none, .pointer none, .pointer none, .pointer none, .pointer none]
theorem held1_none (x : Value) (w : World) : Calls Tryz.prog 204 #[.pointer none, x] w fun e w' => e = .returned (.bool false) ∧ ∃ f, w' = ext w f := by
  go_enter Tryz.func204, Tryz.ntmps204
  go_wp2_with fail
  refine wp_region_ext ?_ ?_ ?_
  · kernel_rfl
  · kernel_rfl
  repeat (go_big_quiet_step (first | fail))
  refine wpQuiet_nil ?_
  rintro w1 ⟨_t, hw⟩
  have hc1 := named_cell hw
  have hz1 := named_frozen hw
  have hh1 := named_heap hw
  haveI hi1 := named_in hw
  haveI hb1 := named_below (w := w) hw
  clear hw
  go_wp2_with fail
  go_ret
  exact ⟨rfl, grown_of⟩
set_option maxHeartbeats 2000000 in
theorem lifeix_none (en bb : Nat) (cs : Array Value) (w : World) (h : ∀ k, k < 16 → w.cell? ⟨en, 1 + k, none⟩ = some (.pointer none)) :
    Calls Tryz.prog 260 #[.slice (some ⟨en, 1, none⟩) 16 16, .func (.func 204) #[] #[.pointer (some ⟨bb, 0, none⟩)]] w fun e w' => e = .returned (.int .i64 (-1)) ∧ ∃ f, w' = ext w f := by
  have eg : ∀ args W, (callFunc 204 args).run Tryz.prog W = .ok (.enter 204 args) W := fun args W => by kernel_rfl
  have H := Lib.hid h
  haveI := in_of_cell (h 0 (by omega))
  clear h
  go_enter Tryz.func260, Tryz.ntmps260
  go_wp2_with fail
  go_loopw [5, 8] (fun _ s8 wr => ∃ k : Nat, k ≤ 16 ∧ s8 = .int .i64 (k : Int) ∧ ∃ f, wr = ext w f) (fun _ s8 _ => 16 - (intOf s8).toNat)
  case atStart => exact ⟨0, by omega, rfl, ⟨id, by unfold ext; split <;> rfl⟩⟩
  case round =>
    obtain ⟨k, hk, rfl, _, hw⟩ := hrel
    rename World => w1
    haveI hg1 := named_grown hw
    haveI hb1 := named_below (w := w) hw
    have hc1 := named_cell hw
    haveI hi1 := named_in hw
    clear hw
    by_cases hlt : k < 16
    · have d0 := H.out k hlt
      have HK := Lib.hid hlt
      have k1 : (k : Int) < 16 := by omega
      clear hlt hk
      go_wp2_with fail
      refine (held1_none _ _).mono ?_
      rintro e w2 ⟨rfl, _t, hw⟩
      haveI hb2_1 := named_below (w := w1) hw
      have hc2 := named_cell hw
      have hz2 := named_frozen hw
      have hh2 := named_heap hw
      haveI hi2 := named_in hw
      haveI hb2 := named_below (w := w) hw
      clear hw
      go_wp2_with fail
      go_roundw
      case rel => exact ⟨k + 1, by have := HK.out; omega, by go_num, grown_of⟩
      case measure => have := HK.out; simp [intOf]; omega
    · have k1 : ¬ (k : Int) < 16 := by omega
      clear hlt hk
      go_wp2_with fail
      go_ret
      exact ⟨rfl, grown_of⟩

/-- The engine's own block. -/
def EngAt (B : Nat) (w : World) (en sm : Nat) : Prop := w.heap[en]? = some (.cells (engCells sm) 69 (0, 0)) ∧ B ≤ en
theorem eng_none {B : Nat} {w : World} {en sm : Nat} (h : EngAt B w en sm) : w.cell? ⟨en, 0, none⟩ = some (.pointer (some ⟨sm, 0, none⟩)) ∧ ∀ k, k < 16 → w.cell? ⟨en, 1 + k, none⟩ = some (.pointer none) := by
  refine ⟨cell_of_block (i := 0) h.1 rfl, fun k hk => cell_of_block (i := 1 + k) h.1 ?_⟩
  rcases k with _ | _ | _ | _ | _ | _ | _ | _ | _ | _ | _ | _ | _ | _ | _ | _ | k
  all_goals first | rfl | omega
set_option maxHeartbeats 1000000 in
theorem contains_none (en bb : Nat) (w : World) (h : ∀ k, k < 16 → w.cell? ⟨en, 1 + k, none⟩ = some (.pointer none)) :
    Calls Tryz.prog 203 #[.slice (some ⟨en, 1, none⟩) 16 16, .func (.func 204) #[] #[.pointer (some ⟨bb, 0, none⟩)]] w fun e w' => e = .returned (.bool false) ∧ ∃ f, w' = ext w f := by
  have IX := Lib.hid (lifeix_none en bb #[] w h)
  clear h
  go_enter Tryz.func203, Tryz.ntmps203
  go_wp2_with fail
  refine (IX.out).mono ?_
  rintro e w1 ⟨rfl, _t, hw⟩
  have hc1 := named_cell hw
  have hz1 := named_frozen hw
  have hh1 := named_heap hw
  haveI hi1 := named_in hw
  haveI hb1 := named_below (w := w) hw
  clear hw
  go_wp2_with fail
  go_ret
  exact ⟨rfl, grown_of⟩
set_option maxHeartbeats 2000000 in
theorem held_none {B : Nat} {w : World} {en sm : Nat} (h : EngAt B w en sm) (x y z : Int) :
    Calls Tryz.prog 160 #[.pointer (some ⟨en, 0, none⟩), .agg #[.int .i64 x, .int .i64 y, .int .i64 z]] w fun e w' => e = .returned (.bool false) ∧ ∃ f, w' = ext w f := by
  have hmf : ∀ (fn : Fn) (first cap : Array Value) (w : World), (Instr.makeFunc fn first cap).run Tryz.prog w = .ok (.func fn first cap) w := fun _ _ _ _ => rfl
  haveI := in_of_block h.1
  have CO := Lib.hid (fun W bb (hW : Below w.heap.size w W) => contains_none en bb W (fun k hk => (hW.cell (p := ⟨en, 1 + k, none⟩) (lt_of_block h.1)).trans ((eng_none h).2 k hk)))
  clear h
  go_enter Tryz.func160, Tryz.ntmps160
  go_wp2_with fail
  refine (box_any x y z _).mono ?_
  rintro e w1 ⟨rfl, _t, hw⟩
  haveI hb1 := named_below (w := w) hw
  have hc1 := named_cell hw
  haveI hi1 := named_in hw
  clear hw
  unfold boxS
  go_wp2_with fail
  refine (CO.out _ _ (by exact grown_now)).mono ?_
  rintro e w2 ⟨rfl, _t, hw⟩
  haveI hb2_1 := named_below (w := w1) hw
  have hc2 := named_cell hw
  have hz2 := named_frozen hw
  have hh2 := named_heap hw
  haveI hi2 := named_in hw
  haveI hb2 := named_below (w := w) hw
  clear hw
  go_wp2_with fail
  go_ret
  exact ⟨rfl, grown_of⟩
/-- An engine's memory, without bodies. -/
structure EngOf (B : Nat) (w : World) (en sm qu mq wo t : Nat) (s lim bud : Int) (oc dr : Value) (e c : Nat) (G : Ps → List Int) (T : List (Ps × Bool)) : Prop where
  eng : EngAt B w en sm
  sim : SimAt B w sm qu wo bud oc dr
  wld : WorldOf B w wo t c
  tab : TabOf B w t s lim mq e G T
  que : QOf B w qu mq c
/-- A cell edited. -/
def EngEdit (B en sm qu mq wo t : Nat) (s lim bud : Int) (oc dr : Value) (e c : Nat) (G : Ps → List Int) (T : List (Ps × Bool)) (w : World) (en' : Ending) (w' : World) : Prop :=
  en' = .returned (.int .i64 0) ∧ (∃ T', EngOf B w' en sm qu mq wo t s lim bud oc dr e c G T' ∧ Same T T') ∧ Turn (EF B mq w) w w'
theorem ef_no {B mq : Nat} {w : World} {b : Nat} {c : Array Value} {T : TypeId} {fz : Nat × Nat} (hm : ∃ k, QMap w mq k) (h : w.heap[b]? = some (.cells c T fz)) (hT : T ∉ tyWorld ++ tyQueue) : ¬ EF B mq w b := by
  obtain ⟨k, hm⟩ := hm
  rintro (h1 | h1)
  · exact ty_no h hT h1
  · exact hm.cells h h1
theorem GoodB.any {b : Int} (h : GoodB b) : AnyB b := .inr h
set_option maxHeartbeats 2000000 in
theorem engedit_any {B : Nat} {w : World} {en sm qu mq wo t e c : Nat} {s lim bud : Int} {oc dr : Value} {G : Ps → List Int} {T : List (Ps × Bool)} (h : EngOf B w en sm qu mq wo t s lim bud oc dr e c G T) (hc : c ≤ 800)
    (x y z b : Int) (hx : Mid x) (hz : Mid z) (h0 : 0 ≤ y) (h1 : y ≤ 31) (hb : GoodB b) (he : e ≤ 14) (hh : ∃ c ∈ T, c.1 = (divS x 16, divS z 16)) (j : Nat) (hj : idxS x y z = (j : Int)) :
    Calls Tryz.prog 111 #[.pointer (some ⟨en, 0, none⟩), .agg #[.int .i64 x, .int .i64 y, .int .i64 z], .int .i64 b] w (EngEdit B en sm qu mq wo t s lim bud oc dr (e + 1) (c + 8) (setP G (divS x 16, divS z 16) j b) T w) := by
  have e0 := (eng_none h.eng).1
  haveI := in_of_cell e0
  have H := Lib.hid h
  have HE := Lib.hid (fun W (hW : Below w.heap.size w W) => held_none (⟨(hW.block en (lt_of_block h.eng.1)).trans h.eng.1, h.eng.2⟩ : EngAt B W en sm) x y z)
  have SO := Lib.hid (fun W => solid_any b hb.any W)
  have SE := Lib.hid (fun W (hW : Below w.heap.size w W) => simedit_any (⟨(hW.block sm (lt_of_block h.sim.blk)).trans h.sim.blk, h.sim.lo⟩ : SimAt B W sm qu wo bud oc dr) (h.wld.turn (turn_below (F := fun _ => False) hW) (fun _ _ _ _ _ _ => id)) (h.tab.grown hW) (h.que.grown hW) hc x y z b hx hz h0 h1 hb he hh j hj)
  clear h hc hh hj
  have fin : Hid (∀ (W w4 : World), Below w.heap.size w W → WorldOf B w4 wo t (c + 8) → QOf B w4 qu mq (c + 8) → (∃ T', TabOf B w4 t s lim mq (e + 1) (setP G (divS x 16, divS z 16) j b) T' ∧ Same T T') → Turn (EF B mq W) W w4 →
      (∃ T', EngOf B w4 en sm qu mq wo t s lim bud oc dr (e + 1) (c + 8) (setP G (divS x 16, divS z 16) j b) T' ∧ Same T T') ∧ Turn (EF B mq w) w w4) := Lib.hid (fun W w4 hW h1 h2 ⟨T', h3, h4⟩ hT => by
    obtain ⟨k, hk⟩ := H.out.que.qmap
    have hkW := hk.keep (hW.block mq hk.lt)
    have eW := (hW.block en (lt_of_block H.out.eng.1)).trans H.out.eng.1
    have sW := (hW.block sm (lt_of_block H.out.sim.blk)).trans H.out.sim.blk
    exact ⟨⟨T', ⟨⟨(hT.block en (lt_of_block eW) (ef_no ⟨k, hkW⟩ eW (by decide))).trans eW, H.out.eng.2⟩, ⟨(hT.block sm (lt_of_block sW) (ef_no ⟨k, hkW⟩ sW (by decide))).trans sW, H.out.sim.lo⟩, h1, h3, h2⟩, h4⟩, (turn_below (F := EF B mq w) hW).ef hT⟩)
  cases hsol : solB b
  · rw [hsol] at SO
    clear hsol
    go_enter Tryz.func111, Tryz.ntmps111
    go_wp2_with (go_at_call 159; refine (SO.out _).mono ?_; rintro e w1 ⟨rfl, rfl⟩)
    refine wp_region_ext_tail 6 ?_ ?_ ?_
    · kernel_rfl
    · kernel_rfl
    simp only [List.take_succ_cons, List.take_zero, List.drop_succ_cons, List.drop_zero]
    repeat (go_big_quiet_step (first | fail))
    refine wpQuiet_nil ?_
    rintro w2 ⟨_t, hw⟩
    have hc2 := named_cell hw
    have hz2 := named_frozen hw
    have hh2 := named_heap hw
    haveI hi2 := named_in hw
    haveI hb2 := named_below (w := w) hw
    clear hw
    have B2 := Lib.hid (grown_now (w := w) (W := w2))
    go_wp2_with fail
    refine (SE.out w2 B2.out).mono ?_
    rintro e3 w3 ⟨rfl, a1, a2, a3, a4⟩
    have F3 := Lib.hid (fin.out w2 w3 B2.out a1 a2 a3 a4)
    clear a1 a2 a3 a4
    go_wp2_with fail
    go_ret
    exact ⟨rfl, F3.out.1, F3.out.2⟩
  · rw [hsol] at SO
    clear hsol
    go_enter Tryz.func111, Tryz.ntmps111
    go_wp2_with (go_at_call 159; refine (SO.out _).mono ?_; rintro e w1 ⟨rfl, rfl⟩)
    refine (HE.out _ (by exact grown_now)).mono ?_
    rintro e w1 ⟨rfl, _t, hw⟩
    have hc1 := named_cell hw
    have hz1 := named_frozen hw
    have hh1 := named_heap hw
    haveI hi1 := named_in hw
    haveI hb1 := named_below (w := w) hw
    clear hw
    go_wp2_with fail
    refine wp_region_ext_tail 6 ?_ ?_ ?_
    · kernel_rfl
    · kernel_rfl
    simp only [List.take_succ_cons, List.take_zero, List.drop_succ_cons, List.drop_zero]
    repeat (go_big_quiet_step (first | fail))
    refine wpQuiet_nil ?_
    rintro w2 ⟨_t, hw⟩
    haveI hb2_1 := named_below (w := w1) hw
    have hc2 := named_cell hw
    have hz2 := named_frozen hw
    have hh2 := named_heap hw
    haveI hi2 := named_in hw
    haveI hb2 := named_below (w := w) hw
    clear hw
    have B2 := Lib.hid (grown_now (w := w) (W := w2))
    go_wp2_with fail
    refine (SE.out w2 B2.out).mono ?_
    rintro e3 w3 ⟨rfl, a1, a2, a3, a4⟩
    have F3 := Lib.hid (fin.out w2 w3 B2.out a1 a2 a3 a4)
    clear a1 a2 a3 a4
    go_wp2_with fail
    go_ret
    exact ⟨rfl, F3.out.1, F3.out.2⟩
#print axioms engedit_any
end Go.Proofs.YtnogfelfgclajaaGreatDoor
end

section
namespace Go.Proofs.YtnogfelfgclajaaGreatDoor
open Go.RowKit
attribute [local go_sem] ext_ext drew_ext ext_drew ext_cell ext_frozen in_lt in_le in_ne in_en in_ne1 in_en1 in_le1 in_ltn in_len in_nen in_enn size_le ite_max ite_min
set_option linter.unusedVariables false
set_option linter.unusedSimpArgs false

def besS (x z : Int) : Array Value := #[.int .i64 x, .int .i64 z, .int .i64 (x - 1), .int .i64 z, .int .i64 (x + 1), .int .i64 z, .int .i64 x, .int .i64 (z - 1), .int .i64 x, .int .i64 (z + 1)]
theorem bes_size : (Tryz.prog.info? 308).map (·.size) = some 10 := by kernel_rfl

theorem beside_any (x z : Int) (w : World) (x1 : -134217728 ≤ x) (x2 : x ≤ 134217728) (z1 : -134217728 ≤ z) (z2 : z ≤ 134217728) :
    Calls Tryz.prog 250 #[.agg #[.int .i64 x, .int .i64 z]] w fun e w' => e = .returned (.agg (besS x z)) ∧ ∃ f, w' = ext w f := by
  go_enter Tryz.func250, Tryz.ntmps250
  go_wp2
  go_returns
  exact ⟨rfl, grown_of⟩
end Go.Proofs.YtnogfelfgclajaaGreatDoor
end
