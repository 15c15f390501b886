/-
  No Go in sight. A world that has grown ('ext w f': below the heap's size of w it is as w was), and a law for a region that draws its order: what its operations up to the tail yield is the same in every world grown out of w.
  No Go in sight. Slices of the call's own: an append that needs a new array; a literal; their cells, read.
  No Go in sight. A world in which, of the blocks that were there, none has turned but those of F.
  No Go in sight. Arrays as they lie in a variable of the call's own: stored at one stroke, read at one stroke, in grown worlds.
  No Go in sight. Worlds behind a call that turns some blocks: what the walk reads of them; blocks of some types.
-/
import Derived.WalkKit
import Derived.BigQuiet
import Derived.StillTail
import Derived.Handy
import Derived.Lib.Hide
import Derived.Laws.AppendOwn
import Derived.Deep.AppendLies
import Derived.OwnWalk
import Derived.Deep.MidRow
import Derived.Deep.WholeRow
import Derived.OneCell
section
namespace Go.Proofs.YtnogfelfgclajaaGreatDoor
open Go.RowKit

open Classical in
/-- The world w, grown as f says (if f lets stand what was there; else w). -/
noncomputable def ext (w : World) (f : World → World) : World := if Below w.heap.size w (f w) then f w else w

noncomputable def comp (f g : World → World) : World → World := fun w => ext (ext w f) g
noncomputable def drewOf (f : World → World) : World → World := fun w => (ext w f).drew
noncomputable def ofDrew (f : World → World) : World → World := fun w => ext w.drew f

theorem ext_below (w : World) (f : World → World) : Below w.heap.size w (ext w f) := by
  unfold ext
  split
  · assumption
  · exact Below.refl _ _

theorem ext_of {w W : World} (h : Below w.heap.size w W) : ∃ f, W = ext w f := ⟨fun _ => W, by unfold ext; rw [if_pos h]⟩

theorem ext_is {w : World} {f : World → World} (h : Below w.heap.size w (f w)) : f w = ext w f := by unfold ext; rw [if_pos h]

theorem ext_ext (w : World) (f g : World → World) : ext (ext w f) g = ext w (comp f g) :=
  ext_is (f := comp f g) ((ext_below w f).trans ((ext_below (ext w f) g).mono (ext_below w f).size))

theorem drew_ext (w : World) (f : World → World) : (ext w f).drew = ext w (drewOf f) := ext_is (f := drewOf f) (ext_below w f).drew

theorem ext_drew (w : World) (f : World → World) : ext w.drew f = ext w (ofDrew f) :=
  ext_is (f := ofDrew f) ((Below.refl _ w).drew.trans (ext_below w.drew f))

theorem ext_cell (w : World) (f : World → World) (a : Addr) (h : a.block < w.heap.size) : (ext w f).cell? a = w.cell? a := (ext_below w f).cell h
theorem ext_frozen (w : World) (f : World → World) (a : Addr) (h : a.block < w.heap.size) : (ext w f).frozen? a = w.frozen? a := (ext_below w f).frozen h
theorem ext_size (w : World) (f : World → World) : w.heap.size ≤ (ext w f).heap.size := (ext_below w f).size

/-! Block b is there in the world w: told by instances, so that the walk's own simp finds it however deep the world's term is. -/
def In (b : Nat) (w : World) : Prop := b < w.heap.size
section
variable {b : Nat} {w : World}
instance in_alloc [h : Nonempty (In b w)] (o : Obj) : Nonempty (In b (w.alloc o)) := ⟨by obtain ⟨h⟩ := h; unfold In at *; simp; omega⟩
instance in_ext [h : Nonempty (In b w)] (f : World → World) : Nonempty (In b (ext w f)) := ⟨by obtain ⟨h⟩ := h; exact Nat.lt_of_lt_of_le h (ext_size w f)⟩
instance in_set [h : Nonempty (In b w)] (a : Addr) (v : Value) : Nonempty (In b (w.setCell a v)) := ⟨by obtain ⟨h⟩ := h; unfold In at *; simpa using h⟩
instance in_drew [h : Nonempty (In b w)] : Nonempty (In b w.drew) := h
instance in_new (w : World) (o : Obj) : Nonempty (In w.heap.size (w.alloc o)) := ⟨by unfold In; simp⟩
instance in_new1 (w : World) (o o1 : Obj) : Nonempty (In (w.heap.size + 1) ((w.alloc o).alloc o1)) := ⟨by unfold In; simp⟩
instance in_new2 (w : World) (o o1 o2 : Obj) : Nonempty (In (w.heap.size + 1 + 1) (((w.alloc o).alloc o1).alloc o2)) := ⟨by unfold In; simp⟩
instance in_new3 (w : World) (o o1 o2 o3 : Obj) : Nonempty (In (w.heap.size + 1 + 1 + 1) ((((w.alloc o).alloc o1).alloc o2).alloc o3)) := ⟨by unfold In; simp⟩
instance in_new4 (w : World) (o o1 o2 o3 o4 : Obj) : Nonempty (In (w.heap.size + 1 + 1 + 1 + 1) (((((w.alloc o).alloc o1).alloc o2).alloc o3).alloc o4)) := ⟨by unfold In; simp⟩
theorem in_lt [h : Nonempty (In b w)] : (b < w.heap.size) = True := eq_true (by obtain ⟨h⟩ := h; exact h)
theorem in_le [h : Nonempty (In b w)] : (b ≤ w.heap.size) = True := eq_true (by obtain ⟨h⟩ := h; exact Nat.le_of_lt h)
theorem in_ne [h : Nonempty (In b w)] : (b = w.heap.size) = False := eq_false (by obtain ⟨h⟩ := h; exact Nat.ne_of_lt h)
theorem in_en [h : Nonempty (In b w)] : (w.heap.size = b) = False := eq_false (by obtain ⟨h⟩ := h; exact Nat.ne_of_gt h)
theorem in_ne1 [h : Nonempty (In b w)] : (b = w.heap.size + 1) = False := eq_false (by obtain ⟨h⟩ := h; unfold In at h; omega)
theorem in_en1 [h : Nonempty (In b w)] : (w.heap.size + 1 = b) = False := eq_false (by obtain ⟨h⟩ := h; unfold In at h; omega)
theorem in_le1 [h : Nonempty (In b w)] : (b ≤ w.heap.size + 1) = True := eq_true (by obtain ⟨h⟩ := h; unfold In at h; omega)
theorem in_ltn [h : Nonempty (In b w)] (n : Nat) : (b < w.heap.size + n) = True := eq_true (by obtain ⟨h⟩ := h; unfold In at h; omega)
theorem in_len [h : Nonempty (In b w)] (n : Nat) : (b ≤ w.heap.size + n) = True := eq_true (by obtain ⟨h⟩ := h; unfold In at h; omega)
theorem in_nen [h : Nonempty (In b w)] (n : Nat) : (b = w.heap.size + n) = False := eq_false (by obtain ⟨h⟩ := h; unfold In at h; omega)
theorem in_enn [h : Nonempty (In b w)] (n : Nat) : (w.heap.size + n = b) = False := eq_false (by obtain ⟨h⟩ := h; unfold In at h; omega)
/-- An older world's size, in a world grown out of it. -/
theorem size_le (w : World) (f : World → World) : (w.heap.size ≤ (ext w f).heap.size) = True := eq_true (ext_size w f)
end

theorem below_ext {B : Nat} {a w : World} (h : Below B a w) (hB : B ≤ w.heap.size) (f : World → World) : Below B a (ext w f) := h.trans ((ext_below w f).mono hB)

/-! That a world has grown out of another: told by instances, too. -/
section
variable {w W : World}
instance g_refl (w : World) : Nonempty (Below w.heap.size w w) := ⟨Below.refl _ _⟩
instance g_ext [h : Nonempty (Below w.heap.size w W)] (f : World → World) : Nonempty (Below w.heap.size w (ext W f)) := ⟨by obtain ⟨h⟩ := h; exact below_ext h h.size f⟩
instance g_alloc [h : Nonempty (Below w.heap.size w W)] (o : Obj) : Nonempty (Below w.heap.size w (W.alloc o)) := ⟨by obtain ⟨h⟩ := h; exact h.alloc h.size o⟩
instance g_drew [h : Nonempty (Below w.heap.size w W)] : Nonempty (Below w.heap.size w W.drew) := ⟨by obtain ⟨h⟩ := h; exact h.drew⟩
instance le_size [h : Nonempty (Below w.heap.size w W)] : Nonempty (w.heap.size ≤ W.heap.size) := ⟨by obtain ⟨h⟩ := h; exact h.size⟩
instance le_next {n : Nat} [h : Nonempty (w.heap.size ≤ n)] : Nonempty (w.heap.size ≤ n + 1) := ⟨by obtain ⟨h⟩ := h; omega⟩
instance g_set {b o : Nat} [h : Nonempty (Below w.heap.size w W)] [hb : Nonempty (w.heap.size ≤ b)] (v : Value) : Nonempty (Below w.heap.size w (W.setCell ⟨b, o, none⟩ v)) :=
  ⟨by obtain ⟨h⟩ := h; obtain ⟨hb⟩ := hb; exact h.setCell hb v⟩
theorem grown_now [h : Nonempty (Below w.heap.size w W)] : Below w.heap.size w W := by obtain ⟨h⟩ := h; exact h
theorem grown_of [h : Nonempty (Below w.heap.size w W)] : ∃ f, W = ext w f := by obtain ⟨h⟩ := h; exact ext_of h
end

section
variable {P : Program} {w : World}

/-- The class of the worlds grown out of w. -/
def Out (w : World) : World → Prop := fun w' => ∃ f, w' = ext w f

theorem out_drawn (w : World) : Out w { w with drawn := w.drawn + 1 } := ext_of (Below.refl _ w).drew

/-- A callee's contract, met in a grown world. -/
theorem ext_call {f : FuncId} {args : Array Value} {t : World → World} {v : Value} (h : Calls P f args (ext w t) fun e w' => e = .returned v ∧ ∃ g, w' = ext (ext w t) g) :
    Calls P f args (ext w t) fun e w' => e = .returned v ∧ ∃ g, w' = ext w g :=
  h.mono fun _ _ ⟨he, g, hg⟩ => ⟨he, _, hg.trans (ext_ext w t g)⟩

/-- .. of a callee that leaves the world as it was. -/
theorem ext_same {f : FuncId} {args : Array Value} {t : World → World} {v : Value} (h : Calls P f args (ext w t) fun e w' => e = .returned v ∧ ext w t = w') :
    Calls P f args (ext w t) fun e w' => e = .returned v ∧ ∃ g, w' = ext w g :=
  h.mono fun _ _ ⟨he, hg⟩ => ⟨he, _, hg.symm⟩

/-- A region that draws its order, each of whose operations yields the same in every grown world. -/
theorem wp_region_ext {id : Nat} {Q : Exit → Act → World → Prop} {a : Act} {l : List Oper} (hm : P.follows .mixedOrders = true) (hB : Region.lexB .any l.toArray = true)
    (h : wpQuiet P l.toArray (fun w' => ∃ f, w' = ext w f) (fun a' => ∀ w', (∃ f, w' = ext w f) → Q .normal a' w') l a) : (Code.region id l.toArray true).wp P Q a w :=
  wp_region_quiet (C := fun w' => ∃ f, w' = ext w f) hm hB (out_drawn w) (by simpa using h)

/-- .. from a world that is a grown one already. -/
theorem wp_region_ext_on {id : Nat} {Q : Exit → Act → World → Prop} {a : Act} {l : List Oper} {g : World → World} (hm : P.follows .mixedOrders = true) (hB : Region.lexB .any l.toArray = true)
    (h : wpQuiet P l.toArray (fun w' => ∃ f, w' = ext w f) (fun a' => ∀ w', (∃ f, w' = ext w f) → Q .normal a' w') l a) : (Code.region id l.toArray true).wp P Q a (ext w g) :=
  wp_region_quiet (C := fun w' => ∃ f, w' = ext w f) hm hB (ext_of (ext_below w g).drew) (by simpa using h)

/-! A tail that comes behind all the rest, in its order. -/
section
variable {ops : Array Oper} {md : Region.Mode} {C : World → Prop}

/-- k operations more come up, all ahead of the tail (number n on); then L. -/
def upTo (P : Program) (md : Region.Mode) (ops : Array Oper) (C : World → Prop) (n : Nat) (L : Array Bool → Act → Prop) : Nat → Array Bool → Act → Prop
  | 0, listed, a => L listed a
  | k + 1, listed, a => Region.ready md ops listed ≠ [] ∧ ∀ i ∈ Region.ready md ops listed, i < n ∧ qOp P ops C i (upTo P md ops C n L k (listed.setIfInBounds i true)) a

theorem any_of_upTo {n m : Nat} {L : Array Bool → Act → Prop} {Q : Exit → Act → World → Prop} (hL : ∀ listed a, L listed a → ∀ w, C w → wpAny P md ops Q m listed a w) :
    ∀ (k : Nat) (listed : Array Bool) (a : Act), upTo P md ops C n L k listed a → ∀ w, C w → wpAny P md ops Q (k + m) listed a w := by
  intro k
  induction k with
  | zero => intro listed a h w hw; rw [Nat.zero_add]; exact hL _ _ h w hw
  | succ k ih =>
    intro listed a h w hw
    rw [Nat.add_right_comm]
    exact ⟨fun h0 => absurd h0 h.1, fun i hi => wpOp_of_qOp hw (fun a' w' hw' h' => ih _ a' h' w' hw') (h.2 i hi).2⟩

theorem upTo_first {n i : Nat} {oi : Oper} {v : Value} {L : Array Bool → Act → Prop} (hi : ops[i]? = some oi) (hsel : ∀ (j : Nat) (o : Oper) cs b, ops[j]? = some o → o.op ≠ .select cs b)
    (hs : Region.sinkB md ops n = true) (hc : Region.chainB md ops n = true) (hn : n < ops.size) (hin : i < n) (hdone : ∀ listed a, L listed a → ∀ j ∈ Region.ready md ops listed, n ≤ j) :
    ∀ (k : Nat) (listed : Array Bool) (a : Act), HeadInv md ops n listed →
      (∀ j oj, ops[j]? = some oj → j ≠ i → listed.getD j true = false → (∀ e ∈ oj.after, Region.binds md e = true → e.on ≠ i) → oi.apart ops oj = true) →
      i ∈ Region.ready md ops listed → YieldsIn P ops C oi v a →
      upTo P md ops C n L k (listed.setIfInBounds i true) (a.put oi.dst v) → upTo P md ops C n L (k + 1) listed a := by
  intro k
  induction k with
  | zero =>
    intro listed a inv _ hr hy H
    have hun := (mem_ready.1 hr).1
    refine ⟨fun h => (by rw [h] at hr; cases hr), fun j hj => ?_⟩
    have hjn : j < n := (Nat.lt_or_ge j n).elim id fun h => absurd hj (tail_waits hs hc hn inv _ i rfl hin hun j h)
    refine ⟨hjn, ?_⟩
    by_cases hji : j = i
    · subst hji
      exact hy.qOp hi H
    · have := hdone _ _ H j (ready_mono hj hji)
      omega
  | succ k ih =>
    intro listed a inv hfree hr hy H
    have hun := (mem_ready.1 hr).1
    refine ⟨fun h => (by rw [h] at hr; cases hr), fun j hj => ?_⟩
    have hjn : j < n := (Nat.lt_or_ge j n).elim id fun h => absurd hj (tail_waits hs hc hn inv _ i rfl hin hun j h)
    refine ⟨hjn, ?_⟩
    by_cases hji : j = i
    · subst hji
      exact hy.qOp hi H
    · obtain ⟨hjun, oj, hoj, hall⟩ := mem_ready.1 hj
      have hnot : ∀ e ∈ oj.after, Region.binds md e = true → e.on ≠ i := fun e he hb heq => by
        have h1 := hall e he hb
        rw [heq, getD_both hun] at h1
        cases h1
      have hfree' : ∀ m om, ops[m]? = some om → m ≠ i → (listed.setIfInBounds j true).getD m true = false →
          (∀ e ∈ om.after, Region.binds md e = true → e.on ≠ i) → oi.apart ops om = true := fun m om hm hmi hun' hno => by
        refine hfree m om hm hmi ?_ hno
        by_cases hjm : j = m
        · subst hjm; exact hjun
        · rw [getD_set_ne true hjm] at hun'; exact hun'
      refine qOp_mono (fun a' h3 => ih _ a' (inv.set hj hjn) hfree' (ready_mono hr (Ne.symm hji)) h3.1 ?_)
        (qOp_put hoj (hfree j oj hoj hji hjun hnot) (fun cs b => hsel i oi cs b hi) (fun cs b => hsel j oj cs b hoj) hy (H.2 j (ready_mono hj hji)).2)
      rw [Array.setIfInBounds_comm _ _ hji]
      exact h3.2

theorem upTo_lex {n g : Nat} {T : Act → Prop} (hsel : Region.noSelect ops = true) (hs : Region.sinkB md ops n = true) (hc : Region.chainB md ops n = true) (hn : n < ops.size) :
    ∀ (l : List Oper) (k : Nat) (listed : Array Bool) (a : Act), (∀ j, j < l.length → l[j]? = ops[k + j]?) → k + l.length = n → HeadInv md ops n listed →
    Region.lexHead md ops g l.length k listed = true → wpQuiet P ops C T l a →
    upTo P md ops C n (fun listed' a' => Region.seqB md ops g n listed' = true ∧ T a') l.length listed a := by
  intro l
  induction l with
  | nil =>
    intro k listed a _ hk _ hB h
    obtain rfl : k = n := by simpa using hk
    exact ⟨by simpa [Region.lexHead] using hB, h⟩
  | cons o l ih =>
    intro k listed a hl hk inv hB h
    have h0 : ops[k]? = some o := by simpa using (hl 0 (by simp)).symm
    simp only [List.length_cons, Region.lexHead, Bool.and_eq_true] at hB
    simp only [List.length_cons] at hk
    obtain ⟨⟨hr, hf⟩, hB'⟩ := hB
    have hr' : k ∈ Region.ready md ops listed := by simpa using hr
    obtain ⟨v, hy, hK⟩ := yieldsIn_of_qOp (C := C) (K := wpQuiet P ops C T l) h0 (by unfold qOp; simp only [h0]; exact h)
    exact upTo_first h0 (Region.noSelect_spec hsel) hs hc hn (by omega) (fun _ _ hL => seqB_ready hL.1) l.length listed a inv (Region.free_spec h0 hf) hr' hy
      (ih (k + 1) _ _ (fun j hj => by have := hl (j + 1) (by simp; omega); simpa [Nat.add_assoc, Nat.add_comm 1 j] using this) (by omega) (inv.set hr' (by omega)) hB' hK)
end

/-- A region that draws its order: the operations ahead of number n yield the same in every grown world; those from n on come behind them, one by one. -/
theorem wp_region_tail_of {id : Nat} {Q : Exit → Act → World → Prop} {a : Act} {l : List Oper} {W : World} {C' : World → Prop} (n : Nat) (hO : C' { W with drawn := W.drawn + 1 }) (hm : P.follows .mixedOrders = true) (hB : Region.lexTailB .any l.toArray n = true)
    (h : wpQuiet P l.toArray C' (fun a' => ∀ w', C' w' → wpList P l.toArray Q (l.drop n) a' w') (l.take n) a) : (Code.region id l.toArray true).wp P Q a W := by
  simp only [Region.lexTailB, Bool.and_eq_true, decide_eq_true_eq] at hB
  obtain ⟨⟨⟨⟨hsel, hn⟩, hs⟩, hc⟩, hlex⟩ := hB
  have hn' : n < l.length := by simpa using hn
  have htl : (l.take n).length = n := by simp; omega
  have hdl : (l.drop n).length = l.toArray.size - n := by simp
  have inv0 : HeadInv .any l.toArray n (Array.replicate l.toArray.size false) :=
    ⟨by simp, fun j oj _ hl => (by rw [getD_replicate_false] at hl; cases hl), fun t _ ht => getD_in (by simpa using ht) (getD_replicate_false _ _)⟩
  have H := upTo_lex (md := .any) (g := l.toArray.size - n) hsel hs hc hn (l.take n) 0 _ a (fun j hj => by
      have hj' : j < n := by rw [htl] at hj; exact hj
      simp [hj']) (by simpa using htl) inv0 (by rw [htl]; exact hlex) h
  refine wp_region_any hm ?_
  have := any_of_upTo (Q := Q) (m := l.toArray.size - n) (fun listed a' hL w' hw' => by
    have := wpAny_of_seq (md := .any) (Q' := Q) (l.drop n) n listed a' w' (fun j => by simp [List.getElem?_drop]) (by rw [hdl]; exact hL.1) (hL.2 w' hw')
    rwa [hdl] at this) _ _ _ H _ hO
  rw [htl, show n + (l.toArray.size - n) = l.toArray.size by omega] at this
  exact this
theorem wp_region_ext_tail {id : Nat} {Q : Exit → Act → World → Prop} {a : Act} {l : List Oper} (n : Nat) (hm : P.follows .mixedOrders = true) (hB : Region.lexTailB .any l.toArray n = true)
    (h : wpQuiet P l.toArray (fun w' => ∃ f, w' = ext w f) (fun a' => ∀ w', (∃ f, w' = ext w f) → wpList P l.toArray Q (l.drop n) a' w') (l.take n) a) : (Code.region id l.toArray true).wp P Q a w :=
  wp_region_tail_of n (out_drawn w) hm hB h
theorem wp_region_ext_tail_on {id : Nat} {Q : Exit → Act → World → Prop} {a : Act} {l : List Oper} {g : World → World} (n : Nat) (hm : P.follows .mixedOrders = true) (hB : Region.lexTailB .any l.toArray n = true)
    (h : wpQuiet P l.toArray (fun w' => ∃ f, w' = ext w f) (fun a' => ∀ w', (∃ f, w' = ext w f) → wpList P l.toArray Q (l.drop n) a' w') (l.take n) a) : (Code.region id l.toArray true).wp P Q a (ext w g) :=
  wp_region_tail_of n (ext_of (ext_below w g).drew) hm hB h
end

/-! max and min of two ints, as the walk writes them -/
theorem ite_max (a b : Int) : (if a < b then b else a) = max a b := by omega
theorem ite_min (a b : Int) : (if a < b then a else b) = min a b := by omega

theorem ret_int {a b : Int} (h : a = b) : Ending.returned (.int .i64 a) = .returned (.int .i64 b) := by rw [h]
theorem ret_ib {a b : Int} {x : Bool} (h : a = b) : Ending.returned (.tuple #[.int .i64 a, .bool x]) = .returned (.tuple #[.int .i64 b, .bool x]) := by rw [h]
theorem ret_bool {a b : Bool} (h : a = b) : Ending.returned (.bool a) = .returned (.bool b) := by rw [h]

end Go.Proofs.YtnogfelfgclajaaGreatDoor
end

section
namespace Go.Proofs.YtnogfelfgclajaaGreatDoor
set_option linter.unusedVariables false
open Go.RowKit

section
variable {P : Program} {w W : World}

theorem owns_ext {base : Nat} {e : TypeId} {size : Nat} {v : Value} {n : Nat} {xs : List Value} (h : w.ownsRow base e size v n xs) (f : World → World) : (ext w f).ownsRow base e size v n xs := by
  refine ⟨h.1, ?_⟩
  rcases h.2 with hn | ⟨g, cap, cur, rfl, hb, hgg, rest⟩
  · exact .inl hn
  · refine .inr ⟨g, cap, cur, rfl, hb, ?_, rest⟩
    rw [(ext_below w f).block g (Array.getElem?_eq_some_iff.1 hgg).1]
    exact hgg
theorem owns_grown {base : Nat} {e : TypeId} {size : Nat} {v : Value} {n : Nat} {xs : List Value} (h : w.ownsRow base e size v n xs) (hW : ∃ f, W = ext w f) : W.ownsRow base e size v n xs := by
  obtain ⟨f, rfl⟩ := hW
  exact owns_ext h f
theorem owns_base {base base' : Nat} {e : TypeId} {size : Nat} {v : Value} {n : Nat} {xs : List Value} (h : w.ownsRow base e size v n xs) (hb : base' ≤ base) : w.ownsRow base' e size v n xs := by
  refine ⟨h.1, ?_⟩
  rcases h.2 with hn | ⟨g, cap, cur, rfl, hbg, rest⟩
  · exact .inl hn
  · exact .inr ⟨g, cap, cur, rfl, by omega, rest⟩
theorem owns_form {base : Nat} {e : TypeId} {size : Nat} {v : Value} {n : Nat} {xs : List Value} (h : w.ownsRow base e size v n xs) : ∃ og cap, v = .slice og n cap := by
  rcases h.2 with ⟨rfl, rfl⟩ | ⟨g, cap, cur, rfl, _⟩
  · exact ⟨none, 0, rfl⟩
  · exact ⟨_, _, rfl⟩
/-- A slice that holds something: where its cells lie. -/
theorem owns_some {base : Nat} {e : TypeId} {size : Nat} {v : Value} {n : Nat} {xs : List Value} (h : w.ownsRow base e size v n xs) (hn : 0 < n) :
    ∃ g cap, v = .slice (some ⟨g, 0, none⟩) n cap ∧ base ≤ g ∧ n ≤ cap ∧ cap ≤ maxLen ∧ ∀ j u, xs[j]? = some u → w.cell? ⟨g, j, none⟩ = some u := by
  rcases h.2 with ⟨_, h0⟩ | ⟨g, cap, cur, rfl, hb, hgg, h1, h2, h3, h4⟩
  · omega
  · refine ⟨g, cap, rfl, hb, h1, h2, fun j u hu => ?_⟩
    have := h.cells (g := g) rfl j u hu
    rcases Nat.eq_zero_or_pos j with rfl | h0
    · simpa [Addr.add] using this
    · have h0' : j ≠ 0 := by omega
      simpa [Addr.add, h0'] using this
theorem owns_nil {base : Nat} {e : TypeId} {size : Nat} {v : Value} {xs : List Value} (h : w.ownsRow base e size v 0 xs) : xs = [] := by
  have := h.1
  simp at this
  exact this

/-- Part of a row, cell by cell. -/
theorem row_holds {b o : Nat} {cs : Array Value} {xs r : List Value} (hcell : ∀ j u, cs[j]? = some u → w.cell? ⟨b, j, none⟩ = some u) (hx : cs.toList.drop o = xs ++ r) :
    ∀ j u, xs[j]? = some u → w.cell? ((⟨b, o, none⟩ : Addr).add j) = some u := by
  intro j u hu
  have h1 : (xs ++ r)[j]? = some u := by
    rw [List.getElem?_append_left (List.getElem?_eq_some_iff.1 hu).1]
    exact hu
  rw [← hx, List.getElem?_drop] at h1
  have h2 := hcell (o + j) u (by simpa using h1)
  rcases Nat.eq_zero_or_pos j with rfl | h0
  · simpa [Addr.add] using h2
  · have h0' : j ≠ 0 := by omega
    simpa [Addr.add, h0'] using h2

theorem grownBy_ext {row : Option Nat} (hg : w.grownBy W row) (h : row = none) : ∃ f, W = ext w f := by
  subst h
  exact ext_of ((Below.refl _ w).grown hg (Nat.le_refl _) (fun k e => by cases e))

/-- The call's results: a slice of the call's own. -/
def MadeRow (e : TypeId) (size n : Nat) (xs : List Value) (w : World) (o : Ending) (w' : World) : Prop := ∃ v, o = .returned v ∧ w'.ownsRow w.heap.size e size v n xs ∧ ∃ f, w' = ext w f

/-- An append that needs a new array. -/
theorem wpList_append_fresh {ops : Array Oper} {rest : List Oper} {o : Oper} {a : Act} {Q : Exit → Act → World → Prop} (hgd : o.guard = none) (s x : Operand) (t : TypeId)
    (ho : o.op = .call { callee := .builtin .append, args := #[s, x], argTypes := #[t, t] })
    (base : Nat) (e : TypeId) (i : TypeInfo) (z : Value) (size bytes : Nat) (ht : P.underlying t = some (.slice e)) (hi : P.info? e = some i) (hz : i.zero = some z)
    (hsize : i.size = size) (hby : i.bytes = bytes) (hzs : z.cells.size = size)
    (A : Addr) (n cap : Nat) (xs : List Value) (hs : a.eval s = .slice (some A) n cap) (hxl : xs.length = n * size) (holds : ∀ j u, xs[j]? = some u → w.cell? (A.add j) = some u)
    (ad : Addr) (m c : Nat) (news : List Value) (hx : a.eval x = .slice (some ad) m c) (hl : news.length = m * size) (hnews : ∀ j u, news[j]? = some u → w.cell? (ad.add j) = some u)
    (hgrow : cap < n + m) (h63 : n + m ≤ maxLen) (hbytes : (n + m) * bytes ≤ 140737488355328) (hbase : base ≤ w.heap.size)
    (h : ∀ v' w', w'.ownsRow base e size v' (n + m) (xs ++ news) → (∃ f, w' = ext w f) → wpList P ops Q rest (a.put o.dst v') w') : wpList P ops Q (o :: rest) a w := by
  subst hsize
  subst hby
  have hr := run_append_grow (P := P) (w := w) t o.type e i z ht hi hz A n cap xs hxl holds ad m c news hl hnews hgrow (by simp only [maxLen] at h63; omega) (growslice_fits hgrow hbytes)
  refine wpList_plain hgd fun K hK => ?_
  unfold Oper.wp execOp
  simp only [ho, resolve, invoke, builtin, Sem.run_bind, Sem.run_pure, Result.andThen_ok, List.map_toArray, List.map_cons, List.map_nil, hs, hx, hr]
  refine hK _ _ (h _ _ ?_ ?_)
  · have hge := grownCap_ge w (n + m) cap e
    have hcm : grownCap w (n + m) cap e ≤ maxLen := grownCap_le_maxLen w (n + m) cap e h63
    refine ⟨by rw [List.length_append, hxl, hl, Nat.add_mul], .inr ⟨w.heap.size, _, _, rfl, hbase, heap_alloc_new w.drew _, hge, hcm, ?_, ?_⟩⟩
    · simp only [Array.size_append, List.size_toArray, size_zeroCells, hzs, hxl, hl, ← Nat.add_mul]
      congr 1
      omega
    · have hlen : (xs ++ news).length = (n + m) * i.size := by rw [List.length_append, hxl, hl, Nat.add_mul]
      simp only [Array.toList_append, List.append_assoc]
      rw [← List.append_assoc, ← hlen]
      exact List.take_left
  · exact ext_of (((Below.refl _ w).drew).alloc (Nat.le_refl _) _)
end
end Go.Proofs.YtnogfelfgclajaaGreatDoor
end

section
namespace Go.Proofs.YtnogfelfgclajaaGreatDoor
open Go.RowKit

structure Turn (F : Nat → Prop) (w w' : World) : Prop where
  os : w'.os = w.os
  tape : w'.tape = w.tape
  output : w'.output = w.output
  size : w.heap.size ≤ w'.heap.size
  block : ∀ k, k < w.heap.size → ¬ F k → w'.heap[k]? = w.heap[k]?

theorem Turn.refl (F : Nat → Prop) (w : World) : Turn F w w := ⟨rfl, rfl, rfl, Nat.le_refl _, fun _ _ _ => rfl⟩
theorem Turn.trans {F G : Nat → Prop} {a b c : World} (h : Turn F a b) (k : Turn G b c) (hG : ∀ i, i < a.heap.size → G i → F i) : Turn F a c :=
  ⟨k.os.trans h.os, k.tape.trans h.tape, k.output.trans h.output, Nat.le_trans h.size k.size, fun i hi hF => (k.block i (Nat.lt_of_lt_of_le hi h.size) (fun hg => hF (hG i hi hg))).trans (h.block i hi hF)⟩
theorem Turn.mono {F G : Nat → Prop} {a b : World} (h : Turn F a b) (hG : ∀ i, i < a.heap.size → F i → G i) : Turn G a b :=
  ⟨h.os, h.tape, h.output, h.size, fun i hi hn => h.block i hi (fun hf => hn (hG i hi hf))⟩
theorem Turn.below {B : Nat} {F : Nat → Prop} {a b : World} (h : Turn F a b) (hF : ∀ i, i < a.heap.size → F i → B ≤ i) (hB : B ≤ a.heap.size) : Below B a b :=
  ⟨h.os, h.tape, h.output, h.size, fun i hi => h.block i (by omega) (fun hf => by have := hF i (by omega) hf; omega)⟩
theorem turn_below {F : Nat → Prop} {a b : World} (h : Below a.heap.size a b) : Turn F a b := ⟨h.os, h.tape, h.output, h.size, fun i hi _ => h.block i hi⟩
theorem turn_by {a b : World} {row : Option Nat} (h : a.grownBy b row) : Turn (fun k => row = some k) a b := ⟨h.os, h.tape, h.output, h.size, fun i hi hn => h.block i hi (fun e => hn e.symm)⟩
theorem Turn.by {a b : World} {row : Option Nat} (h : Turn (fun k => row = some k) a b) : a.grownBy b row := ⟨h.os, h.tape, h.output, h.size, fun i hi hn => h.block i hi (fun e => hn e.symm)⟩
theorem Turn.cell {F : Nat → Prop} {w w' : World} (h : Turn F w w') {p : Addr} (hp : p.block < w.heap.size) (hF : ¬ F p.block) : w'.cell? p = w.cell? p := World.cell?_of_block (w := w) (h.block p.block hp hF)
theorem Turn.frozen {F : Nat → Prop} {w w' : World} (h : Turn F w w') {p : Addr} (hp : p.block < w.heap.size) (hF : ¬ F p.block) : w'.frozen? p = w.frozen? p := World.frozen?_of_block (w := w) (h.block p.block hp hF)
theorem turn_set {F : Nat → Prop} (w : World) (a : Addr) (u : Value) (h : F a.block) : Turn F w (w.setCell a u) :=
  ⟨rfl, rfl, rfl, by simp [World.setCell], fun k _ hn => Below.heap_setCell _ _ _ _ (fun e => hn (e ▸ h))⟩
theorem turn_alloc (F : Nat → Prop) (w : World) (o : Obj) : Turn F w (w.alloc o) := turn_below ((Below.refl _ w).alloc (Nat.le_refl _) o)
theorem turn_drew (F : Nat → Prop) (w : World) : Turn F w w.drew := turn_below (Below.refl _ w).drew

/-- A push's, an append's: what was owned, and what may have turned. -/
theorem turn_append {w w1 w2 : World} {o : Obj} {row : Option Nat} (h1 : Below w.heap.size w w1) (hg : (w1.alloc o).grownBy w2 row) : Turn (fun k => row = some k) w w2 :=
  ((turn_below h1).trans (turn_alloc _ w1 o) (fun _ _ h => h)).trans (turn_by hg) (fun _ _ h => h)

#print axioms turn_append
end Go.Proofs.YtnogfelfgclajaaGreatDoor
end

section
namespace Go.Proofs.YtnogfelfgclajaaGreatDoor
set_option linter.unusedVariables false
open Go.RowKit

section
variable {P : Program} {w W : World} {b o : Nat}

theorem below_setCells {B : Nat} {a : World} (hB : B ≤ b) : ∀ (vs : List Value) (o : Nat) (w : World), Below B a w → Below B a (w.setCells b o vs)
  | [], _, _, h => h
  | v :: r, o, w, h => below_setCells hB r (o + 1) _ (h.setCell (p := ⟨b, o, none⟩) hB v)

theorem size_setCells : ∀ (vs : List Value) (o : Nat) (w : World), (w.setCells b o vs).heap.size = w.heap.size
  | [], _, _ => rfl
  | v :: r, o, w => (size_setCells r (o + 1) _).trans (World.size_setCell ..)

theorem frozen_setCells (x : Addr) : ∀ (vs : List Value) (o : Nat) (w : World), (w.setCells b o vs).frozen? x = w.frozen? x
  | [], _, _ => rfl
  | v :: r, o, w => (frozen_setCells x r (o + 1) _).trans (World.frozen?_setCell ..)

instance g_setCells [h : Nonempty (Below w.heap.size w W)] [hb : Nonempty (w.heap.size ≤ b)] (vs : List Value) : Nonempty (Below w.heap.size w (W.setCells b o vs)) :=
  ⟨by obtain ⟨h⟩ := h; obtain ⟨hb⟩ := hb; exact below_setCells hb vs o W h⟩
instance in_setCells {n : Nat} [h : Nonempty (In n w)] (vs : List Value) : Nonempty (In n (w.setCells b o vs)) := ⟨by obtain ⟨h⟩ := h; unfold In at *; rw [size_setCells]; exact h⟩
instance in_size (w : World) (b o : Nat) (vs : List Value) [h : Nonempty (In b w)] : Nonempty (In b (w.setCells b o vs)) := in_setCells vs

/-- Another block's cell. -/
theorem cell_setCells_far {n i : Nat} (h : n ≠ b) (vs : List Value) : (w.setCells b o vs).cell? ⟨n, i, none⟩ = w.cell? ⟨n, i, none⟩ :=
  World.cell?_setCells_out b vs o w ⟨n, i, none⟩ (fun e => absurd e h)

theorem heap_ext (f : World → World) [h : Nonempty (In b w)] : (ext w f).heap[b]? = w.heap[b]? := by obtain ⟨h⟩ := h; exact (ext_below w f).block b h

theorem heap_alloc_in (o' : Obj) [h : Nonempty (In b w)] : (w.alloc o').heap[b]? = w.heap[b]? := by obtain ⟨h⟩ := h; exact Below.heap_alloc w o' b h
theorem heap_alloc_at (w : World) (o' : Obj) {n : Nat} (hn : n = w.heap.size) : (w.alloc o').heap[n]? = some o' := by subst hn; exact heap_alloc_new w o'

/-- Cells written one behind the other into a row. -/
def putAt (cs : Array Value) : Nat → List Value → Array Value
  | _, [] => cs
  | o, v :: r => putAt (cs.setIfInBounds o v) (o + 1) r
theorem heap_setCells {T : TypeId} : ∀ (vs : List Value) (o : Nat) (w : World) (cs : Array Value), w.heap[b]? = some (.cells cs T (0, 0)) → (w.setCells b o vs).heap[b]? = some (.cells (putAt cs o vs) T (0, 0))
  | [], _, _, _, h => h
  | v :: r, o, w, cs, h => heap_setCells r (o + 1) _ _ (heap_setCell_same w b o cs T v h)
theorem heap_setCells_far {k : Nat} (h : k ≠ b) : ∀ (vs : List Value) (o : Nat) (w : World), (w.setCells b o vs).heap[k]? = w.heap[k]?
  | [], _, _ => rfl
  | v :: r, o, w => (heap_setCells_far h r (o + 1) _).trans (heap_setCell_other w ⟨b, o, none⟩ k v h)

theorem there_at {c : Array Value} {T : TypeId} (h : w.heap[b]? = some (.cells c T (0, 0))) {o n : Nat} (hn : o + n ≤ c.size) : w.there b o n := fun j hj => by
  have : o + j < c.size := by omega
  simp [World.cell?, World.frozen?, h, this]

theorem there_of {c : Array Value} {T : TypeId} (h : w.heap[b]? = some (.cells c T (0, 0))) : w.there b 0 c.size := fun j hj => by
  simp [World.cell?, World.frozen?, h, hj]

theorem there_ext (f : World → World) {n : Nat} (h : w.there b o n) [hb : Nonempty (In b w)] : (ext w f).there b o n := fun j hj => by
  obtain ⟨hb⟩ := hb
  obtain ⟨h1, h2⟩ := h j hj
  exact ⟨by rw [ext_cell w f ⟨b, o + j, none⟩ hb]; exact h1, by rw [ext_frozen w f ⟨b, o + j, none⟩ hb]; exact h2⟩

theorem there_new (w : World) (c : Array Value) (T : TypeId) {n g : Nat} (hg : g = w.heap.size) (hn : n = c.size) : (w.alloc (.cells c T)).there g 0 n := by
  subst hg hn
  exact there_of (heap_alloc_new w _)

/-! A grown world under a name of its own -/
theorem named_cell {w' W : World} {f : World → World} (h : w' = ext W f) : ∀ (b o : Nat) [Nonempty (In b W)], w'.cell? ⟨b, o, none⟩ = W.cell? ⟨b, o, none⟩ := fun b o hb => by
  subst h; obtain ⟨hb⟩ := hb; exact ext_cell W f ⟨b, o, none⟩ hb
theorem named_frozen {w' W : World} {f : World → World} (h : w' = ext W f) : ∀ (b o : Nat) [Nonempty (In b W)], w'.frozen? ⟨b, o, none⟩ = W.frozen? ⟨b, o, none⟩ := fun b o hb => by
  subst h; obtain ⟨hb⟩ := hb; exact ext_frozen W f ⟨b, o, none⟩ hb
theorem named_heap {w' W : World} {f : World → World} (h : w' = ext W f) : ∀ (b : Nat) [Nonempty (In b W)], w'.heap[b]? = W.heap[b]? := fun b hb => by
  subst h; obtain ⟨hb⟩ := hb; exact (ext_below W f).block b hb
theorem named_in {w' W : World} {f : World → World} (h : w' = ext W f) : ∀ (b : Nat) [Nonempty (In b W)], Nonempty (In b w') := fun b hb => by
  subst h; exact in_ext f
theorem named_below {w w' W : World} {f : World → World} (h : w' = ext W f) [hb : Nonempty (Below w.heap.size w W)] : Nonempty (Below w.heap.size w w') := by
  subst h; exact g_ext f

/-- An array stored into the variable that was just made. -/
theorem wpList_store_new {ops : Array Oper} {rest : List Oper} {op : Oper} {a : Act} {Q : Exit → Act → World → Prop} (hgd : op.guard = none) (ty : TypeId) (x y : Operand) (ho : op.op = .store ty x y)
    (g : Nat) (hg : g = w.heap.size) (c c' : Array Value) (hx : a.eval x = .pointer (some ⟨g, 0, none⟩)) (hy : a.eval y = .agg c') (hi : (P.info? ty).map (·.size) = some c'.size) (hc : c.size = c'.size) (h1 : c'.all (·.oneCell') = true) (hdst : op.dst = none)
    (h : wpList P ops Q rest a (w.alloc (.cells c' ty))) : wpList P ops Q (op :: rest) a (w.alloc (.cells c ty)) := by
  subst hg
  refine wpList_plain hgd fun K hK => ?_
  unfold Oper.wp execOp
  simp only [ho, hx, hy]
  rw [Sem.run_bind, run_storeAt_new w ty c c' hi hc h1]
  show K (a.put op.dst undef) _
  rw [hdst]
  exact hK _ _ h

/-- An array read at one stroke, in a region that draws its order. -/
theorem wpQuiet_load_row {ops : Array Oper} {C : World → Prop} {Q : Act → Prop} {a : Act} {op : Oper} {rest : List Oper} (hgd : op.guard = none) (ty : TypeId) (x : Operand) (ho : op.op = .load ty x) (cs : Array Value) (d : TypeDesc)
    (hx : a.eval x = .pointer (some ⟨b, o, none⟩)) (hc : ∀ w', C w' → w'.rangeAt b o cs.toList) (hu : P.underlying ty = some d) (hd : d.isRow = true) (hi : (P.info? ty).map (·.size) = some cs.size)
    (h : wpQuiet P ops C Q rest (a.put op.dst (.agg cs))) : wpQuiet P ops C Q (op :: rest) a := by
  refine wpQuiet_step fun K hK => ?_
  rw [if_pos (by simp [Region.wanted, hgd])]
  refine ⟨.agg cs, fun w' hw => ?_, hK _ h⟩
  have hl := run_loadAt_mid (P := P) w' b o ty cs.toList d (hc w' hw) hu hd (by simpa using hi)
  unfold Oper.quietAt execOp
  simp only [ho, hx, Sem.run_bind, hl, Result.andThen_ok, Sem.run_pure, Oper.quietUpon, Array.toArray_toList, and_self]

theorem range_block {c : Array Value} {T : TypeId} {fr : Nat × Nat} (h : w.heap[b]? = some (.cells c T fr)) : w.rangeAt b 0 c.toList := fun j v hv => by
  rw [cell_of_row w b (0 + j) c T fr h]
  simpa using hv

/-- The cells of an array, read at once. -/
def cellsAt (w : World) (b o : Nat) (cs : List Value) : Prop := w.rangeAt b o cs
theorem cellsAt.ext {cs : List Value} (h : cellsAt w b o cs) (f : World → World) [hb : Nonempty (In b w)] : cellsAt (ext w f) b o cs := fun j v hv => by
  obtain ⟨hb⟩ := hb
  rw [ext_cell w f ⟨b, o + j, none⟩ hb]
  exact h j v hv

theorem results_mid {fn : Func} {p : Tmp} {ty : TypeId} {d : TypeDesc} (h : fn.results = #[.cell p ty]) {tmps : Array Value} (cs : List Value) (hc : w.rangeAt b o cs)
    (hu : P.underlying ty = some d) (hd : d.isRow = true) (hi : (P.info? ty).map (·.size) = some cs.length) (hp : tmps.getD p undef = .pointer (some ⟨b, o, none⟩)) : (results fn tmps).run P w = .ok (.agg cs.toArray) w := by
  have hp' : tmps[p]?.getD undef = .pointer (some ⟨b, o, none⟩) := by simpa using hp
  simp [results, h, hp', asAddr, run_loadVar_mid (P := P) w b o ty cs d hc hu hd hi]

/-- An array stored as the function's last deed: what it hands back. -/
theorem post_stored {fn : Func} {p : Tmp} {ty : TypeId} {d : TypeDesc} {R : Ending → World → Prop} {a : Act} (cs : List Value) (h : fn.results = #[.cell p ty])
    (hu : P.underlying ty = some d) (hd : d.isRow = true) (hi : (P.info? ty).map (·.size) = some cs.length) (hp : a.tmps.getD p undef = .pointer (some ⟨b, 0, none⟩)) (hdf : a.defers = [])
    (ht : W.there b 0 cs.length) (hR : R (.returned (.agg cs.toArray)) (W.setCells b 0 cs)) : bodyPost P fn R .ret a (W.setCells b 0 cs) :=
  bodyPost_ret (results_mid (w := W.setCells b 0 cs) h cs (World.rangeAt_setCells_same W b 0 cs ht) hu hd hi hp) hdf hR
end
end Go.Proofs.YtnogfelfgclajaaGreatDoor
end

section
namespace Go.Proofs.YtnogfelfgclajaaGreatDoor
open Go.RowKit
set_option linter.unusedVariables false

section
variable {F G : Nat → Prop} {w W w1 : World}
theorem turn_cell (h : Turn F W w1) : ∀ (b o : Nat) [Nonempty (In b W)], ¬ F b → w1.cell? ⟨b, o, none⟩ = W.cell? ⟨b, o, none⟩ := fun b o hb hF => by
  obtain ⟨hb⟩ := hb; exact h.cell hb hF
theorem turn_frozen (h : Turn F W w1) : ∀ (b o : Nat) [Nonempty (In b W)], ¬ F b → w1.frozen? ⟨b, o, none⟩ = W.frozen? ⟨b, o, none⟩ := fun b o hb hF => by
  obtain ⟨hb⟩ := hb; exact h.frozen hb hF
theorem turn_heap (h : Turn F W w1) : ∀ (b : Nat) [Nonempty (In b W)], ¬ F b → w1.heap[b]? = W.heap[b]? := fun b hb hF => by
  obtain ⟨hb⟩ := hb; exact h.block b hb hF
theorem turn_in (h : Turn F W w1) : ∀ (b : Nat) [Nonempty (In b W)], Nonempty (In b w1) := fun b hb => by
  obtain ⟨hb⟩ := hb; exact ⟨Nat.lt_of_lt_of_le hb h.size⟩
theorem turn_ext (F : Nat → Prop) {f : World → World} (h : w1 = ext W f) : Turn F W w1 := by subst h; exact turn_below (ext_below W f)
theorem turn_le (h : Turn F W w1) [hw : Nonempty (w.heap.size ≤ W.heap.size)] : Nonempty (w.heap.size ≤ w1.heap.size) := ⟨by obtain ⟨hw⟩ := hw; exact Nat.le_trans hw h.size⟩
/-- The world w, turned on and on (of the blocks that were there those of F alone have turned). -/
theorem turn_named (h : Turn F W w1) [hw : Nonempty (Turn F w W)] : Nonempty (Turn F w w1) := ⟨by obtain ⟨hw⟩ := hw; exact hw.trans h (fun _ _ h => h)⟩
theorem turn_now [h : Nonempty (Turn F w W)] : Turn F w W := by obtain ⟨h⟩ := h; exact h
instance tn_refl (F : Nat → Prop) (w : World) : Nonempty (Turn F w w) := ⟨Turn.refl F w⟩
instance tn_ext [h : Nonempty (Turn F w W)] (f : World → World) : Nonempty (Turn F w (ext W f)) := ⟨by obtain ⟨h⟩ := h; exact h.trans (turn_below (ext_below W f)) (fun _ _ h => h)⟩
instance tn_alloc [h : Nonempty (Turn F w W)] (o : Obj) : Nonempty (Turn F w (W.alloc o)) := ⟨by obtain ⟨h⟩ := h; exact h.trans (turn_alloc F W o) (fun _ _ h => h)⟩
instance tn_drew [h : Nonempty (Turn F w W)] : Nonempty (Turn F w W.drew) := ⟨by obtain ⟨h⟩ := h; exact h.trans (turn_drew F W) (fun _ _ h => h)⟩
theorem Turn.setNew (h : Turn F w W) {a : Addr} (hb : w.heap.size ≤ a.block) (v : Value) : Turn F w (W.setCell a v) :=
  ⟨h.os, h.tape, h.output, by simpa using h.size, fun k hk hF => (Below.heap_setCell _ _ _ _ (by omega)).trans (h.block k hk hF)⟩
theorem Turn.setIn (h : Turn F w W) {a : Addr} (hb : F a.block) (v : Value) : Turn F w (W.setCell a v) :=
  ⟨h.os, h.tape, h.output, by simpa using h.size, fun k hk hF => (Below.heap_setCell _ _ _ _ (fun e => hF (by rw [e]; exact hb))).trans (h.block k hk hF)⟩
instance tn_set {b o : Nat} [h : Nonempty (Turn F w W)] [hb : Nonempty (w.heap.size ≤ b)] (v : Value) : Nonempty (Turn F w (W.setCell ⟨b, o, none⟩ v)) :=
  ⟨by obtain ⟨h⟩ := h; obtain ⟨hb⟩ := hb; exact h.setNew hb v⟩
instance le_refl_size (w : World) : Nonempty (w.heap.size ≤ w.heap.size) := ⟨Nat.le_refl _⟩
instance le_ext_size [h : Nonempty (w.heap.size ≤ W.heap.size)] (f : World → World) : Nonempty (w.heap.size ≤ (ext W f).heap.size) := ⟨by obtain ⟨h⟩ := h; exact Nat.le_trans h (ext_size W f)⟩
instance le_alloc_size [h : Nonempty (w.heap.size ≤ W.heap.size)] (o : Obj) : Nonempty (w.heap.size ≤ (W.alloc o).heap.size) := ⟨by obtain ⟨h⟩ := h; simp; omega⟩
instance le_set_size [h : Nonempty (w.heap.size ≤ W.heap.size)] (a : Addr) (v : Value) : Nonempty (w.heap.size ≤ (W.setCell a v).heap.size) := ⟨by obtain ⟨h⟩ := h; simpa using h⟩
theorem le_now {n m : Nat} [h : Nonempty (n ≤ m)] : n ≤ m := by obtain ⟨h⟩ := h; exact h

theorem Turn.owns (h : Turn F w W) {base : Nat} {e : TypeId} {size : Nat} {v : Value} {n : Nat} {xs : List Value} (ho : w.ownsRow base e size v n xs) (hF : ∀ g, v.ownBlock = some g → ¬ F g) : W.ownsRow base e size v n xs := by
  refine ⟨ho.1, ?_⟩
  rcases ho.2 with hn | ⟨g, cap, cur, rfl, hb, hgg, rest⟩
  · exact .inl hn
  · refine .inr ⟨g, cap, cur, rfl, hb, ?_, rest⟩
    rw [h.block g (Array.getElem?_eq_some_iff.1 hgg).1 (hF g rfl)]
    exact hgg

/-! Cells of a block that is known whole -/
theorem cell_of_block {b i : Nat} {cs : Array Value} {T : TypeId} {fz : Nat × Nat} {v : Value} (h : w.heap[b]? = some (.cells cs T fz)) (hv : cs[i]? = some v) : w.cell? ⟨b, i, none⟩ = some v := by
  simp [World.cell?, h, hv]
theorem free_of_block {b : Nat} {cs : Array Value} {T : TypeId} (i : Nat) (h : w.heap[b]? = some (.cells cs T (0, 0))) : w.frozen? ⟨b, i, none⟩ = false := by
  simp [World.frozen?, h]
theorem in_of_block {b : Nat} {o : Obj} (h : w.heap[b]? = some o) : Nonempty (In b w) := ⟨lt_of_block h⟩
theorem block_set {b i : Nat} {cs : Array Value} {T : TypeId} {fz : Nat × Nat} (h : w.heap[b]? = some (.cells cs T fz)) (v : Value) (hi : i < cs.size) : (w.setCell ⟨b, i, none⟩ v).heap[b]? = some (.cells (cs.setIfInBounds i v) T fz) := by
  have hb := lt_of_block h
  simp only [World.setCell, Array.getElem?_modify]
  rw [if_pos trivial, h]
  rfl
theorem block_set_far {b : Nat} {a : Addr} (v : Value) (h : b ≠ a.block) : (w.setCell a v).heap[b]? = w.heap[b]? := Below.heap_setCell _ _ _ _ h

/-! Blocks of some types, from block B on -/
def Ty (B : Nat) (TS : List TypeId) (w : World) (k : Nat) : Prop := B ≤ k ∧ ∃ c T fz, w.heap[k]? = some (.cells c T fz) ∧ T ∈ TS
theorem ty_no {B : Nat} {TS : List TypeId} {b : Nat} {c : Array Value} {T : TypeId} {fz : Nat × Nat} (h : w.heap[b]? = some (.cells c T fz)) (hT : T ∉ TS) : ¬ Ty B TS w b := by
  rintro ⟨_, c', T', fz', h', hT'⟩
  rw [h] at h'
  injection h' with h'
  injection h' with _ h2
  exact hT (h2 ▸ hT')
theorem ty_map {B : Nat} {TS : List TypeId} {b : Nat} {es : Array MapEntry} {c : Nat} (h : w.heap[b]? = some (.map es c)) : ¬ Ty B TS w b := by
  rintro ⟨_, c', T', fz', h', hT'⟩
  rw [h] at h'
  injection h' with h'
  cases h'
theorem ty_yes {B : Nat} {TS : List TypeId} {b : Nat} {c : Array Value} {T : TypeId} {fz : Nat × Nat} (hB : B ≤ b) (h : w.heap[b]? = some (.cells c T fz)) (hT : T ∈ TS) : Ty B TS w b := ⟨hB, c, T, fz, h, hT⟩
theorem Turn.ty {B : Nat} {TS : List TypeId} {a b c : World} (h : Turn (Ty B TS a) a b) (k : Turn (Ty B TS b) b c) : Turn (Ty B TS a) a c :=
  h.trans k (fun i hi hb => by
    by_cases ha : Ty B TS a i
    · exact ha
    · obtain ⟨h1, c', T, fz, h2, h3⟩ := hb
      exact ⟨h1, c', T, fz, (h.block i hi ha).symm.trans h2, h3⟩)
theorem Turn.tyMono {B : Nat} {TS TS' : List TypeId} {a b : World} (h : Turn (Ty B TS a) a b) (hs : ∀ T ∈ TS, T ∈ TS') : Turn (Ty B TS' a) a b :=
  h.mono (fun i hi ⟨h1, c, T, fz, h2, h3⟩ => ⟨h1, c, T, fz, h2, hs T h3⟩)
theorem Turn.tyBelow {B : Nat} {TS : List TypeId} {a b : World} (h : Turn (Ty B TS a) a b) (hB : B ≤ a.heap.size) : Below B a b := h.below (fun i _ hi => hi.1) hB
end
end Go.Proofs.YtnogfelfgclajaaGreatDoor
end
