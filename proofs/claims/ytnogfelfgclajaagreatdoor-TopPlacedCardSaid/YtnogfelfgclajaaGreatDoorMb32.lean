/-
  A loop over a function whose own cells turn between two rounds: what the caller keeps lies below the call.
-/
import Derived.RangeFuncNested
import Derived.RangeFuncBox
section
namespace Go.Proofs.YtnogfelfgclajaaGreatDoor
open Go.RowKit
set_option linter.unusedVariables false

/-- What is said of the world below block B alone. -/
def Low {β : Type} (B : Nat) (J : β → World → Prop) : Prop := ∀ s W W', Below B W W' → J s W → J s W'
theorem Low.and {β : Type} {B : Nat} {J K : β → World → Prop} (h : Low B J) (k : Low B K) : Low B (fun s W => J s W ∧ K s W) := fun s W W' hb hs => ⟨h s W W' hb hs.1, k s W W' hb hs.2⟩
theorem low_below {β : Type} {n B : Nat} {w : World} (hn : n ≤ B) : Low B (fun (_ : β) W => Below n w W) := fun _ _ _ hb hs => hs.trans (hb.mono hn)
theorem low_pure {β : Type} (B : Nat) (p : β → Prop) : Low B (fun s (_ : World) => p s) := fun _ _ _ _ hs => hs
theorem low_block {β : Type} {B b : Nat} (h : b < B) (o : β → Obj) : Low B (fun s W => W.heap[b]? = some (o s)) := fun _ _ _ hb hs => (hb.block b h).trans hs
theorem below_put {B : Nat} (W : World) {l : Nat} (o : Obj) (hB : B ≤ l) : Below B W (W.putObj l o) :=
  ⟨rfl, rfl, rfl, by simp, fun k hk => World.putObj_heap_other (by omega)⟩
/-- An iterator whose own blocks turn: its caller's word of the blocks below the call abides. -/
def SeqLow {α : Type} (F : Fence) (n : Nat) (P : Program) (g : Nat) (lb : Array Value) (encs : α → Array Value) (Kp : World → World → Prop) (N : Nat) (w : World) : Prop :=
  ∀ (l : Nat) (J Jx : List α → World → Prop) (W : World), Below w.heap.size w W → Low W.heap.size J →
    (∀ pre x W1, J pre W1 → pre.length < N → YieldAt F (n - 1) P l (encs x) W1 fun e W' =>
      (e = .returned (.bool true) ∧ J (pre ++ [x]) W' ∧ Kp W1 W') ∨ (e = .returned (.bool false) ∧ Jx (pre ++ [x]) W')) →
    J [] W → CallsIn F n P g (#[.func (.yield l) #[] #[]] ++ lb) W fun e W' => (∃ v, e = .returned v) ∧ ((∃ ys, J ys W') ∨ (∃ pre, Jx pre W'))
variable {F : Fence} {n : Nat} {P : Program}
theorem wpIn_rangeFunc_low {α : Type} {g : Operand} {ps : Array Tmp} {assign body : Code} {Q : Exit → Act → World → Prop} {a : Act} {w : World}
    (hro : F.round = none) (h1 : 1 ≤ n) {gf : Nat} {lb : Array Value} (hg : a.eval g = .func (.func gf) #[] lb) (hF : F.fn gf) (eg : ∀ args w, (callFunc gf args).run P w = .ok (.enter gf args) w)
    {encs : α → Array Value} {Kp : World → World → Prop} {N : Nat} (hseq : SeqLow F (n - 1) P gf lb encs Kp N w)
    (hKt : ∀ {A B C : World}, Kp A B → Kp B C → Kp A C) (hKb : ∀ (W : World) (l : Nat) (o o' : Obj), w.heap.size ≤ l → W.heap[l]? = some o → o.isCells = false → o.isWalk = false → Kp W (W.putObj l o')) (hps : ∀ x, (encs x).size = ps.size)
    (I : List α → World → Prop) (Ix : Code → List α → World → Prop) (hI : Low w.heap.size I) (hIx : ∀ c, Low w.heap.size (Ix c)) (h0 : I [] w) (Ax : α → Act → World → Prop) (hAx : ∀ x a', OwnFrom w.heap.size (fun (_ : Unit) W => Ax x a' W))
    (hassign : ∀ (l : Nat) (pre : List α) (x : α) (W : World) (K : Act → World → Prop), I pre W → (∀ a' W', KeepsFrom w.heap.size W W' → Kp W W' → I pre W' → Ax x a' W' → K a' W') →
      assign.wpIn (F.inRound l) (n - 1 - 1) P (Exit.then K (fun _ _ _ => False)) { tmps := (ps.zip (encs x)).foldl (fun t (p, v) => t.setIfInBounds p v) a.tmps, defers := [] } W)
    (hbody : ∀ (l : Nat) (pre : List α) (x : α) (a' : Act) (W : World), I pre W → Ax x a' W → pre.length < N → body.wpIn (F.inRound l) (n - 1 - 1) P (ownPostG w.heap.size Kp I Ix (pre ++ [x]) W) a' W)
    (hdone : ∀ (D : Nat) (xs : List α) (W : World), w.heap.size ≤ D → I xs W → W.heap[D]? = some (.deferred (some [])) → Q .normal { a with defers := { target := .collected D, args := #[] } :: a.defers } W)
    (hstop : ∀ (D : Nat) (c : Code) (pre : List α) (W : World), w.heap.size ≤ D → Ix c pre W → W.heap[D]? = some (.deferred (some [])) → c.wpIn F n P Q { a with defers := { target := .collected D, args := #[] } :: a.defers } W) :
    (Code.rangeFunc g ps assign body).wpIn F n P Q a w := by
  refine wpIn_rangeFunc fun fn hfn => ?_
  rw [hro]
  -- the loop's record, the block of the rounds' deferred calls: c0, c1
  obtain ⟨c0, e0⟩ : ∃ c, w.heap.size = c := ⟨_, rfl⟩
  rw [e0] at hI hIx hKb hAx hassign hbody hdone hstop
  obtain ⟨R, hR⟩ : ∃ R : LoopState → Option Code → Loop, R = fun st pe => { state := st, pending := pe, fn, tmps := a.tmps, params := ps, assign, body, defers := c0 } := ⟨_, rfl⟩
  have put : ∀ {s : List α} {W : World} (o : Obj), I s W → I s (W.putObj (c0 + 1) o) := fun o hs => hI _ _ _ (below_put _ o (by omega)) hs
  have put0 : ∀ {c : Code} {s : List α} {W : World} (o : Obj), Ix c s W → Ix c s (W.putObj (c0 + 1) o) := fun o hs => hIx _ _ _ _ (below_put _ o (by omega)) hs
  obtain ⟨W1, hW1⟩ : ∃ W1, (w.alloc (.deferred (some []))).alloc (.loop (R .ready none)) = W1 := ⟨_, rfl⟩
  have z1 : W1.heap.size = c0 + 2 := by rw [← hW1, World.size_alloc, World.size_alloc, e0]
  have r1 : W1.heap[c0 + 1]? = some (.loop (R .ready none)) := by
    have := World.alloc_heap_new (w.alloc (.deferred (some []))) (.loop (R .ready none))
    rw [World.size_alloc, e0] at this
    rw [← hW1]
    exact this
  have d1 : W1.heap[c0]? = some (.deferred (some [])) := by
    rw [← hW1, Below.heap_alloc _ _ _ (by simp; omega), ← e0]
    exact World.alloc_heap_new w _
  have b1 : Below w.heap.size w W1 := by
    rw [← hW1]
    exact ((Below.refl _ w).alloc (Nat.le_refl _) _).alloc (by simp) _
  have i1 : I [] W1 := hI _ _ _ (b1.mono (by omega)) h0
  refine ⟨c0 + 1, [{ target := .collected c0, args := #[] }], W1, { target := .fn (.func gf) lb, args := #[.func (.yield (c0 + 1)) #[] #[]] }, W1, gf, #[.func (.yield (c0 + 1)) #[] #[]] ++ lb, W1, ?_, ?_, ?_, ?_, fun _ => h1, ?_⟩
  · rw [← hW1, hR, ← e0]; exact run_enterLoop_outer _ _ _ _ _
  · simp only [resolve, hg]
    simp [go_sem]
  · intro f' hf'
    simp [Target.leads] at hf'
    subst hf'
    exact hF
  · simp [invoke, go_sem, eg]
  refine (hseq (c0 + 1) (fun pre W => I pre W ∧ W.heap[c0 + 1]? = some (.loop (R .ready none)) ∧ W.heap[c0]? = some (.deferred (some [])))
    (fun pre W => ∃ c, Ix c pre W ∧ W.heap[c0 + 1]? = some (.loop (R .done (some c))) ∧ W.heap[c0]? = some (.deferred (some [])))
    W1 b1 (fun s A B hb hs => ⟨hI _ _ _ (hb.mono (by omega)) hs.1, (hb.block _ (by omega)).trans hs.2.1, (hb.block _ (by omega)).trans hs.2.2⟩) ?_ ⟨i1, r1, d1⟩).mono ?_
  · rintro pre x W ⟨hi, hl, hk⟩ hlen
    have hy := run_yield (P := P) (args := encs x) hl (by rw [hR]; exact hps x)
    rw [hR] at hy
    refine ⟨fn, _, assign, body, hy, roundIn_of_wpIn hfn (hassign _ pre x W _ hi ?_)⟩
    clear hy
    intro a' X hkX hpX hiX hax
    have lX := hkX.same _ _ (by omega) hl rfl
    have kX := hkX.same _ _ (Nat.le_refl _) hk rfl
    have tX : c0 + 1 < X.heap.size := (Array.getElem?_eq_some_iff.1 lX).1
    obtain ⟨Y, hY⟩ : ∃ Y, X.putObj (c0 + 1) (.loop { R .ready none with state := .busy }) = Y := ⟨_, rfl⟩
    have lY : Y.heap[c0 + 1]? = some (.loop { R .ready none with state := .busy }) := by rw [← hY]; exact World.putObj_heap_same tX
    have kY : Y.heap[c0]? = some (.deferred (some [])) := by rw [← hY]; exact (World.putObj_heap_other (by omega)).trans kX
    have pY : Kp X Y := by rw [← hY]; exact hKb _ _ _ _ (by omega) lX rfl rfl
    refine ⟨_, run_beginRound lX (by rw [hR]), ?_⟩
    rw [hY]
    refine wpIn_mono (hbody _ pre x a' Y (by rw [← hY]; exact put _ hiX) (by rw [← hY]; exact (hAx x a').putObj (s := ()) _ hax (by omega) lX rfl) hlen) ?_
    -- how a round ends
    have fin : ∀ (jump : Option Code) (Z : World), KeepsFrom c0 Y Z → Z.heap[c0 + 1]? = some (.loop { R .ready none with state := .busy }) ∧
        (Instr.endRound (c0 + 1) jump).run P Z = .ok (.bool jump.isNone) (Z.putObj (c0 + 1) (.loop (R (if jump.isNone then .ready else .done) jump))) ∧
        (Z.putObj (c0 + 1) (.loop (R (if jump.isNone then .ready else .done) jump))).heap[c0 + 1]? = some (.loop (R (if jump.isNone then .ready else .done) jump)) ∧
        (Z.putObj (c0 + 1) (.loop (R (if jump.isNone then .ready else .done) jump))).heap[c0]? = some (.deferred (some [])) := fun jump Z hZ => by
      have lZ := hZ.same _ _ (by omega) lY rfl
      have kZ := hZ.same _ _ (Nat.le_refl _) kY rfl
      have := run_endRound (P := P) jump lZ
      rw [hR] at this ⊢
      rw [hR] at lZ
      exact ⟨lZ, this, World.putObj_heap_same (Array.getElem?_eq_some_iff.1 lZ).1, (World.putObj_heap_other (by omega)).trans kZ⟩
    rintro e a3 Z hp
    cases e with
    | normal =>
      obtain ⟨q1, q2, q3⟩ := hp
      obtain ⟨f1, f2, f3, f4⟩ := fin none Z q1
      exact ⟨_, _, f2, .inl ⟨rfl, ⟨put _ q3, f3, f4⟩, hKt hpX (hKt (hKt pY q2) (hKb _ _ _ _ (by omega) f1 rfl rfl))⟩⟩
    | ret =>
      obtain ⟨f1, f2, f3, f4⟩ := fin (some .ret) Z hp.1
      exact ⟨_, _, f2, .inr ⟨rfl, .ret, put0 _ hp.2, f3, f4⟩⟩
    | exit id =>
      obtain ⟨f1, f2, f3, f4⟩ := fin (some (.exit id)) Z hp.1
      exact ⟨_, _, f2, .inr ⟨rfl, .exit id, put0 _ hp.2, f3, f4⟩⟩
    | goto t =>
      obtain ⟨f1, f2, f3, f4⟩ := fin (some (.goto t)) Z hp.1
      exact ⟨_, _, f2, .inr ⟨rfl, .goto t, put0 _ hp.2, f3, f4⟩⟩
    | panic ch => exact hp.elim
    | outgrown => exact hp.elim
  · rintro e W2 ⟨⟨v, rfl⟩, (⟨xs, hi, hl, hk⟩ | ⟨pre, c, hi, hl, hk⟩)⟩
    · have := run_endLoop (P := P) hl (by rw [hR]; simp)
      rw [hR] at this
      exact ⟨none, _, this, hdone _ xs _ (Nat.le_refl _) (put _ hi) ((World.putObj_heap_other (by omega)).trans hk)⟩
    · have := run_endLoop (P := P) hl (by rw [hR]; simp)
      rw [hR] at this
      exact ⟨some c, _, this, hstop _ c pre _ (Nat.le_refl _) (put0 _ hi) ((World.putObj_heap_other (by omega)).trans hk)⟩
#print axioms wpIn_rangeFunc_low
end Go.Proofs.YtnogfelfgclajaaGreatDoor
end
