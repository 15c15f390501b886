/-
  No Go in sight. Arrays as they lie in a variable of the call's own: stored at one stroke, read at one stroke, in grown worlds.
-/
import Derived.Test.YtgnlechegenjpaaExt
import Derived.Deep.MidRow
import Derived.Deep.WholeRow
namespace Go.Proofs.Ytgnlechegenjpaa
set_option linter.unusedVariables false
open Go.RowKit

section
variable {P : Program} {w W : World} {b o : Nat}

theorem below_setCells {B : Nat} {a : World} (hB : B ≤ b) : ∀ (vs : List Value) (o : Nat) (w : World), Below B a w → Below B a (w.setCells b o vs)
  | [], _, _, h => h
  | v :: r, o, w, h => below_setCells hB r (o + 1) _ (h.setCell (p := ⟨b, o, none⟩) hB v)

theorem size_setCells : ∀ (vs : List Value) (o : Nat) (w : World), (w.setCells b o vs).heap.size = w.heap.size
  | [], _, _ => rfl
  | v :: r, o, w => (size_setCells r (o + 1) _).trans (World.size_setCell ..)

theorem frozen_setCells (x : Addr) : ∀ (vs : List Value) (o : Nat) (w : World), (w.setCells b o vs).frozen? x = w.frozen? x
  | [], _, _ => rfl
  | v :: r, o, w => (frozen_setCells x r (o + 1) _).trans (World.frozen?_setCell ..)

instance g_setCells [h : Nonempty (Below w.heap.size w W)] [hb : Nonempty (w.heap.size ≤ b)] (vs : List Value) : Nonempty (Below w.heap.size w (W.setCells b o vs)) :=
  ⟨by obtain ⟨h⟩ := h; obtain ⟨hb⟩ := hb; exact below_setCells hb vs o W h⟩
instance in_setCells {n : Nat} [h : Nonempty (In n w)] (vs : List Value) : Nonempty (In n (w.setCells b o vs)) := ⟨by obtain ⟨h⟩ := h; unfold In at *; rw [size_setCells]; exact h⟩
instance in_size (w : World) (b o : Nat) (vs : List Value) [h : Nonempty (In b w)] : Nonempty (In b (w.setCells b o vs)) := in_setCells vs

/-- Another block's cell. -/
theorem cell_setCells_far {n i : Nat} (h : n ≠ b) (vs : List Value) : (w.setCells b o vs).cell? ⟨n, i, none⟩ = w.cell? ⟨n, i, none⟩ :=
  World.cell?_setCells_out b vs o w ⟨n, i, none⟩ (fun e => absurd e h)

theorem heap_ext (f : World → World) [h : Nonempty (In b w)] : (ext w f).heap[b]? = w.heap[b]? := by obtain ⟨h⟩ := h; exact (ext_below w f).block b h

theorem heap_alloc_in (o' : Obj) [h : Nonempty (In b w)] : (w.alloc o').heap[b]? = w.heap[b]? := by obtain ⟨h⟩ := h; exact Below.heap_alloc w o' b h
theorem heap_alloc_at (w : World) (o' : Obj) {n : Nat} (hn : n = w.heap.size) : (w.alloc o').heap[n]? = some o' := by subst hn; exact heap_alloc_new w o'

/-- Cells written one behind the other into a row. -/
def putAt (cs : Array Value) : Nat → List Value → Array Value
  | _, [] => cs
  | o, v :: r => putAt (cs.setIfInBounds o v) (o + 1) r
theorem heap_setCells {T : TypeId} : ∀ (vs : List Value) (o : Nat) (w : World) (cs : Array Value), w.heap[b]? = some (.cells cs T (0, 0)) → (w.setCells b o vs).heap[b]? = some (.cells (putAt cs o vs) T (0, 0))
  | [], _, _, _, h => h
  | v :: r, o, w, cs, h => heap_setCells r (o + 1) _ _ (heap_setCell_same w b o cs T v h)
theorem heap_setCells_far {k : Nat} (h : k ≠ b) : ∀ (vs : List Value) (o : Nat) (w : World), (w.setCells b o vs).heap[k]? = w.heap[k]?
  | [], _, _ => rfl
  | v :: r, o, w => (heap_setCells_far h r (o + 1) _).trans (heap_setCell_other w ⟨b, o, none⟩ k v h)

theorem there_at {c : Array Value} {T : TypeId} (h : w.heap[b]? = some (.cells c T (0, 0))) {o n : Nat} (hn : o + n ≤ c.size) : w.there b o n := fun j hj => by
  have : o + j < c.size := by omega
  simp [World.cell?, World.frozen?, h, this]

theorem there_of {c : Array Value} {T : TypeId} (h : w.heap[b]? = some (.cells c T (0, 0))) : w.there b 0 c.size := fun j hj => by
  simp [World.cell?, World.frozen?, h, hj]

theorem there_ext (f : World → World) {n : Nat} (h : w.there b o n) [hb : Nonempty (In b w)] : (ext w f).there b o n := fun j hj => by
  obtain ⟨hb⟩ := hb
  obtain ⟨h1, h2⟩ := h j hj
  exact ⟨by rw [ext_cell w f ⟨b, o + j, none⟩ hb]; exact h1, by rw [ext_frozen w f ⟨b, o + j, none⟩ hb]; exact h2⟩

theorem there_new (w : World) (c : Array Value) (T : TypeId) {n g : Nat} (hg : g = w.heap.size) (hn : n = c.size) : (w.alloc (.cells c T)).there g 0 n := by
  subst hg hn
  exact there_of (heap_alloc_new w _)

/-! A grown world under a name of its own -/
theorem named_cell {w' W : World} {f : World → World} (h : w' = ext W f) : ∀ (b o : Nat) [Nonempty (In b W)], w'.cell? ⟨b, o, none⟩ = W.cell? ⟨b, o, none⟩ := fun b o hb => by
  subst h; obtain ⟨hb⟩ := hb; exact ext_cell W f ⟨b, o, none⟩ hb
theorem named_frozen {w' W : World} {f : World → World} (h : w' = ext W f) : ∀ (b o : Nat) [Nonempty (In b W)], w'.frozen? ⟨b, o, none⟩ = W.frozen? ⟨b, o, none⟩ := fun b o hb => by
  subst h; obtain ⟨hb⟩ := hb; exact ext_frozen W f ⟨b, o, none⟩ hb
theorem named_heap {w' W : World} {f : World → World} (h : w' = ext W f) : ∀ (b : Nat) [Nonempty (In b W)], w'.heap[b]? = W.heap[b]? := fun b hb => by
  subst h; obtain ⟨hb⟩ := hb; exact (ext_below W f).block b hb
theorem named_in {w' W : World} {f : World → World} (h : w' = ext W f) : ∀ (b : Nat) [Nonempty (In b W)], Nonempty (In b w') := fun b hb => by
  subst h; exact in_ext f
theorem named_below {w w' W : World} {f : World → World} (h : w' = ext W f) [hb : Nonempty (Below w.heap.size w W)] : Nonempty (Below w.heap.size w w') := by
  subst h; exact g_ext f

/-- An array stored into the variable that was just made. -/
theorem wpList_store_new {ops : Array Oper} {rest : List Oper} {op : Oper} {a : Act} {Q : Exit → Act → World → Prop} (hgd : op.guard = none) (ty : TypeId) (x y : Operand) (ho : op.op = .store ty x y)
    (g : Nat) (hg : g = w.heap.size) (c c' : Array Value) (hx : a.eval x = .pointer (some ⟨g, 0, none⟩)) (hy : a.eval y = .agg c') (hi : (P.info? ty).map (·.size) = some c'.size) (hc : c.size = c'.size) (h1 : c'.all (·.oneCell') = true) (hdst : op.dst = none)
    (h : wpList P ops Q rest a (w.alloc (.cells c' ty))) : wpList P ops Q (op :: rest) a (w.alloc (.cells c ty)) := by
  subst hg
  refine wpList_plain hgd fun K hK => ?_
  unfold Oper.wp execOp
  simp only [ho, hx, hy]
  rw [Sem.run_bind, run_storeAt_new w ty c c' hi hc h1]
  show K (a.put op.dst undef) _
  rw [hdst]
  exact hK _ _ h

/-- An array read at one stroke, in a region that draws its order. -/
theorem wpQuiet_load_row {ops : Array Oper} {C : World → Prop} {Q : Act → Prop} {a : Act} {op : Oper} {rest : List Oper} (hgd : op.guard = none) (ty : TypeId) (x : Operand) (ho : op.op = .load ty x) (cs : Array Value) (d : TypeDesc)
    (hx : a.eval x = .pointer (some ⟨b, o, none⟩)) (hc : ∀ w', C w' → w'.rangeAt b o cs.toList) (hu : P.underlying ty = some d) (hd : d.isRow = true) (hi : (P.info? ty).map (·.size) = some cs.size)
    (h : wpQuiet P ops C Q rest (a.put op.dst (.agg cs))) : wpQuiet P ops C Q (op :: rest) a := by
  refine wpQuiet_step fun K hK => ?_
  rw [if_pos (by simp [Region.wanted, hgd])]
  refine ⟨.agg cs, fun w' hw => ?_, hK _ h⟩
  have hl := run_loadAt_mid (P := P) w' b o ty cs.toList d (hc w' hw) hu hd (by simpa using hi)
  unfold Oper.quietAt execOp
  simp only [ho, hx, Sem.run_bind, hl, Result.andThen_ok, Sem.run_pure, Oper.quietUpon, Array.toArray_toList, and_self]

theorem range_block {c : Array Value} {T : TypeId} {fr : Nat × Nat} (h : w.heap[b]? = some (.cells c T fr)) : w.rangeAt b 0 c.toList := fun j v hv => by
  rw [cell_of_row w b (0 + j) c T fr h]
  simpa using hv

/-- The cells of an array, read at once. -/
def cellsAt (w : World) (b o : Nat) (cs : List Value) : Prop := w.rangeAt b o cs
theorem cellsAt.ext {cs : List Value} (h : cellsAt w b o cs) (f : World → World) [hb : Nonempty (In b w)] : cellsAt (ext w f) b o cs := fun j v hv => by
  obtain ⟨hb⟩ := hb
  rw [ext_cell w f ⟨b, o + j, none⟩ hb]
  exact h j v hv

theorem results_mid {fn : Func} {p : Tmp} {ty : TypeId} {d : TypeDesc} (h : fn.results = #[.cell p ty]) {tmps : Array Value} (cs : List Value) (hc : w.rangeAt b o cs)
    (hu : P.underlying ty = some d) (hd : d.isRow = true) (hi : (P.info? ty).map (·.size) = some cs.length) (hp : tmps.getD p undef = .pointer (some ⟨b, o, none⟩)) : (results fn tmps).run P w = .ok (.agg cs.toArray) w := by
  have hp' : tmps[p]?.getD undef = .pointer (some ⟨b, o, none⟩) := by simpa using hp
  simp [results, h, hp', asAddr, run_loadVar_mid (P := P) w b o ty cs d hc hu hd hi]

/-- An array stored as the function's last deed: what it hands back. -/
theorem post_stored {fn : Func} {p : Tmp} {ty : TypeId} {d : TypeDesc} {R : Ending → World → Prop} {a : Act} (cs : List Value) (h : fn.results = #[.cell p ty])
    (hu : P.underlying ty = some d) (hd : d.isRow = true) (hi : (P.info? ty).map (·.size) = some cs.length) (hp : a.tmps.getD p undef = .pointer (some ⟨b, 0, none⟩)) (hdf : a.defers = [])
    (ht : W.there b 0 cs.length) (hR : R (.returned (.agg cs.toArray)) (W.setCells b 0 cs)) : bodyPost P fn R .ret a (W.setCells b 0 cs) :=
  bodyPost_ret (results_mid (w := W.setCells b 0 cs) h cs (World.rangeAt_setCells_same W b 0 cs ht) hu hd hi hp) hdf hR
end
end Go.Proofs.Ytgnlechegenjpaa
