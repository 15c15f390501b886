/-
  No Go in sight. Arrays as they lie in a variable of the call's own: stored at one stroke, read at one stroke, in grown worlds.
  No Go in sight. Worlds behind a call that turns some blocks: what the walk reads of them; blocks of some types.
  No Go in sight. A row that may have spare room behind it, and behind that more cells still; what append makes of it.
-/
import Derived.Test.YtnogfelfgclajaaGreatDoorMa01
import Derived.Deep.MidRow
import Derived.Deep.WholeRow
import Derived.OneCell
import Derived.ArgAppend
section
namespace Go.Proofs.YtnogfelfgclajaaGreatDoor
set_option linter.unusedVariables false
open Go.RowKit

section
variable {P : Program} {w W : World} {b o : Nat}

theorem below_setCells {B : Nat} {a : World} (hB : B ≤ b) : ∀ (vs : List Value) (o : Nat) (w : World), Below B a w → Below B a (w.setCells b o vs)
  | [], _, _, h => h
  | v :: r, o, w, h => below_setCells hB r (o + 1) _ (h.setCell (p := ⟨b, o, none⟩) hB v)

theorem size_setCells : ∀ (vs : List Value) (o : Nat) (w : World), (w.setCells b o vs).heap.size = w.heap.size
  | [], _, _ => rfl
  | v :: r, o, w => (size_setCells r (o + 1) _).trans (World.size_setCell ..)

theorem frozen_setCells (x : Addr) : ∀ (vs : List Value) (o : Nat) (w : World), (w.setCells b o vs).frozen? x = w.frozen? x
  | [], _, _ => rfl
  | v :: r, o, w => (frozen_setCells x r (o + 1) _).trans (World.frozen?_setCell ..)

instance g_setCells [h : Nonempty (Below w.heap.size w W)] [hb : Nonempty (w.heap.size ≤ b)] (vs : List Value) : Nonempty (Below w.heap.size w (W.setCells b o vs)) :=
  ⟨by obtain ⟨h⟩ := h; obtain ⟨hb⟩ := hb; exact below_setCells hb vs o W h⟩
instance in_setCells {n : Nat} [h : Nonempty (In n w)] (vs : List Value) : Nonempty (In n (w.setCells b o vs)) := ⟨by obtain ⟨h⟩ := h; unfold In at *; rw [size_setCells]; exact h⟩
instance in_size (w : World) (b o : Nat) (vs : List Value) [h : Nonempty (In b w)] : Nonempty (In b (w.setCells b o vs)) := in_setCells vs

/-- Another block's cell. -/
theorem cell_setCells_far {n i : Nat} (h : n ≠ b) (vs : List Value) : (w.setCells b o vs).cell? ⟨n, i, none⟩ = w.cell? ⟨n, i, none⟩ :=
  World.cell?_setCells_out b vs o w ⟨n, i, none⟩ (fun e => absurd e h)

theorem heap_ext (f : World → World) [h : Nonempty (In b w)] : (ext w f).heap[b]? = w.heap[b]? := by obtain ⟨h⟩ := h; exact (ext_below w f).block b h

theorem heap_alloc_in (o' : Obj) [h : Nonempty (In b w)] : (w.alloc o').heap[b]? = w.heap[b]? := by obtain ⟨h⟩ := h; exact Below.heap_alloc w o' b h
theorem heap_alloc_at (w : World) (o' : Obj) {n : Nat} (hn : n = w.heap.size) : (w.alloc o').heap[n]? = some o' := by subst hn; exact heap_alloc_new w o'

/-- Cells written one behind the other into a row. -/
def putAt (cs : Array Value) : Nat → List Value → Array Value
  | _, [] => cs
  | o, v :: r => putAt (cs.setIfInBounds o v) (o + 1) r
theorem heap_setCells {T : TypeId} : ∀ (vs : List Value) (o : Nat) (w : World) (cs : Array Value), w.heap[b]? = some (.cells cs T (0, 0)) → (w.setCells b o vs).heap[b]? = some (.cells (putAt cs o vs) T (0, 0))
  | [], _, _, _, h => h
  | v :: r, o, w, cs, h => heap_setCells r (o + 1) _ _ (heap_setCell_same w b o cs T v h)
theorem heap_setCells_far {k : Nat} (h : k ≠ b) : ∀ (vs : List Value) (o : Nat) (w : World), (w.setCells b o vs).heap[k]? = w.heap[k]?
  | [], _, _ => rfl
  | v :: r, o, w => (heap_setCells_far h r (o + 1) _).trans (heap_setCell_other w ⟨b, o, none⟩ k v h)

theorem there_at {c : Array Value} {T : TypeId} (h : w.heap[b]? = some (.cells c T (0, 0))) {o n : Nat} (hn : o + n ≤ c.size) : w.there b o n := fun j hj => by
  have : o + j < c.size := by omega
  simp [World.cell?, World.frozen?, h, this]

theorem there_of {c : Array Value} {T : TypeId} (h : w.heap[b]? = some (.cells c T (0, 0))) : w.there b 0 c.size := fun j hj => by
  simp [World.cell?, World.frozen?, h, hj]

theorem there_ext (f : World → World) {n : Nat} (h : w.there b o n) [hb : Nonempty (In b w)] : (ext w f).there b o n := fun j hj => by
  obtain ⟨hb⟩ := hb
  obtain ⟨h1, h2⟩ := h j hj
  exact ⟨by rw [ext_cell w f ⟨b, o + j, none⟩ hb]; exact h1, by rw [ext_frozen w f ⟨b, o + j, none⟩ hb]; exact h2⟩

theorem there_new (w : World) (c : Array Value) (T : TypeId) {n g : Nat} (hg : g = w.heap.size) (hn : n = c.size) : (w.alloc (.cells c T)).there g 0 n := by
  subst hg hn
  exact there_of (heap_alloc_new w _)

/-! A grown world under a name of its own -/
theorem named_cell {w' W : World} {f : World → World} (h : w' = ext W f) : ∀ (b o : Nat) [Nonempty (In b W)], w'.cell? ⟨b, o, none⟩ = W.cell? ⟨b, o, none⟩ := fun b o hb => by
  subst h; obtain ⟨hb⟩ := hb; exact ext_cell W f ⟨b, o, none⟩ hb
theorem named_frozen {w' W : World} {f : World → World} (h : w' = ext W f) : ∀ (b o : Nat) [Nonempty (In b W)], w'.frozen? ⟨b, o, none⟩ = W.frozen? ⟨b, o, none⟩ := fun b o hb => by
  subst h; obtain ⟨hb⟩ := hb; exact ext_frozen W f ⟨b, o, none⟩ hb
theorem named_heap {w' W : World} {f : World → World} (h : w' = ext W f) : ∀ (b : Nat) [Nonempty (In b W)], w'.heap[b]? = W.heap[b]? := fun b hb => by
  subst h; obtain ⟨hb⟩ := hb; exact (ext_below W f).block b hb
theorem named_in {w' W : World} {f : World → World} (h : w' = ext W f) : ∀ (b : Nat) [Nonempty (In b W)], Nonempty (In b w') := fun b hb => by
  subst h; exact in_ext f
theorem named_below {w w' W : World} {f : World → World} (h : w' = ext W f) [hb : Nonempty (Below w.heap.size w W)] : Nonempty (Below w.heap.size w w') := by
  subst h; exact g_ext f

/-- An array stored into the variable that was just made. -/
theorem wpList_store_new {ops : Array Oper} {rest : List Oper} {op : Oper} {a : Act} {Q : Exit → Act → World → Prop} (hgd : op.guard = none) (ty : TypeId) (x y : Operand) (ho : op.op = .store ty x y)
    (g : Nat) (hg : g = w.heap.size) (c c' : Array Value) (hx : a.eval x = .pointer (some ⟨g, 0, none⟩)) (hy : a.eval y = .agg c') (hi : (P.info? ty).map (·.size) = some c'.size) (hc : c.size = c'.size) (h1 : c'.all (·.oneCell') = true) (hdst : op.dst = none)
    (h : wpList P ops Q rest a (w.alloc (.cells c' ty))) : wpList P ops Q (op :: rest) a (w.alloc (.cells c ty)) := by
  subst hg
  refine wpList_plain hgd fun K hK => ?_
  unfold Oper.wp execOp
  simp only [ho, hx, hy]
  rw [Sem.run_bind, run_storeAt_new w ty c c' hi hc h1]
  show K (a.put op.dst undef) _
  rw [hdst]
  exact hK _ _ h

/-- An array read at one stroke, in a region that draws its order. -/
theorem wpQuiet_load_row {ops : Array Oper} {C : World → Prop} {Q : Act → Prop} {a : Act} {op : Oper} {rest : List Oper} (hgd : op.guard = none) (ty : TypeId) (x : Operand) (ho : op.op = .load ty x) (cs : Array Value) (d : TypeDesc)
    (hx : a.eval x = .pointer (some ⟨b, o, none⟩)) (hc : ∀ w', C w' → w'.rangeAt b o cs.toList) (hu : P.underlying ty = some d) (hd : d.isRow = true) (hi : (P.info? ty).map (·.size) = some cs.size)
    (h : wpQuiet P ops C Q rest (a.put op.dst (.agg cs))) : wpQuiet P ops C Q (op :: rest) a := by
  refine wpQuiet_step fun K hK => ?_
  rw [if_pos (by simp [Region.wanted, hgd])]
  refine ⟨.agg cs, fun w' hw => ?_, hK _ h⟩
  have hl := run_loadAt_mid (P := P) w' b o ty cs.toList d (hc w' hw) hu hd (by simpa using hi)
  unfold Oper.quietAt execOp
  simp only [ho, hx, Sem.run_bind, hl, Result.andThen_ok, Sem.run_pure, Oper.quietUpon, Array.toArray_toList, and_self]

theorem range_block {c : Array Value} {T : TypeId} {fr : Nat × Nat} (h : w.heap[b]? = some (.cells c T fr)) : w.rangeAt b 0 c.toList := fun j v hv => by
  rw [cell_of_row w b (0 + j) c T fr h]
  simpa using hv

/-- The cells of an array, read at once. -/
def cellsAt (w : World) (b o : Nat) (cs : List Value) : Prop := w.rangeAt b o cs
theorem cellsAt.ext {cs : List Value} (h : cellsAt w b o cs) (f : World → World) [hb : Nonempty (In b w)] : cellsAt (ext w f) b o cs := fun j v hv => by
  obtain ⟨hb⟩ := hb
  rw [ext_cell w f ⟨b, o + j, none⟩ hb]
  exact h j v hv

theorem results_mid {fn : Func} {p : Tmp} {ty : TypeId} {d : TypeDesc} (h : fn.results = #[.cell p ty]) {tmps : Array Value} (cs : List Value) (hc : w.rangeAt b o cs)
    (hu : P.underlying ty = some d) (hd : d.isRow = true) (hi : (P.info? ty).map (·.size) = some cs.length) (hp : tmps.getD p undef = .pointer (some ⟨b, o, none⟩)) : (results fn tmps).run P w = .ok (.agg cs.toArray) w := by
  have hp' : tmps[p]?.getD undef = .pointer (some ⟨b, o, none⟩) := by simpa using hp
  simp [results, h, hp', asAddr, run_loadVar_mid (P := P) w b o ty cs d hc hu hd hi]

/-- An array stored as the function's last deed: what it hands back. -/
theorem post_stored {fn : Func} {p : Tmp} {ty : TypeId} {d : TypeDesc} {R : Ending → World → Prop} {a : Act} (cs : List Value) (h : fn.results = #[.cell p ty])
    (hu : P.underlying ty = some d) (hd : d.isRow = true) (hi : (P.info? ty).map (·.size) = some cs.length) (hp : a.tmps.getD p undef = .pointer (some ⟨b, 0, none⟩)) (hdf : a.defers = [])
    (ht : W.there b 0 cs.length) (hR : R (.returned (.agg cs.toArray)) (W.setCells b 0 cs)) : bodyPost P fn R .ret a (W.setCells b 0 cs) :=
  bodyPost_ret (results_mid (w := W.setCells b 0 cs) h cs (World.rangeAt_setCells_same W b 0 cs ht) hu hd hi hp) hdf hR
end
end Go.Proofs.YtnogfelfgclajaaGreatDoor
end

section
namespace Go.Proofs.YtnogfelfgclajaaGreatDoor
open Go.RowKit
set_option linter.unusedVariables false

section
variable {F G : Nat → Prop} {w W w1 : World}
theorem turn_cell (h : Turn F W w1) : ∀ (b o : Nat) [Nonempty (In b W)], ¬ F b → w1.cell? ⟨b, o, none⟩ = W.cell? ⟨b, o, none⟩ := fun b o hb hF => by
  obtain ⟨hb⟩ := hb; exact h.cell hb hF
theorem turn_frozen (h : Turn F W w1) : ∀ (b o : Nat) [Nonempty (In b W)], ¬ F b → w1.frozen? ⟨b, o, none⟩ = W.frozen? ⟨b, o, none⟩ := fun b o hb hF => by
  obtain ⟨hb⟩ := hb; exact h.frozen hb hF
theorem turn_heap (h : Turn F W w1) : ∀ (b : Nat) [Nonempty (In b W)], ¬ F b → w1.heap[b]? = W.heap[b]? := fun b hb hF => by
  obtain ⟨hb⟩ := hb; exact h.block b hb hF
theorem turn_in (h : Turn F W w1) : ∀ (b : Nat) [Nonempty (In b W)], Nonempty (In b w1) := fun b hb => by
  obtain ⟨hb⟩ := hb; exact ⟨Nat.lt_of_lt_of_le hb h.size⟩
theorem turn_ext (F : Nat → Prop) {f : World → World} (h : w1 = ext W f) : Turn F W w1 := by subst h; exact turn_below (ext_below W f)
theorem turn_le (h : Turn F W w1) [hw : Nonempty (w.heap.size ≤ W.heap.size)] : Nonempty (w.heap.size ≤ w1.heap.size) := ⟨by obtain ⟨hw⟩ := hw; exact Nat.le_trans hw h.size⟩
/-- The world w, turned on and on (of the blocks that were there those of F alone have turned). -/
theorem turn_named (h : Turn F W w1) [hw : Nonempty (Turn F w W)] : Nonempty (Turn F w w1) := ⟨by obtain ⟨hw⟩ := hw; exact hw.trans h (fun _ _ h => h)⟩
theorem turn_now [h : Nonempty (Turn F w W)] : Turn F w W := by obtain ⟨h⟩ := h; exact h
instance tn_refl (F : Nat → Prop) (w : World) : Nonempty (Turn F w w) := ⟨Turn.refl F w⟩
instance tn_ext [h : Nonempty (Turn F w W)] (f : World → World) : Nonempty (Turn F w (ext W f)) := ⟨by obtain ⟨h⟩ := h; exact h.trans (turn_below (ext_below W f)) (fun _ _ h => h)⟩
instance tn_alloc [h : Nonempty (Turn F w W)] (o : Obj) : Nonempty (Turn F w (W.alloc o)) := ⟨by obtain ⟨h⟩ := h; exact h.trans (turn_alloc F W o) (fun _ _ h => h)⟩
instance tn_drew [h : Nonempty (Turn F w W)] : Nonempty (Turn F w W.drew) := ⟨by obtain ⟨h⟩ := h; exact h.trans (turn_drew F W) (fun _ _ h => h)⟩
theorem Turn.setNew (h : Turn F w W) {a : Addr} (hb : w.heap.size ≤ a.block) (v : Value) : Turn F w (W.setCell a v) :=
  ⟨h.os, h.tape, h.output, by simpa using h.size, fun k hk hF => (Below.heap_setCell _ _ _ _ (by omega)).trans (h.block k hk hF)⟩
theorem Turn.setIn (h : Turn F w W) {a : Addr} (hb : F a.block) (v : Value) : Turn F w (W.setCell a v) :=
  ⟨h.os, h.tape, h.output, by simpa using h.size, fun k hk hF => (Below.heap_setCell _ _ _ _ (fun e => hF (by rw [e]; exact hb))).trans (h.block k hk hF)⟩
instance tn_set {b o : Nat} [h : Nonempty (Turn F w W)] [hb : Nonempty (w.heap.size ≤ b)] (v : Value) : Nonempty (Turn F w (W.setCell ⟨b, o, none⟩ v)) :=
  ⟨by obtain ⟨h⟩ := h; obtain ⟨hb⟩ := hb; exact h.setNew hb v⟩
instance le_refl_size (w : World) : Nonempty (w.heap.size ≤ w.heap.size) := ⟨Nat.le_refl _⟩
instance le_ext_size [h : Nonempty (w.heap.size ≤ W.heap.size)] (f : World → World) : Nonempty (w.heap.size ≤ (ext W f).heap.size) := ⟨by obtain ⟨h⟩ := h; exact Nat.le_trans h (ext_size W f)⟩
instance le_alloc_size [h : Nonempty (w.heap.size ≤ W.heap.size)] (o : Obj) : Nonempty (w.heap.size ≤ (W.alloc o).heap.size) := ⟨by obtain ⟨h⟩ := h; simp; omega⟩
instance le_set_size [h : Nonempty (w.heap.size ≤ W.heap.size)] (a : Addr) (v : Value) : Nonempty (w.heap.size ≤ (W.setCell a v).heap.size) := ⟨by obtain ⟨h⟩ := h; simpa using h⟩
theorem le_now {n m : Nat} [h : Nonempty (n ≤ m)] : n ≤ m := by obtain ⟨h⟩ := h; exact h

theorem Turn.owns (h : Turn F w W) {base : Nat} {e : TypeId} {size : Nat} {v : Value} {n : Nat} {xs : List Value} (ho : w.ownsRow base e size v n xs) (hF : ∀ g, v.ownBlock = some g → ¬ F g) : W.ownsRow base e size v n xs := by
  refine ⟨ho.1, ?_⟩
  rcases ho.2 with hn | ⟨g, cap, cur, rfl, hb, hgg, rest⟩
  · exact .inl hn
  · refine .inr ⟨g, cap, cur, rfl, hb, ?_, rest⟩
    rw [h.block g (Array.getElem?_eq_some_iff.1 hgg).1 (hF g rfl)]
    exact hgg

/-! Cells of a block that is known whole -/
theorem cell_of_block {b i : Nat} {cs : Array Value} {T : TypeId} {fz : Nat × Nat} {v : Value} (h : w.heap[b]? = some (.cells cs T fz)) (hv : cs[i]? = some v) : w.cell? ⟨b, i, none⟩ = some v := by
  simp [World.cell?, h, hv]
theorem free_of_block {b : Nat} {cs : Array Value} {T : TypeId} (i : Nat) (h : w.heap[b]? = some (.cells cs T (0, 0))) : w.frozen? ⟨b, i, none⟩ = false := by
  simp [World.frozen?, h]
theorem in_of_block {b : Nat} {o : Obj} (h : w.heap[b]? = some o) : Nonempty (In b w) := ⟨lt_of_block h⟩
theorem block_set {b i : Nat} {cs : Array Value} {T : TypeId} {fz : Nat × Nat} (h : w.heap[b]? = some (.cells cs T fz)) (v : Value) (hi : i < cs.size) : (w.setCell ⟨b, i, none⟩ v).heap[b]? = some (.cells (cs.setIfInBounds i v) T fz) := by
  have hb := lt_of_block h
  simp only [World.setCell, Array.getElem?_modify]
  rw [if_pos trivial, h]
  rfl
theorem block_set_far {b : Nat} {a : Addr} (v : Value) (h : b ≠ a.block) : (w.setCell a v).heap[b]? = w.heap[b]? := Below.heap_setCell _ _ _ _ h

/-! Blocks of some types, from block B on -/
def Ty (B : Nat) (TS : List TypeId) (w : World) (k : Nat) : Prop := B ≤ k ∧ ∃ c T fz, w.heap[k]? = some (.cells c T fz) ∧ T ∈ TS
theorem ty_no {B : Nat} {TS : List TypeId} {b : Nat} {c : Array Value} {T : TypeId} {fz : Nat × Nat} (h : w.heap[b]? = some (.cells c T fz)) (hT : T ∉ TS) : ¬ Ty B TS w b := by
  rintro ⟨_, c', T', fz', h', hT'⟩
  rw [h] at h'
  injection h' with h'
  injection h' with _ h2
  exact hT (h2 ▸ hT')
theorem ty_map {B : Nat} {TS : List TypeId} {b : Nat} {es : Array MapEntry} {c : Nat} (h : w.heap[b]? = some (.map es c)) : ¬ Ty B TS w b := by
  rintro ⟨_, c', T', fz', h', hT'⟩
  rw [h] at h'
  injection h' with h'
  cases h'
theorem ty_yes {B : Nat} {TS : List TypeId} {b : Nat} {c : Array Value} {T : TypeId} {fz : Nat × Nat} (hB : B ≤ b) (h : w.heap[b]? = some (.cells c T fz)) (hT : T ∈ TS) : Ty B TS w b := ⟨hB, c, T, fz, h, hT⟩
theorem Turn.ty {B : Nat} {TS : List TypeId} {a b c : World} (h : Turn (Ty B TS a) a b) (k : Turn (Ty B TS b) b c) : Turn (Ty B TS a) a c :=
  h.trans k (fun i hi hb => by
    by_cases ha : Ty B TS a i
    · exact ha
    · obtain ⟨h1, c', T, fz, h2, h3⟩ := hb
      exact ⟨h1, c', T, fz, (h.block i hi ha).symm.trans h2, h3⟩)
theorem Turn.tyMono {B : Nat} {TS TS' : List TypeId} {a b : World} (h : Turn (Ty B TS a) a b) (hs : ∀ T ∈ TS, T ∈ TS') : Turn (Ty B TS' a) a b :=
  h.mono (fun i hi ⟨h1, c, T, fz, h2, h3⟩ => ⟨h1, c, T, fz, h2, hs T h3⟩)
theorem Turn.tyBelow {B : Nat} {TS : List TypeId} {a b : World} (h : Turn (Ty B TS a) a b) (hB : B ≤ a.heap.size) : Below B a b := h.below (fun i _ hi => hi.1) hB
end
end Go.Proofs.YtnogfelfgclajaaGreatDoor
end

section
namespace Go.Proofs.YtnogfelfgclajaaGreatDoor
open Go.RowKit
set_option linter.unusedVariables false

/-- A slice of cells of one block, each element one cell; the block may have more cells than the slice has room. -/
def SRow (B : Nat) (w : World) (T : TypeId) (v : Value) (xs : List Value) : Prop :=
  (v = .slice none 0 0 ∧ xs = []) ∨ ∃ (g cap : Nat) (cur : Array Value), v = .slice (some ⟨g, 0, none⟩) xs.length cap ∧ B ≤ g ∧ w.heap[g]? = some (.cells cur T (0, 0)) ∧ xs.length ≤ cap ∧ cap ≤ maxLen ∧ cap ≤ cur.size ∧ ∀ (j : Nat) u, xs[j]? = some u → cur[j]? = some u
section
variable {B : Nat} {w W : World} {T : TypeId} {v : Value} {xs : List Value}
theorem srow_nil (B : Nat) (w : World) (T : TypeId) : SRow B w T (.slice none 0 0) [] := .inl ⟨rfl, rfl⟩
theorem SRow.form (h : SRow B w T v xs) : ∃ og cap, v = .slice og xs.length cap := by
  rcases h with ⟨rfl, rfl⟩ | ⟨g, cap, cur, rfl, _⟩
  · exact ⟨_, _, rfl⟩
  · exact ⟨_, _, rfl⟩
theorem SRow.got (h : SRow B w T v xs) (h0 : 0 < xs.length) : ∃ g cap, v = .slice (some ⟨g, 0, none⟩) xs.length cap ∧ xs.length ≤ cap ∧ cap ≤ maxLen ∧ B ≤ g ∧ (∃ cur, w.heap[g]? = some (.cells cur T (0, 0)) ∧ cap ≤ cur.size) ∧ ∀ j u, xs[j]? = some u → w.cell? ⟨g, j, none⟩ = some u := by
  rcases h with ⟨rfl, rfl⟩ | ⟨g, cap, cur, rfl, hB, hg, h1, h2, h3, h4⟩
  · simp at h0
  · exact ⟨g, cap, rfl, h1, h2, hB, ⟨cur, hg, h3⟩, fun j u hu => cell_of_block hg (h4 j u hu)⟩
theorem SRow.turn {F : Nat → Prop} (h : SRow B w T v xs) (hT : Turn F w W) (hF : ∀ g c fz, w.heap[g]? = some (.cells c T fz) → ¬ F g) : SRow B W T v xs := by
  rcases h with h | ⟨g, cap, cur, rfl, hB, hg, h1⟩
  · exact .inl h
  · exact .inr ⟨g, cap, cur, rfl, hB, (hT.block _ (lt_of_block hg) (hF _ _ _ hg)).trans hg, h1⟩
theorem SRow.turnOne {F : Nat → Prop} (h : SRow B w T v xs) (hT : Turn F w W) (hF : ∀ g, v.ownBlock = some g → ¬ F g) : SRow B W T v xs := by
  rcases h with h | ⟨g, cap, cur, rfl, hB, hg, h1⟩
  · exact .inl h
  · exact .inr ⟨g, cap, cur, rfl, hB, (hT.block _ (lt_of_block hg) (hF _ rfl)).trans hg, h1⟩
theorem SRow.grown (h : SRow B w T v xs) (hW : Below w.heap.size w W) : SRow B W T v xs := h.turnOne (turn_below (F := fun _ => False) hW) (fun _ _ => id)
theorem SRow.of_owns (h : w.ownsRow B T 1 v xs.length xs) : SRow B w T v xs := by
  rcases h.2 with ⟨rfl, h0⟩ | ⟨g, cap, cur, rfl, hB, hg, h1, h2, h3, h4⟩
  · exact .inl ⟨rfl, List.eq_nil_of_length_eq_zero h0⟩
  · refine .inr ⟨g, cap, cur, rfl, hB, hg, h1, h2, by omega, fun j u hu => ?_⟩
    rw [← h4] at hu
    rw [List.getElem?_take] at hu
    split at hu
    · simpa using hu
    · cases hu
/-- The slice s[:k:k]. -/
theorem SRow.cut {g n cap : Nat} (h : SRow B w T (.slice (some ⟨g, 0, none⟩) n cap) xs) (k : Nat) (hk : k ≤ xs.length) : SRow B w T (.slice (some ⟨g, 0, none⟩) k k) (xs.take k) := by
  rcases h with ⟨h, _⟩ | ⟨g', cap', cur, hv, hB, hg, h1, h2, h3, h4⟩
  · cases h
  · injection hv with e1 e2 e3
    injection e1 with e1
    injection e1 with e1
    subst e1 e2 e3
    have hlen : (xs.take k).length = k := by simp; omega
    refine .inr ⟨g, k, cur, by rw [hlen], hB, hg, by omega, by omega, by omega, fun j u hu => ?_⟩
    rw [List.getElem?_take] at hu
    split at hu
    · exact h4 j u hu
    · cases hu
theorem SRow.lt (h : SRow B w T v xs) : ∀ k, v.ownBlock = some k → B ≤ k ∧ k < w.heap.size := by
  intro k hk
  rcases h with ⟨rfl, _⟩ | ⟨g, cap, cur, rfl, hB, hg, _⟩
  · cases hk
  · obtain rfl := Option.some.inj hk
    exact ⟨hB, lt_of_block hg⟩
theorem SRow.ty (h : SRow B w T v xs) : ∀ k, v.ownBlock = some k → ∀ {TS : List TypeId}, T ∈ TS → Ty B TS w k := by
  intro k hk
  rcases h with ⟨rfl, _⟩ | ⟨g, cap, cur, rfl, hB, hg, _⟩
  · cases hk
  · obtain rfl := Option.some.inj hk
    exact fun hT => ty_yes hB hg hT

theorem run_append_s {P : Program} (t ty : TypeId) (i : TypeInfo) (z : Value) (bytes : Nat) (ht : P.underlying t = some (.slice T)) (hi : P.info? T = some i) (hz : i.zero = some z) (hsize : i.size = 1) (hby : i.bytes = bytes) (hzs : z.cells.size = 1)
    (h : SRow B w T v xs) (ad : Addr) (m c : Nat) (news : List Value) (hl : news.length = m) (hnews : ∀ j u, news[j]? = some u → w.cell? (ad.add j) = some u) (h1 : ∀ u ∈ news, u.oneCell' = true)
    (h63 : xs.length + m ≤ maxLen) (hbytes : (xs.length + m) * bytes ≤ 140737488355328) (hbase : B ≤ w.heap.size) :
    ∃ v' w', (Builtin.append_ #[t, t] ty #[v, .slice (some ad) m c]).run P w = .ok v' w' ∧ SRow B w' T v' (xs ++ news) ∧ Turn (fun k => v.ownBlock = some k) w w' := by
  rcases h with ⟨rfl, rfl⟩ | ⟨g, cap, cur, rfl, hB, hg, h2, h3, h4, h5⟩
  · obtain ⟨v', w', hr, r1, r2, _⟩ := run_append_own (P := P) w B t ty T i z 1 bytes ht hi hz hsize hby hzs (by omega) (.slice none 0 0) 0 [] (World.ownsRow_nil w _ T 1) ad m c news (by omega) hnews h1 (by simpa using h63) (by simpa using hbytes) hbase
    have e : 0 + m = ([] ++ news).length := by simp [hl]
    rw [e] at r1
    exact ⟨v', w', hr, SRow.of_owns r1, turn_by r2⟩
  · by_cases hroom : xs.length + m ≤ cap
    · have hr := run_append_room (P := P) w t ty T i ht hi g xs.length cap cur hg ad m c news (by rw [hsize]; omega) hnews h1 hroom (by rw [hsize]; omega)
      refine ⟨_, _, hr, .inr ⟨g, cap, _, by rw [List.length_append, hl], hB, setRow_heap w g cur _ T _ hg, by rw [List.length_append]; omega, h3, ?_, ?_⟩, turn_by ⟨rfl, rfl, rfl, by simp, fun k _ hk => setRow_other w g k _ (fun e => hk (by simp [Value.ownBlock, e]))⟩⟩
      · simp only [List.size_toArray, List.length_append, List.length_take, List.length_drop, Array.length_toList]
        rw [hsize]
        omega
      · intro j u hu
        rw [hsize, Nat.mul_one]
        simp only [List.getElem?_toArray]
        have hlt : (cur.toList.take xs.length).length = xs.length := by simp; omega
        have htk : cur.toList.take xs.length = xs := by
          refine List.ext_getElem? (fun k => ?_)
          rw [List.getElem?_take]
          split
          · next hk =>
            have := h5 k xs[k] (List.getElem?_eq_getElem hk)
            rw [List.getElem?_eq_getElem hk]
            simpa using this
          · next hk => rw [List.getElem?_eq_none (by omega)]
        rw [htk]
        have hj : j < (xs ++ news).length := (List.getElem?_eq_some_iff.1 hu).1
        rw [List.getElem?_append_left hj]
        exact hu
    · obtain ⟨v', w', hr, r1, r2⟩ := run_append_arg_grows (P := P) w t ty T i z 1 bytes ht hi hz hsize hby hzs (by omega) ⟨g, 0, none⟩ xs.length cap xs (by omega) (fun j u hu => by rw [Addr.add_lit]; exact cell_of_block hg (by rw [Nat.zero_add]; exact h5 j u hu)) ad m c news (by omega) hnews (by omega) h63 hbytes
      have e : xs.length + m = (xs ++ news).length := by simp [hl]
      rw [e] at r1
      exact ⟨v', w', hr, SRow.of_owns (owns_base r1 hbase), (turn_by r2).mono (fun _ _ e => by cases e)⟩
/-- An append whose run is known, for the walk. -/
theorem wpList_append_of {P : Program} {R : Value → World → Prop} {ops : Array Oper} {rest : List Oper} {o : Oper} {a : Act} {Q : Exit → Act → World → Prop} (hgd : o.guard = none) (s x : Operand) (t t' : TypeId)
    (ho : o.op = .call { callee := .builtin .append, args := #[s, x], argTypes := #[t, t'] }) (u1 u2 : Value) (e1 : a.eval s = u1) (e2 : a.eval x = u2)
    (hr : ∃ v' w', (Builtin.append_ #[t, t'] o.type #[u1, u2]).run P w = .ok v' w' ∧ R v' w')
    (h : ∀ v' w', R v' w' → wpList P ops Q rest (a.put o.dst v') w') : wpList P ops Q (o :: rest) a w := by
  obtain ⟨v', w', hr, h2⟩ := hr
  refine wpList_plain hgd fun K hK => ?_
  unfold Oper.wp execOp
  simp only [ho, resolve, invoke, builtin, Sem.run_bind, Sem.run_pure, Result.andThen_ok, List.map_toArray, List.map_cons, List.map_nil, e1, e2, hr]
  exact hK _ _ (h v' w' h2)
/-- .. at a step of a region that draws its order. -/
theorem step_append_of {P : Program} {R : Value → World → Prop} {ops : Array Oper} {o : Oper} {a : Act} {K : Act → World → Prop} {Q : Exit → Act → World → Prop} {E : Prop} (hgd : o.guard = none) (s x : Operand) (t t' : TypeId)
    (ho : o.op = .call { callee := .builtin .append, args := #[s, x], argTypes := #[t, t'] }) (u1 u2 : Value) (e1 : a.eval s = u1) (e2 : a.eval x = u2)
    (hr : ∃ v' w', (Builtin.append_ #[t, t'] o.type #[u1, u2]).run P w = .ok v' w' ∧ R v' w')
    (h : ∀ v' w', R v' w' → K (a.put o.dst v') w') : if Region.wanted o (yielded ops a.tmps) = true then Oper.wp P o a w K Q else E := by
  have hw : Region.wanted o (yielded ops a.tmps) = true := by simp [Region.wanted, hgd]
  rw [if_pos hw]
  obtain ⟨v', w', hr, h2⟩ := hr
  unfold Oper.wp execOp
  simp only [ho, resolve, invoke, builtin, Sem.run_bind, Sem.run_pure, Result.andThen_ok, List.map_toArray, List.map_cons, List.map_nil, e1, e2, hr]
  exact h v' w' h2
end
#print axioms run_append_s
end Go.Proofs.YtnogfelfgclajaaGreatDoor
end
