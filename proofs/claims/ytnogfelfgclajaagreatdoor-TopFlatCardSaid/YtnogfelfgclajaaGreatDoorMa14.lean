/-
  No Go in sight. A map of numbers, entry by entry.
  The stand-in for a disk: what it holds; all blobs as they were put last.
  The stand-in for a disk: all blobs with one under way; a blob got.
-/
import Derived.Test.YtnogfelfgclajaaGreatDoorMa02
import Derived.MapKept
import Derived.Laws.Externs
import Derived.Test.YtnogfelfgclajaaGreatDoorMa13
section
namespace Go.Proofs.YtnogfelfgclajaaGreatDoor
open Go.RowKit Go.MapKept
set_option linter.unusedVariables false

/-- What a list of entries holds at a key. -/
def mget {α : Type} (m : List (Int × α)) (k : Int) : Option α := (m.find? (fun p => p.1 == k)).map (·.2)
/-- .. and with an entry laid. -/
def mput {α : Type} : List (Int × α) → Int → α → List (Int × α)
  | [], k, v => [(k, v)]
  | p :: r, k, v => if p.1 = k then (k, v) :: r else p :: mput r k v
theorem mget_put {α : Type} (m : List (Int × α)) (k : Int) (v : α) : mget (mput m k v) k = some v := by
  induction m with
  | nil => simp [mput, mget]
  | cons p r ih =>
    unfold mput
    split
    · simp [mget]
    · next h =>
      unfold mget at ih ⊢
      rw [List.find?_cons_of_neg (by simpa using h)]
      exact ih
theorem mget_other {α : Type} (m : List (Int × α)) {k j : Int} (v : α) (h : j ≠ k) : mget (mput m k v) j = mget m j := by
  induction m with
  | nil => simp [mput, mget, Ne.symm h]
  | cons p r ih =>
    unfold mput
    split
    · next e =>
      unfold mget
      rw [List.find?_cons_of_neg (by simpa using Ne.symm h), List.find?_cons_of_neg (by rw [e]; simpa using Ne.symm h)]
    · unfold mget at ih ⊢
      by_cases e : p.1 = j
      · rw [List.find?_cons_of_pos (by simpa using e), List.find?_cons_of_pos (by simpa using e)]
      · rw [List.find?_cons_of_neg (by simpa using e), List.find?_cons_of_neg (by simpa using e)]
        exact ih
theorem mput_len {α : Type} (m : List (Int × α)) (k : Int) (v : α) : (mput m k v).length ≤ m.length + 1 := by
  induction m with
  | nil => simp [mput]
  | cons p r ih => unfold mput; split <;> simp <;> omega
theorem mput_mem {α : Type} {m : List (Int × α)} {k : Int} {v : α} {p : Int × α} (h : p ∈ mput m k v) : p = (k, v) ∨ p ∈ m := by
  induction m with
  | nil => simp [mput] at h; exact .inl h
  | cons q r ih =>
    unfold mput at h
    split at h
    · rcases List.mem_cons.1 h with h | h
      · exact .inl h
      · exact .inr (List.mem_cons_of_mem _ h)
    · rcases List.mem_cons.1 h with h | h
      · exact .inr (by rw [h]; exact List.mem_cons_self ..)
      · rcases ih h with h | h
        · exact .inl h
        · exact .inr (List.mem_cons_of_mem _ h)
theorem mget_mem {α : Type} {m : List (Int × α)} {k : Int} {v : α} (h : mget m k = some v) : (k, v) ∈ m := by
  unfold mget at h
  cases hf : m.find? (fun p => p.1 == k) with
  | none => rw [hf] at h; cases h
  | some p =>
    rw [hf] at h
    have h1 := List.find?_some hf
    have h2 := List.mem_of_find?_eq_some hf
    simp only [Option.map_some, Option.some.injEq] at h
    simp only [beq_iff_eq] at h1
    obtain ⟨a, b⟩ := p
    simp only at h h1
    subst h h1
    exact h2

/-- Block b is a map of numbers with these entries. -/
def MapI (w : World) (b : Nat) (m : List (Int × Value)) : Prop :=
  ∃ es cl, w.heap[b]? = some (.map es cl) ∧ Stamped es cl ∧ es.toList.map (fun e => (e.key, e.val)) = m.map (fun p => (Value.int .i64 p.1, p.2))
theorem MapI.lt {w : World} {b : Nat} {m : List (Int × Value)} (h : MapI w b m) : b < w.heap.size := by
  obtain ⟨es, cl, h, _⟩ := h; exact lt_of_block h
theorem MapI.keep {w W : World} {b : Nat} {m : List (Int × Value)} (h : MapI w b m) (hW : W.heap[b]? = w.heap[b]?) : MapI W b m := by
  obtain ⟨es, cl, h1, h2⟩ := h; exact ⟨es, cl, hW.trans h1, h2⟩
theorem mapI_made (w : World) : MapI (w.alloc (.map #[] 0)) w.heap.size [] := ⟨#[], 0, heap_alloc_new w _, stamped_empty 0, rfl⟩

section
variable {P : Program} {w : World}
theorem keys_int {es : Array MapEntry} {m : List (Int × Value)} (h : es.toList.map (fun e => (e.key, e.val)) = m.map (fun p => (Value.int .i64 p.1, p.2))) : ∀ x ∈ es.toList, IsKey (.int .i64) x.key := by
  intro x hx
  have h1 : (x.key, x.val) ∈ m.map (fun p => (Value.int .i64 p.1, p.2)) := by rw [← h]; exact List.mem_map.2 ⟨x, hx, rfl⟩
  obtain ⟨p, _, hp⟩ := List.mem_map.1 h1
  have h2 := (Prod.ext_iff.1 hp).1
  simp only at h2
  rw [← h2]
  rfl
theorem find_is {es : List MapEntry} {m : List (Int × Value)} (h : es.map (fun e => (e.key, e.val)) = m.map (fun p => (Value.int .i64 p.1, p.2))) (k : Int) : ∀ i, (Instr.findNow (.int .i64) (.int .i64 k) es i).map (fun o => o.map (·.2)) = some (mget m k) := by
  induction es generalizing m with
  | nil =>
    intro i
    cases m with
    | nil => rfl
    | cons p m => simp at h
  | cons e es ih =>
    intro i
    cases m with
    | nil => simp at h
    | cons p m =>
      simp only [List.map_cons, List.cons.injEq, Prod.mk.injEq] at h
      obtain ⟨⟨h1, h2⟩, h3⟩ := h
      unfold Instr.findNow
      rw [h1]
      simp only [Instr.sameNow, if_true]
      by_cases hk : k = p.1
      · subst hk
        simp [mget, h2]
      · have e1 : (k == p.1) = false := by simpa using hk
        have e2 : (p.1 == k) = false := by simpa using Ne.symm hk
        rw [e1]
        simp only [ih h3, mget, List.find?_cons, e2]
theorem run_lookup_ok {b : Nat} {m : List (Int × Value)} (h : MapI w b m) {T kt et : TypeId} {Z : Value} (hT : P.underlying T = some (.map kt et)) (hk : P.underlying kt = some (.int .i64)) (hz : (zeroValue et).run P w = .ok Z w) (k : Int) :
    (Instr.lookup T (.map (some b)) (.int .i64 k) true).run P w = .ok (.tuple #[(mget m k).getD Z, .bool (mget m k).isSome]) w := by
  obtain ⟨es, cl, h1, h2, h3⟩ := h
  have hf := find_is h3 k 0
  cases hr : Instr.findNow (.int .i64) (.int .i64 k) es.toList 0 with
  | none => rw [hr] at hf; cases hf
  | some o =>
    rw [hr] at hf
    have hf : o.map (·.2) = mget m k := by simpa using hf
    rw [← hf]
    cases o with
    | none => simp [Instr.lookup, run_underlying hT, Go.MapKept.run_getObj_map h1, Go.MapKept.run_checkKey hk (show IsKey (.int .i64) (.int .i64 k) from rfl), Go.MapKept.run_findKey hk hr, hz, Result.andThen]
    | some q => simp [Instr.lookup, run_underlying hT, Go.MapKept.run_getObj_map h1, Go.MapKept.run_checkKey hk (show IsKey (.int .i64) (.int .i64 k) from rfl), Go.MapKept.run_findKey hk hr, Result.andThen]
theorem run_lookup_one {b : Nat} {m : List (Int × Value)} (h : MapI w b m) {T kt et : TypeId} {Z : Value} (hT : P.underlying T = some (.map kt et)) (hk : P.underlying kt = some (.int .i64)) (hz : (zeroValue et).run P w = .ok Z w) (k : Int) :
    (Instr.lookup T (.map (some b)) (.int .i64 k) false).run P w = .ok ((mget m k).getD Z) w := by
  obtain ⟨es, cl, h1, h2, h3⟩ := h
  have hf := find_is h3 k 0
  cases hr : Instr.findNow (.int .i64) (.int .i64 k) es.toList 0 with
  | none => rw [hr] at hf; cases hf
  | some o =>
    rw [hr] at hf
    have hf : o.map (·.2) = mget m k := by simpa using hf
    rw [← hf]
    cases o with
    | none => simp [Instr.lookup, run_underlying hT, Go.MapKept.run_getObj_map h1, Go.MapKept.run_checkKey hk (show IsKey (.int .i64) (.int .i64 k) from rfl), Go.MapKept.run_findKey hk hr, hz, Result.andThen]
    | some q => simp [Instr.lookup, run_underlying hT, Go.MapKept.run_getObj_map h1, Go.MapKept.run_checkKey hk (show IsKey (.int .i64) (.int .i64 k) from rfl), Go.MapKept.run_findKey hk hr, Result.andThen]
open Go.MapKept in
theorem run_update {b : Nat} {m : List (Int × Value)} (h : MapI w b m) {T kt et : TypeId} (hT : P.underlying T = some (.map kt et)) (hk : P.underlying kt = some (.int .i64)) (k : Int) (v : Value) :
    ∃ w', (Instr.mapUpdate T (.map (some b)) (.int .i64 k) v).run P w = .ok () w' ∧ MapI w' b (mput m k v) ∧ Turn (fun j => j = b) w w' ∧ w'.heap.size = w.heap.size := by
  obtain ⟨es, cl, h1, h2, h3⟩ := h
  have hkey : IsKey (.int .i64) (.int .i64 k) := rfl
  have hks := keys_int h3
  have turn : ∀ o, Turn (fun j => j = b) w { w with heap := w.heap.setIfInBounds b o } := fun o => ⟨rfl, rfl, rfl, by simp, fun j _ hj => (Go.MapKept.heap_set h1).2 j hj⟩
  rcases findNow_spec hkey es.toList 0 hks with ⟨f1, f2⟩ | ⟨j, e, f1, f2, f3⟩
  · refine ⟨{ w with heap := w.heap.setIfInBounds b (.map (es.push { key := .int .i64 k, val := v, born := cl }) (cl + 1)) }, ?_, ⟨_, _, (Go.MapKept.heap_set h1).1, stamped_push h2 f2, ?_⟩, turn _, by simp⟩
    · simp [Instr.mapUpdate, run_underlying hT, Go.MapKept.run_getObj_map h1, Go.MapKept.run_checkKey hk hkey, Go.MapKept.run_findKey hk f1, Go.MapKept.run_setObj_map _ h1, Result.andThen]
    · have key : ∀ (es : List MapEntry) (m : List (Int × Value)), es.map (fun e => (e.key, e.val)) = m.map (fun p => (Value.int .i64 p.1, p.2)) → (∀ x ∈ es, x.key ≠ .int .i64 k) → (mput m k v).map (fun p => (Value.int .i64 p.1, p.2)) = es.map (fun e => (e.key, e.val)) ++ [(.int .i64 k, v)] := by
        intro es
        induction es with
        | nil =>
          intro m hm _
          cases m with
          | nil => rfl
          | cons p m => simp at hm
        | cons e es ih =>
          intro m hm hne
          cases m with
          | nil => simp at hm
          | cons p m =>
            simp only [List.map_cons, List.cons.injEq, Prod.mk.injEq] at hm
            obtain ⟨⟨g1, g2⟩, g3⟩ := hm
            have g4 : ¬ p.1 = k := fun e2 => hne e (by simp) (by rw [g1, e2])
            unfold mput
            rw [if_neg g4, List.map_cons, ih m g3 (fun x hx => hne x (by simp [hx])), List.map_cons, List.cons_append, g1, g2]
      rw [Array.toList_push, List.map_append, key _ _ h3 f2]
      rfl
  · have hj : es[j]? = some e := by simpa using f2
    refine ⟨{ w with heap := w.heap.setIfInBounds b (.map (es.modify j fun e => { e with key := .int .i64 k, val := v }) cl) }, ?_, ⟨_, _, (Go.MapKept.heap_set h1).1, ?_, ?_⟩, turn _, by simp⟩
    · simp [Instr.mapUpdate, run_underlying hT, Go.MapKept.run_getObj_map h1, Go.MapKept.run_checkKey hk hkey, Go.MapKept.run_findKey hk f1, hj, f3, run_keyThatStays hkey, Go.MapKept.run_setObj_map _ h1, Result.andThen]
    · exact stamped_modify h2 _ _ (fun _ _ => rfl) (fun e' _ he' => by rw [hj] at he'; cases he'; exact f3.symm)
    · have key : ∀ (es : List MapEntry) (m : List (Int × Value)) (j : Nat) (e : MapEntry), es.map (fun e => (e.key, e.val)) = m.map (fun p => (Value.int .i64 p.1, p.2)) → es[j]? = some e → e.key = .int .i64 k → (es.map (·.key)).Nodup →
          (es.modify j fun e => { e with key := .int .i64 k, val := v }).map (fun e => (e.key, e.val)) = (mput m k v).map (fun p => (Value.int .i64 p.1, p.2)) := by
        intro es
        induction es with
        | nil => intro m j e _ hj; simp at hj
        | cons x es ih =>
          intro m j e hm hj he hnd
          cases m with
          | nil => simp at hm
          | cons p m =>
            simp only [List.map_cons, List.cons.injEq, Prod.mk.injEq] at hm
            obtain ⟨⟨g1, g2⟩, g3⟩ := hm
            cases j with
            | zero =>
              obtain rfl : x = e := by simpa using hj
              have g4 : p.1 = k := by rw [g1] at he; injection he
              unfold mput
              rw [if_pos g4]
              simp [g3]
            | succ j =>
              have hj' : es[j]? = some e := by simpa using hj
              simp only [List.map_cons, List.nodup_cons] at hnd
              have g4 : ¬ p.1 = k := fun e2 => hnd.1 (by
                rw [List.mem_map]
                exact ⟨e, List.mem_of_getElem? hj', by rw [he, g1, e2]⟩)
              unfold mput
              rw [if_neg g4]
              simp only [List.modify_succ_cons, List.map_cons, ih m j e g3 hj' he hnd.2, g1, g2]
      have hnd : (es.toList.map (·.key)).Nodup := h2.2.2
      rw [Array.toList_modify]
      exact key es.toList m j e h3 f2 f3 hnd
theorem run_mapclone {b : Nat} {es : Array MapEntry} {cl : Nat} (T : TypeId) (h : w.heap[b]? = some (.map es cl)) :
    (Extern.MapsClone.clone #[.iface T (.map (some b))]).run P w = .ok (.iface T (.map (some w.heap.size))) (w.alloc (.map es cl)) := by
  have e : Extern.MapsClone.clone #[.iface T (.map (some b))] = (getObj b >>= fun o => match o with
      | .map entries clock => (newObj (.map entries clock) >>= fun n => pure (.iface T (.map (some n))))
      | _ => stuck "maps.clone: a map expected") := rfl
  rw [e]
  simp [Go.MapKept.run_getObj_map h, Result.andThen, go_sem]
end
end Go.Proofs.YtnogfelfgclajaaGreatDoor
end

section
namespace Go.Proofs.YtnogfelfgclajaaGreatDoor
open Go.RowKit
attribute [local go_sem] ext_ext drew_ext ext_drew ext_cell ext_frozen in_lt in_le in_ne in_en in_ne1 in_en1 in_le1 in_ltn in_len in_nen in_enn size_le ite_max ite_min
set_option linter.unusedVariables false
set_option linter.unusedSimpArgs false

/-- A blob that lies in a slice. -/
def BlobV (B : Nat) (w : World) (v : Value) (l : List Nat) : Prop := 0 < l.length ∧ l.length ≤ 6600 ∧ w.ownsRow B 5 1 v l.length (bV l)
/-- Block b is a map of at most N blobs, that holds what D tells. -/
def MapB (B : Nat) (w : World) (b : Nat) (D : Int → Option (List Nat)) (N : Nat) : Prop :=
  ∃ mv, MapI w b mv ∧ mv.length ≤ N ∧ (∀ k, (mget mv k = none ∧ D k = none) ∨ ∃ v l, mget mv k = some v ∧ D k = some l ∧ BlobV B w v l) ∧ ∀ p ∈ mv, ∃ l, BlobV B w p.2 l
theorem BlobV.turn {B : Nat} {F : Nat → Prop} {w W : World} {v : Value} {l : List Nat} (h : BlobV B w v l) (hT : Turn F w W) (hF : ∀ g c fz, w.heap[g]? = some (.cells c 5 fz) → ¬ F g) : BlobV B W v l :=
  ⟨h.1, h.2.1, hT.owns h.2.2 (fun g hg => by
    obtain ⟨g', cap, cur, rfl, hb, hgg, _⟩ := (h.2.2.2).resolve_left (fun e => by have := e.2; have := h.1; omega)
    simp [Value.ownBlock] at hg
    subst hg
    exact hF _ _ _ hgg)⟩
theorem MapB.lt {B : Nat} {w : World} {b : Nat} {D : Int → Option (List Nat)} {N : Nat} (h : MapB B w b D N) : b < w.heap.size := by
  obtain ⟨mv, h, _⟩ := h; exact h.lt
theorem MapB.turn {B : Nat} {F : Nat → Prop} {w W : World} {b : Nat} {D : Int → Option (List Nat)} {N : Nat} (h : MapB B w b D N) (hT : Turn F w W) (hb : ¬ F b) (hF : ∀ g c fz, w.heap[g]? = some (.cells c 5 fz) → ¬ F g) : MapB B W b D N := by
  have hlt := h.lt
  obtain ⟨mv, h1, h2, h3, h4⟩ := h
  refine ⟨mv, h1.keep (hT.block _ hlt hb), h2, fun k => ?_, fun p hp => ?_⟩
  · rcases h3 k with h | ⟨v, l, a, b', c⟩
    · exact .inl h
    · exact .inr ⟨v, l, a, b', c.turn hT hF⟩
  · obtain ⟨l, hl⟩ := h4 p hp
    exact ⟨l, hl.turn hT hF⟩
/-- The disk between lines: nothing under way, nothing fails. -/
structure DiskAt (B : Nat) (w : World) (d mb : Nat) (D : Int → Option (List Nat)) (N : Nat) : Prop where
  blk : w.heap[d]? = some (.cells #[.int .i64 200000, .int .i64 0, .int .i64 0, .map (some mb), .slice none 0 0] 210 (0, 0))
  lo : B ≤ d
  mlo : B ≤ mb
  map : MapB B w mb D N
/-- The disk with one blob under way. -/
def DiskOne (B : Nat) (w : World) (d mb : Nat) (D : Int → Option (List Nat)) (N : Nat) (k : Int) (l : List Nat) : Prop :=
  ∃ lv v, w.heap[d]? = some (.cells #[.int .i64 200000, .int .i64 0, .int .i64 0, .map (some mb), lv] 210 (0, 0)) ∧ B ≤ d ∧ B ≤ mb ∧ MapB B w mb D N ∧
    w.ownsRow B 303 2 lv 1 [.int .i64 k, v] ∧ BlobV B w v l
theorem DiskAt.turn {B : Nat} {F : Nat → Prop} {w W : World} {d mb : Nat} {D : Int → Option (List Nat)} {N : Nat} (h : DiskAt B w d mb D N) (hT : Turn F w W) (hd : ¬ F d) (hb : ¬ F mb) (hF : ∀ g c fz, w.heap[g]? = some (.cells c 5 fz) → ¬ F g) : DiskAt B W d mb D N :=
  ⟨(hT.block _ (lt_of_block h.blk) hd).trans h.blk, h.lo, h.mlo, h.map.turn hT hb hF⟩
theorem DiskAt.grown {B : Nat} {w W : World} {d mb : Nat} {D : Int → Option (List Nat)} {N : Nat} (h : DiskAt B w d mb D N) (hW : Below w.heap.size w W) : DiskAt B W d mb D N :=
  h.turn (turn_below (F := fun _ => False) hW) id id (fun _ _ _ _ => id)
/-- What is held, with a blob put. -/
def dput (D : Int → Option (List Nat)) (k : Int) (l : List Nat) : Int → Option (List Nat) := fun j => if j = k then some l else D j

theorem failed_any (d : Nat) (w : World) (h1 : w.cell? ⟨d, 1, none⟩ = some (.int .i64 0)) (h2 : w.cell? ⟨d, 2, none⟩ = some (.int .i64 0)) :
    Calls Tryz.prog 239 #[.pointer (some ⟨d, 0, none⟩)] w fun e w' => e = .returned (.bool false) ∧ w = w' := by
  go_enter Tryz.func239, Tryz.ntmps239
  go_wp2
  go_ret
  exact ⟨rfl, rfl⟩

set_option maxRecDepth 100000 in
theorem mapsclone_any (b : Nat) (es : Array MapEntry) (cl : Nat) (w : World) (hb : w.heap[b]? = some (.map es cl)) :
    Calls Tryz.prog 303 #[.map (some b)] w fun e w' => e = .returned (.map (some w.heap.size)) ∧ w' = w.alloc (.map es cl) := by
  have hq := fun w => Go.run_eql_map_nil (P := Tryz.prog) w 207 _ _ (some b) Tryz.underlying207
  go_enter Tryz.func303, Tryz.ntmps303
  go_wp2_with fail
  rw [run_callFunc_extern Tryz.func342 (by kernel_rfl) (by kernel_rfl) (by kernel_rfl) (e := Extern.MapsClone.clone) (by kernel_rfl), run_mapclone 207 hb]
  simp only [Result.andThen]
  rw [Oper.upon_value]
  go_wp2_with fail
  have ta : ∀ (v : Value) (W : World), (Instr.typeAssert (.iface 207 v) 20 207 false).run Tryz.prog W = .ok v W := fun v W => by kernel_rfl
  rw [ta]
  simp only [Result.andThen]
  rw [Oper.upon_value]
  go_wp2_with fail
  go_ret
  exact ⟨rfl, rfl⟩
theorem MapI.cloned {w : World} {b : Nat} {m : List (Int × Value)} {es : Array MapEntry} {cl : Nat} (h : MapI w b m) (hb : w.heap[b]? = some (.map es cl)) : MapI (w.alloc (.map es cl)) w.heap.size m := by
  obtain ⟨es', cl', h1, h2⟩ := h
  rw [hb] at h1
  injection h1 with h1
  injection h1 with e1 e2
  subst e1 e2
  exact ⟨es, cl, heap_alloc_new w _, h2⟩
theorem MapB.cloned {B : Nat} {w : World} {b : Nat} {D : Int → Option (List Nat)} {N : Nat} {es : Array MapEntry} {cl : Nat} (h : MapB B w b D N) (hb : w.heap[b]? = some (.map es cl)) : MapB B (w.alloc (.map es cl)) w.heap.size D N := by
  have hT : Turn (fun _ => False) w (w.alloc (.map es cl)) := turn_alloc _ _ _
  obtain ⟨mv, h1, h2, h3, h4⟩ := h
  refine ⟨mv, h1.cloned hb, h2, fun k => ?_, fun p hp => ?_⟩
  · rcases h3 k with h | ⟨v, l, a, b', c⟩
    · exact .inl h
    · exact .inr ⟨v, l, a, b', c.turn hT (fun _ _ _ _ => id)⟩
  · obtain ⟨l, hl⟩ := h4 p hp
    exact ⟨l, hl.turn hT (fun _ _ _ _ => id)⟩

/-- All blobs, in a map of the call's own. -/
def MadeMap (B : Nat) (D : Int → Option (List Nat)) (N : Nat) (w : World) (e : Ending) (w' : World) : Prop := ∃ b, e = .returned (.map (some b)) ∧ w.heap.size ≤ b ∧ MapB B w' b D N ∧ ∃ f, w' = ext w f

set_option maxRecDepth 100000 in
set_option maxHeartbeats 1000000 in
theorem now_rest (B d mb : Nat) (D : Int → Option (List Nat)) (N : Nat) (w : World) (h : DiskAt B w d mb D N) :
    Calls Tryz.prog 227 #[.pointer (some ⟨d, 0, none⟩)] w (MadeMap B D N w) := by
  obtain ⟨es, cl, hb⟩ : ∃ es cl, w.heap[mb]? = some (.map es cl) := by
    obtain ⟨mv, ⟨es, cl, h1, _⟩, _⟩ := h.map
    exact ⟨es, cl, h1⟩
  have HM := Lib.hid (h.map.cloned hb)
  have c3 := cell_of_block (i := 3) h.blk rfl
  have c4 := cell_of_block (i := 4) h.blk rfl
  haveI := in_of_block h.blk
  have MC := mapsclone_any mb es cl w hb
  clear h hb
  go_enter Tryz.func227, Tryz.ntmps227
  go_wp2_with (go_at_call 303; refine MC.mono ?_; rintro e w1 ⟨rfl, rfl⟩)
  refine wp_loop_rounds 1 ?_
  rw [rounds_succ]
  go_wp2_with fail
  go_ret
  exact ⟨_, rfl, Nat.le_refl _, HM.out, grown_of⟩
end Go.Proofs.YtnogfelfgclajaaGreatDoor
end

section
namespace Go.Proofs.YtnogfelfgclajaaGreatDoor
open Go.RowKit
attribute [local go_sem] ext_ext drew_ext ext_drew ext_cell ext_frozen in_lt in_le in_ne in_en in_ne1 in_en1 in_le1 in_ltn in_len in_nen in_enn size_le ite_max ite_min
set_option linter.unusedVariables false
set_option linter.unusedSimpArgs false

theorem MapB.put {B : Nat} {w : World} {b : Nat} {D : Int → Option (List Nat)} {N : Nat} {v : Value} {l : List Nat} (h : MapB B w b D N) (k : Int) (hv : BlobV B w v l) :
    ∃ w', (Instr.mapUpdate 207 (.map (some b)) (.int .i64 k) v).run Tryz.prog w = .ok () w' ∧ MapB B w' b (dput D k l) (N + 1) ∧ Turn (fun j => j = b) w w' ∧ w'.heap.size = w.heap.size := by
  obtain ⟨mv, h1, h2, h3, h4⟩ := h
  obtain ⟨w', r1, r2, r3, r4⟩ := run_update (P := Tryz.prog) h1 Tryz.underlying207 Tryz.underlying3 k v
  have hF : ∀ g c fz, w.heap[g]? = some (.cells c 5 fz) → ¬ g = b := by
    rintro g c fz hg rfl
    obtain ⟨es, cl, h5, _⟩ := h1
    rw [hg] at h5
    cases h5
  refine ⟨w', r1, ⟨mput mv k v, r2, by have := mput_len mv k v; omega, fun j => ?_, fun p hp => ?_⟩, r3, r4⟩
  · by_cases hj : j = k
    · subst hj
      exact .inr ⟨v, l, mget_put .., by simp [dput], hv.turn r3 hF⟩
    · rw [mget_other mv v hj, show dput D k l j = D j by simp [dput, hj]]
      rcases h3 j with h | ⟨v, l, a, b', c⟩
      · exact .inl h
      · exact .inr ⟨v, l, a, b', c.turn r3 hF⟩
  · rcases mput_mem hp with rfl | hp
    · exact ⟨l, hv.turn r3 hF⟩
    · obtain ⟨l', hl⟩ := h4 p hp
      exact ⟨l', hl.turn r3 hF⟩
theorem BlobV.form {B : Nat} {w : World} {v : Value} {l : List Nat} (h : BlobV B w v l) : ∃ g cap, v = .slice (some ⟨g, 0, none⟩) l.length cap ∧ B ≤ g ∧ l.length ≤ cap ∧ BytesAt w g 0 l := by
  obtain ⟨g, cap, rfl, hb, hn, _, _⟩ := owns_some h.2.2 h.1
  exact ⟨g, cap, rfl, hb, hn, owns_bytes h.2.2⟩
theorem BlobV.grown {B : Nat} {w W : World} {v : Value} {l : List Nat} (h : BlobV B w v l) (hW : Below w.heap.size w W) : BlobV B W v l := h.turn (turn_below (F := fun _ => False) hW) (fun _ _ _ _ => id)
theorem MapB.grown {B : Nat} {w W : World} {b : Nat} {D : Int → Option (List Nat)} {N : Nat} (h : MapB B w b D N) (hW : Below w.heap.size w W) : MapB B W b D N := h.turn (turn_below (F := fun _ => False) hW) id (fun _ _ _ _ => id)

set_option maxRecDepth 100000 in
set_option maxHeartbeats 2000000 in
theorem now_one (B d mb : Nat) (D : Int → Option (List Nat)) (N : Nat) (k : Int) (l : List Nat) (w : World) (h : DiskOne B w d mb D N k l) :
    Calls Tryz.prog 227 #[.pointer (some ⟨d, 0, none⟩)] w (MadeMap B (dput D k l) (N + 1) w) := by
  obtain ⟨lv, v, hblk, _, _, hmap, how, hv⟩ := h
  obtain ⟨es, cl, hb⟩ : ∃ es cl, w.heap[mb]? = some (.map es cl) := by
    obtain ⟨mv, ⟨es, cl, h1, _⟩, _⟩ := hmap
    exact ⟨es, cl, h1⟩
  obtain ⟨gw, cw, rfl, _, _, _, hcw⟩ := owns_some how (by omega)
  have k0 : w.cell? ⟨gw, 0, none⟩ = some (.int .i64 k) := hcw 0 _ rfl
  have k1 : w.cell? ⟨gw, 1, none⟩ = some v := hcw 1 _ rfl
  obtain ⟨gv, cv, rfl, _, _, _⟩ := hv.form
  have hM := hmap.cloned hb
  have hB2 : Below w.heap.size w ((w.alloc (.map es cl)).alloc (.cells #[.int .i64 k, .slice (some ⟨gv, 0, none⟩) l.length cv] 303)) := grown_now
  obtain ⟨w', r1, r2, r3, r4⟩ := (hM.grown ((Below.refl _ _).alloc (Nat.le_refl _) (.cells #[.int .i64 k, .slice (some ⟨gv, 0, none⟩) l.length cv] 303))).put k (hv.grown hB2)
  have HM := Lib.hid r2
  have HB := Lib.hid (show Below w.heap.size w w' from hB2.trans (r3.below (B := w.heap.size) (fun i _ hi => by subst hi; exact Nat.le_refl _) (by simp; omega)))
  have c3 := cell_of_block (i := 3) hblk rfl
  have c4 := cell_of_block (i := 4) hblk rfl
  haveI := in_of_block hblk
  haveI := in_of_cell k0
  have MC := mapsclone_any mb es cl w hb
  clear hb hM hB2 r2 r3 r4 hcw how hv hmap hblk
  go_enter Tryz.func227, Tryz.ntmps227
  go_wp2_with (go_at_call 303; refine MC.mono ?_; rintro e w1 ⟨rfl, rfl⟩)
  refine wp_loop_rounds 2 ?_
  rw [rounds_succ]
  go_wp2_with fail
  rw [rounds_succ]
  go_wp2_with fail
  go_ret
  exact ⟨_, rfl, Nat.le_refl _, HM.out, ext_of HB.out⟩

theorem zero_bytes (w : World) : (zeroValue 87).run Tryz.prog w = .ok (.slice none 0 0) w := by kernel_rfl
set_option maxRecDepth 100000 in
theorem MapB.held {B : Nat} {w : World} {b : Nat} {D : Int → Option (List Nat)} {N : Nat} (h : MapB B w b D N) {k : Int} {l : List Nat} (hk : D k = some l) :
    ∃ g cap, (Instr.lookup 207 (.map (some b)) (.int .i64 k) true).run Tryz.prog w = .ok (.tuple #[.slice (some ⟨g, 0, none⟩) l.length cap, .bool true]) w ∧ (Instr.lookup 207 (.map (some b)) (.int .i64 k) false).run Tryz.prog w = .ok (.slice (some ⟨g, 0, none⟩) l.length cap) w ∧
      BlobV B w (.slice (some ⟨g, 0, none⟩) l.length cap) l ∧ l.length ≤ cap := by
  obtain ⟨mv, h1, h2, h3, h4⟩ := h
  rcases h3 k with ⟨_, h⟩ | ⟨v, l', a, b', c⟩
  · rw [h] at hk; cases hk
  · rw [b'] at hk
    obtain rfl := Option.some.inj hk
    obtain ⟨g, cap, rfl, _, hn, _⟩ := c.form
    have r1 := run_lookup_ok (P := Tryz.prog) h1 Tryz.underlying207 Tryz.underlying3 (zero_bytes w) k
    have r2 := run_lookup_one (P := Tryz.prog) h1 Tryz.underlying207 Tryz.underlying3 (zero_bytes w) k
    rw [a] at r1 r2
    exact ⟨g, cap, r1, r2, c, hn⟩
set_option maxRecDepth 100000 in
theorem MapB.free {B : Nat} {w : World} {b : Nat} {D : Int → Option (List Nat)} {N : Nat} (h : MapB B w b D N) {k : Int} (hk : D k = none) :
    (Instr.lookup 207 (.map (some b)) (.int .i64 k) true).run Tryz.prog w = .ok (.tuple #[.slice none 0 0, .bool false]) w ∧ (Instr.lookup 207 (.map (some b)) (.int .i64 k) false).run Tryz.prog w = .ok (.slice none 0 0) w := by
  obtain ⟨mv, h1, h2, h3, h4⟩ := h
  rcases h3 k with ⟨h, _⟩ | ⟨v, l', a, b', c⟩
  · have r1 := run_lookup_ok (P := Tryz.prog) h1 Tryz.underlying207 Tryz.underlying3 (zero_bytes w) k
    have r2 := run_lookup_one (P := Tryz.prog) h1 Tryz.underlying207 Tryz.underlying3 (zero_bytes w) k
    rw [h] at r1 r2
    exact ⟨r1, r2⟩
  · rw [b'] at hk; cases hk

/-- A blob got: a copy of the call's own. -/
def GotBlob (l : List Nat) (w : World) (e : Ending) (w' : World) : Prop := ∃ v, e = .returned (.tuple #[v, .bool true]) ∧ w'.ownsRow w.heap.size 5 1 v l.length (bV l) ∧ ∃ f, w' = ext w f
set_option maxRecDepth 100000 in
set_option maxHeartbeats 1000000 in
theorem get_some (B d mb : Nat) (D : Int → Option (List Nat)) (N : Nat) (k : Int) (l : List Nat) (w : World) (h : DiskAt B w d mb D N) (hk : D k = some l) :
    Calls Tryz.prog 178 #[.pointer (some ⟨d, 0, none⟩), .int .i64 k] w (GotBlob l w) := by
  have NW := now_rest B d mb D N w h
  have HK := Lib.hid hk
  clear h hk
  go_enter Tryz.func178, Tryz.ntmps178
  go_wp2_with fail
  refine NW.mono ?_
  rintro e w1 ⟨b, rfl, hb, hm, _t, hw⟩
  have hc1 := named_cell hw
  haveI hi1 := named_in hw
  haveI hb1 := named_below (w := w) hw
  clear hw
  obtain ⟨g, cap, r1, _, hv, _⟩ := hm.held HK.out
  have B1 := Lib.hid (grown_now (w := w) (W := w1))
  have CL := clonebytes_any l g 0 cap w1 hv.1 (by have := hv.2.1; omega) (by obtain ⟨g', c', e, _, _, h⟩ := hv.form; injection e with e1 _ _; injection e1 with e1; injection e1 with e1; subst e1; exact h)
  clear hm hb hv
  go_wp2_with fail
  refine (CL).mono ?_
  rintro e w2 ⟨v2, rfl, ho2, _t, hw⟩
  haveI hb2_1 := named_below (w := w1) hw
  have hc2 := named_cell hw
  have hz2 := named_frozen hw
  have hh2 := named_heap hw
  haveI hi2 := named_in hw
  haveI hb2 := named_below (w := w) hw
  clear hw
  have O2 := Lib.hid ho2
  clear ho2
  go_wp2_with fail
  go_ret2
  exact ⟨_, rfl, owns_base O2.out B1.out.size, grown_of⟩
set_option maxRecDepth 100000 in
set_option maxHeartbeats 1000000 in
theorem get_none (B d mb : Nat) (D : Int → Option (List Nat)) (N : Nat) (k : Int) (w : World) (h : DiskAt B w d mb D N) (hk : D k = none) :
    Calls Tryz.prog 178 #[.pointer (some ⟨d, 0, none⟩), .int .i64 k] w fun e w' => e = .returned (.tuple #[.slice none 0 0, .bool false]) ∧ ∃ f, w' = ext w f := by
  have NW := now_rest B d mb D N w h
  have HK := Lib.hid hk
  clear h hk
  go_enter Tryz.func178, Tryz.ntmps178
  go_wp2_with fail
  refine NW.mono ?_
  rintro e w1 ⟨b, rfl, hb, hm, _t, hw⟩
  have hc1 := named_cell hw
  haveI hi1 := named_in hw
  haveI hb1 := named_below (w := w) hw
  clear hw
  have r1 := (hm.free HK.out).1
  clear hm hb
  go_wp2_with (go_at_call 228; refine (clonebytes_nil _).mono ?_; rintro e w2 ⟨rfl, rfl⟩)
  go_ret2
  exact ⟨rfl, grown_of⟩
end Go.Proofs.YtnogfelfgclajaaGreatDoor
end
