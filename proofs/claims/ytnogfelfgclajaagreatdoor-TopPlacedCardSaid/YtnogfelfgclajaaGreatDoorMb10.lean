/-
  The stand-in for a disk: what it holds; all blobs as they were put last.
  The stand-in for a disk: all blobs with one under way; a blob got.
  The stand-in for a disk: how many bytes blobs have; a blob put; all made safe.
  The stand-in for a disk: a blob put; all made safe.
  The stand-in for a disk: all made safe; a new disk.
  No Go in sight. Blocks that hold no bytes; records; of the two slots of an id the one that holds the later record.
-/
import Derived.Test.YtnogfelfgclajaaGreatDoorMb09
import Derived.Maps.RangeRun
section
namespace Go.Proofs.YtnogfelfgclajaaGreatDoor
open Go.RowKit
attribute [local go_sem] ext_ext drew_ext ext_drew ext_cell ext_frozen in_lt in_le in_ne in_en in_ne1 in_en1 in_le1 in_ltn in_len in_nen in_enn size_le ite_max ite_min
set_option linter.unusedVariables false
set_option linter.unusedSimpArgs false

/-- A blob that lies in a slice. -/
def BlobV (B : Nat) (w : World) (v : Value) (l : List Nat) : Prop := 0 < l.length ∧ l.length ≤ 6600 ∧ w.ownsRow B 5 1 v l.length (bV l)
/-- Block b is a map of at most N blobs, that holds what D tells. -/
def MapB (B : Nat) (w : World) (b : Nat) (D : Int → Option (List Nat)) (N : Nat) : Prop :=
  ∃ mv, MapI w b mv ∧ mv.length ≤ N ∧ (∀ k, (mget mv k = none ∧ D k = none) ∨ ∃ v l, mget mv k = some v ∧ D k = some l ∧ BlobV B w v l) ∧ ∀ p ∈ mv, ∃ l, BlobV B w p.2 l
theorem BlobV.turn {B : Nat} {F : Nat → Prop} {w W : World} {v : Value} {l : List Nat} (h : BlobV B w v l) (hT : Turn F w W) (hF : ∀ g c fz, w.heap[g]? = some (.cells c 5 fz) → ¬ F g) : BlobV B W v l :=
  ⟨h.1, h.2.1, hT.owns h.2.2 (fun g hg => by
    obtain ⟨g', cap, cur, rfl, hb, hgg, _⟩ := (h.2.2.2).resolve_left (fun e => by have := e.2; have := h.1; omega)
    simp [Value.ownBlock] at hg
    subst hg
    exact hF _ _ _ hgg)⟩
theorem MapB.lt {B : Nat} {w : World} {b : Nat} {D : Int → Option (List Nat)} {N : Nat} (h : MapB B w b D N) : b < w.heap.size := by
  obtain ⟨mv, h, _⟩ := h; exact h.lt
theorem MapB.turn {B : Nat} {F : Nat → Prop} {w W : World} {b : Nat} {D : Int → Option (List Nat)} {N : Nat} (h : MapB B w b D N) (hT : Turn F w W) (hb : ¬ F b) (hF : ∀ g c fz, w.heap[g]? = some (.cells c 5 fz) → ¬ F g) : MapB B W b D N := by
  have hlt := h.lt
  obtain ⟨mv, h1, h2, h3, h4⟩ := h
  refine ⟨mv, h1.keep (hT.block _ hlt hb), h2, fun k => ?_, fun p hp => ?_⟩
  · rcases h3 k with h | ⟨v, l, a, b', c⟩
    · exact .inl h
    · exact .inr ⟨v, l, a, b', c.turn hT hF⟩
  · obtain ⟨l, hl⟩ := h4 p hp
    exact ⟨l, hl.turn hT hF⟩
/-- The disk between lines: nothing under way, nothing fails. -/
structure DiskAt (B : Nat) (w : World) (d mb : Nat) (D : Int → Option (List Nat)) (N : Nat) : Prop where
  blk : w.heap[d]? = some (.cells #[.int .i64 200000, .int .i64 0, .int .i64 0, .map (some mb), .slice none 0 0] 210 (0, 0))
  lo : B ≤ d
  mlo : B ≤ mb
  map : MapB B w mb D N
/-- The disk with one blob under way. -/
def DiskOne (B : Nat) (w : World) (d mb : Nat) (D : Int → Option (List Nat)) (N : Nat) (k : Int) (l : List Nat) : Prop :=
  ∃ lv v, w.heap[d]? = some (.cells #[.int .i64 200000, .int .i64 0, .int .i64 0, .map (some mb), lv] 210 (0, 0)) ∧ B ≤ d ∧ B ≤ mb ∧ MapB B w mb D N ∧
    w.ownsRow B 303 2 lv 1 [.int .i64 k, v] ∧ BlobV B w v l
theorem DiskAt.turn {B : Nat} {F : Nat → Prop} {w W : World} {d mb : Nat} {D : Int → Option (List Nat)} {N : Nat} (h : DiskAt B w d mb D N) (hT : Turn F w W) (hd : ¬ F d) (hb : ¬ F mb) (hF : ∀ g c fz, w.heap[g]? = some (.cells c 5 fz) → ¬ F g) : DiskAt B W d mb D N :=
  ⟨(hT.block _ (lt_of_block h.blk) hd).trans h.blk, h.lo, h.mlo, h.map.turn hT hb hF⟩
theorem DiskAt.grown {B : Nat} {w W : World} {d mb : Nat} {D : Int → Option (List Nat)} {N : Nat} (h : DiskAt B w d mb D N) (hW : Below w.heap.size w W) : DiskAt B W d mb D N :=
  h.turn (turn_below (F := fun _ => False) hW) id id (fun _ _ _ _ => id)
/-- What is held, with a blob put. -/
def dput (D : Int → Option (List Nat)) (k : Int) (l : List Nat) : Int → Option (List Nat) := fun j => if j = k then some l else D j

theorem failed_any (d : Nat) (w : World) (h1 : w.cell? ⟨d, 1, none⟩ = some (.int .i64 0)) (h2 : w.cell? ⟨d, 2, none⟩ = some (.int .i64 0)) :
    Calls Tryz.prog 239 #[.pointer (some ⟨d, 0, none⟩)] w fun e w' => e = .returned (.bool false) ∧ w = w' := by
  go_enter Tryz.func239, Tryz.ntmps239
  go_wp2
  go_ret
  exact ⟨rfl, rfl⟩

set_option maxRecDepth 100000 in
theorem mapsclone_any (b : Nat) (es : Array MapEntry) (cl : Nat) (w : World) (hb : w.heap[b]? = some (.map es cl)) :
    Calls Tryz.prog 303 #[.map (some b)] w fun e w' => e = .returned (.map (some w.heap.size)) ∧ w' = w.alloc (.map es cl) := by
  have hq := fun w => Go.run_eql_map_nil (P := Tryz.prog) w 207 _ _ (some b) Tryz.underlying207
  go_enter Tryz.func303, Tryz.ntmps303
  go_wp2_with fail
  rw [run_callFunc_extern Tryz.func342 (by kernel_rfl) (by kernel_rfl) (by kernel_rfl) (e := Extern.MapsClone.clone) (by kernel_rfl), run_mapclone 207 hb]
  simp only [Result.andThen]
  rw [Oper.upon_value]
  go_wp2_with fail
  have ta : ∀ (v : Value) (W : World), (Instr.typeAssert (.iface 207 v) 20 207 false).run Tryz.prog W = .ok v W := fun v W => by kernel_rfl
  rw [ta]
  simp only [Result.andThen]
  rw [Oper.upon_value]
  go_wp2_with fail
  go_ret
  exact ⟨rfl, rfl⟩
theorem MapI.cloned {w : World} {b : Nat} {m : List (Int × Value)} {es : Array MapEntry} {cl : Nat} (h : MapI w b m) (hb : w.heap[b]? = some (.map es cl)) : MapI (w.alloc (.map es cl)) w.heap.size m := by
  obtain ⟨es', cl', h1, h2⟩ := h
  rw [hb] at h1
  injection h1 with h1
  injection h1 with e1 e2
  subst e1 e2
  exact ⟨es, cl, heap_alloc_new w _, h2⟩
theorem MapB.cloned {B : Nat} {w : World} {b : Nat} {D : Int → Option (List Nat)} {N : Nat} {es : Array MapEntry} {cl : Nat} (h : MapB B w b D N) (hb : w.heap[b]? = some (.map es cl)) : MapB B (w.alloc (.map es cl)) w.heap.size D N := by
  have hT : Turn (fun _ => False) w (w.alloc (.map es cl)) := turn_alloc _ _ _
  obtain ⟨mv, h1, h2, h3, h4⟩ := h
  refine ⟨mv, h1.cloned hb, h2, fun k => ?_, fun p hp => ?_⟩
  · rcases h3 k with h | ⟨v, l, a, b', c⟩
    · exact .inl h
    · exact .inr ⟨v, l, a, b', c.turn hT (fun _ _ _ _ => id)⟩
  · obtain ⟨l, hl⟩ := h4 p hp
    exact ⟨l, hl.turn hT (fun _ _ _ _ => id)⟩

/-- All blobs, in a map of the call's own. -/
def MadeMap (B : Nat) (D : Int → Option (List Nat)) (N : Nat) (w : World) (e : Ending) (w' : World) : Prop := ∃ b, e = .returned (.map (some b)) ∧ w.heap.size ≤ b ∧ MapB B w' b D N ∧ ∃ f, w' = ext w f

set_option maxRecDepth 100000 in
set_option maxHeartbeats 1000000 in
theorem now_rest (B d mb : Nat) (D : Int → Option (List Nat)) (N : Nat) (w : World) (h : DiskAt B w d mb D N) :
    Calls Tryz.prog 227 #[.pointer (some ⟨d, 0, none⟩)] w (MadeMap B D N w) := by
  obtain ⟨es, cl, hb⟩ : ∃ es cl, w.heap[mb]? = some (.map es cl) := by
    obtain ⟨mv, ⟨es, cl, h1, _⟩, _⟩ := h.map
    exact ⟨es, cl, h1⟩
  have HM := Lib.hid (h.map.cloned hb)
  have c3 := cell_of_block (i := 3) h.blk rfl
  have c4 := cell_of_block (i := 4) h.blk rfl
  haveI := in_of_block h.blk
  have MC := mapsclone_any mb es cl w hb
  clear h hb
  go_enter Tryz.func227, Tryz.ntmps227
  go_wp2_with (go_at_call 303; refine MC.mono ?_; rintro e w1 ⟨rfl, rfl⟩)
  refine wp_loop_rounds 1 ?_
  rw [rounds_succ]
  go_wp2_with fail
  go_ret
  exact ⟨_, rfl, Nat.le_refl _, HM.out, grown_of⟩
end Go.Proofs.YtnogfelfgclajaaGreatDoor
end

section
namespace Go.Proofs.YtnogfelfgclajaaGreatDoor
open Go.RowKit
attribute [local go_sem] ext_ext drew_ext ext_drew ext_cell ext_frozen in_lt in_le in_ne in_en in_ne1 in_en1 in_le1 in_ltn in_len in_nen in_enn size_le ite_max ite_min
set_option linter.unusedVariables false
set_option linter.unusedSimpArgs false

theorem MapB.put {B : Nat} {w : World} {b : Nat} {D : Int → Option (List Nat)} {N : Nat} {v : Value} {l : List Nat} (h : MapB B w b D N) (k : Int) (hv : BlobV B w v l) :
    ∃ w', (Instr.mapUpdate 207 (.map (some b)) (.int .i64 k) v).run Tryz.prog w = .ok () w' ∧ MapB B w' b (dput D k l) (N + 1) ∧ Turn (fun j => j = b) w w' ∧ w'.heap.size = w.heap.size := by
  obtain ⟨mv, h1, h2, h3, h4⟩ := h
  obtain ⟨w', r1, r2, r3, r4⟩ := run_update (P := Tryz.prog) h1 Tryz.underlying207 Tryz.underlying3 k v
  have hF : ∀ g c fz, w.heap[g]? = some (.cells c 5 fz) → ¬ g = b := by
    rintro g c fz hg rfl
    obtain ⟨es, cl, h5, _⟩ := h1
    rw [hg] at h5
    cases h5
  refine ⟨w', r1, ⟨mput mv k v, r2, by have := mput_len mv k v; omega, fun j => ?_, fun p hp => ?_⟩, r3, r4⟩
  · by_cases hj : j = k
    · subst hj
      exact .inr ⟨v, l, mget_put .., by simp [dput], hv.turn r3 hF⟩
    · rw [mget_other mv v hj, show dput D k l j = D j by simp [dput, hj]]
      rcases h3 j with h | ⟨v, l, a, b', c⟩
      · exact .inl h
      · exact .inr ⟨v, l, a, b', c.turn r3 hF⟩
  · rcases mput_mem hp with rfl | hp
    · exact ⟨l, hv.turn r3 hF⟩
    · obtain ⟨l', hl⟩ := h4 p hp
      exact ⟨l', hl.turn r3 hF⟩
theorem BlobV.form {B : Nat} {w : World} {v : Value} {l : List Nat} (h : BlobV B w v l) : ∃ g cap, v = .slice (some ⟨g, 0, none⟩) l.length cap ∧ B ≤ g ∧ l.length ≤ cap ∧ BytesAt w g 0 l := by
  obtain ⟨g, cap, rfl, hb, hn, _, _⟩ := owns_some h.2.2 h.1
  exact ⟨g, cap, rfl, hb, hn, owns_bytes h.2.2⟩
theorem BlobV.grown {B : Nat} {w W : World} {v : Value} {l : List Nat} (h : BlobV B w v l) (hW : Below w.heap.size w W) : BlobV B W v l := h.turn (turn_below (F := fun _ => False) hW) (fun _ _ _ _ => id)
theorem MapB.grown {B : Nat} {w W : World} {b : Nat} {D : Int → Option (List Nat)} {N : Nat} (h : MapB B w b D N) (hW : Below w.heap.size w W) : MapB B W b D N := h.turn (turn_below (F := fun _ => False) hW) id (fun _ _ _ _ => id)

set_option maxRecDepth 100000 in
set_option maxHeartbeats 2000000 in
theorem now_one (B d mb : Nat) (D : Int → Option (List Nat)) (N : Nat) (k : Int) (l : List Nat) (w : World) (h : DiskOne B w d mb D N k l) :
    Calls Tryz.prog 227 #[.pointer (some ⟨d, 0, none⟩)] w (MadeMap B (dput D k l) (N + 1) w) := by
  obtain ⟨lv, v, hblk, _, _, hmap, how, hv⟩ := h
  obtain ⟨es, cl, hb⟩ : ∃ es cl, w.heap[mb]? = some (.map es cl) := by
    obtain ⟨mv, ⟨es, cl, h1, _⟩, _⟩ := hmap
    exact ⟨es, cl, h1⟩
  obtain ⟨gw, cw, rfl, _, _, _, hcw⟩ := owns_some how (by omega)
  have k0 : w.cell? ⟨gw, 0, none⟩ = some (.int .i64 k) := hcw 0 _ rfl
  have k1 : w.cell? ⟨gw, 1, none⟩ = some v := hcw 1 _ rfl
  obtain ⟨gv, cv, rfl, _, _, _⟩ := hv.form
  have hM := hmap.cloned hb
  have hB2 : Below w.heap.size w ((w.alloc (.map es cl)).alloc (.cells #[.int .i64 k, .slice (some ⟨gv, 0, none⟩) l.length cv] 303)) := grown_now
  obtain ⟨w', r1, r2, r3, r4⟩ := (hM.grown ((Below.refl _ _).alloc (Nat.le_refl _) (.cells #[.int .i64 k, .slice (some ⟨gv, 0, none⟩) l.length cv] 303))).put k (hv.grown hB2)
  have HM := Lib.hid r2
  have HB := Lib.hid (show Below w.heap.size w w' from hB2.trans (r3.below (B := w.heap.size) (fun i _ hi => by subst hi; exact Nat.le_refl _) (by simp; omega)))
  have c3 := cell_of_block (i := 3) hblk rfl
  have c4 := cell_of_block (i := 4) hblk rfl
  haveI := in_of_block hblk
  haveI := in_of_cell k0
  have MC := mapsclone_any mb es cl w hb
  clear hb hM hB2 r2 r3 r4 hcw how hv hmap hblk
  go_enter Tryz.func227, Tryz.ntmps227
  go_wp2_with (go_at_call 303; refine MC.mono ?_; rintro e w1 ⟨rfl, rfl⟩)
  refine wp_loop_rounds 2 ?_
  rw [rounds_succ]
  go_wp2_with fail
  rw [rounds_succ]
  go_wp2_with fail
  go_ret
  exact ⟨_, rfl, Nat.le_refl _, HM.out, ext_of HB.out⟩

theorem zero_bytes (w : World) : (zeroValue 87).run Tryz.prog w = .ok (.slice none 0 0) w := by kernel_rfl
set_option maxRecDepth 100000 in
theorem MapB.held {B : Nat} {w : World} {b : Nat} {D : Int → Option (List Nat)} {N : Nat} (h : MapB B w b D N) {k : Int} {l : List Nat} (hk : D k = some l) :
    ∃ g cap, (Instr.lookup 207 (.map (some b)) (.int .i64 k) true).run Tryz.prog w = .ok (.tuple #[.slice (some ⟨g, 0, none⟩) l.length cap, .bool true]) w ∧ (Instr.lookup 207 (.map (some b)) (.int .i64 k) false).run Tryz.prog w = .ok (.slice (some ⟨g, 0, none⟩) l.length cap) w ∧
      BlobV B w (.slice (some ⟨g, 0, none⟩) l.length cap) l ∧ l.length ≤ cap := by
  obtain ⟨mv, h1, h2, h3, h4⟩ := h
  rcases h3 k with ⟨_, h⟩ | ⟨v, l', a, b', c⟩
  · rw [h] at hk; cases hk
  · rw [b'] at hk
    obtain rfl := Option.some.inj hk
    obtain ⟨g, cap, rfl, _, hn, _⟩ := c.form
    have r1 := run_lookup_ok (P := Tryz.prog) h1 Tryz.underlying207 Tryz.underlying3 (zero_bytes w) k
    have r2 := run_lookup_one (P := Tryz.prog) h1 Tryz.underlying207 Tryz.underlying3 (zero_bytes w) k
    rw [a] at r1 r2
    exact ⟨g, cap, r1, r2, c, hn⟩
set_option maxRecDepth 100000 in
theorem MapB.free {B : Nat} {w : World} {b : Nat} {D : Int → Option (List Nat)} {N : Nat} (h : MapB B w b D N) {k : Int} (hk : D k = none) :
    (Instr.lookup 207 (.map (some b)) (.int .i64 k) true).run Tryz.prog w = .ok (.tuple #[.slice none 0 0, .bool false]) w ∧ (Instr.lookup 207 (.map (some b)) (.int .i64 k) false).run Tryz.prog w = .ok (.slice none 0 0) w := by
  obtain ⟨mv, h1, h2, h3, h4⟩ := h
  rcases h3 k with ⟨h, _⟩ | ⟨v, l', a, b', c⟩
  · have r1 := run_lookup_ok (P := Tryz.prog) h1 Tryz.underlying207 Tryz.underlying3 (zero_bytes w) k
    have r2 := run_lookup_one (P := Tryz.prog) h1 Tryz.underlying207 Tryz.underlying3 (zero_bytes w) k
    rw [h] at r1 r2
    exact ⟨r1, r2⟩
  · rw [b'] at hk; cases hk

/-- A blob got: a copy of the call's own. -/
def GotBlob (l : List Nat) (w : World) (e : Ending) (w' : World) : Prop := ∃ v, e = .returned (.tuple #[v, .bool true]) ∧ w'.ownsRow w.heap.size 5 1 v l.length (bV l) ∧ ∃ f, w' = ext w f
set_option maxRecDepth 100000 in
set_option maxHeartbeats 1000000 in
theorem get_some (B d mb : Nat) (D : Int → Option (List Nat)) (N : Nat) (k : Int) (l : List Nat) (w : World) (h : DiskAt B w d mb D N) (hk : D k = some l) :
    Calls Tryz.prog 178 #[.pointer (some ⟨d, 0, none⟩), .int .i64 k] w (GotBlob l w) := by
  have NW := now_rest B d mb D N w h
  have HK := Lib.hid hk
  clear h hk
  go_enter Tryz.func178, Tryz.ntmps178
  go_wp2_with fail
  refine NW.mono ?_
  rintro e w1 ⟨b, rfl, hb, hm, _t, hw⟩
  have hc1 := named_cell hw
  haveI hi1 := named_in hw
  haveI hb1 := named_below (w := w) hw
  clear hw
  obtain ⟨g, cap, r1, _, hv, _⟩ := hm.held HK.out
  have B1 := Lib.hid (grown_now (w := w) (W := w1))
  have CL := clonebytes_any l g 0 cap w1 hv.1 (by have := hv.2.1; omega) (by obtain ⟨g', c', e, _, _, h⟩ := hv.form; injection e with e1 _ _; injection e1 with e1; injection e1 with e1; subst e1; exact h)
  clear hm hb hv
  go_wp2_with fail
  refine (CL).mono ?_
  rintro e w2 ⟨v2, rfl, ho2, _t, hw⟩
  haveI hb2_1 := named_below (w := w1) hw
  have hc2 := named_cell hw
  have hz2 := named_frozen hw
  have hh2 := named_heap hw
  haveI hi2 := named_in hw
  haveI hb2 := named_below (w := w) hw
  clear hw
  have O2 := Lib.hid ho2
  clear ho2
  go_wp2_with fail
  go_ret2
  exact ⟨_, rfl, owns_base O2.out B1.out.size, grown_of⟩
set_option maxRecDepth 100000 in
set_option maxHeartbeats 1000000 in
theorem get_none (B d mb : Nat) (D : Int → Option (List Nat)) (N : Nat) (k : Int) (w : World) (h : DiskAt B w d mb D N) (hk : D k = none) :
    Calls Tryz.prog 178 #[.pointer (some ⟨d, 0, none⟩), .int .i64 k] w fun e w' => e = .returned (.tuple #[.slice none 0 0, .bool false]) ∧ ∃ f, w' = ext w f := by
  have NW := now_rest B d mb D N w h
  have HK := Lib.hid hk
  clear h hk
  go_enter Tryz.func178, Tryz.ntmps178
  go_wp2_with fail
  refine NW.mono ?_
  rintro e w1 ⟨b, rfl, hb, hm, _t, hw⟩
  have hc1 := named_cell hw
  haveI hi1 := named_in hw
  haveI hb1 := named_below (w := w) hw
  clear hw
  have r1 := (hm.free HK.out).1
  clear hm hb
  go_wp2_with (go_at_call 228; refine (clonebytes_nil _).mono ?_; rintro e w2 ⟨rfl, rfl⟩)
  go_ret2
  exact ⟨rfl, grown_of⟩
end Go.Proofs.YtnogfelfgclajaaGreatDoor
end

section
namespace Go.Proofs.YtnogfelfgclajaaGreatDoor
open Go.RowKit Go.ChangeMaps
attribute [local go_sem] ext_ext drew_ext ext_drew ext_cell ext_frozen in_lt in_le in_ne in_en in_ne1 in_en1 in_le1 in_ltn in_len in_nen in_enn size_le ite_max ite_min
set_option linter.unusedVariables false
set_option linter.unusedSimpArgs false

/-- How many entries a range has still to come to. -/
def itLeft (es : Array MapEntry) (r : Nat) (w : World) : Nat := match w.heap[r]? with | some (.mapIter _ _ seen _) => (leftOf es seen).size | _ => 0
theorem turn_setBlock (w : World) (r : Nat) (o : Obj) : Turn (fun k => k = r) w (setBlock w r o) :=
  ⟨rfl, rfl, rfl, by simp [setBlock], fun k _ hk => by simp [setBlock, Ne.symm hk]⟩
theorem heap_setBlock {w : World} {r : Nat} (h : r < w.heap.size) (o : Obj) : (setBlock w r o).heap[r]? = some o := by simp [setBlock, h]
/-- A slice's length. -/
def vlen : Value → Int | .slice _ n _ => n | _ => 0
def sumM (mv : List (Int × Value)) : Int := (mv.map (fun p => vlen p.2)).sum
def seenM (es : List MapEntry) (seen : Array Nat) : Int := (es.map (fun e => if seen.contains e.born then vlen e.val else 0)).sum
theorem seenM_none (es : List MapEntry) : seenM es #[] = 0 := by
  induction es with
  | nil => rfl
  | cons e es ih => unfold seenM at ih ⊢; rw [List.map_cons, List.sum_cons, ih]; simp
theorem seenM_push : ∀ {es : List MapEntry} {seen : Array Nat} {e : MapEntry}, e ∈ es → seen.contains e.born = false → (es.map (·.born)).Nodup → seenM es (seen.push e.born) = seenM es seen + vlen e.val
  | [], _, _, h, _, _ => by cases h
  | x :: es, seen, e, h, hn, hd => by
    simp only [List.map_cons, List.nodup_cons] at hd
    have far : ∀ (l : List MapEntry), (∀ y ∈ l, y.born ≠ e.born) → seenM l (seen.push e.born) = seenM l seen := by
      intro l
      induction l with
      | nil => intro _; rfl
      | cons y l ih =>
        intro hl
        have h1 := ih (fun z hz => hl z (by simp [hz]))
        unfold seenM at h1 ⊢
        have h2 := hl y (by simp)
        rw [List.map_cons, List.sum_cons, List.map_cons, List.sum_cons, h1, Array.contains_push]
        simp [Ne.symm h2, h2]
    rcases List.mem_cons.1 h with rfl | h
    · have h1 := far es (fun y hy e2 => hd.1 (by rw [← e2]; exact List.mem_map.2 ⟨y, hy, rfl⟩))
      unfold seenM at h1 ⊢
      rw [List.map_cons, List.sum_cons, List.map_cons, List.sum_cons, h1, Array.contains_push]
      simp only [hn, beq_self_eq_true, Bool.or_true, Bool.or_false, if_true, Bool.false_eq_true, if_false]
      omega
    · have h1 := seenM_push h hn hd.2
      have h2 : x.born ≠ e.born := fun e2 => hd.1 (by rw [e2]; exact List.mem_map.2 ⟨e, h, rfl⟩)
      have h3 := far [x] (fun y hy => by simp at hy; subst hy; exact h2)
      unfold seenM at h1 h3 ⊢
      simp only [List.map_cons, List.map_nil, List.sum_cons, List.sum_nil] at h1 h3 ⊢
      omega
theorem seenM_all {es : List MapEntry} {seen : Array Nat} {mv : List (Int × Value)} (h : es.map (fun e => (e.key, e.val)) = mv.map (fun p => (Value.int .i64 p.1, p.2))) (hs : ∀ x ∈ es, seen.contains x.born = true) : seenM es seen = sumM mv := by
  have h1 : seenM es seen = (es.map (fun e => vlen e.val)).sum := by
    unfold seenM
    congr 1
    exact List.map_congr_left (fun x hx => by rw [hs x hx]; rfl)
  have h2 := congrArg (List.map (fun p : Value × Value => vlen p.2)) h
  rw [List.map_map, List.map_map] at h2
  rw [h1]
  unfold sumM
  exact congrArg List.sum h2
theorem seenM_bd {es : List MapEntry} {seen : Array Nat} (h : ∀ x ∈ es, 0 ≤ vlen x.val ∧ vlen x.val ≤ 6600) : 0 ≤ seenM es seen ∧ seenM es seen ≤ 6600 * (es.length : Int) := by
  induction es with
  | nil => simp [seenM]
  | cons x es ih =>
    obtain ⟨h1, h2⟩ := ih (fun y hy => h y (by simp [hy]))
    obtain ⟨h3, h4⟩ := h x (by simp)
    unfold seenM at h1 h2 ⊢
    rw [List.map_cons, List.sum_cons, List.length_cons]
    split <;> omega
/-- Values that are slices, not too long. -/
def Shorts (mv : List (Int × Value)) : Prop := ∀ p ∈ mv, ∃ g cap n, p.2 = .slice (some ⟨g, 0, none⟩) n cap ∧ n ≤ 6600
theorem sumM_bd {mv : List (Int × Value)} (h : Shorts mv) : 0 ≤ sumM mv ∧ sumM mv ≤ 6600 * (mv.length : Int) := by
  induction mv with
  | nil => simp [sumM]
  | cons p mv ih =>
    obtain ⟨h1, h2⟩ := ih (fun q hq => h q (by simp [hq]))
    obtain ⟨g, cap, n, hp, hn⟩ := h p (by simp)
    have h5 : vlen p.2 = (n : Int) := by rw [hp]; rfl
    unfold sumM at h1 h2 ⊢
    rw [List.map_cons, List.sum_cons, List.length_cons, h5]
    omega

set_option maxRecDepth 100000 in
set_option maxHeartbeats 2000000 in
theorem bytes_any (b : Nat) (mv : List (Int × Value)) (w : World) (h : MapI w b mv) (hN : mv.length ≤ 1000) (hS : Shorts mv) :
    Calls Tryz.prog 240 #[.map (some b)] w fun e w' => e = .returned (.int .i64 (sumM mv)) ∧ ∃ f, w' = ext w f := by
  obtain ⟨es, cl, h1, h2, h3⟩ := h
  have hes : es.size = mv.length := by have := congrArg List.length h3; simpa using this
  have hold : ∀ x ∈ es.toList, x.born < cl := h2.1
  have hnd := ((Go.MapKept.stamped_iff es cl).1 h2).2.1
  have hval := Lib.hid (show ∀ e ∈ es.toList, ∃ g cap n, e.val = .slice (some ⟨g, 0, none⟩) n cap ∧ n ≤ 6600 from fun e he => by
    have h7 : (e.key, e.val) ∈ mv.map (fun p => (Value.int .i64 p.1, p.2)) := by rw [← h3]; exact List.mem_map.2 ⟨e, he, rfl⟩
    obtain ⟨p, hp, hpe⟩ := List.mem_map.1 h7
    have h8 := (Prod.ext_iff.1 hpe).2
    simp only at h8
    rw [← h8]
    exact hS p hp)
  have BD := Lib.hid (fun seen => seenM_bd (es := es.toList) (seen := seen) (fun x hx => by
    obtain ⟨g, cap, n, hv, hn⟩ := hval.out x hx
    have h5 : vlen x.val = (n : Int) := by rw [hv]; rfl
    omega))
  have HA := Lib.hid (fun seen hs => seenM_all (seen := seen) h3 hs)
  have hrg := run_range_map (P := Tryz.prog) w 207 _ _ b es cl Tryz.underlying207 h1
  have HN := Lib.hid (show es.toList.length ≤ 1000 by rw [Array.length_toList]; omega)
  have HO := Lib.hid hold
  have HD := Lib.hid hnd
  have HB := Lib.hid h1
  haveI := in_of_block h1
  clear h1 h2 h3 hes hold hnd hS hN
  go_enter Tryz.func240, Tryz.ntmps240
  go_wp2_with fail
  go_loopw [3] (fun n wr => ∃ (seen : Array Nat) (c0 : Nat), wr.heap[w.heap.size]? = some (.mapIter (some b) cl seen c0) ∧ Hid (cl ≤ c0) ∧ n = .int .i64 (seenM es.toList seen) ∧ Hid (Below w.heap.size w wr)) (fun _ wr => itLeft es w.heap.size wr)
  case atStart => exact ⟨#[], cl, heap_alloc_new w _, Lib.hid (Nat.le_refl _), by rw [seenM_none], Lib.hid ((Below.refl _ w).alloc (Nat.le_refl _) _)⟩
  case round =>
    obtain ⟨seen, c0, hr, hc0, rfl, hbl⟩ := hrel
    rename World => w1
    have hm : w1.heap[b]? = some (.map es cl) := (hbl.out.block b (lt_of_block HB.out)).trans HB.out
    have s0 := (BD.out seen).1
    have s1 : seenM es.toList seen ≤ 6600000 := by have := (BD.out seen).2; have := HN.out; omega
    rcases run_next_at (P := Tryz.prog) w1 0 w.heap.size b cl c0 seen es cl hr hm HO.out hc0.out with ⟨z0, hn⟩ | ⟨e, he, w2, hw2, hn⟩
    · have HS := Lib.hid (HA.out seen (all_seen es seen z0))
      clear hr hm z0
      generalize seenM es.toList seen = s at *
      go_wp2_with fail
      go_ret
      exact ⟨ret_int HS.out, ext_of hbl.out⟩
    · have hel := mem_left he
      obtain ⟨g, cap, n, hv, hn6⟩ := hval.out e hel.1
      have hsh := left_shrinks es seen e he
      have hlt2 : w.heap.size < w2.heap.size := by rcases hw2 with rfl | rfl <;> exact lt_of_block hr
      have hm2 : w2.heap[b]? = some (.map es cl) := by rcases hw2 with rfl | rfl <;> exact hm
      have hbl2 : Below w.heap.size w w2 := by
        rcases hw2 with rfl | rfl
        · exact hbl.out
        · exact hbl.out.drew
      have hb3 := Lib.hid (show (setBlock w2 w.heap.size (.mapIter (some b) cl (seen.push e.born) cl)).heap[w.heap.size]? = some (.mapIter (some b) cl (seen.push e.born) cl) from heap_setBlock hlt2 _)
      have hbne : b ≠ w.heap.size := Nat.ne_of_lt (lt_of_block HB.out)
      have hm3 : (setBlock w2 w.heap.size (.mapIter (some b) cl (seen.push e.born) cl)).heap[b]? = some (.map es cl) := ((turn_setBlock w2 w.heap.size _).block b (lt_of_block hm2) hbne).trans hm2
      have hbl3 := Lib.hid (show Below w.heap.size w (setBlock w2 w.heap.size (.mapIter (some b) cl (seen.push e.born) cl)) from hbl2.trans ((turn_setBlock w2 w.heap.size _).below (B := w.heap.size) (fun i _ hi => by subst hi; exact Nat.le_refl _) hbl2.size))
      have hen := run_entry_at (P := Tryz.prog) (setBlock w2 w.heap.size (.mapIter (some b) cl (seen.push e.born) cl)) w.heap.size b cl seen es cl e hb3.out hm3 hel.1 HD.out
      have HS := Lib.hid (show seenM es.toList (seen.push e.born) = seenM es.toList seen + (n : Int) by rw [seenM_push hel.1 hel.2 HD.out, hv]; rfl)
      rw [hv] at hn hen
      have n6 : (n : Int) ≤ 6600 := by omega
      have MU := Lib.hid (show itLeft es w.heap.size (setBlock w2 w.heap.size (.mapIter (some b) cl (seen.push e.born) cl)) < itLeft es w.heap.size w1 by unfold itLeft; rw [hb3.out, hr]; exact hsh)
      clear hr hm hm2 hm3 hw2 he hel hv hn6 hsh hlt2 hbl2 hbne
      generalize setBlock w2 w.heap.size (.mapIter (some b) cl (seen.push e.born) cl) = w3 at *
      generalize seenM es.toList seen = s at *
      go_wp2_with fail
      go_roundw
      case rel => exact ⟨_, cl, hb3.out, Lib.hid (Nat.le_refl _), by rw [HS.out], hbl3⟩
      case measure => exact MU.out
end Go.Proofs.YtnogfelfgclajaaGreatDoor
end

section
namespace Go.Proofs.YtnogfelfgclajaaGreatDoor
open Go.RowKit
attribute [local go_sem] ext_ext drew_ext ext_drew ext_cell ext_frozen in_lt in_le in_ne in_en in_ne1 in_en1 in_le1 in_ltn in_len in_nen in_enn size_le ite_max ite_min
set_option linter.unusedVariables false
set_option linter.unusedSimpArgs false

theorem writeInfo : (Tryz.prog.info? 303).map (fun i => (i.zero, i.size, i.bytes)) = some (some (.agg #[.int .i64 0, .slice none 0 0]), 2, 32) := by kernel_rfl
theorem MapB.shorts {B : Nat} {w : World} {mv : List (Int × Value)} (h : ∀ p ∈ mv, ∃ l, BlobV B w p.2 l) : Shorts mv := fun p hp => by
  obtain ⟨l, hl⟩ := h p hp
  obtain ⟨g, cap, hv, _⟩ := hl.form
  exact ⟨g, cap, l.length, hv, hl.2.1⟩
/-- What turns where a blob is put, or all is made safe. -/
abbrev tyDisk : List TypeId := [210]
/-- A blob put: under way. -/
def PutOne (B d mb : Nat) (D : Int → Option (List Nat)) (N : Nat) (k : Int) (l : List Nat) (w : World) (e : Ending) (w' : World) : Prop :=
  e = .returned (.int .i64 0) ∧ DiskOne B w' d mb D N k l ∧ Turn (Ty B tyDisk w) w w'

set_option maxRecDepth 100000 in
set_option maxHeartbeats 4000000 in
theorem put_any (B d mb : Nat) (D : Int → Option (List Nat)) (N : Nat) (k : Int) (l : List Nat) (g o cap : Nat) (w : World) (hB : B ≤ w.heap.size) (h : DiskAt B w d mb D N) (hN : N ≤ 29) (l0 : 0 < l.length) (l1 : l.length ≤ 6600) (hc : BytesAt w g o l) :
    Calls Tryz.prog 187 #[.pointer (some ⟨d, 0, none⟩), .int .i64 k, .slice (some ⟨g, o, none⟩) l.length cap] w (PutOne B d mb D N k l w) := by
  obtain ⟨i0, iz0, iz1, iz2, iz3⟩ := info_parts writeInfo
  have HD := Lib.hid h
  have NW := now_rest B d mb D N w h
  have c0 := cell_of_block (i := 0) h.blk rfl
  have c1 := cell_of_block (i := 1) h.blk rfl
  have c2 := cell_of_block (i := 2) h.blk rfl
  have c4 := cell_of_block (i := 4) h.blk rfl
  have f4 := free_of_block 4 h.blk
  haveI := in_of_block h.blk
  have HC := Lib.hid hc
  have HB := Lib.hid hB
  have L0 := Lib.hid l0
  have L1 := Lib.hid l1
  have n1 : (l.length : Int) ≤ 6600 := by omega
  clear h hc hB l0 l1
  go_enter Tryz.func187, Tryz.ntmps187
  go_wp2_with (go_at_call 239; refine (failed_any _ _ c1 c2).mono ?_; rintro e w1 ⟨rfl, rfl⟩)
  refine NW.mono ?_
  rintro e w1 ⟨b, rfl, hb, hm, _t, hw⟩
  have hc1 := named_cell hw
  have hz1 := named_frozen hw
  haveI hi1 := named_in hw
  haveI hb1 := named_below (w := w) hw
  clear hw hb NW
  obtain ⟨mv, m1, m2, m3, m4⟩ := hm
  obtain ⟨og, x, cp, hV, hx⟩ : ∃ og x cp, (mget mv k).getD (.slice none 0 0) = .slice og x cp ∧ x ≤ 6600 := by
    cases hg : mget mv k with
    | none => exact ⟨none, 0, 0, rfl, by omega⟩
    | some v =>
      obtain ⟨l', hl'⟩ := m4 _ (mget_mem hg)
      obtain ⟨g', c', hv', _⟩ := hl'.form
      exact ⟨_, _, _, hv', hl'.2.1⟩
  have hsh := MapB.shorts m4
  obtain ⟨q0, q1⟩ := sumM_bd hsh
  have q2 : sumM mv ≤ 191400 := by omega
  have x0 : (x : Int) ≤ 6600 := by omega
  have BY := fun W (hW : ∃ f, W = ext w1 f) => bytes_any b mv W (m1.keep (by obtain ⟨f, rfl⟩ := hW; exact (ext_below w1 f).block b m1.lt)) (by omega) hsh
  have LK : ∀ t, (Instr.lookup 207 (.map (some b)) (.int .i64 k) false).run Tryz.prog (ext w1 t) = .ok (.slice og x cp) (ext w1 t) := fun t => by
    have := run_lookup_one (P := Tryz.prog) (m1.keep (W := ext w1 t) ((ext_below w1 t).block b m1.lt)) Tryz.underlying207 Tryz.underlying3 (zero_bytes _) k
    rwa [hV] at this
  have wa : IntKind.i64.wrap (sumM mv - (x : Int)) = sumM mv - (x : Int) := IntWalk.i64_in _ (by omega)
  have wb : IntKind.i64.wrap (200000 - (l.length : Int)) = 200000 - (l.length : Int) := IntWalk.i64_in _ (by omega)
  have wc : ¬ (200000 - (l.length : Int) < sumM mv - (x : Int)) := by omega
  clear hV hsh m1 m2 m3 m4 hx
  generalize sumM mv = sm at *
  go_wp2_with fail
  refine wp_region_ext ?_ ?_ ?_
  · kernel_rfl
  · kernel_rfl
  repeat (go_big_quiet_step (first | (go_at_call 240; with_reducible exact ext_call (BY _ ⟨_, rfl⟩))))
  refine wpQuiet_nil ?_
  rintro w2 ⟨_t, hw⟩
  haveI hb2_1 := named_below (w := w1) hw
  have hc2 := named_cell hw
  have hz2 := named_frozen hw
  have hh2 := named_heap hw
  haveI hi2 := named_in hw
  haveI hb2 := named_below (w := w) hw
  clear hw
  go_wp2_with fail
  go_region_law
    (first
      | (go_simp; go_at_call 228; refine (clonebytes_any l g o cap _ L0.out (by have := L1.out; omega) (HC.out.grown (by exact grown_of))).mono ?_; rintro e w7 ⟨v7, rfl, ho7, _t, hw⟩
         haveI hg7 := named_grown hw
         (try haveI hb72 := named_below (w := w2) hw)
         haveI hby7 := named_below (w := w) hw
         have hc7 := named_cell hw
         haveI hi7 := named_in hw
         clear hw
         obtain ⟨g7, c7, rfl, hb7, hn7, hm7, hcell7⟩ := owns_some ho7 L0.out
         have O7 := Lib.hid ho7
         clear ho7 hb7 hcell7 hn7 hm7)
      | (refine step_append_lies _ (by rfl) (.tmp 31) (.tmp 36) 208 (by rfl) w.heap.size 303 i0 _ 2 32 Tryz.underlying208 iz0 iz1 iz2 iz3 rfl (by omega) (.slice none 0 0) 0 [] (by rfl) (World.ownsRow_nil _ _ _ _) _ 1 1 [.int .i64 k, .slice (some ⟨g7, 0, none⟩) l.length c7] (by rfl) (by rfl) (by intro q u hu; rcases q with _ | _ | q <;> first | (obtain rfl := Option.some.inj hu; rw [addr_add]; go_simp; done) | exact absurd hu (by simp)) (by simp [Value.oneCell']) (by omega) (by unfold maxLen; omega) (by omega) (by exact (grown_now (w := w)).size) _ rfl ?_; intro g9 cap9 w9 ho9 hgr9 hat9 hlt9
         haveI hb9 : Nonempty (Below w.heap.size w w9) := ⟨(grown_now (w := w)).grown hgr9 (grown_now (w := w)).size (fun k hk => by simp [Value.ownBlock] at hk)⟩
         haveI hb97 : Nonempty (Below w7.heap.size w7 w9) := ⟨(grown_now (w := w7)).grown hgr9 (grown_now (w := w7)).size (fun k hk => by simp [Value.ownBlock] at hk)⟩
         obtain ⟨f9, hw⟩ := ext_of (grown_now (w := w) (W := w9))
         have hc9 := named_cell hw
         have hz9 := named_frozen hw
         haveI hi9 := named_in hw
         have O9 := Lib.hid ho9
         clear hw ho9 hgr9 hat9 hlt9))
  all_goals
    have BW := Lib.hid (grown_now (w := w) (W := w9))
    have OV := Lib.hid (show w9.ownsRow w.heap.size 5 1 (.slice (some ⟨g7, 0, none⟩) l.length c7) l.length (bV l) from owns_base (owns_grown O7.out (by exact ext_of (grown_now (w := w7) (W := w9)))) (by exact (grown_now (w := w)).size))
    clear O7
    go_wp2_with fail
    go_ret
    have hT : Turn (Ty B tyDisk w) w w9 := turn_below BW.out
    have hd := HD.out
    have hb9' := (BW.out.block d (lt_of_block hd.blk)).trans hd.blk
    have hty : Ty B tyDisk w d := ty_yes hd.lo hd.blk (by decide)
    have hne : g7 ≠ d := fun e => by
      have h3 := (OV.out.lt g7 rfl).1
      have h4 := lt_of_block hd.blk
      omega
    have hS : ∀ v, Turn (fun j => j = d) w9 (w9.setCell ⟨d, 4, none⟩ v) := fun v => (Turn.refl (fun j => j = d) w9).setIn rfl v
    refine ⟨rfl, ⟨.slice (some ⟨g9, 0, none⟩) 1 cap9, .slice (some ⟨g7, 0, none⟩) l.length c7, block_set hb9' _ (by simp), hd.lo, hd.mlo, ?_, ?_, ?_⟩, hT.setIn hty _⟩
    · exact (hd.grown BW.out).map.turn (hS _) (by rintro rfl; obtain ⟨mv, ⟨es, cl, h5, _⟩, _⟩ := hd.map; rw [hd.blk] at h5; cases h5) (by rintro g c fz h5 rfl; rw [hb9'] at h5; injection h5 with h5; injection h5 with _ h5; exact absurd h5 (by decide))
    · refine (hS _).owns (owns_base O9.out HB.out) ?_
      rintro g5 h5 rfl
      have h3 := (O9.out.lt g5 h5).1
      have h4 := lt_of_block hd.blk
      omega
    · refine ⟨L0.out, L1.out, (hS _).owns (owns_base OV.out HB.out) ?_⟩
      rintro g5 h5 rfl
      have h3 := (OV.out.lt g5 h5).1
      have h4 := lt_of_block hd.blk
      omega
end Go.Proofs.YtnogfelfgclajaaGreatDoor
end

section
namespace Go.Proofs.YtnogfelfgclajaaGreatDoor
open Go.RowKit
attribute [local go_sem] ext_ext drew_ext ext_drew ext_cell ext_frozen in_lt in_le in_ne in_en in_ne1 in_en1 in_le1 in_ltn in_len in_nen in_enn size_le ite_max ite_min
set_option linter.unusedVariables false
set_option linter.unusedSimpArgs false

/-- All made safe. -/
def SyncDone (B d : Nat) (D : Int → Option (List Nat)) (N : Nat) (w : World) (e : Ending) (w' : World) : Prop :=
  e = .returned (.int .i64 0) ∧ (∃ mb, DiskAt B w' d mb D N ∧ w.heap.size ≤ mb) ∧ Turn (Ty B tyDisk w) w w'
set_option maxRecDepth 100000 in
set_option maxHeartbeats 4000000 in
theorem sync_any (B d mb : Nat) (D : Int → Option (List Nat)) (N : Nat) (k : Int) (l : List Nat) (w : World) (hB : B ≤ w.heap.size) (h : DiskOne B w d mb D N k l) :
    Calls Tryz.prog 188 #[.pointer (some ⟨d, 0, none⟩)] w (SyncDone B d (dput D k l) (N + 1) w) := by
  have NW := now_one B d mb D N k l w h
  obtain ⟨lv, v, hblk, hlo, _⟩ := h
  have c1 := cell_of_block (i := 1) hblk rfl
  have c2 := cell_of_block (i := 2) hblk rfl
  have c3 := cell_of_block (i := 3) hblk rfl
  have c4 := cell_of_block (i := 4) hblk rfl
  have f3 := free_of_block 3 hblk
  have f4 := free_of_block 4 hblk
  haveI := in_of_block hblk
  have HK := Lib.hid hblk
  have HL := Lib.hid hlo
  have HB := Lib.hid hB
  clear hblk hlo hB
  go_enter Tryz.func188, Tryz.ntmps188
  go_wp2_with (go_at_call 239; refine (failed_any _ _ c1 c2).mono ?_; rintro e w1 ⟨rfl, rfl⟩)
  refine NW.mono ?_
  rintro e w1 ⟨b, rfl, hb, hm, _t, hw⟩
  haveI hb1 := named_below (w := w) hw
  have hc1 := named_cell hw
  have hz1 := named_frozen hw
  haveI hi1 := named_in hw
  have HM := Lib.hid hm
  have HX := Lib.hid hb
  clear hw hm hb NW
  go_wp2_with fail
  go_ret
  have BW := Lib.hid (grown_now (w := w) (W := w1))
  have hb1' := (BW.out.block d (lt_of_block HK.out)).trans HK.out
  have hty : Ty B tyDisk w d := ty_yes HL.out HK.out (by decide)
  have hne : b ≠ d := fun e => by
    have h3 := HX.out
    have h4 := lt_of_block HK.out
    omega
  have hdlt := lt_of_block hb1'
  have hxb := HX.out
  have hBo := HB.out
  have hT : Turn (Ty B tyDisk w) w w1 := turn_below BW.out
  have hno : ∀ (g : Nat) (c : Array Value) (fz : Nat × Nat), w1.heap[g]? = some (.cells c 5 fz) → ¬ g = d := by
    rintro g c fz h5 rfl; rw [hb1'] at h5; injection h5 with h5; injection h5 with _ h5; exact absurd h5 (by decide)
  have h1 := block_set hb1' (i := 3) (.map (some b)) (by simp)
  have h2 := block_set h1 (i := 4) (.slice none 0 0) (by simp)
  exact ⟨rfl, ⟨b, ⟨h2, HL.out, by omega, HM.out.turn (((Turn.refl (fun j => j = d) w1).setIn rfl _).setIn rfl _) hne hno⟩, HX.out⟩, (hT.setIn hty _).setIn hty _⟩
end Go.Proofs.YtnogfelfgclajaaGreatDoor
end

section
namespace Go.Proofs.YtnogfelfgclajaaGreatDoor
open Go.RowKit
attribute [local go_sem] ext_ext drew_ext ext_drew ext_cell ext_frozen in_lt in_le in_ne in_en in_ne1 in_en1 in_le1 in_ltn in_len in_nen in_enn size_le ite_max ite_min
set_option linter.unusedVariables false
set_option linter.unusedSimpArgs false

theorem BytesAt.turn {F : Nat → Prop} {w W : World} {g o : Nat} {l : List Nat} (h : BytesAt w g o l) (hT : Turn F w W) (hF : ¬ F g) : BytesAt W g o l := fun j u hu =>
  (hT.cell (World.block_lt_of_cell? w _ (h j u hu)) hF).trans (h j u hu)
/-- A block that holds no bytes. -/
def NoBytes (w : World) (b : Nat) : Prop := ∃ cs T fz, w.heap[b]? = some (.cells cs T fz) ∧ ∀ (i : Nat) u, cs[i]? = some u → ∀ n, u ≠ .int .u8 n
theorem NoBytes.below {w W : World} {b : Nat} (hW : Nonempty (Below w.heap.size w W)) (h : NoBytes w b) : NoBytes W b := by
  obtain ⟨hW⟩ := hW
  obtain ⟨cs, T, fz, h, hn⟩ := h
  exact ⟨cs, T, fz, (hW.block b (lt_of_block h)).trans h, hn⟩
theorem NoBytes.old {w : World} {b : Nat} {o : Obj} (h : NoBytes w b) : NoBytes (w.alloc o) b := NoBytes.below ⟨(Below.refl _ w).alloc (Nat.le_refl _) o⟩ h
theorem NoBytes.new {w : World} {b : Nat} {cs : Array Value} {T : TypeId} (hb : b = w.heap.size) (hn : ∀ (i : Nat) u, cs[i]? = some u → ∀ n, u ≠ .int .u8 n) : NoBytes (w.alloc (.cells cs T)) b := by
  subst hb
  exact ⟨cs, T, _, heap_alloc_new _ _, hn⟩
theorem no3 {a b c : Value} (ha : ∀ n, a ≠ .int .u8 n) (hb : ∀ n, b ≠ .int .u8 n) (hc : ∀ n, c ≠ .int .u8 n) : ∀ (i : Nat) u, (#[a, b, c] : Array Value)[i]? = some u → ∀ n, u ≠ .int .u8 n := by
  intro i u hu
  rcases i with _ | _ | _ | i
  · simp at hu; subst hu; exact ha
  · simp at hu; subst hu; exact hb
  · simp at hu; subst hu; exact hc
  · simp at hu
theorem int_no (x : Int) : ∀ n, Value.int .i64 x ≠ .int .u8 n := fun _ h => by cases h
theorem slice_no (a : Option Addr) (x y : Nat) : ∀ n, Value.slice a x y ≠ .int .u8 n := fun _ h => by cases h
theorem NoBytes.set {w : World} {b c i : Nat} {v : Value} (h : NoBytes w b) (hv : ∀ n, v ≠ .int .u8 n) : NoBytes (w.setCell ⟨c, i, none⟩ v) b := by
  obtain ⟨cs, T, fz, h, hn⟩ := h
  by_cases hc : b = c
  · subst hc
    refine ⟨cs.setIfInBounds i v, T, fz, ?_, ?_⟩
    · have hb := lt_of_block h
      simp only [World.setCell, Array.getElem?_modify]
      rw [if_pos trivial, h]
      rfl
    · intro k u hu
      rw [Array.getElem?_setIfInBounds] at hu
      split at hu
      · split at hu
        · obtain rfl := Option.some.inj hu; exact hv
        · cases hu
      · exact hn k u hu
  · exact ⟨cs, T, fz, (block_set_far v hc).trans h, hn⟩
theorem NoBytes.ne {w : World} {g o : Nat} {l : List Nat} {b : Nat} (hb : NoBytes w b) (h : BytesAt w g o l) (hl : 0 < l.length) : ¬ g = b := by
  rintro rfl
  obtain ⟨cs, T, fz, hb, hn⟩ := hb
  obtain ⟨x, r, rfl⟩ : ∃ x r, l = x :: r := by cases l with | nil => simp at hl | cons x r => exact ⟨x, r, rfl⟩
  have h0 := h 0 (.int .u8 (x : Int)) rfl
  simp [World.cell?, hb] at h0
  exact hn _ _ h0 _ rfl
theorem BytesAt.set {w : World} {g o b i : Nat} {l : List Nat} {v : Value} (h : BytesAt w g o l) (hb : ¬ g = b) : BytesAt (w.setCell ⟨b, i, none⟩ v) g o l :=
  h.turn ((Turn.refl (fun j => j = b) w).setIn rfl v) hb
/-- A record that a slot can hold. -/
structure RecOk (v : Nat) (x : List Nat) : Prop where
  lo : 1 ≤ v
  hi : v ≤ 1000
  pos : 0 < x.length
  len : x.length ≤ 6500
  byt : Bytes x
/-- Bytes at a slice, or none. -/
def BodyV (w : World) (bv : Value) (x : List Nat) : Prop :=
  (x = [] ∧ bv = .slice none 0 0) ∨ (0 < x.length ∧ ∃ g o cap, bv = .slice (some ⟨g, o, none⟩) x.length cap ∧ x.length ≤ cap ∧ BytesAt w g o x)
/-- Of two slots the later record; none: version 0, and the second slot. -/
def later (id : Int) : Option (Nat × List Nat) → Option (Nat × List Nat) → Int × Nat × List Nat
  | none, none => (2 * id + 1, 0, [])
  | some (a, x), none => (2 * id, a, x)
  | none, some (b, y) => (2 * id + 1, b, y)
  | some (a, x), some (b, y) => if a < b then (2 * id + 1, b, y) else (2 * id, a, x)
def blobOf (r : Option (Nat × List Nat)) : Option (List Nat) := r.map (fun p => blobW p.1 p.2)
def OfDone (s : Int × Nat × List Nat) (w : World) (e : Ending) (w' : World) : Prop :=
  ∃ bv, e = .returned (.agg #[.int .i64 s.1, .int .i64 (s.2.1 : Int), bv]) ∧ BodyV w' bv s.2.2 ∧ ∃ f, w' = ext w f

end Go.Proofs.YtnogfelfgclajaaGreatDoor
end
