/-
  No Go in sight. What chunks and the disk hold of a flat world's cells, and what is kept of that by a save, a touch, a load, an edit.
  The memory of a table: its store, its chunks; what of it stays where other blocks turn.
  A chunk: made, read, told of, changed.
-/
import Derived.Test.YtnogfelfgclajaaGreatDoorMb11
import Derived.Test.YtnogfelfgclajaaGreatDoorMb06
import Derived.Test.YtnogfelfgclajaaGreatDoorMb02
import Derived.Test.YtnogfelfgclajaaGreatDoorMb08
section
namespace Go.Proofs.YtnogfelfgclajaaGreatDoor
open Go.RowKit
set_option linter.unusedVariables false

theorem pushR_pushG (rs : List Rn) (b : Int) : pushR rs b = pushG rs 1 b := by
  unfold pushR pushG
  rw [if_neg (by omega)]
  cases rs.getLast? <;> rfl
theorem rle_canon (f : Nat → Int) : ∀ k, Canon (rleN f k) ∧ cellsR (rleN f k) = (List.range k).map f
  | 0 => ⟨.nil, rfl⟩
  | k + 1 => by
    obtain ⟨h1, h2⟩ := rle_canon f k
    simp only [rleN]
    rw [pushR_pushG]
    refine ⟨pushG_canon _ _ h1, ?_⟩
    rw [pushG_cells _ _ h1, h2, List.range_succ, List.map_append]
    rfl
theorem fine_of {l : List Rn} (hc : Canon l) (hg : ∀ b ∈ cellsR l, GoodB b) (hn : (cellsR l).length = 8192) : Fine l := by
  refine ⟨hc, fun r hr => ?_, ?_⟩
  · have h1 := hc.all r hr
    refine hg _ ?_
    unfold cellsR
    rw [List.mem_flatMap]
    exact ⟨r, hr, by rw [List.mem_replicate]; exact ⟨by omega, rfl⟩⟩
  · rw [lenR_cells (fun r hr => by have := hc.all r hr; omega), hn]
    rfl
theorem Fine.cellsGood {l : List Rn} (h : Fine l) : ∀ b ∈ cellsR l, GoodB b := by
  intro b hb
  unfold cellsR at hb
  rw [List.mem_flatMap] at hb
  obtain ⟨r, hr, h4⟩ := hb
  rw [(List.mem_replicate.1 h4).2]
  exact h.good r hr

abbrev Ps := Int × Int
/-- The cells that the generator tells of a chunk. -/
def GrAt (s : Int) (p : Ps) : List Int := (List.range 8192).map (blkS s p.1 p.2)
theorem ofS_good (y g : Int) : GoodB (ofS y g) := by
  unfold ofS
  repeat' split
  all_goals exact ⟨by omega, by omega, by omega, by omega⟩
theorem gr_len (s : Int) (p : Ps) : (GrAt s p).length = 8192 := by simp [GrAt]
theorem gr_good (s : Int) (p : Ps) : ∀ b ∈ GrAt s p, GoodB b := by
  intro b hb
  obtain ⟨i, _, rfl⟩ := List.mem_map.1 hb
  exact ofS_good _ _
theorem gr_fine (s : Int) (p : Ps) : Fine (rleN (blkS s p.1 p.2) 8192) ∧ cellsR (rleN (blkS s p.1 p.2) 8192) = GrAt s p := by
  obtain ⟨h1, h2⟩ := rle_canon (blkS s p.1 p.2) 8192
  have e : cellsR (rleN (blkS s p.1 p.2) 8192) = GrAt s p := h2
  exact ⟨fine_of h1 (by rw [e]; exact gr_good s p) (by rw [e]; exact gr_len s p), e⟩
theorem blk_low (s px pz : Int) (i : Nat) (hi : i < 768) : blkS s px pz i = 1 := by
  have h := groundS_bd s (px * 16 + (i : Int) % 16) (pz * 16 + (i : Int) / 16 % 16)
  unfold blkS
  generalize groundS s (px * 16 + (i : Int) % 16) (pz * 16 + (i : Int) / 16 % 16) = g at *
  unfold ofS
  rw [if_neg (by omega), if_pos (by omega)]
theorem blk_top (s px pz : Int) (i : Nat) (hi : 3584 ≤ i) : blkS s px pz i = 0 := by
  have h := groundS_bd s (px * 16 + (i : Int) % 16) (pz * 16 + (i : Int) / 16 % 16)
  unfold blkS
  generalize groundS s (px * 16 + (i : Int) % 16) (pz * 16 + (i : Int) / 16 % 16) = g at *
  unfold ofS
  by_cases h1 : (i : Int) / 256 < 0 ∨ 32 ≤ (i : Int) / 256
  · rw [if_pos h1]
  · rw [if_neg h1, if_neg (by omega), if_neg (by omega), if_neg (by omega), if_neg (by omega)]
theorem gr_chg (s : Int) (p : Ps) : chg (GrAt s p) ≤ 2818 := by
  have e : GrAt s p = (GrAt s p).take 768 ++ (((GrAt s p).drop 768).take 2816 ++ (GrAt s p).drop 3584) := by
    rw [show (GrAt s p).drop 3584 = ((GrAt s p).drop 768).drop 2816 by rw [List.drop_drop], List.take_append_drop, List.take_append_drop]
  have e1 : (GrAt s p).take 768 = List.replicate 768 1 := by
    rw [List.eq_replicate_iff]
    refine ⟨by simp [gr_len], fun b hb => ?_⟩
    obtain ⟨i, hi, rfl⟩ := List.getElem_of_mem hb
    have h1 : i < 768 := by simp at hi; omega
    rw [List.getElem_take]
    simp only [GrAt, List.getElem_map, List.getElem_range]
    exact blk_low _ _ _ _ h1
  have e2 : (GrAt s p).drop 3584 = List.replicate 4608 0 := by
    rw [List.eq_replicate_iff]
    refine ⟨by simp [gr_len], fun b hb => ?_⟩
    obtain ⟨i, hi, rfl⟩ := List.getElem_of_mem hb
    rw [List.getElem_drop]
    simp only [GrAt, List.getElem_map, List.getElem_range]
    exact blk_top _ _ _ _ (by omega)
  have e3 := chg_le (((GrAt s p).drop 768).take 2816)
  have e4 : (((GrAt s p).drop 768).take 2816).length = 2816 := by simp [gr_len]
  rw [e, e1, e2]
  have h1 := chg_append (List.replicate 768 (1 : Int)) (((GrAt s p).drop 768).take 2816 ++ List.replicate 4608 0)
  have h2 := chg_append (((GrAt s p).drop 768).take 2816) (List.replicate 4608 (0 : Int))
  rw [chg_replicate] at h1 h2
  omega
theorem numB_bytes (n : Nat) (hn : n ≤ 8192) : Bytes (numB n) := by
  intro x hx
  unfold numB at hx
  split at hx <;> simp at hx <;> omega
theorem codeW_bytes {l : List Rn} (h : Fine l) : Bytes (codeW l) := by
  intro x hx
  unfold codeW at hx
  rw [List.mem_flatMap] at hx
  obtain ⟨r, hr, hx⟩ := hx
  rcases List.mem_cons.1 hx with rfl | hx
  · have hg := h.good r hr; have := hg.hi; have := hg.lo; omega
  · have := h.each r hr
    exact numB_bytes _ (by omega) x hx
theorem codeW_pos {l : List Rn} (h : Fine l) : 0 < (codeW l).length := by
  cases l with
  | nil => have := h.full; simp at this
  | cons r l => obtain ⟨n, b⟩ := r; rw [codeW_cons]; simp
theorem codeW_short {l : List Rn} (h : Fine l) (hc : chg (cellsR l) ≤ 2900) : (codeW l).length ≤ 6500 := by
  have h1 := codeW_len l
  have h2 := canon_chg h.canon
  have h3 := h.cells
  omega

/-- The chunks of which a line may tell. -/
structure Close (p : Ps) : Prop where
  x0 : -1000 ≤ p.1
  x1 : p.1 ≤ 1000
  z0 : -1000 ≤ p.2
  z1 : p.2 ≤ 1000
def idP (p : Ps) : Int := idS p.1 p.2
theorem idP_bd {p : Ps} (h : Close p) : 0 ≤ idP p ∧ idP p ≤ 1099511627776 := by
  have := h.x0; have := h.x1; have := h.z0; have := h.z1
  unfold idP idS
  omega
theorem idP_inj {p q : Ps} (hp : Close p) (hq : Close q) (h : idP p = idP q) : p = q := by
  have := hp.x0; have := hp.x1; have := hp.z0; have := hp.z1
  have := hq.x0; have := hq.x1; have := hq.z0; have := hq.z1
  unfold idP idS at h
  obtain ⟨a, b⟩ := p
  obtain ⟨c, d⟩ := q
  simp only at *
  have h1 : a = c := by omega
  have h2 : b = d := by omega
  rw [h1, h2]
/-- How many chunks are dirty. -/
def dirt (T : List (Ps × Bool)) : Nat := T.countP (·.2)
/-- What is held: each chunk's cells are here, or on the disk, or the generator tells them. s: the seed; e: how many edits there were at most; G: the flat world's cells; T: the chunks that are here, and whether they are dirty. -/
structure Hold (s : Int) (e : Nat) (G : Ps → List Int) (T : List (Ps × Bool)) (D : Int → Option (List Nat)) (N : Nat) : Prop where
  once : (T.map (·.1)).Nodup
  close : ∀ c ∈ T, Close c.1
  good : ∀ p, Close p → (∀ b ∈ G p, GoodB b) ∧ (G p).length = 8192 ∧ chg (G p) ≤ 2818 + 2 * e
  room : N + dirt T ≤ e
  most : e ≤ 15
  disk : ∀ p, Close p → ∃ v x, HasRec D (idP p) v x ∧ v ≤ N ∧ ((∀ c ∈ T, c.1 = p → c.2 = false) → (v = 0 ∧ G p = GrAt s p) ∨ (0 < v ∧ ∃ rs, Fine rs ∧ x = codeW rs ∧ cellsR rs = G p))
section
variable {s : Int} {e : Nat} {G : Ps → List Int} {T T' : List (Ps × Bool)} {D D' : Int → Option (List Nat)} {N : Nat}
theorem hold_new (s : Int) : Hold s 0 (GrAt s) [] (fun _ => none) 0 :=
  ⟨by simp, by simp, fun p _ => ⟨gr_good s p, gr_len s p, by have := gr_chg s p; omega⟩, by simp [dirt], by omega, fun p _ => ⟨0, [], HasRec.empty _, by omega, fun _ => .inl ⟨rfl, rfl⟩⟩⟩
theorem Hold.perm (h : Hold s e G T D N) (hp : T'.Perm T) : Hold s e G T' D N :=
  ⟨((hp.map _).nodup_iff).2 h.once, fun c hc => h.close c (hp.mem_iff.1 hc), h.good, by have := h.room; unfold dirt at *; rw [hp.countP_eq]; exact this, h.most,
    fun p hc => by obtain ⟨v, x, h1, h2, h3⟩ := h.disk p hc; exact ⟨v, x, h1, h2, fun h4 => h3 (fun c hc' => h4 c (hp.mem_iff.2 hc'))⟩⟩
theorem Hold.tail {c : Ps × Bool} (h : Hold s e G (c :: T) D N) (hc : c.2 = false) : Hold s e G T D N := by
  have h1 := h.once
  simp only [List.map_cons, List.nodup_cons] at h1
  refine ⟨h1.2, fun c' hc' => h.close c' (by simp [hc']), h.good, ?_, h.most, fun p hp => ?_⟩
  · have := h.room; unfold dirt at *; rw [List.countP_cons] at this; omega
  · obtain ⟨v, x, h2, h3, h4⟩ := h.disk p hp
    refine ⟨v, x, h2, h3, fun h5 => h4 (fun c' hc' e' => ?_)⟩
    rcases List.mem_cons.1 hc' with rfl | hc'
    · exact hc
    · exact h5 c' hc' e'
theorem Hold.cons {p : Ps} (h : Hold s e G T D N) (hp : Close p) (hn : ∀ c ∈ T, c.1 ≠ p) : Hold s e G ((p, false) :: T) D N := by
  refine ⟨?_, fun c hc => ?_, h.good, ?_, h.most, fun q hq => ?_⟩
  · simp only [List.map_cons, List.nodup_cons]
    refine ⟨fun hm => ?_, h.once⟩
    obtain ⟨c, hc, e'⟩ := List.mem_map.1 hm
    exact hn c hc e'
  · rcases List.mem_cons.1 hc with rfl | hc
    · exact hp
    · exact h.close c hc
  · have := h.room; unfold dirt at *; rw [List.countP_cons]; simpa using this
  · obtain ⟨v, x, h2, h3, h4⟩ := h.disk q hq
    exact ⟨v, x, h2, h3, fun h5 => h4 (fun c hc e' => h5 c (by simp [hc]) e')⟩
/-- The first chunk's record is saved. -/
theorem Hold.save {p : Ps} {v : Nat} {x : List Nat} {rs : List Rn} (h : Hold s e G ((p, true) :: T) D N) (hr : Fine rs) (hG : cellsR rs = G p) (h1 : HasRec D' (idP p) (v + 1) (codeW rs)) (hv : HasRec D (idP p) v x) (hvN : v ≤ N)
    (h2 : ∀ id' v' x', id' ≠ idP p → HasRec D id' v' x' → HasRec D' id' v' x') : Hold s e G ((p, false) :: T) D' (N + 1) := by
  have ho := h.once
  simp only [List.map_cons, List.nodup_cons] at ho
  have hcp : Close p := h.close (p, true) (by simp)
  refine ⟨by simpa using ho, fun c hc => ?_, h.good, ?_, h.most, fun q hq => ?_⟩
  · rcases List.mem_cons.1 hc with rfl | hc
    · exact hcp
    · exact h.close c (by simp [hc])
  · have := h.room; unfold dirt at *; rw [List.countP_cons] at this ⊢; simp at this ⊢; omega
  · by_cases hqp : q = p
    · subst hqp
      exact ⟨v + 1, codeW rs, h1, by omega, fun _ => .inr ⟨by omega, rs, hr, rfl, hG⟩⟩
    · obtain ⟨v', x', h3, h4, h5⟩ := h.disk q hq
      refine ⟨v', x', h2 _ _ _ (fun e' => hqp (idP_inj hq hcp e')) h3, by omega, fun h6 => h5 (fun c hc e' => ?_)⟩
      rcases List.mem_cons.1 hc with rfl | hc
      · exact absurd e'.symm hqp
      · exact h6 c (by simp [hc]) e'
/-- The flat world with a cell set. -/
def setP (G : Ps → List Int) (p : Ps) (i : Nat) (b : Int) : Ps → List Int := fun q => if q = p then (G p).set i b else G q
/-- The first chunk's cell is set. -/
theorem Hold.set {p : Ps} {d : Bool} {i : Nat} {b was : Int} (h : Hold s e G ((p, d) :: T) D N) (hb : GoodB b) (hi : (G p)[i]? = some was) (he : e ≤ 14) :
    Hold s (e + 1) (setP G p i b) ((p, d || !(was == b)) :: T) D N := by
  have ho := h.once
  simp only [List.map_cons, List.nodup_cons] at ho
  have hcp : Close p := h.close (p, d) (by simp)
  have hil : i < (G p).length := (List.getElem?_eq_some_iff.1 hi).1
  refine ⟨by simpa using ho, fun c hc => ?_, fun q hq => ?_, ?_, by omega, fun q hq => ?_⟩
  · rcases List.mem_cons.1 hc with rfl | hc
    · exact hcp
    · exact h.close c (by simp [hc])
  · obtain ⟨h1, h2, h3⟩ := h.good q hq
    unfold setP
    split
    · next e' =>
      subst e'
      refine ⟨fun x hx => ?_, by rw [List.length_set]; exact h2, by have := chg_set (G q) i b; omega⟩
      rcases List.mem_or_eq_of_mem_set hx with h4 | h4
      · exact h1 x h4
      · rw [h4]; exact hb
    · exact ⟨h1, h2, by omega⟩
  · have := h.room
    unfold dirt at *
    rw [List.countP_cons] at this ⊢
    cases d <;> cases (was == b) <;> simp at this ⊢ <;> omega
  · obtain ⟨v, x, h2, h3, h4⟩ := h.disk q hq
    refine ⟨v, x, h2, h3, fun h5 => ?_⟩
    have hq0 : setP G p i b q = G q := by
      unfold setP
      split
      · next e' =>
        subst e'
        have h6 := h5 (q, d || !(was == b)) (by simp) rfl
        simp only [Bool.or_eq_false_iff, Bool.not_eq_false', beq_iff_eq] at h6
        obtain ⟨_, rfl⟩ := h6
        obtain ⟨g1, g2⟩ := List.getElem?_eq_some_iff.1 hi
        rw [← g2]
        exact List.set_getElem_self g1
      · rfl
    rw [hq0]
    refine h4 (fun c hc e' => ?_)
    rcases List.mem_cons.1 hc with rfl | hc
    · have h6 := h5 (p, d || !(was == b)) (by simp) e'
      simp only [Bool.or_eq_false_iff] at h6
      exact h6.1
    · exact h5 c (by simp [hc]) e'
end
#print axioms Hold.set
end Go.Proofs.YtnogfelfgclajaaGreatDoor
end

section
namespace Go.Proofs.YtnogfelfgclajaaGreatDoor
open Go.RowKit
set_option linter.unusedVariables false

/-- A chunk of some runs. -/
structure ChunkAt (B : Nat) (w : World) (k : Nat) (p : Ps) (rs : List Rn) (rv : Value) : Prop where
  blk : w.heap[k]? = some (.cells #[.int .i64 p.1, .int .i64 p.2, rv] 187 (0, 0))
  lo : B ≤ k
  own : w.ownsRow B 235 2 rv rs.length (rV rs)
  fine : Fine rs
/-- A chunk that is here. -/
structure ItemAt (B : Nat) (w : World) (it k : Nat) (p : Ps) (d : Bool) (rs : List Rn) (rv : Value) : Prop where
  blk : w.heap[it]? = some (.cells #[.pointer (some ⟨k, 0, none⟩), .bool d, .int .i64 0] 134 (0, 0))
  lo : B ≤ it
  chunk : ChunkAt B w k p rs rv
def ItemOf (B : Nat) (w : World) (it : Nat) (p : Ps) (d : Bool) (L : List Int) : Prop := ∃ k rs rv, ItemAt B w it k p d rs rv ∧ cellsR rs = L
section
variable {F : Nat → Prop} {B : Nat} {w W : World}
theorem ChunkAt.turn {k : Nat} {p : Ps} {rs : List Rn} {rv : Value} (h : ChunkAt B w k p rs rv) (hT : Turn F w W) (h1 : ∀ g c fz, w.heap[g]? = some (.cells c 187 fz) → ¬ F g) (h2 : ∀ g c fz, w.heap[g]? = some (.cells c 235 fz) → ¬ F g) : ChunkAt B W k p rs rv :=
  ⟨(hT.block _ (lt_of_block h.blk) (h1 _ _ _ h.blk)).trans h.blk, h.lo, hT.owns h.own (fun g hg => by
    obtain ⟨g', cap, cur, rfl, hb, hgg, _⟩ := (h.own.2).resolve_left (fun e => by have := e.2; have := h.fine.full; omega)
    simp [Value.ownBlock] at hg
    subst hg
    exact h2 _ _ _ hgg), h.fine⟩
theorem ItemAt.turn {it k : Nat} {p : Ps} {d : Bool} {rs : List Rn} {rv : Value} (h : ItemAt B w it k p d rs rv) (hT : Turn F w W) (h0 : ∀ g c fz, w.heap[g]? = some (.cells c 134 fz) → ¬ F g) (h1 : ∀ g c fz, w.heap[g]? = some (.cells c 187 fz) → ¬ F g) (h2 : ∀ g c fz, w.heap[g]? = some (.cells c 235 fz) → ¬ F g) : ItemAt B W it k p d rs rv :=
  ⟨(hT.block _ (lt_of_block h.blk) (h0 _ _ _ h.blk)).trans h.blk, h.lo, h.chunk.turn hT h1 h2⟩
theorem ItemOf.turn {it : Nat} {p : Ps} {d : Bool} {L : List Int} (h : ItemOf B w it p d L) (hT : Turn F w W) (h0 : ∀ g c fz, w.heap[g]? = some (.cells c 134 fz) → ¬ F g) (h1 : ∀ g c fz, w.heap[g]? = some (.cells c 187 fz) → ¬ F g) (h2 : ∀ g c fz, w.heap[g]? = some (.cells c 235 fz) → ¬ F g) : ItemOf B W it p d L := by
  obtain ⟨k, rs, rv, h, e⟩ := h
  exact ⟨k, rs, rv, h.turn hT h0 h1 h2, e⟩
theorem ItemOf.lt {it : Nat} {p : Ps} {d : Bool} {L : List Int} (h : ItemOf B w it p d L) : it < w.heap.size := by
  obtain ⟨k, rs, rv, h, e⟩ := h
  exact lt_of_block h.blk

/-- The pointers of a row. -/
def ptrs (its : List Nat) : List Value := its.map fun k => .pointer (some ⟨k, 0, none⟩)
theorem ptrs_len (its : List Nat) : (ptrs its).length = its.length := by simp [ptrs]
/-- The chunks of a row. -/
inductive Items (B : Nat) (w : World) (G : Ps → List Int) : List Nat → List (Ps × Bool) → Prop where
  | nil : Items B w G [] []
  | cons (it : Nat) (its : List Nat) (c : Ps × Bool) (T : List (Ps × Bool)) (h : ItemOf B w it c.1 c.2 (G c.1)) (hr : Items B w G its T) : Items B w G (it :: its) (c :: T)
theorem Items.len {G : Ps → List Int} {its : List Nat} {T : List (Ps × Bool)} (h : Items B w G its T) : its.length = T.length := by
  induction h with
  | nil => rfl
  | cons it its c T h hr ih => simp [ih]
theorem Items.imp {G G' : Ps → List Int} {its : List Nat} {T : List (Ps × Bool)} (h : Items B w G its T) (f : ∀ it c, it ∈ its → c ∈ T → ItemOf B w it c.1 c.2 (G c.1) → ItemOf B W it c.1 c.2 (G' c.1)) : Items B W G' its T := by
  induction h with
  | nil => exact .nil
  | cons it its c T h hr ih => exact .cons _ _ _ _ (f _ _ (by simp) (by simp) h) (ih (fun it c h1 h2 => f it c (by simp [h1]) (by simp [h2])))
theorem Items.turn {G : Ps → List Int} {its : List Nat} {T : List (Ps × Bool)} (h : Items B w G its T) (hT : Turn F w W) (h0 : ∀ g c fz, w.heap[g]? = some (.cells c 134 fz) → ¬ F g) (h1 : ∀ g c fz, w.heap[g]? = some (.cells c 187 fz) → ¬ F g) (h2 : ∀ g c fz, w.heap[g]? = some (.cells c 235 fz) → ¬ F g) : Items B W G its T :=
  h.imp (fun it c _ _ hi => hi.turn hT h0 h1 h2)
theorem Items.get {G : Ps → List Int} {its : List Nat} {T : List (Ps × Bool)} (h : Items B w G its T) : ∀ (i : Nat) (hi : i < its.length) (hj : i < T.length), ItemOf B w its[i] T[i].1 T[i].2 (G T[i].1) := by
  induction h with
  | nil => intro i hi; simp at hi
  | cons it its c T h hr ih =>
    intro i hi hj
    cases i with
    | zero => exact h
    | succ i => exact ih i (by simpa using hi) (by simpa using hj)
theorem Items.erase {G : Ps → List Int} {its : List Nat} {T : List (Ps × Bool)} (h : Items B w G its T) : ∀ (i : Nat), Items B w G (its.eraseIdx i) (T.eraseIdx i) := by
  induction h with
  | nil => intro i; exact .nil
  | cons it its c T h hr ih =>
    intro i
    cases i with
    | zero => exact hr
    | succ i => exact .cons _ _ _ _ h (ih i)
theorem Items.snoc {G : Ps → List Int} {its : List Nat} {T : List (Ps × Bool)} (h : Items B w G its T) {it : Nat} {c : Ps × Bool} (hi : ItemOf B w it c.1 c.2 (G c.1)) : Items B w G (its ++ [it]) (T ++ [c]) := by
  induction h with
  | nil => exact .cons _ _ _ _ hi .nil
  | cons it its c T h hr ih => exact .cons _ _ _ _ h ih
/-- The same block bears the same chunk. -/
theorem ItemOf.same {it : Nat} {p q : Ps} {d d' : Bool} {L L' : List Int} (h : ItemOf B w it p d L) (h' : ItemOf B w it q d' L') : p = q := by
  obtain ⟨k, rs, rv, h, _⟩ := h
  obtain ⟨k', rs', rv', h', _⟩ := h'
  have e := h.blk.symm.trans h'.blk
  injection e with e
  injection e with e _ _
  have e0 := congrArg (·[0]?) e
  simp at e0
  subst e0
  have e := h.chunk.blk.symm.trans h'.chunk.blk
  injection e with e
  injection e with e _ _
  have e1 := congrArg (·[0]?) e
  have e2 := congrArg (·[1]?) e
  simp at e1 e2
  exact Prod.ext e1 e2

/-- A table between two calls. s: the seed; lim: how many chunks may be here; q: a block that is not the disk's. -/
structure TabAt (B : Nat) (w : World) (t : Nat) (s lim : Int) (q : Nat) (e : Nat) (G : Ps → List Int) (T : List (Ps × Bool)) (st d mb : Nat) (lv : Value) (its : List Nat) (D : Int → Option (List Nat)) (N : Nat) : Prop where
  tab : w.heap[t]? = some (.cells #[.pointer (some ⟨st, 0, none⟩), .int .i64 s, .int .i64 lim, lv] 130 (0, 0))
  sto : w.heap[st]? = some (.cells #[.pointer (some ⟨d, 0, none⟩)] 160 (0, 0))
  dsk : DiskAt B w d mb D N
  row : SRow B w 126 lv (ptrs its)
  items : Items B w G its T
  hold : Hold s e G T D N
  tlo : B ≤ t
  slo : B ≤ st
  lim1 : 1 ≤ lim
  lim2 : lim ≤ 16
  full : (T.length : Int) ≤ lim
  far : mb ≠ q
  qlt : q < w.heap.size
/-- What turns where a table is called. -/
abbrev tyTab : List TypeId := [210, 130, 126, 134, 187]
theorem TabAt.turn {t q e st d mb N : Nat} {s lim : Int} {G : Ps → List Int} {T : List (Ps × Bool)} {lv : Value} {its : List Nat} {D : Int → Option (List Nat)} (h : TabAt B w t s lim q e G T st d mb lv its D N) (hT : Turn F w W)
    (hm : ¬ F mb) (hF : ∀ g c T fz, w.heap[g]? = some (.cells c T fz) → T ∈ [210, 130, 126, 134, 187, 160, 235, 5] → ¬ F g) : TabAt B W t s lim q e G T st d mb lv its D N :=
  ⟨(hT.block _ (lt_of_block h.tab) (hF _ _ _ _ h.tab (by simp))).trans h.tab, (hT.block _ (lt_of_block h.sto) (hF _ _ _ _ h.sto (by simp))).trans h.sto,
    h.dsk.turn hT (hF _ _ _ _ h.dsk.blk (by simp)) hm (fun g c fz hg => hF _ _ _ _ hg (by simp)), h.row.turn hT (fun g c fz hg => hF _ _ _ _ hg (by simp)),
    h.items.turn hT (fun g c fz hg => hF _ _ _ _ hg (by simp)) (fun g c fz hg => hF _ _ _ _ hg (by simp)) (fun g c fz hg => hF _ _ _ _ hg (by simp)), h.hold, h.tlo, h.slo, h.lim1, h.lim2, h.full, h.far, Nat.lt_of_lt_of_le h.qlt hT.size⟩
theorem TabAt.grown {t q e st d mb N : Nat} {s lim : Int} {G : Ps → List Int} {T : List (Ps × Bool)} {lv : Value} {its : List Nat} {D : Int → Option (List Nat)} (h : TabAt B w t s lim q e G T st d mb lv its D N) (hW : Below w.heap.size w W) : TabAt B W t s lim q e G T st d mb lv its D N :=
  h.turn (turn_below (F := fun _ => False) hW) id (fun _ _ _ _ _ _ => id)
end
end Go.Proofs.YtnogfelfgclajaaGreatDoor
end

section
namespace Go.Proofs.YtnogfelfgclajaaGreatDoor
open Go.RowKit
attribute [local go_sem] ext_ext drew_ext ext_drew ext_cell ext_frozen in_lt in_le in_ne in_en in_ne1 in_en1 in_le1 in_ltn in_len in_nen in_enn size_le ite_max ite_min
set_option linter.unusedVariables false
set_option linter.unusedSimpArgs false

def eqpS (x z a c : Int) : Bool := decide (x = a ∧ z = c)
theorem eqp_any (x z a c : Int) (w : World) : (Op.equalIn 10000 35 (.agg #[.int .i64 x, .int .i64 z]) (.agg #[.int .i64 a, .int .i64 c])).run Tryz.prog w = .ok (eqpS x z a c) w := by
  simp [go_sem]
  unfold eqpS
  by_cases h1 : x = a <;> by_cases h2 : z = c <;> simp [h1, h2]
theorem eqpS_refl (x z : Int) : eqpS x z x z = true := by simp [eqpS]
attribute [local go_sem ↓] eqp_any
attribute [local go_sem] eqpS_refl
/-- A chunk of the call's own. -/
def MadeChunk (p : Ps) (rs : List Rn) (w : World) (e : Ending) (w' : World) : Prop := ∃ k rv, e = .returned (.pointer (some ⟨k, 0, none⟩)) ∧ ChunkAt w.heap.size w' k p rs rv ∧ ∃ f, w' = ext w f
def MadeChunk2 (p : Ps) (rs : List Rn) (w : World) (e : Ending) (w' : World) : Prop := ∃ k rv, e = .returned (.tuple #[.pointer (some ⟨k, 0, none⟩), .int .i64 0]) ∧ ChunkAt w.heap.size w' k p rs rv ∧ ∃ f, w' = ext w f
theorem ChunkAt.base {B B' : Nat} {w : World} {k : Nat} {p : Ps} {rs : List Rn} {rv : Value} (h : ChunkAt B w k p rs rv) (hb : B' ≤ B) : ChunkAt B' w k p rs rv :=
  ⟨h.blk, by have := h.lo; omega, owns_base h.own hb, h.fine⟩
theorem ChunkAt.grown {B : Nat} {w W : World} {k : Nat} {p : Ps} {rs : List Rn} {rv : Value} (h : ChunkAt B w k p rs rv) (hW : Below w.heap.size w W) : ChunkAt B W k p rs rv :=
  h.turn (turn_below (F := fun _ => False) hW) (fun _ _ _ _ => id) (fun _ _ _ _ => id)

theorem place_any (x z : Int) (w : World) : Calls Tryz.prog 126 #[.agg #[.int .i64 x, .int .i64 z]] w fun e w' => e = .returned (.agg #[.int .i64 x, .int .i64 z]) ∧ ∃ f, w' = ext w f := by
  go_enter Tryz.func126, Tryz.ntmps126
  go_wp2
  exact bodyPost_ret (by simp [results, Tryz.results126, go_sem]) rfl ⟨rfl, grown_of⟩
set_option maxRecDepth 100000 in
theorem placeindex_in (x y z : Int) (w : World) (hx : Fit x) (hz : Fit z) (h1 : 0 ≤ y) (h2 : y ≤ 31) :
    Calls Tryz.prog 128 #[.agg #[.int .i64 (divS x 16), .int .i64 (divS z 16)], .agg #[.int .i64 x, .int .i64 y, .int .i64 z]] w fun e w' => e = .returned (.tuple #[.int .i64 (idxS x y z), .bool true]) ∧ ∃ f, w' = ext w f := by
  go_enter Tryz.func128, Tryz.ntmps128
  go_wp2_with fail
  refine (index_in x y z _ hx hz h1 h2).mono ?_
  rintro e w1 ⟨rfl, _t, hw⟩
  have hc1 := named_cell hw
  have hz1 := named_frozen hw
  have hh1 := named_heap hw
  haveI hi1 := named_in hw
  haveI hb1 := named_below (w := w) hw
  clear hw
  go_wp2_with fail
  refine wp_region_ext ?_ ?_ ?_
  · kernel_rfl
  · kernel_rfl
  repeat (go_big_quiet_step (first | (go_at_call 81; exact ext_call (chunk_any x y z _ hx hz))))
  refine wpQuiet_nil ?_
  rintro w2 ⟨_t, hw⟩
  haveI hb2_1 := named_below (w := w1) hw
  have hc2 := named_cell hw
  have hz2 := named_frozen hw
  have hh2 := named_heap hw
  haveI hi2 := named_in hw
  haveI hb2 := named_below (w := w) hw
  clear hw
  go_wp2_with fail
  go_ret2
  exact ⟨rfl, grown_of⟩
set_option maxRecDepth 100000 in
theorem placeindex_out (x y z px pz : Int) (w : World) (hy : y < 0 ∨ 31 < y) :
    Calls Tryz.prog 128 #[.agg #[.int .i64 px, .int .i64 pz], .agg #[.int .i64 x, .int .i64 y, .int .i64 z]] w fun e w' => e = .returned (.tuple #[.int .i64 0, .bool false]) ∧ ∃ f, w' = ext w f := by
  have IX := fun W => index_out x y z W hy
  clear hy
  go_enter Tryz.func128, Tryz.ntmps128
  go_wp2_with fail
  refine (IX _).mono ?_
  rintro e w1 ⟨rfl, _t, hw⟩
  have hc1 := named_cell hw
  have hz1 := named_frozen hw
  have hh1 := named_heap hw
  haveI hi1 := named_in hw
  haveI hb1 := named_below (w := w) hw
  clear hw
  go_wp2_with fail
  refine wp_region_ext ?_ ?_ ?_
  · kernel_rfl
  · kernel_rfl
  repeat (go_big_quiet_step (first | fail))
  refine wpQuiet_nil ?_
  rintro w2 ⟨_t, hw⟩
  haveI hb2_1 := named_below (w := w1) hw
  have hc2 := named_cell hw
  have hz2 := named_frozen hw
  have hh2 := named_heap hw
  haveI hi2 := named_in hw
  haveI hb2 := named_below (w := w) hw
  clear hw
  go_wp2_with fail
  go_ret2
  exact ⟨rfl, grown_of⟩
theorem runs_of_owns {B : Nat} {w : World} {rs : List Rn} {rv : Value} (h : w.ownsRow B 235 2 rv rs.length (rV rs)) (h0 : 0 < rs.length) : ∃ g cap, rv = .slice (some ⟨g, 0, none⟩) rs.length cap ∧ RunsAt w g rs := by
  obtain ⟨g, cap, rfl, _, _, _, hc⟩ := owns_some h h0
  exact ⟨g, cap, rfl, hc⟩
/-- The chunk's cell. -/
theorem at_cells {rs : List Rn} (h : Fine rs) (i : Int) (i0 : 0 ≤ i) (i1 : i < 8192) : (cellsR rs)[i.toNat]? = some (atG rs i) := by
  rw [atG_cells rs h.nonneg i i0]
  have : i.toNat < (cellsR rs).length := by rw [h.cells]; omega
  rw [List.getElem?_eq_getElem this]
  rfl
set_option maxRecDepth 100000 in
set_option maxHeartbeats 1000000 in
theorem chunkat_in (B k : Nat) (rs : List Rn) (rv : Value) (x y z : Int) (w : World) (h : ChunkAt B w k (divS x 16, divS z 16) rs rv) (hx : Fit x) (hz : Fit z) (h1 : 0 ≤ y) (h2 : y ≤ 31) :
    Calls Tryz.prog 82 #[.pointer (some ⟨k, 0, none⟩), .agg #[.int .i64 x, .int .i64 y, .int .i64 z]] w fun e w' => e = .returned (.tuple #[.int .i64 (atG rs (idxS x y z)), .bool true]) ∧ ∃ f, w' = ext w f := by
  obtain ⟨g, cap, rfl, hr⟩ := runs_of_owns h.own h.fine.full
  have c0 := cell_of_block (i := 0) h.blk rfl
  have c1 := cell_of_block (i := 1) h.blk rfl
  have c2 := cell_of_block (i := 2) h.blk rfl
  haveI := in_of_cell c0
  obtain ⟨b0, b1⟩ := idxS_bd (x := x) (z := z) h1 h2
  have AT := fun W (hW : ∃ f, W = ext w f) => runsat_any rs (idxS x y z) g cap W h.fine.rb h.fine.full (hr.grown hW) b0 (by omega)
  clear hr h b0 b1
  go_enter Tryz.func82, Tryz.ntmps82
  go_wp2_with fail
  refine wp_region_ext ?_ ?_ ?_
  · kernel_rfl
  · kernel_rfl
  repeat (go_big_quiet_step (first | (go_at_call 128; exact ext_call (placeindex_in x y z _ hx hz h1 h2))))
  refine wpQuiet_nil ?_
  rintro w1 ⟨_t, hw⟩
  have hc1 := named_cell hw
  have hz1 := named_frozen hw
  have hh1 := named_heap hw
  haveI hi1 := named_in hw
  haveI hb1 := named_below (w := w) hw
  clear hw
  go_wp2_with fail
  refine (AT _ (by exact grown_of)).mono ?_
  rintro e w2 ⟨rfl, _t, hw⟩
  haveI hb2_1 := named_below (w := w1) hw
  have hc2 := named_cell hw
  have hz2 := named_frozen hw
  have hh2 := named_heap hw
  haveI hi2 := named_in hw
  haveI hb2 := named_below (w := w) hw
  clear hw
  go_wp2_with fail
  go_ret2
  exact ⟨rfl, grown_of⟩
set_option maxRecDepth 100000 in
set_option maxHeartbeats 1000000 in
theorem chunkat_out (B k : Nat) (p : Ps) (rs : List Rn) (rv : Value) (x y z : Int) (w : World) (h : ChunkAt B w k p rs rv) (hy : y < 0 ∨ 31 < y) :
    Calls Tryz.prog 82 #[.pointer (some ⟨k, 0, none⟩), .agg #[.int .i64 x, .int .i64 y, .int .i64 z]] w fun e w' => e = .returned (.tuple #[.int .i64 0, .bool false]) ∧ ∃ f, w' = ext w f := by
  have c0 := cell_of_block (i := 0) h.blk rfl
  have c1 := cell_of_block (i := 1) h.blk rfl
  haveI := in_of_cell c0
  have IX := fun W => placeindex_out x y z p.1 p.2 W hy
  clear h hy
  go_enter Tryz.func82, Tryz.ntmps82
  go_wp2_with fail
  refine wp_region_ext ?_ ?_ ?_
  · kernel_rfl
  · kernel_rfl
  repeat (go_big_quiet_step (first | (go_at_call 128; exact ext_call (IX _))))
  refine wpQuiet_nil ?_
  rintro w1 ⟨_t, hw⟩
  have hc1 := named_cell hw
  have hz1 := named_frozen hw
  have hh1 := named_heap hw
  haveI hi1 := named_in hw
  haveI hb1 := named_below (w := w) hw
  clear hw
  go_wp2_with fail
  go_ret2
  exact ⟨rfl, grown_of⟩
set_option maxRecDepth 100000 in
set_option maxHeartbeats 1000000 in
theorem chunknew_any (p : Ps) (rs : List Rn) (rv : Value) (B : Nat) (w : World) (ho : w.ownsRow B 235 2 rv rs.length (rV rs)) (h : Fine rs) :
    Calls Tryz.prog 139 #[.agg #[.int .i64 p.1, .int .i64 p.2], rv] w (MadeChunk2 p rs w) := by
  obtain ⟨g, cap, rfl, hr⟩ := runs_of_owns ho h.full
  have HF := Lib.hid h
  have HR := Lib.hid hr
  have MA := fun W (hW : ∃ f, W = ext w f) => runsmay_any rs g cap W h (hr.grown hW)
  have CL := fun W (hW : ∃ f, W = ext w f) => cloneruns_any rs g cap W h.full (by have := h.short; omega) (hr.grown hW)
  clear ho h hr
  go_enter Tryz.func139, Tryz.ntmps139
  go_wp2_with fail
  refine (MA _ (by exact grown_of)).mono ?_
  rintro e w1 ⟨rfl, _t, hw⟩
  have hc1 := named_cell hw
  have hz1 := named_frozen hw
  have hh1 := named_heap hw
  haveI hi1 := named_in hw
  haveI hb1 := named_below (w := w) hw
  clear hw
  go_wp2_with fail
  go_region_law
    (first
      | (go_simp; go_at_call 182; refine (CL _ (by exact grown_of)).mono ?_; rintro e w2 ⟨v2, rfl, ho2, _t, hw⟩
         haveI hg2 := named_grown hw
         haveI hb2 := named_below (w := w) hw
         (try haveI hb21 := named_below (w := w1) hw)
         have hc2 := named_cell hw
         haveI hi2 := named_in hw
         have O2 := Lib.hid ho2
         clear hw ho2
         obtain ⟨og2, cp2, rfl⟩ := owns_form O2.out))
  all_goals
    go_wp2_with fail
    go_ret2
    refine ⟨_, _, rfl, ⟨heap_alloc_new _ _, ?_, ?_, HF.out⟩, grown_of⟩
    · exact (grown_now (w := w) (W := w2)).size
    · exact owns_base (owns_grown O2.out (by exact grown_of)) (by exact (grown_now (w := w)).size)
set_option maxRecDepth 100000 in
set_option maxHeartbeats 1000000 in
theorem chunkmake_any (s : Int) (p : Ps) (w : World) (hp : Pl p.1 p.2) :
    Calls Tryz.prog 96 #[.int .i64 s, .agg #[.int .i64 p.1, .int .i64 p.2]] w (MadeChunk p (rleN (blkS s p.1 p.2) 8192) w) := by
  have HF := Lib.hid (gr_fine s p).1
  have GE := fun W => genchunk_any s p.1 p.2 W hp
  clear hp
  generalize rleN (blkS s p.1 p.2) 8192 = rs at *
  go_enter Tryz.func96, Tryz.ntmps96
  go_wp2_with fail
  go_region_law
    (first
      | (go_simp; go_at_call 140; refine (GE _).mono ?_; rintro e w2 ⟨v2, rfl, ho2, _t, hw⟩
         haveI hg2 := named_grown hw
         haveI hb2 := named_below (w := w) hw
         have hc2 := named_cell hw
         haveI hi2 := named_in hw
         have O2 := Lib.hid ho2
         clear hw ho2
         obtain ⟨og2, cp2, rfl⟩ := owns_form O2.out))
  all_goals
    go_wp2_with fail
    go_ret
    refine ⟨_, _, rfl, ⟨heap_alloc_new _ _, ?_, ?_, HF.out⟩, grown_of⟩
    · exact (grown_now (w := w) (W := w2)).size
    · exact owns_base (owns_grown O2.out (by exact grown_of)) (by exact (grown_now (w := w)).size)
set_option maxRecDepth 100000 in
set_option maxHeartbeats 1000000 in
theorem chunkread_any (p : Ps) (rs : List Rn) (g o c : Nat) (w : World) (h : Fine rs) (hcl : (codeW rs).length ≤ c) (hc : BytesAt w g o (codeW rs)) :
    Calls Tryz.prog 95 #[.agg #[.int .i64 p.1, .int .i64 p.2], .slice (some ⟨g, o, none⟩) (codeW rs).length c] w (MadeChunk2 p rs w) := by
  have RD := fun W (hW : ∃ f, W = ext w f) => coderead_any rs g o c W h hcl (hc.grown hW)
  have HF := Lib.hid h
  clear h hcl hc
  go_enter Tryz.func95, Tryz.ntmps95
  go_wp2_with fail
  refine (RD _ (by exact grown_of)).mono ?_
  rintro e w1 ⟨v1, rfl, ho1, _t, hw⟩
  have hc1 := named_cell hw
  have hz1 := named_frozen hw
  have hh1 := named_heap hw
  haveI hi1 := named_in hw
  haveI hb1 := named_below (w := w) hw
  clear hw
  have O1 := Lib.hid ho1
  clear ho1 RD
  go_wp2_with fail
  refine (chunknew_any p rs v1 w.heap.size _ (owns_base O1.out (by simp)) HF.out).mono ?_
  rintro e w2 ⟨k, rv, rfl, hk, _t, hw⟩
  haveI hg2 := named_grown hw
  haveI hb2 := named_below (w := w) hw
  have H2 := Lib.hid (hk.base (grown_now (w := w) (W := w1)).size)
  clear hw hk
  go_wp2_with fail
  go_ret2
  exact ⟨k, rv, rfl, H2.out, grown_of⟩
theorem chunkread_nil (p : Ps) (w : World) : Calls Tryz.prog 95 #[.agg #[.int .i64 p.1, .int .i64 p.2], .slice none 0 0] w fun e w' => e = .returned (.tuple #[.pointer none, .int .i64 3]) ∧ ∃ f, w' = ext w f := by
  go_enter Tryz.func95, Tryz.ntmps95
  go_wp2_with fail
  refine (coderead_nil _).mono ?_
  rintro e w1 ⟨rfl, _t, hw⟩
  have hc1 := named_cell hw
  have hz1 := named_frozen hw
  have hh1 := named_heap hw
  haveI hi1 := named_in hw
  haveI hb1 := named_below (w := w) hw
  clear hw
  go_wp2_with fail
  go_ret2
  exact ⟨rfl, grown_of⟩
/-- Bytes of the call's own. -/
def MadeOnly (l : List Nat) (w : World) (e : Ending) (w' : World) : Prop := ∃ v, e = .returned v ∧ w'.ownsRow w.heap.size 5 1 v l.length (bV l) ∧ ∃ f, w' = ext w f
set_option maxRecDepth 100000 in
theorem chunkbytes_any (B k : Nat) (p : Ps) (rs : List Rn) (rv : Value) (w : World) (h : ChunkAt B w k p rs rv) :
    Calls Tryz.prog 142 #[.pointer (some ⟨k, 0, none⟩)] w (MadeOnly (codeW rs) w) := by
  obtain ⟨g, cap, rfl, hr⟩ := runs_of_owns h.own h.fine.full
  have c2 := cell_of_block (i := 2) h.blk rfl
  haveI := in_of_cell c2
  have CW := codewrite_any rs g cap w h.fine hr
  clear h hr
  go_enter Tryz.func142, Tryz.ntmps142
  go_wp2_with fail
  refine (CW).mono ?_
  rintro e w1 ⟨v1, rfl, ho1, _t, hw⟩
  have hc1 := named_cell hw
  have hz1 := named_frozen hw
  have hh1 := named_heap hw
  haveI hi1 := named_in hw
  haveI hb1 := named_below (w := w) hw
  clear hw
  have O1 := Lib.hid ho1
  clear ho1 CW
  obtain ⟨og1, cp1, rfl⟩ := owns_form O1.out
  go_wp2_with fail
  go_ret
  exact ⟨_, rfl, O1.out, grown_of⟩
/-- A chunk with a cell set. -/
def SetChunk (B k : Nat) (p : Ps) (rs : List Rn) (w : World) (e : Ending) (w' : World) : Prop := e = .returned (.int .i64 0) ∧ (∃ rv, ChunkAt B w' k p rs rv) ∧ Turn (fun j => j = k) w w'
set_option maxRecDepth 100000 in
set_option maxHeartbeats 1000000 in
theorem chunkset_any (B k : Nat) (rs : List Rn) (rv : Value) (x y z b : Int) (w : World) (h : ChunkAt B w k (divS x 16, divS z 16) rs rv) (hB : B ≤ w.heap.size) (hx : Fit x) (hz : Fit z) (h1 : 0 ≤ y) (h2 : y ≤ 31) (hb : GoodB b) :
    Calls Tryz.prog 320 #[.pointer (some ⟨k, 0, none⟩), .agg #[.int .i64 x, .int .i64 y, .int .i64 z], .int .i64 b] w (SetChunk B k (divS x 16, divS z 16) (fillG rs (idxS x y z) (idxS x y z + 1) b) w) := by
  obtain ⟨g, cap, rfl, hr⟩ := runs_of_owns h.own h.fine.full
  have c0 := cell_of_block (i := 0) h.blk rfl
  have c1 := cell_of_block (i := 1) h.blk rfl
  have c2 := cell_of_block (i := 2) h.blk rfl
  have f2 := free_of_block 2 h.blk
  haveI := in_of_cell c0
  obtain ⟨b0, b1⟩ := idxS_bd (x := x) (z := z) h1 h2
  obtain ⟨i, hi⟩ := Int.eq_ofNat_of_zero_le b0
  rw [hi] at b1 ⊢
  have IX := fun W => placeindex_in x y z W hx hz h1 h2
  rw [hi] at IX
  have MB := fun W => may_any b hb W
  have ST := fun W (hW : ∃ f, W = ext w f) => runsset_any rs i b g cap W h.fine (by omega) hb (hr.grown hW)
  have HF := Lib.hid (fill_fine h.fine i b (by omega) hb)
  have HH := Lib.hid h
  have HB := Lib.hid hB
  clear hr h b0 b1 hi hb hB
  go_enter Tryz.func320, Tryz.ntmps320
  go_wp2_with fail
  refine wp_region_ext ?_ ?_ ?_
  · kernel_rfl
  · kernel_rfl
  repeat (go_big_quiet_step (first | (go_at_call 128; exact ext_call (IX _))))
  refine wpQuiet_nil ?_
  rintro w1 ⟨_t, hw⟩
  have hc1 := named_cell hw
  have hz1 := named_frozen hw
  have hh1 := named_heap hw
  haveI hi1 := named_in hw
  haveI hb1 := named_below (w := w) hw
  clear hw
  go_wp2_with fail
  refine (MB _).mono ?_
  rintro e w2 ⟨rfl, _t, hw⟩
  haveI hb2_1 := named_below (w := w1) hw
  have hc2 := named_cell hw
  have hz2 := named_frozen hw
  have hh2 := named_heap hw
  haveI hi2 := named_in hw
  haveI hb2 := named_below (w := w) hw
  clear hw
  go_wp2_with fail
  have B2 := Lib.hid (grown_now (w := w) (W := w2))
  refine (ST w2 (ext_of B2.out)).mono ?_
  rintro e w3 ⟨v3, rfl, ho3, _t, hw⟩
  haveI hb3_2 := named_below (w := w2) hw
  have hc3 := named_cell hw
  have hz3 := named_frozen hw
  have hh3 := named_heap hw
  haveI hi3 := named_in hw
  haveI hb3 := named_below (w := w) hw
  clear hw
  have O3 := Lib.hid ho3
  clear ho3
  obtain ⟨og3, cp3, rfl⟩ := owns_form O3.out
  have hk3 := (grown_now (w := w) (W := w3)).block _ (lt_of_block HH.out.blk)
  have K3 := Lib.hid (hk3.trans HH.out.blk)
  clear hk3
  go_wp2_with fail
  go_ret
  have hlt := lt_of_block HH.out.blk
  have hTT : Turn (fun j => j = k) w w3 := turn_below grown_now
  refine ⟨rfl, ⟨_, ⟨block_set K3.out _ (by simp), HH.out.lo, ?_, HF.out⟩⟩, hTT.setIn rfl _⟩
  refine ((Turn.refl (fun j => j = k) w3).setIn rfl _).owns (owns_base O3.out (by have := HB.out; have := B2.out.size; omega)) ?_
  rintro j hj rfl
  have := (O3.out.lt j hj).1
  have := B2.out.size
  omega
#print axioms chunkset_any
end Go.Proofs.YtnogfelfgclajaaGreatDoor
end
