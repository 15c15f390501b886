/-
  The store: an id's record loaded; a record saved.
  A table: a chunk saved; room made.
  A table: one of its chunks saved.
  A table: a chunk let go; a chunk touched; room made.
-/
import Derived.Test.YtnogfelfgclajaaGreatDoorMa16
import Derived.Test.YtnogfelfgclajaaGreatDoorMa20
import Derived.Test.YtnogfelfgclajaaGreatDoorMa19
section
namespace Go.Proofs.YtnogfelfgclajaaGreatDoor
open Go.RowKit
attribute [local go_sem] ext_ext drew_ext ext_drew ext_cell ext_frozen in_lt in_le in_ne in_en in_ne1 in_en1 in_le1 in_ltn in_len in_nen in_enn size_le ite_max ite_min
set_option linter.unusedVariables false
set_option linter.unusedSimpArgs false

theorem storemay_any (id : Int) (h0 : 0 ≤ id) (h1 : id ≤ 1099511627776) (w : World) : Calls Tryz.prog 136 #[.int .i64 id] w fun e w' => e = .returned (.bool true) ∧ w = w' := by
  go_enter Tryz.func136, Tryz.ntmps136
  go_wp2
  go_ret
  exact ⟨rfl, rfl⟩
theorem BodyV.below {w W : World} {bv : Value} {x : List Nat} (h : BodyV w bv x) (hW : Below w.heap.size w W) : BodyV W bv x := by
  rcases h with h | ⟨h0, g, o, cap, e, hc, hb⟩
  · exact .inl h
  · exact .inr ⟨h0, g, o, cap, e, hc, hb.below hW⟩
theorem BodyV.form {w : World} {bv : Value} {x : List Nat} (h : BodyV w bv x) : ∃ og cap, bv = .slice og x.length cap := by
  rcases h with ⟨rfl, rfl⟩ | ⟨_, g, o, cap, rfl, _⟩
  · exact ⟨_, _, rfl⟩
  · exact ⟨_, _, rfl⟩
/-- What is told of an id. -/
def Loaded (v : Nat) (x : List Nat) (w : World) (e : Ending) (w' : World) : Prop := ∃ bv, e = .returned (.tuple #[bv, .int .i64 (v : Int), .bool (decide (0 < v))]) ∧ BodyV w' bv x ∧ ∃ f, w' = ext w f
set_option maxRecDepth 100000 in
set_option maxHeartbeats 4000000 in
theorem storeload_any (B d mb s : Nat) (D : Int → Option (List Nat)) (N : Nat) (id : Int) (v : Nat) (x : List Nat) (w : World) (h : DiskAt B w d mb D N) (hs : w.cell? ⟨s, 0, none⟩ = some (.pointer (some ⟨d, 0, none⟩)))
    (i0 : 0 ≤ id) (i1 : id ≤ 1099511627776) (hr : HasRec D id v x) :
    Calls Tryz.prog 94 #[.pointer (some ⟨s, 0, none⟩), .int .i64 id] w (Loaded v x w) := by
  obtain ⟨r0, r1, hr, e⟩ := hr
  have OF := storeof_any B d mb s D N id r0 r1 w h hs i0 i1 hr.k0 hr.k1 hr.o0 hr.o1
  obtain ⟨e1, e2⟩ : (later id r0 r1).2.1 = v ∧ (later id r0 r1).2.2 = x := by rw [e]; exact ⟨rfl, rfl⟩
  unfold OfDone at OF
  rw [e1, e2] at OF
  generalize (later id r0 r1).1 = sl at OF
  haveI := in_of_cell hs
  clear e1 e2 e hr h
  go_enter Tryz.func94, Tryz.ntmps94
  go_wp2_with (go_at_call 136; refine (storemay_any id i0 i1 _).mono ?_; rintro e w1 ⟨rfl, rfl⟩)
  refine OF.mono ?_
  rintro e w1 ⟨bv, rfl, hb, _t, hw⟩
  haveI hb1 := named_below (w := w) hw
  have hc1 := named_cell hw
  have hz1 := named_frozen hw
  haveI hi1 := named_in hw
  obtain ⟨og, cap, rfl⟩ := hb.form
  have HB := Lib.hid hb
  clear hw hb OF
  go_wp2_with fail
  refine wp_region_ext ?_ ?_ ?_
  · kernel_rfl
  · kernel_rfl
  repeat (go_big_quiet_step (first | fail))
  refine wpQuiet_nil ?_
  rintro w2 ⟨_t, hw⟩
  haveI hb2_1 := named_below (w := w1) hw
  have hc2 := named_cell hw
  have hz2 := named_frozen hw
  have hh2 := named_heap hw
  haveI hi2 := named_in hw
  haveI hb2 := named_below (w := w) hw
  clear hw
  have HB2 := Lib.hid (HB.out.below (grown_now (w := w1) (W := w2)))
  go_wp2_with fail
  go_ret3
  exact ⟨_, rfl, HB2.out, grown_of⟩
/-- A record saved. -/
def Saved (B d : Nat) (D : Int → Option (List Nat)) (N : Nat) (id : Int) (v : Nat) (y : List Nat) (w : World) (e : Ending) (w' : World) : Prop :=
  e = .returned (.int .i64 0) ∧ (∃ mb' D', DiskAt B w' d mb' D' (N + 1) ∧ HasRec D' id (v + 1) y ∧ (∀ id' v' x', id' ≠ id → HasRec D id' v' x' → HasRec D' id' v' x') ∧ w.heap.size ≤ mb') ∧ Turn (Ty B tyDisk w) w w'
set_option maxRecDepth 100000 in
set_option maxHeartbeats 4000000 in
theorem storesave_any (B d mb s : Nat) (D : Int → Option (List Nat)) (N : Nat) (id : Int) (v : Nat) (x : List Nat) (g o cap : Nat) (y : List Nat) (w : World) (hB : B ≤ w.heap.size) (h : DiskAt B w d mb D N) (hN : N ≤ 29)
    (hs : w.heap[s]? = some (.cells #[.pointer (some ⟨d, 0, none⟩)] 160 (0, 0))) (i0 : 0 ≤ id) (i1 : id ≤ 1099511627776) (hr : HasRec D id v x) (hv : v ≤ 999) (y0 : 0 < y.length) (y1 : y.length ≤ 6500) (yb : Bytes y) (hc : BytesAt w g o y) :
    Calls Tryz.prog 141 #[.pointer (some ⟨s, 0, none⟩), .int .i64 id, .slice (some ⟨g, o, none⟩) y.length cap] w (Saved B d D N id v y w) := by
  obtain ⟨r0, r1, hr, e⟩ := hr
  have c0 := cell_of_block (i := 0) hs rfl
  have OF := storeof_any B d mb s D N id r0 r1 w h c0 i0 i1 hr.k0 hr.k1 hr.o0 hr.o1
  have XO := other_xor id r0 r1 i0 i1
  obtain ⟨e1, e2⟩ : (later id r0 r1).2.1 = v ∧ (later id r0 r1).2.2 = x := by rw [e]; exact ⟨rfl, rfl⟩
  have HP := Lib.hid (show RecOk (v + 1) y → HasRec (dput D (otherSlot id r0 r1) (blobW (v + 1) y)) id (v + 1) y from fun hy => by
    have := HasRec.put hr (y := y)
    rw [e1] at this
    exact this hy)
  have HF := Lib.hid (show ∀ id' v' x' l, id' ≠ id → HasRec D id' v' x' → HasRec (dput D (otherSlot id r0 r1) l) id' v' x' from fun id' v' x' l hne h => h.far hne r0 r1 l)
  unfold OfDone at OF
  rw [e1, e2] at OF
  generalize (later id r0 r1).1 = sl at *
  generalize otherSlot id r0 r1 = ot at *
  haveI := in_of_cell c0
  have HD := Lib.hid h
  have HS := Lib.hid hs
  have HB := Lib.hid hB
  have HC := Lib.hid hc
  have HY := Lib.hid (And.intro y0 (And.intro y1 yb))
  have HN := Lib.hid hN
  have n0 : (0 : Int) ≤ (v : Int) := by omega
  have n1 : (v : Int) ≤ 999 := by omega
  clear e1 e2 e hr h hs hB hc y0 y1 yb hN
  go_enter Tryz.func141, Tryz.ntmps141
  go_wp2_with (go_at_call 136; refine (storemay_any id i0 i1 _).mono ?_; rintro e w1 ⟨rfl, rfl⟩)
  refine OF.mono ?_
  rintro e w1 ⟨bv, rfl, hb, _t, hw⟩
  haveI hb1 := named_below (w := w) hw
  have hc1 := named_cell hw
  have hz1 := named_frozen hw
  haveI hi1 := named_in hw
  obtain ⟨og, cp, rfl⟩ := hb.form
  clear hw hb OF
  have WR := fun W (hW : BytesAt W g o y) => storewrite_any (v + 1) y g o cap W (by omega) (by omega) HY.out.1 (by have := HY.out.2.1; omega) HY.out.2.2 hW
  rw [show (((v + 1 : Nat)) : Int) = (v : Int) + 1 from rfl] at WR
  go_wp2_with fail
  refine (WR _ (HC.out.grown (by exact grown_of))).mono ?_
  rintro e w2 ⟨v2, rfl, ho2, _t, hw⟩
  haveI hb2 := named_below (w := w) hw
  haveI hb21 := named_below (w := w1) hw
  have hc2 := named_cell hw
  have hz2 := named_frozen hw
  haveI hi2 := named_in hw
  clear hw WR
  obtain ⟨g2, c2, rfl, _t, _t, _t, _t⟩ := owns_some ho2 (by rw [blobW_len]; omega)
  have O2 := Lib.hid (owns_bytes ho2)
  clear ho2
  go_wp2_with fail
  refine wp_region_ext_tail 9 ?_ ?_ ?_
  · kernel_rfl
  · kernel_rfl
  simp only [List.take_succ_cons, List.take_zero, List.drop_succ_cons, List.drop_zero]
  repeat (go_big_quiet_step (first | fail))
  refine wpQuiet_nil ?_
  rintro w3 ⟨_t, hw⟩
  haveI hb3_1 := named_below (w := w1) hw
  haveI hb3_2 := named_below (w := w2) hw
  have hc3 := named_cell hw
  have hz3 := named_frozen hw
  have hh3 := named_heap hw
  haveI hi3 := named_in hw
  haveI hb3 := named_below (w := w) hw
  clear hw
  have B3 := Lib.hid (grown_now (w := w) (W := w3))
  have PU := put_any B d mb D N ot (blobW (v + 1) y) g2 0 c2 w3 (by have := HB.out; have := B3.out.size; omega) (HD.out.grown B3.out) HN.out (by rw [blobW_len]; omega) (by rw [blobW_len]; have := HY.out.2.1; omega) (O2.out.below (grown_now (w := w2) (W := w3)))
  go_wp2_with fail
  refine PU.mono ?_
  rintro e w4 ⟨rfl, hone, hT⟩
  have hTw : Turn (Ty B tyDisk w) w w4 := (turn_below B3.out).ty hT
  have s4 := (hTw.block s (lt_of_block HS.out) (ty_no HS.out (by decide))).trans HS.out
  have c4 := cell_of_block (i := 0) s4 rfl
  haveI := in_of_cell c4
  have SY := sync_any B d mb D N ot (blobW (v + 1) y) w4 (by have := HB.out; have := hTw.size; omega) hone
  have HT := Lib.hid hTw
  clear hT hTw hone PU s4
  go_wp2_with fail
  refine SY.mono ?_
  rintro e w5 ⟨rfl, ⟨mb', hd, hm⟩, hT⟩
  have HE := Lib.hid (And.intro hd (And.intro hm hT))
  clear hd hm hT SY
  go_wp2_with fail
  go_ret
  refine ⟨rfl, ⟨mb', _, HE.out.1, HP.out ⟨by omega, by omega, HY.out.1, HY.out.2.1, HY.out.2.2⟩, fun id' v' x' hne h => HF.out id' v' x' _ hne h, ?_⟩, HT.out.ty HE.out.2.2⟩
  have := HE.out.2.1
  have := HT.out.size
  omega
#print axioms storesave_any
end Go.Proofs.YtnogfelfgclajaaGreatDoor
end

section
namespace Go.Proofs.YtnogfelfgclajaaGreatDoor
open Go.RowKit
attribute [local go_sem] ext_ext drew_ext ext_drew ext_cell ext_frozen in_lt in_le in_ne in_en in_ne1 in_en1 in_le1 in_ltn in_len in_nen in_enn size_le ite_max ite_min
set_option linter.unusedVariables false
set_option linter.unusedSimpArgs false

theorem ne_ty {w : World} {b : Nat} {c : Array Value} {T : TypeId} {fz : Nat × Nat} (hb : w.heap[b]? = some (.cells c T fz)) {g : Nat} {c' : Array Value} {T' : TypeId} {fz' : Nat × Nat} (hg : w.heap[g]? = some (.cells c' T' fz')) (h : T' ≠ T) : ¬ g = b := by
  rintro rfl
  rw [hb] at hg
  injection hg with hg
  injection hg with _ hg
  exact h hg.symm
theorem MapB.cells {B : Nat} {w : World} {b : Nat} {D : Int → Option (List Nat)} {N : Nat} (h : MapB B w b D N) {g : Nat} {c : Array Value} {T : TypeId} {fz : Nat × Nat} (hg : w.heap[g]? = some (.cells c T fz)) : ¬ b = g := by
  rintro rfl
  obtain ⟨mv, ⟨es, cl, h5, _⟩, _⟩ := h
  rw [hg] at h5
  cases h5
theorem tabid_any (p : Ps) (h : Close p) (w : World) : Calls Tryz.prog 91 #[.agg #[.int .i64 p.1, .int .i64 p.2]] w fun e w' => e = .returned (.tuple #[.int .i64 (idP p), .bool true]) ∧ ∃ f, w' = ext w f := id_any p.1 p.2 h.x0 h.x1 h.z0 h.z1 w
set_option maxRecDepth 100000 in
set_option maxHeartbeats 1000000 in
theorem save_clean (t it : Nat) (B k : Nat) (p : Ps) (rs : List Rn) (rv : Value) (w : World) (h : ItemAt B w it k p false rs rv) :
    Calls Tryz.prog 97 #[.pointer (some ⟨t, 0, none⟩), .pointer (some ⟨it, 0, none⟩)] w fun e w' => e = .returned (.int .i64 0) ∧ w = w' := by
  have c1 := cell_of_block (i := 1) h.blk rfl
  clear h
  go_enter Tryz.func97, Tryz.ntmps97
  go_wp2_with fail
  go_ret
  exact ⟨rfl, rfl⟩
/-- A chunk saved: it is clean, its record lies on the disk. -/
def SaveDone (B it k d : Nat) (p : Ps) (rs : List Rn) (rv : Value) (D : Int → Option (List Nat)) (N v : Nat) (w : World) (e : Ending) (w' : World) : Prop :=
  e = .returned (.int .i64 0) ∧ ItemAt B w' it k p false rs rv ∧ (∃ mb' D', DiskAt B w' d mb' D' (N + 1) ∧ HasRec D' (idP p) (v + 1) (codeW rs) ∧ (∀ id' v' x', id' ≠ idP p → HasRec D id' v' x' → HasRec D' id' v' x') ∧ w.heap.size ≤ mb') ∧ Turn (fun j => Ty B tyDisk w j ∨ j = it) w w'
set_option maxRecDepth 100000 in
set_option maxHeartbeats 4000000 in
theorem save_dirty (B t it k st d mb : Nat) (p : Ps) (rs : List Rn) (rv : Value) (D : Int → Option (List Nat)) (N v : Nat) (x : List Nat) (w : World) (hB : B ≤ w.heap.size) (h : ItemAt B w it k p true rs rv) (hd : DiskAt B w d mb D N) (hN : N ≤ 29)
    (ht : w.cell? ⟨t, 0, none⟩ = some (.pointer (some ⟨st, 0, none⟩))) (hs : w.heap[st]? = some (.cells #[.pointer (some ⟨d, 0, none⟩)] 160 (0, 0))) (hp : Close p) (hr : HasRec D (idP p) v x) (hv : v ≤ 999) (hl : (codeW rs).length ≤ 6500) :
    Calls Tryz.prog 97 #[.pointer (some ⟨t, 0, none⟩), .pointer (some ⟨it, 0, none⟩)] w (SaveDone B it k d p rs rv D N v w) := by
  have c0 := cell_of_block (i := 0) h.blk rfl
  have c1 := cell_of_block (i := 1) h.blk rfl
  have k0 := cell_of_block (i := 0) h.chunk.blk rfl
  have k1 := cell_of_block (i := 1) h.chunk.blk rfl
  haveI := in_of_cell c0
  haveI := in_of_cell k0
  haveI := in_of_cell ht
  haveI := in_of_block hs
  have HI := Lib.hid h
  have HD := Lib.hid hd
  have HS := Lib.hid hs
  have HP := Lib.hid hp
  have HR := Lib.hid (And.intro hr (And.intro hv (And.intro hl hN)))
  have HB := Lib.hid hB
  clear h hd hs hp hr hv hl hN hB
  go_enter Tryz.func97, Tryz.ntmps97
  go_wp2_with fail
  refine (place_any _ _ _).mono ?_
  rintro e w1 ⟨rfl, _t, hw⟩
  have hc1 := named_cell hw
  have hz1 := named_frozen hw
  have hh1 := named_heap hw
  haveI hi1 := named_in hw
  haveI hb1 := named_below (w := w) hw
  clear hw
  go_wp2_with fail
  refine (tabid_any p HP.out _).mono ?_
  rintro e w2 ⟨rfl, _t, hw⟩
  haveI hb2_1 := named_below (w := w1) hw
  have hc2 := named_cell hw
  have hz2 := named_frozen hw
  have hh2 := named_heap hw
  haveI hi2 := named_in hw
  haveI hb2 := named_below (w := w) hw
  clear hw
  go_wp2_with fail
  have B2 := Lib.hid (grown_now (w := w) (W := w2))
  go_region_law
    (first
      | (go_simp; go_at_call 142; refine (chunkbytes_any B k p rs rv _ (HI.out.chunk.grown (by exact grown_now))).mono ?_; rintro e w3 ⟨v3, rfl, ho3, _t, hw⟩
         haveI hg3 := named_grown hw
         haveI hb3 := named_below (w := w) hw
         (try haveI hb32 := named_below (w := w2) hw)
         have hc3 := named_cell hw
         have hz3 := named_frozen hw
         haveI hi3 := named_in hw
         clear hw
         obtain ⟨g3, cp3, rfl, hb3, hn3, hm3, hcell3⟩ := owns_some ho3 (codeW_pos HI.out.chunk.fine)
         have O3 := Lib.hid (owns_bytes ho3)
         clear ho3 hb3 hn3 hm3 hcell3)
      | (go_simp; go_at_call 141; refine (storesave_any B d mb st D N (idP p) v x g3 0 cp3 (codeW rs) _ (by have := HB.out; have := (grown_now (w := w) (W := w3)).size; first | exact Nat.le_trans HB.out this | omega) (HD.out.grown (by exact grown_now)) HR.out.2.2.2 (((grown_now (w := w)).block _ (lt_of_block HS.out)).trans HS.out) (idP_bd HP.out).1 (idP_bd HP.out).2 HR.out.1 HR.out.2.1 (codeW_pos HI.out.chunk.fine) HR.out.2.2.1 (codeW_bytes HI.out.chunk.fine) (O3.out.grown (by exact grown_of))).mono ?_; rintro e w4 ⟨rfl, ⟨mb4, D4, hd4, hr4, hf4, hm4⟩, hT⟩
         have hTw := (turn_below (F := Ty B tyDisk w) (by exact grown_now (w := w))).ty hT
         have I4 := HI.out.turn hTw (fun g c fz hg => ty_no hg (by decide)) (fun g c fz hg => ty_no hg (by decide)) (fun g c fz hg => ty_no hg (by decide))
         have d0 := cell_of_block (i := 0) I4.blk rfl
         have d1 := cell_of_block (i := 1) I4.blk rfl
         have e1 := free_of_block 1 I4.blk
         haveI := in_of_cell d0
         have J4 := Lib.hid I4
         have T4 := Lib.hid hTw
         have E4 := Lib.hid (And.intro hd4 (And.intro hr4 (And.intro hf4 (Nat.le_trans (by exact (grown_now (w := w)).size) hm4))))
         clear hTw hT I4 hd4 hr4 hf4 hm4))
  all_goals
    go_wp2_with fail
    go_ret
    have hS : Turn (fun j => j = it) w4 (w4.setCell ⟨it, 1, none⟩ (.bool false)) := (Turn.refl (fun j => j = it) w4).setIn rfl _
    have hb := J4.out.blk
    refine ⟨rfl, ⟨block_set hb _ (by simp), J4.out.lo, J4.out.chunk.turn hS (fun g c fz hg => ne_ty hb hg (by decide)) (fun g c fz hg => ne_ty hb hg (by decide))⟩, ⟨mb4, D4, E4.out.1.turn hS (ne_ty hb E4.out.1.blk (by decide)) (E4.out.1.map.cells hb) (fun g c fz hg => ne_ty hb hg (by decide)), E4.out.2.1, E4.out.2.2.1, E4.out.2.2.2⟩, ?_⟩
    exact (T4.out.mono (fun j _ hj => .inl hj)).setIn (.inr rfl) _
#print axioms save_dirty
end Go.Proofs.YtnogfelfgclajaaGreatDoor
end

section
namespace Go.Proofs.YtnogfelfgclajaaGreatDoor
open Go.RowKit
attribute [local go_sem] ext_ext drew_ext ext_drew ext_cell ext_frozen in_lt in_le in_ne in_en in_ne1 in_en1 in_le1 in_ltn in_len in_nen in_enn size_le ite_max ite_min
set_option linter.unusedVariables false
set_option linter.unusedSimpArgs false

theorem Items.of_get {B : Nat} {w : World} {G : Ps → List Int} : ∀ {its : List Nat} {T : List (Ps × Bool)}, its.length = T.length → (∀ (i : Nat) (hi : i < its.length) (hj : i < T.length), ItemOf B w its[i] T[i].1 T[i].2 (G T[i].1)) → Items B w G its T
  | [], [], _, _ => .nil
  | [], _ :: _, h, _ => by simp at h
  | _ :: _, [], h, _ => by simp at h
  | it :: its, c :: T, h, f => .cons _ _ _ _ (f 0 (by simp) (by simp)) (Items.of_get (by simpa using h) (fun i hi hj => f (i + 1) (by simpa using hi) (by simpa using hj)))
theorem items_ne {B : Nat} {w : World} {G : Ps → List Int} {its : List Nat} {T : List (Ps × Bool)} (h : Items B w G its T) (ho : (T.map (·.1)).Nodup) {i j : Nat} (hi : i < its.length) (hj : j < its.length) (hne : i ≠ j) : its[i] ≠ its[j] := fun e => by
  have hl := h.len
  have h1 := h.get i hi (by omega)
  have h2 := h.get j hj (by omega)
  rw [e] at h1
  exact hne (once_ix ho (by omega) (by omega) (h1.same h2))
theorem Items.set {B : Nat} {w W : World} {G G' : Ps → List Int} {its : List Nat} {T : List (Ps × Bool)} (h : Items B w G its T) {i : Nat} {c : Ps × Bool} (hi : i < its.length) (hnew : ItemOf B W its[i] c.1 c.2 (G' c.1))
    (hold : ∀ (j : Nat) (hj : j < its.length) (hk : j < T.length), j ≠ i → ItemOf B w its[j] T[j].1 T[j].2 (G T[j].1) → ItemOf B W its[j] T[j].1 T[j].2 (G' T[j].1)) : Items B W G' its (T.set i c) := by
  have hl := h.len
  refine Items.of_get (by simp [hl]) (fun j hj hk => ?_)
  rw [List.length_set] at hk
  by_cases e : i = j
  · subst e
    rw [List.getElem_set_self]
    exact hnew
  · rw [List.getElem_set_ne e]
    exact hold j hj hk (fun e' => e e'.symm) (h.get j hj hk)
theorem idx_perm {α : Type} : ∀ {l : List α} {i : Nat} (h : i < l.length), (l[i] :: l.eraseIdx i).Perm l
  | [], _, h => by simp at h
  | _ :: _, 0, _ => List.Perm.refl _
  | a :: l, i + 1, h => (List.Perm.swap a (l[i]'(by simpa using h)) _).trans ((idx_perm (l := l) (i := i) (by simpa using h)).cons a)
theorem set_perm {α : Type} {l : List α} {i : Nat} (h : i < l.length) (c : α) : (l.set i c).Perm (c :: l.eraseIdx i) := by
  have h1 := idx_perm (l := l.set i c) (i := i) (by simpa using h)
  rw [List.getElem_set_self, List.eraseIdx_set_eq] at h1
  exact h1.symm
theorem ItemOf.turnOne {F : Nat → Prop} {B : Nat} {w W : World} {it : Nat} {p : Ps} {d : Bool} {L : List Int} (h : ItemOf B w it p d L) (hT : Turn F w W) (h0 : ¬ F it) (h1 : ∀ g c fz, w.heap[g]? = some (.cells c 187 fz) → ¬ F g) (h2 : ∀ g c fz, w.heap[g]? = some (.cells c 235 fz) → ¬ F g) : ItemOf B W it p d L := by
  obtain ⟨k, rs, rv, h, e⟩ := h
  exact ⟨k, rs, rv, ⟨(hT.block _ (lt_of_block h.blk) h0).trans h.blk, h.lo, h.chunk.turn hT h1 h2⟩, e⟩
theorem tab_size {B : Nat} {w : World} {t q e st d mb N : Nat} {s lim : Int} {G : Ps → List Int} {T : List (Ps × Bool)} {lv : Value} {its : List Nat} {D : Int → Option (List Nat)} (h : TabAt B w t s lim q e G T st d mb lv its D N) : B ≤ w.heap.size := by
  have := h.tlo; have := lt_of_block h.tab; omega

/-- A chunk of a table is saved, if it is dirty. -/
def TabSaved (B t : Nat) (s lim : Int) (q e : Nat) (G : Ps → List Int) (T : List (Ps × Bool)) (st d : Nat) (lv : Value) (its : List Nat) (w : World) (en : Ending) (w' : World) : Prop :=
  en = .returned (.int .i64 0) ∧ (∃ mb D N, TabAt B w' t s lim q e G T st d mb lv its D N) ∧ Turn (Ty B tyTab w) w w'
theorem tabsave_any {B : Nat} {w : World} {t q e st d mb N : Nat} {s lim : Int} {G : Ps → List Int} {T : List (Ps × Bool)} {lv : Value} {its : List Nat} {D : Int → Option (List Nat)} (h : TabAt B w t s lim q e G T st d mb lv its D N) (i : Nat) (hi : i < its.length) (hj : i < T.length) :
    Calls Tryz.prog 97 #[.pointer (some ⟨t, 0, none⟩), .pointer (some ⟨its[i], 0, none⟩)] w (TabSaved B t s lim q e G (T.set i (T[i].1, false)) st d lv its w) := by
  obtain ⟨k, rs, rv, hit, hG⟩ := h.items.get i hi hj
  by_cases hd : T[i].2 = false
  · rw [hd] at hit
    refine (save_clean t its[i] B k _ rs rv w hit).mono ?_
    rintro en w' ⟨rfl, rfl⟩
    have e : T.set i (T[i].1, false) = T := by
      have : (T[i].1, false) = T[i] := Prod.ext rfl hd.symm
      rw [this]
      exact List.set_getElem_self hj
    rw [e]
    exact ⟨rfl, ⟨mb, D, N, h⟩, Turn.refl _ _⟩
  · have hd : T[i].2 = true := by simpa using hd
    rw [hd] at hit
    have hcl : Close T[i].1 := h.hold.close _ (List.getElem_mem hj)
    obtain ⟨v, x, hr, hvN, _⟩ := h.hold.disk T[i].1 hcl
    have hro := h.hold.room
    have hmo := h.hold.most
    obtain ⟨_, _, hch⟩ := h.hold.good T[i].1 hcl
    have hti : T[i] = (T[i].1, true) := Prod.ext rfl hd
    refine (save_dirty B t its[i] k st d mb T[i].1 rs rv D N v x w (tab_size h) hit h.dsk (by omega) (cell_of_block (i := 0) h.tab rfl) h.sto hcl hr (by omega) (codeW_short hit.chunk.fine (by rw [hG]; omega))).mono ?_
    rintro en w' ⟨rfl, hI, ⟨mb', D', hd', hr', hf', hm'⟩, hT⟩
    have hF : ∀ (g : Nat) (c : Array Value) (T : TypeId) (fz : Nat × Nat), w.heap[g]? = some (.cells c T fz) → T ∉ [210, 134] → ¬ (Ty B tyDisk w g ∨ g = its[i]) := by
      rintro g c T fz hg hn (h1 | h1)
      · exact ty_no hg (fun hm => hn (by simp at hm; simp [hm])) h1
      · exact ne_ty hit.blk hg (fun e => hn (by simp [e])) h1
    refine ⟨rfl, ⟨mb', D', N + 1, ?_⟩, hT.mono (fun j _ hj => ?_)⟩
    · refine ⟨(hT.block _ (lt_of_block h.tab) (hF _ _ _ _ h.tab (by decide))).trans h.tab, (hT.block _ (lt_of_block h.sto) (hF _ _ _ _ h.sto (by decide))).trans h.sto, hd', h.row.turn hT (fun g c fz hg => hF _ _ _ _ hg (by decide)), ?_, ?_, h.tlo, h.slo, h.lim1, h.lim2, by rw [List.length_set]; exact h.full, ?_, Nat.lt_of_lt_of_le h.qlt hT.size⟩
      · refine h.items.set hi ⟨k, rs, rv, hI, hG⟩ (fun j hj hk hne hio => hio.turnOne hT ?_ (fun g c fz hg => hF _ _ _ _ hg (by decide)) (fun g c fz hg => hF _ _ _ _ hg (by decide)))
        rintro (h1 | h1)
        · obtain ⟨k2, rs2, rv2, h2, _⟩ := hio
          exact ty_no h2.blk (by decide) h1
        · exact items_ne h.items h.hold.once hj hi hne h1
      · refine Hold.perm (Hold.save (p := T[i].1) (T := T.eraseIdx i) (h.hold.perm ?_) hit.chunk.fine hG hr' hr hvN hf') (set_perm hj _)
        rw [← hti]
        exact idx_perm hj
      · have := h.qlt; omega
    · rcases hj with hj | rfl
      · exact ⟨hj.1, by obtain ⟨c, T, fz, h1, h2⟩ := hj.2; exact ⟨c, T, fz, h1, by simp at h2; simp [h2]⟩⟩
      · exact ty_yes hit.lo hit.blk (by decide)
end Go.Proofs.YtnogfelfgclajaaGreatDoor
end

section
namespace Go.Proofs.YtnogfelfgclajaaGreatDoor
open Go.RowKit
attribute [local go_sem] ext_ext drew_ext ext_drew ext_cell ext_frozen in_lt in_le in_ne in_en in_ne1 in_en1 in_le1 in_ltn in_len in_nen in_enn size_le ite_max ite_min
set_option linter.unusedVariables false
set_option linter.unusedSimpArgs false

/-- A table, whatever blocks it lies in. -/
def TabOf (B : Nat) (w : World) (t : Nat) (s lim : Int) (q e : Nat) (G : Ps → List Int) (T : List (Ps × Bool)) : Prop := ∃ st d mb lv its D N, TabAt B w t s lim q e G T st d mb lv its D N
section
variable {B : Nat} {w W : World} {t q e st d mb N : Nat} {s lim : Int} {G : Ps → List Int} {T T' : List (Ps × Bool)} {lv lv' : Value} {its its' : List Nat} {D : Int → Option (List Nat)}
theorem tab_row (h : TabAt B w t s lim q e G T st d mb lv its D N) (hT : Turn (Ty B tyOut w) w W) (hr : RowNow B W t st s lim its' lv') (hi : Items B w G its' T') (hh : Hold s e G T' D N) (hf : (T'.length : Int) ≤ lim) : TabAt B W t s lim q e G T' st d mb lv' its' D N := by
  have hF : ∀ (g : Nat) (c : Array Value) (T : TypeId) (fz : Nat × Nat), w.heap[g]? = some (.cells c T fz) → T ∉ tyOut → ¬ Ty B tyOut w g := fun g c T fz hg hn => ty_no hg hn
  exact ⟨hr.tab, (hT.block _ (lt_of_block h.sto) (hF _ _ _ _ h.sto (by decide))).trans h.sto,
    h.dsk.turn hT (hF _ _ _ _ h.dsk.blk (by decide)) (by obtain ⟨mv, ⟨es, cl, h5, _⟩, _⟩ := h.dsk.map; exact ty_map h5) (fun g c fz hg => hF _ _ _ _ hg (by decide)),
    hr.row, hi.turn hT (fun g c fz hg => hF _ _ _ _ hg (by decide)) (fun g c fz hg => hF _ _ _ _ hg (by decide)) (fun g c fz hg => hF _ _ _ _ hg (by decide)), hh, h.tlo, h.slo, h.lim1, h.lim2, hf, h.far, Nat.lt_of_lt_of_le h.qlt hT.size⟩
theorem TabAt.rowNow (h : TabAt B w t s lim q e G T st d mb lv its D N) : RowNow B w t st s lim its lv := ⟨h.tab, h.tlo, h.row⟩
theorem TabAt.short (h : TabAt B w t s lim q e G T st d mb lv its D N) : its.length ≤ 16 := by
  have := h.items.len; have := h.full; have := h.lim2; omega
theorem out_tab {B : Nat} {TS : List TypeId} (h : Turn (Ty B tyOut w) w W) (hs : ∀ T ∈ tyOut, T ∈ TS) : Turn (Ty B TS w) w W := h.tyMono hs
/-- A chunk that is clean is let go. -/
theorem tabout_any (h : TabAt B w t s lim q e G T st d mb lv its D N) (i : Nat) (hi : i < its.length) (hj : i < T.length) (hc : T[i].2 = false) :
    Calls Tryz.prog 98 #[.pointer (some ⟨t, 0, none⟩), .int .i64 (i : Int)] w fun en w' => (∃ v, en = .returned v) ∧ TabOf B w' t s lim q e G (T.eraseIdx i) ∧ Turn (Ty B tyTab w) w w' := by
  refine (out_any B t st s lim its lv i hi h.short w h.rowNow (tab_size h)).mono ?_
  rintro en w' ⟨rfl, ⟨lv', hr⟩, hT⟩
  refine ⟨⟨_, rfl⟩, ⟨st, d, mb, lv', _, D, N, tab_row h hT hr (h.items.erase i) ?_ ?_⟩, hT.tyMono (by decide)⟩
  · exact Hold.tail (h.hold.perm (idx_perm hj)) hc
  · have := h.full; rw [List.length_eraseIdx]; split <;> omega
/-- A chunk is touched. -/
def TabTouched (B t : Nat) (s lim : Int) (q e : Nat) (G : Ps → List Int) (T : List (Ps × Bool)) (st d mb it : Nat) (its : List Nat) (D : Int → Option (List Nat)) (N : Nat) (w : World) (en : Ending) (w' : World) : Prop :=
  en = .returned (.pointer (some ⟨it, 0, none⟩)) ∧ (∃ lv, TabAt B w' t s lim q e G T st d mb lv its D N) ∧ Turn (Ty B tyTab w) w w'
theorem tabtouch_any (h : TabAt B w t s lim q e G T st d mb lv its D N) (i : Nat) (hi : i < its.length) (hj : i < T.length) :
    Calls Tryz.prog 92 #[.pointer (some ⟨t, 0, none⟩), .int .i64 (i : Int)] w (TabTouched B t s lim q e G (T.eraseIdx i ++ [T[i]]) st d mb its[i] (its.eraseIdx i ++ [its[i]]) D N w) := by
  refine (touch_any B t st s lim its lv i hi h.short w h.rowNow (tab_size h)).mono ?_
  rintro en w' ⟨rfl, ⟨lv', hr⟩, hT⟩
  refine ⟨rfl, ⟨lv', tab_row h hT hr ((h.items.erase i).snoc (h.items.get i hi hj)) ?_ ?_⟩, hT.tyMono (by decide)⟩
  · refine h.hold.perm ((List.perm_append_comm).trans ?_)
    exact idx_perm hj
  · have := h.full; rw [List.length_append, List.length_eraseIdx, if_pos hj]; simp; omega
end
/-- Room made. -/
def RoomDone (B t : Nat) (s lim : Int) (q e : Nat) (G : Ps → List Int) (T : List (Ps × Bool)) (w : World) (en : Ending) (w' : World) : Prop :=
  en = .returned (.int .i64 0) ∧ (∃ T', TabOf B w' t s lim q e G T' ∧ (T'.length : Int) < lim ∧ ∀ c ∈ T', ∃ c' ∈ T, c.1 = c'.1) ∧ Turn (Ty B tyTab w) w w'
set_option maxRecDepth 100000 in
set_option maxHeartbeats 2000000 in
theorem tabroom_any {B : Nat} {w : World} {t q e st d mb N : Nat} {s lim : Int} {G : Ps → List Int} {T : List (Ps × Bool)} {lv : Value} {its : List Nat} {D : Int → Option (List Nat)} (h : TabAt B w t s lim q e G T st d mb lv its D N) :
    Calls Tryz.prog 93 #[.pointer (some ⟨t, 0, none⟩)] w (RoomDone B t s lim q e G T w) := by
  have c2 := cell_of_block (i := 2) h.tab rfl
  have c3 := cell_of_block (i := 3) h.tab rfl
  haveI := in_of_cell c3
  have H := Lib.hid h
  obtain ⟨og, cap, rfl⟩ := h.row.form
  have hlen := h.items.len
  have hT : T.length ≤ 16 := by have := h.full; have := h.lim2; omega
  rw [ptrs_len, hlen] at c3
  by_cases hlt : (T.length : Int) < lim
  · have HL := Lib.hid hlt
    clear h hlen hT
    generalize T.length = n at c3 hlt
    go_enter Tryz.func93, Tryz.ntmps93
    go_wp2_with fail
    refine wp_region_ext ?_ ?_ ?_
    · kernel_rfl
    · kernel_rfl
    repeat (go_big_quiet_step (first | fail))
    refine wpQuiet_nil ?_
    rintro w1 ⟨_t, hw⟩
    have hc1 := named_cell hw
    have hz1 := named_frozen hw
    have hh1 := named_heap hw
    haveI hi1 := named_in hw
    haveI hb1 := named_below (w := w) hw
    clear hw
    have B1 := Lib.hid (grown_now (w := w) (W := w1))
    go_wp2_with fail
    go_ret
    exact ⟨rfl, ⟨T, ⟨st, d, mb, _, its, D, N, H.out.grown B1.out⟩, HL.out, fun c hc => ⟨c, hc, rfl⟩⟩, turn_below B1.out⟩
  · have h0 : 0 < T.length := by have := h.lim1; omega
    have hi : 0 < its.length := by omega
    have IX := Lib.hid (fun W (hW : Below w.heap.size w W) => indexfunc_any its (fun _ => true) 135 #[] (.slice og (ptrs its).length cap) 0 W (by omega) ((ptrs_at h.row).ext W (ext_of hW)) (fun args W => by kernel_rfl) (fun W' hW' k hk => by
      obtain ⟨f, rfl⟩ := hW'
      have hb := ext_below W f
      have h2 := (h.items.turn (turn_below (F := fun _ => False) (hW.trans (hb.mono hW.size))) (fun _ _ _ _ => id) (fun _ _ _ _ => id) (fun _ _ _ _ => id)).get k hk (by omega)
      obtain ⟨k', rs, rv, h2, _⟩ := h2
      rw [Array.append_empty]
      exact (room1_any B its[k] k' _ _ rs rv _ h2).mono (fun e w' ⟨h1, h3⟩ => ⟨h1, ext_of (h3 ▸ Below.refl _ _)⟩)) (.inr ⟨0, rfl, hi, rfl, fun j hj => by omega⟩))
    obtain ⟨og', cap', hv, _, hp⟩ := ptrs_at h.row
    injection hv with e1 e2 e3
    subst e1 e3
    obtain ⟨g, rfl, d0⟩ := hp 0 hi
    haveI := in_of_cell d0
    have SV := Lib.hid (fun W (hW : Below w.heap.size w W) => tabsave_any (h.grown hW) 0 hi h0)
    have H0 := Lib.hid (And.intro h0 (And.intro hi h.full))
    have t0 : T.length ≠ 0 := by omega
    have t1 : (0 : Int) < (T.length : Int) := by omega
    rw [ptrs_len, hlen] at IX
    generalize its[0] = it at d0 SV
    clear h hp hT
    obtain ⟨n, hn⟩ : ∃ n, T.length = n := ⟨_, rfl⟩
    rw [hn] at c3 hlt t0 t1
    have HN := Lib.hid hn
    rw [hn] at IX
    clear hn hlen
    go_enter Tryz.func93, Tryz.ntmps93
    go_wp2_with fail
    refine wp_region_ext ?_ ?_ ?_
    · kernel_rfl
    · kernel_rfl
    repeat (go_big_quiet_step (first | fail))
    refine wpQuiet_nil ?_
    rintro w1 ⟨_t, hw⟩
    have hc1 := named_cell hw
    have hz1 := named_frozen hw
    have hh1 := named_heap hw
    haveI hi1 := named_in hw
    haveI hb1 := named_below (w := w) hw
    clear hw
    go_wp2_with fail
    refine (IX.out _ (by exact grown_now)).mono ?_
    rintro e w2 ⟨rfl, _t, hw⟩
    haveI hb2_1 := named_below (w := w1) hw
    have hc2 := named_cell hw
    have hz2 := named_frozen hw
    have hh2 := named_heap hw
    haveI hi2 := named_in hw
    haveI hb2 := named_below (w := w) hw
    clear hw
    have B2 := Lib.hid (grown_now (w := w) (W := w2))
    go_wp2_with fail
    refine (SV.out w2 B2.out).mono ?_
    rintro e w3 ⟨rfl, ⟨mb3, D3, N3, h3⟩, hT3⟩
    have H3 := Lib.hid h3
    have T3 := Lib.hid ((turn_below (F := Ty B tyTab w) B2.out).ty hT3)
    clear h3 hT3 SV IX
    have OU := Lib.hid (tabout_any H3.out 0 H0.out.2.1 (by simpa using H0.out.1) (by simp))
    go_wp2_with fail
    refine OU.out.mono ?_
    rintro e w4 ⟨⟨v4, rfl⟩, h4, hT4⟩
    have H4 := Lib.hid (And.intro h4 hT4)
    clear h4 hT4
    go_wp2_with fail
    go_ret
    refine ⟨rfl, ⟨_, H4.out.1, ?_, fun c hc => ?_⟩, T3.out.ty H4.out.2⟩
    · have := H0.out.1
      have := H0.out.2.2
      rw [List.length_eraseIdx, if_pos (by simpa using H0.out.1), List.length_set]
      omega
    · have := List.mem_of_mem_eraseIdx hc
      rcases List.mem_or_eq_of_mem_set this with h5 | h5
      · exact ⟨c, h5, rfl⟩
      · exact ⟨T[0]'H0.out.1, List.getElem_mem _, by rw [h5]⟩
#print axioms tabroom_any
end Go.Proofs.YtnogfelfgclajaaGreatDoor
end
