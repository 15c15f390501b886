/-
  Updates that wait: one put into their row.
  Updates that wait: those of a cell struck out of their row.
-/
import Derived.Test.YtnogfelfgclajaaGreatDoorMb17
import Derived.Test.YtnogfelfgclajaaGreatDoorMb04
import Derived.Lib.AppendZerosOnto
import Derived.Lib.Overlaps
import Derived.Laws.Externs
import Derived.Deep.RegionLaw
import Derived.IntWalk
section
namespace Go.Proofs.YtnogfelfgclajaaGreatDoor
open Go.RowKit
attribute [local go_sem] ext_ext drew_ext ext_drew ext_cell ext_frozen in_lt in_le in_ne in_en in_ne1 in_en1 in_le1 in_ltn in_len in_nen in_enn size_le ite_max ite_min
set_option linter.unusedVariables false
set_option linter.unusedSimpArgs false

theorem qinfo : (Tryz.prog.info? 264).map (fun i => (i.zero, i.size, i.bytes)) = some (some (.agg #[.int .i64 0, .int .i64 0, .int .i64 0, .int .i64 0]), 4, 32) := by kernel_rfl
/-- Is it a number? -/
def IsNum (cs : Array Value) (j : Nat) : Prop := ∃ i : Int, cs[j]? = some (.int .i64 i)
/-- A copy of items. -/
theorem copy_items {W : World} (ty : TypeId) {g d o dLen dCap sg so sLen sCap m : Nat} {cur : Array Value} (hg : W.heap[g]? = some (.cells cur 264 (0, 0))) (hm : Nat.min sLen dLen = m) (ho : o = d * 4) (hfit : (d + m) * 4 ≤ cur.size)
    (hsrc : ∀ j, j < m * 4 → ∃ i : Int, W.cell? ⟨sg, so + j, none⟩ = some (.int .i64 i)) :
    ∃ v' W', (Builtin.copy_ #[191, 191] ty #[.slice (some ⟨g, o, none⟩) dLen dCap, .slice (some ⟨sg, so, none⟩) sLen sCap]).run Tryz.prog W = .ok v' W' ∧
      ((∃ x, v' = .int .i64 x) ∧ (∃ cur', W'.heap[g]? = some (.cells cur' 264 (0, 0)) ∧ cur'.size = cur.size ∧ ∀ j, (IsNum cur j ∨ (d * 4 ≤ j ∧ j < (d + m) * 4)) → IsNum cur' j) ∧ Turn (fun k => k = g) W W') := by
  obtain ⟨i0, iz0, iz1, iz2, iz3⟩ := info_parts qinfo
  obtain ⟨cs, hcl, hcs⟩ : ∃ cs : List Value, cs.length = m * 4 ∧ ∀ j, j < m * 4 → ∃ i : Int, cs[j]? = some (.int .i64 i) ∧ W.cell? ⟨sg, so + j, none⟩ = some (.int .i64 i) := by
    refine ⟨(List.range (m * 4)).map (fun j => (W.cell? ⟨sg, so + j, none⟩).getD undef), by simp, fun j hj => ?_⟩
    obtain ⟨i, hi⟩ := hsrc j hj
    exact ⟨i, by simp [hj, hi], hi⟩
  have hsrc' : ∀ j v, cs[j]? = some v → W.cell? ((⟨sg, so, none⟩ : Addr).add j) = some v := fun j v hv => by
    have hj := (List.getElem?_eq_some_iff.1 hv).1
    obtain ⟨i, h1, h2⟩ := hcs j (by omega)
    rw [h1] at hv
    rw [addr_add, h2]
    exact hv
  have h1 : ∀ v ∈ cs, v.oneCell' = true := fun v hv => by
    obtain ⟨j, hj, rfl⟩ := List.getElem_of_mem hv
    obtain ⟨i, h1, _⟩ := hcs j (by omega)
    rw [List.getElem?_eq_getElem hj] at h1
    rw [Option.some.inj h1]
    rfl
  have hl := run_loadCells_list (P := Tryz.prog) W ⟨sg, so, none⟩ cs hsrc'
  have hst := run_storeCells_at Tryz.prog g o 264 cs 0 cur W hg (by rw [hcl]; omega) h1
  simp only [Nat.add_zero] at hst
  have hmin : (if sLen ≤ dLen then sLen else dLen) = m := by simpa [Nat.min_def] using hm
  refine ⟨goInt m, W.setRow g (cur.toList.take o ++ cs ++ cur.toList.drop (o + cs.length)).toArray, ?_, ⟨_, rfl⟩, ⟨_, setRow_heap W g cur _ _ _ hg, ?_, fun j hj => ?_⟩, ?_⟩
  · have hl2 : (loadCells ⟨sg, so, none⟩ (m * 4)).run Tryz.prog W = .ok cs.toArray W := by rw [← hcl]; exact hl
    have hm2 : min sLen dLen = m := hm
    simp [Builtin.copy_, run_underlying Tryz.underlying191, Builtin.lenOf, Builtin.firstCells, sizeOf, typeInfo, iz0, iz2, hm2, hl2, hst]
  · simp only [List.size_toArray, List.length_append, List.length_take, List.length_drop, Array.length_toList]
    rw [hcl]
    omega
  · unfold IsNum
    simp only [List.getElem?_toArray]
    have ht : (cur.toList.take o).length = o := by simp; omega
    by_cases h2 : j < o
    · rw [List.append_assoc, List.getElem?_append_left (by omega), List.getElem?_take_of_lt h2]
      rcases hj with ⟨i, hi⟩ | hj
      · exact ⟨i, by simpa using hi⟩
      · omega
    · by_cases h3 : j < o + m * 4
      · obtain ⟨i, h4, _⟩ := hcs (j - o) (by omega)
        rw [List.append_assoc, List.getElem?_append_right (by omega), ht, List.getElem?_append_left (by omega)]
        exact ⟨i, h4⟩
      · rcases hj with ⟨i, hi⟩ | hj
        · rw [List.getElem?_append_right (by rw [List.length_append, ht]; omega), List.length_append, ht, List.getElem?_drop]
          refine ⟨i, ?_⟩
          rw [show o + cs.length + (j - (o + cs.length)) = j by omega]
          simpa using hi
        · omega
  · exact ⟨rfl, rfl, rfl, by simp, fun k _ hk => setRow_other W g k _ (fun e => hk (by first | exact e | exact e.symm))⟩
theorem wpList_copy_of {P : Program} {w : World} {R : Value → World → Prop} {ops : Array Oper} {rest : List Oper} {o : Oper} {a : Act} {Q : Exit → Act → World → Prop} (hgd : o.guard = none) (d s : Operand) (t t' : TypeId)
    (ho : o.op = .call { callee := .builtin .copy, args := #[d, s], argTypes := #[t, t'] }) (u1 u2 : Value) (e1 : a.eval d = u1) (e2 : a.eval s = u2)
    (hr : ∃ v' w', (Builtin.copy_ #[t, t'] o.type #[u1, u2]).run P w = .ok v' w' ∧ R v' w')
    (h : ∀ v' w', R v' w' → wpList P ops Q rest (a.put o.dst v') w') : wpList P ops Q (o :: rest) a w := by
  obtain ⟨v', w', hr, h2⟩ := hr
  refine wpList_plain hgd fun K hK => ?_
  unfold Oper.wp execOp
  simp only [ho, resolve, invoke, builtin, Sem.run_bind, Sem.run_pure, Result.andThen_ok, List.map_toArray, List.map_cons, List.map_nil, e1, e2, hr]
  exact hK _ _ (h v' w' h2)
theorem step_copy_of {P : Program} {w : World} {R : Value → World → Prop} {ops : Array Oper} {o : Oper} {a : Act} {K : Act → World → Prop} {Q : Exit → Act → World → Prop} {E : Prop} (hgd : o.guard = none) (d s : Operand) (t t' : TypeId)
    (ho : o.op = .call { callee := .builtin .copy, args := #[d, s], argTypes := #[t, t'] }) (u1 u2 : Value) (e1 : a.eval d = u1) (e2 : a.eval s = u2)
    (hr : ∃ v' w', (Builtin.copy_ #[t, t'] o.type #[u1, u2]).run P w = .ok v' w' ∧ R v' w')
    (h : ∀ v' w', R v' w' → K (a.put o.dst v') w') : if Region.wanted o (yielded ops a.tmps) = true then Oper.wp P o a w K Q else E := by
  have hw : Region.wanted o (yielded ops a.tmps) = true := by simp [Region.wanted, hgd]
  rw [if_pos hw]
  obtain ⟨v', w', hr, h2⟩ := hr
  unfold Oper.wp execOp
  simp only [ho, resolve, invoke, builtin, Sem.run_bind, Sem.run_pure, Result.andThen_ok, List.map_toArray, List.map_cons, List.map_nil, e1, e2, hr]
  exact h v' w' h2
/-- A row with one item more. -/
def QIns (B n : Nat) (lv : Value) (w : World) (e : Ending) (w' : World) : Prop := ∃ v, e = .returned v ∧ QRow B w' v (n + 1) ∧ Turn (fun k => lv.ownBlock = some k) w w'
theorem qrow_of {B : Nat} {w : World} {g n cap : Nat} {cs : Array Value} (hB : B ≤ g) (hg : w.heap[g]? = some (.cells cs 264 (0, 0))) (hs : cs.size = cap * 4) (hn : n ≤ cap) (hm : cap ≤ maxLen) (hx : ∀ j, j < n * 4 → IsNum cs j) : QRow B w (.slice (some ⟨g, 0, none⟩) n cap) n := by
  refine ⟨cs.toList.take (n * 4), ⟨by simp; omega, .inr ⟨g, cap, cs, rfl, hB, hg, hn, hm, hs, rfl⟩⟩, fun u hu => ?_⟩
  obtain ⟨j, hj, rfl⟩ := List.getElem_of_mem hu
  simp at hj
  obtain ⟨i, hi⟩ := hx j (by omega)
  refine ⟨i, ?_⟩
  rw [List.getElem_take]
  simp only [Array.getElem_toList]
  have := Array.getElem?_eq_some_iff.1 hi
  exact this.2

theorem zero_nums (k j : Nat) (hj : j < k * 4) : IsNum (Builtin.zeroCells #[.int .i64 0, .int .i64 0, .int .i64 0, .int .i64 0] k) j := by
  have hs : (Builtin.zeroCells #[.int .i64 0, .int .i64 0, .int .i64 0, .int .i64 0] k).size = k * 4 := by rw [size_zeroCells]; rfl
  refine ⟨0, ?_⟩
  rw [Array.getElem?_eq_getElem (by omega)]
  have : (Builtin.zeroCells #[.int .i64 0, .int .i64 0, .int .i64 0, .int .i64 0] k)[j]'(by omega) = .int .i64 0 := by
    simp only [Builtin.zeroCells, Array.getElem_ofFn]
    have h4 : j % 4 < 4 := Nat.mod_lt _ (by omega)
    simp
    rcases h : j % 4 with _ | _ | _ | _ | q
    all_goals first | rfl | (simp; done) | omega
  rw [this]
set_option maxRecDepth 100000 in
set_option maxHeartbeats 400000 in
theorem insert_any (B : Nat) (lv : Value) (n i b : Nat) (a0 a1 a2 a3 : Int) (w : World) (h : QRow B w lv n) (hB : B ≤ w.heap.size) (hn : n ≤ 1000) (hi : i ≤ n) (hb : w.heap[b]? = some (.cells #[.int .i64 a0, .int .i64 a1, .int .i64 a2, .int .i64 a3] 264 (0, 0))) (hne : lv.ownBlock ≠ some b) :
    Calls Tryz.prog 351 #[lv, .int .i64 (i : Int), .slice (some ⟨b, 0, none⟩) 1 1] w (QIns B n lv w) := by
  obtain ⟨i0, iz0, iz1, iz2, iz3⟩ := info_parts qinfo
  have b0 := cell_of_block (i := 0) hb rfl
  have b1 := cell_of_block (i := 1) hb rfl
  have b2 := cell_of_block (i := 2) hb rfl
  have b3 := cell_of_block (i := 3) hb rfl
  have n0 : (0 : Int) ≤ (n : Int) := Int.natCast_nonneg _
  have n1 : (n : Int) ≤ 1000 := by omega
  have i1 : (0 : Int) ≤ (i : Int) := Int.natCast_nonneg _
  have i2 : (i : Int) ≤ (n : Int) := by omega
  by_cases hin : i = n
  · -- behind all
    subst hin
    obtain ⟨xs, ho, hx⟩ := h
    obtain ⟨og, cap, rfl⟩ := owns_form ho
    have hcp : (i : Int) ≤ (cap : Int) := by
      rcases ho.2 with ⟨e, h0⟩ | ⟨g', cap', cur, hv, _, hg, h1, _, hs, _⟩
      · injection e with _ _ e; omega
      · injection hv with _ _ e3; omega
    have HO := Lib.hid ho
    have HX := Lib.hid hx
    have HB := Lib.hid hB
    have HN := Lib.hid hn
    have HBB := Lib.hid hb
    clear ho hx hB hn hb hi hne
    go_enter Tryz.func351, Tryz.ntmps351
    go_wp2_with (at_builtin; refine wpList_append_own _ rfl (.tmp 23) (.tmp 24) 191 rfl B 264 i0 _ 4 32 Tryz.underlying191 iz0 iz1 iz2 iz3 rfl (by omega) _ _ _ rfl HO.out _ 1 1 [.int .i64 a0, .int .i64 a1, .int .i64 a2, .int .i64 a3] rfl rfl (World.news_of_block HBB.out) (by simp [Value.oneCell']) (by have := HN.out; unfold maxLen; omega) (by have := HN.out; omega) HB.out ?_; intro v' w1 hown1 hgrow _)
    all_goals
      go_ret
      refine ⟨_, rfl, ⟨_, hown1, fun u hu => ?_⟩, by cases og <;> exact turn_by hgrow⟩
      rcases List.mem_append.1 hu with hu | hu
      · exact HX.out u hu
      · simp at hu
        rcases hu with rfl | rfl | rfl | rfl <;> exact ⟨_, rfl⟩
  · have hlt : i < n := by omega
    obtain ⟨g, cap, rfl, hnc, hBg, ⟨cs, hcs, hsz⟩, hnum⟩ := h.cells (by omega)
    have hbg : b ≠ g := fun e => hne (by rw [e]; rfl)
    have hcap63 : cap ≤ maxLen := by
      obtain ⟨xs, h, _⟩ := h
      rcases h.2 with ⟨_, h0⟩ | ⟨g', cap', cur, hv, _, _, _, hm, _⟩
      · omega
      · injection hv with _ _ e3; omega
    have hnum' : ∀ j, j < n * 4 → IsNum cs j := fun j hj => by
      obtain ⟨x, hx⟩ := hnum j hj
      refine ⟨x, ?_⟩
      simpa [World.cell?, hcs] using hx
    have hbsrc : ∀ (W : World), W.heap[b]? = w.heap[b]? → ∀ j, j < 1 * 4 → ∃ i : Int, W.cell? ⟨b, 0 + j, none⟩ = some (.int .i64 i) := fun W hW j hj => by
      have hb' := hW.trans hb
      rcases j with _ | _ | _ | _ | j
      · exact ⟨_, cell_of_block (i := 0) hb' rfl⟩
      · exact ⟨_, cell_of_block (i := 1) hb' rfl⟩
      · exact ⟨_, cell_of_block (i := 2) hb' rfl⟩
      · exact ⟨_, cell_of_block (i := 3) hb' rfl⟩
      · omega
    have j0 : (i : Int) < (n : Int) := by omega
    have j1 : (n : Int) ≤ (cap : Int) := by omega
    have j2 : (i : Int) ≤ (cap : Int) := by omega
    have j3 : ¬ ((i : Int) = (n : Int)) := by omega
    have e1 : IntKind.i64.wrap ((i : Int) + 1) = (i : Int) + 1 := IntWalk.i64_in _ (by omega)
    have e2 : ((i : Int) + 1).toNat = i + 1 := by omega
    have j4 : (0 : Int) ≤ (i : Int) + 1 := by omega
    have j5 : (i : Int) + 1 ≤ (n : Int) := by omega
    have j8 : (i : Int) ≤ (n : Int) + 1 := by omega
    have HB := Lib.hid hB
    by_cases hroom : n + 1 ≤ cap
    · have j6 : ¬ ((cap : Int) < (n : Int) + 1) := by omega
      have j7 : (n : Int) + 1 ≤ (cap : Int) := by omega
      have c1 : ¬ (cap = i) := by omega
      have c2 : ¬ (cap = i + 1) := by omega
      have c3 : ((n : Int) + 1).toNat = n + 1 := by omega
      -- the first copy: what stands from i on, one farther
      have CP := Lib.hid (show ∀ (ty : TypeId) (W : World) (dLen dCap sCap : Nat), W.heap[g]? = w.heap[g]? → dLen = n - i → ∃ v' W', (Builtin.copy_ #[191, 191] ty #[.slice (some ⟨g, (i + 1) * 4, none⟩) dLen dCap, .slice (some ⟨g, i * 4, none⟩) (n + 1 - i) sCap]).run Tryz.prog W = .ok v' W' ∧
          ((∃ x, v' = .int .i64 x) ∧ (∃ cur', W'.heap[g]? = some (.cells cur' 264 (0, 0)) ∧ cur'.size = cs.size ∧ ∀ j, (IsNum cs j ∨ ((i + 1) * 4 ≤ j ∧ j < ((i + 1) + (n - i)) * 4)) → IsNum cur' j) ∧ Turn (fun k => k = g) W W') from fun ty W dLen dCap sCap hW hd =>
        copy_items ty (hW.trans hcs) (d := i + 1) (m := n - i) (by rw [hd]; exact Nat.min_eq_right (by omega)) rfl (by rw [hsz]; omega) (fun j hj => by
          obtain ⟨x, hx⟩ := hnum (i * 4 + j) (by omega)
          exact ⟨x, (World.cell?_of_block (w := w) (a := ⟨g, i * 4 + j, none⟩) hW).trans hx⟩))
      have CP2 := Lib.hid (show ∀ (ty : TypeId) (W : World) (cur : Array Value) (dLen dCap : Nat), W.heap[g]? = some (.cells cur 264 (0, 0)) → cur.size = cs.size → W.heap[b]? = w.heap[b]? → dLen = n + 1 - i → ∃ v' W', (Builtin.copy_ #[191, 191] ty #[.slice (some ⟨g, i * 4, none⟩) dLen dCap, .slice (some ⟨b, 0, none⟩) 1 1]).run Tryz.prog W = .ok v' W' ∧
          ((∃ x, v' = .int .i64 x) ∧ (∃ cur', W'.heap[g]? = some (.cells cur' 264 (0, 0)) ∧ cur'.size = cur.size ∧ ∀ j, (IsNum cur j ∨ (i * 4 ≤ j ∧ j < (i + 1) * 4)) → IsNum cur' j) ∧ Turn (fun k => k = g) W W') from fun ty W cur dLen dCap hg hcz hb' hd =>
        copy_items ty hg (d := i) (m := 1) (by rw [hd]; exact Nat.min_eq_left (by omega)) rfl (by omega) (fun j hj => hbsrc W hb' j hj))
      have OV : ∀ lb cb, (callFunc 366 #[.slice (some ⟨b, 0, none⟩) 1 1, .slice (some ⟨g, (i + 1) * 4, none⟩) lb cb]).run Tryz.prog w = .ok (.value (.bool false)) w := fun lb cb => by
        rw [run_callFunc_extern Tryz.func366 (by kernel_rfl) (by kernel_rfl) (by kernel_rfl) (e := Extern.SlicesOverlaps.overlaps #[191, 191] #[4]) (by kernel_rfl),
          Lib.run_overlaps_apart w 191 4 264 Tryz.underlying191 4 (fun w => by kernel_rfl) ⟨b, 0, none⟩ ⟨g, (i + 1) * 4, none⟩ 1 1 lb cb hbg 264 264 4 cs.size (by simp [World.shape?, hb]) (by simp [World.shape?, hcs]) (by omega) (free_of_block 0 hb) (free_of_block 4 hb)]
        rfl
      have hshape : Hid (w.shape? b = some (264, 4) ∧ w.shape? g = some (264, cs.size) ∧ w.frozen? ⟨b, 0, none⟩ = false ∧ w.frozen? ⟨b, 4, none⟩ = false ∧ cs.size ≠ 0) := Lib.hid ⟨by simp [World.shape?, hb], by simp [World.shape?, hcs], free_of_block 0 hb, free_of_block 4 hb, by omega⟩
      haveI := in_of_cell b0
      haveI := in_of_block hcs
      have HBN := Lib.hid hbg
      have HBB := Lib.hid hb
      have NUM := Lib.hid hnum'
      have HCS := Lib.hid (And.intro hcs (And.intro hsz hcap63))
      clear h hB hn hi hb hne hcs hnum hnum' hbsrc hbg hsz
      go_enter Tryz.func351, Tryz.ntmps351
      go_wp2_with fail
      go_region_law
        (refine step_copy_of rfl (.tmp 73) (.tmp 76) 191 191 rfl (.slice (some ⟨g, (i + 1) * 4, none⟩) (n + 1 - (i + 1)) (cap - (i + 1))) (.slice (some ⟨g, i * 4, none⟩) (n + 1 - i) (cap - i)) (by simp [Act.eval, Act.put]) (by simp [Act.eval, Act.put]) (CP.out _ _ _ _ _ ((grown_now (w := w)).block g (lt_of_block HCS.out.1)) (by omega)) ?_; rintro v1 w1 ⟨⟨x1, rfl⟩, ⟨cur1, h1, hs1, hn1⟩, hT1⟩
         have hb1 := (hT1.block b (Nat.lt_of_lt_of_le (lt_of_block HBB.out) (by exact (grown_now (w := w)).size)) HBN.out).trans ((grown_now (w := w)).block b (lt_of_block HBB.out))
         have C1 := Lib.hid (And.intro h1 (And.intro hs1 hn1))
         have T1 := Lib.hid ((turn_below (F := fun k => k = g) (by exact grown_now (w := w))).trans hT1 (fun _ _ h => h))
         have D1 := Lib.hid hb1
         clear h1 hs1 hn1 hT1 hb1)
      go_wp2_with
        (refine wpList_copy_of rfl (.tmp 80) (.tmp 81) 191 191 rfl _ _ rfl rfl (CP2.out _ _ cur1 _ _ C1.out.1 C1.out.2.1 D1.out (by omega)) ?_; rintro v2 w2 ⟨⟨x2, rfl⟩, ⟨cur2, h2, hs2, hn2⟩, hT2⟩
         have C2 := Lib.hid (And.intro h2 (And.intro hs2 hn2))
         have T2 := Lib.hid hT2
         clear h2 hs2 hn2 hT2)
      go_ret
      refine ⟨_, rfl, qrow_of hBg C2.out.1 (by rw [C2.out.2.1, C1.out.2.1, HCS.out.2.1]) hroom HCS.out.2.2 (fun j hj => C2.out.2.2 j ?_), (T1.out.trans T2.out (fun _ _ h => h)).mono (fun k _ e => by rw [e]; rfl)⟩
      by_cases hj1 : j < i * 4
      · exact .inl (C1.out.2.2 j (.inl (NUM.out j (by omega))))
      · by_cases hj2 : j < (i + 1) * 4
        · exact .inr ⟨by omega, hj2⟩
        · exact .inl (C1.out.2.2 j (.inr ⟨by omega, by omega⟩))
    · obtain rfl : cap = n := by omega
      have j6 : (cap : Int) < (cap : Int) + 1 := by omega
      have c1 : ¬ (cap = i) := by omega
      have c3 : ((cap : Int) + 1).toNat = cap + 1 := by omega
      obtain ⟨k, hk⟩ : ∃ k, cap + 1 - i = k := ⟨_, rfl⟩
      have e3 : IntKind.i64.wrap ((cap : Int) + 1) = (cap : Int) + 1 := IntWalk.i64_in _ (by omega)
      have e4 : (cap : Int) + 1 - (i : Int) = (k : Int) := by omega
      have AZ := Lib.hid (show ∀ (ty : TypeId) (W : World), Below w.heap.size w W → W.heap.size = w.heap.size → ∃ v' w', (Builtin.append_ #[191, 3] ty #[.slice (some ⟨g, 0, none⟩) i cap, .int .i64 (k : Int)]).run Tryz.prog W = .ok v' w' ∧
          (∃ G ROW, v' = .slice (some ⟨w.heap.size, 0, none⟩) (cap + 1) G ∧ cap + 1 ≤ G ∧ G ≤ maxLen ∧ w'.heap[w.heap.size]? = some (.cells ROW 264 (0, 0)) ∧ ROW.size = G * 4 ∧ (∀ j, j < (cap + 1) * 4 → IsNum ROW j) ∧ Below w.heap.size w w') from fun ty W hW hsize => by
        have hold : (Builtin.firstCells i0.size i (.slice (some ⟨g, 0, none⟩) i cap)).run Tryz.prog W.drew = .ok (cs.toList.take (i * 4)).toArray W.drew := by
          rw [iz2]
          refine run_firstCells_some W.drew 4 i ⟨g, 0, none⟩ i cap (cs.toList.take (i * 4)) (by simp; omega) (fun j v hj => ?_)
          rw [addr_add, Nat.zero_add]
          rw [List.getElem?_take] at hj
          split at hj
          · have hg' := (hW.block g (lt_of_block hcs)).trans hcs
            simp only [World.cell?, World.drew] at *
            rw [hg']
            simpa using hj
          · cases hj
        have hr := Lib.run_append_grow_zeros W 191 3 ty 264 i0 _ .i64 .i64 Tryz.underlying191 Tryz.underlying3 iz0 iz1 (some ⟨g, 0, none⟩) i cap (cs.toList.take (i * 4)) hold k (by omega) (by rw [iz2]; omega) (by omega) (by omega) (by rw [iz3]; omega) (by rw [iz3]; exact growslice_fits (by omega) (by omega))
        have hik : i + k = cap + 1 := by omega
        rw [hik, hsize] at hr
        have hge := grownCap_ge W (cap + 1) cap 264
        have hle := grownCap_le_maxLen W (cap + 1) cap 264 (by unfold maxLen; omega)
        have hz0 : (Builtin.zeroCells #[.int .i64 0, .int .i64 0, .int .i64 0, .int .i64 0] k).size = k * 4 := by rw [size_zeroCells]; rfl
        have hz1 : ∀ q, (Builtin.zeroCells #[.int .i64 0, .int .i64 0, .int .i64 0, .int .i64 0] q).size = q * 4 := fun q => by rw [size_zeroCells]; rfl
        have ht : (cs.toList.take (i * 4)).length = i * 4 := by simp; omega
        refine ⟨_, _, hr, _, _, rfl, hge, hle, by rw [← hsize]; exact heap_alloc_new _ _, ?_, fun j hj => ?_, (hW.drew).alloc (by simp [hsize]) _⟩
        · simp only [Array.size_append, List.size_toArray, Value.cells, ht, hz1]
          omega
        · unfold IsNum
          simp only [Value.cells]
          by_cases h1 : j < i * 4
          · obtain ⟨x, hx⟩ := hnum' j (by omega)
            refine ⟨x, ?_⟩
            rw [Array.append_assoc, Array.getElem?_append_left (by simp; omega)]
            simp only [List.getElem?_toArray]
            rw [List.getElem?_take_of_lt h1]
            simpa using hx
          · obtain ⟨x, hx⟩ := zero_nums k (j - i * 4) (by omega)
            refine ⟨x, ?_⟩
            rw [Array.getElem?_append_left (by simp only [Array.size_append, List.size_toArray, ht, hz0]; omega), Array.getElem?_append_right (by simp only [List.size_toArray, ht]; omega)]
            simp only [List.size_toArray, ht]
            exact hx)
      have CPA := Lib.hid (show ∀ (ty : TypeId) (W : World) (ROW : Array Value) (dLen dCap : Nat), W.heap[w.heap.size]? = some (.cells ROW 264 (0, 0)) → (cap + 1) * 4 ≤ ROW.size → W.heap[b]? = w.heap[b]? → dLen = cap + 1 - i → ∃ v' W', (Builtin.copy_ #[191, 191] ty #[.slice (some ⟨w.heap.size, i * 4, none⟩) dLen dCap, .slice (some ⟨b, 0, none⟩) 1 1]).run Tryz.prog W = .ok v' W' ∧
          ((∃ x, v' = .int .i64 x) ∧ (∃ cur', W'.heap[w.heap.size]? = some (.cells cur' 264 (0, 0)) ∧ cur'.size = ROW.size ∧ ∀ j, (IsNum ROW j ∨ (i * 4 ≤ j ∧ j < (i + 1) * 4)) → IsNum cur' j) ∧ Turn (fun k => k = w.heap.size) W W') from fun ty W ROW dLen dCap hg hcz hb' hd =>
        copy_items ty hg (d := i) (m := 1) (by rw [hd]; exact Nat.min_eq_left (by omega)) rfl (by omega) (fun j hj => hbsrc W hb' j hj))
      have CPB := Lib.hid (show ∀ (ty : TypeId) (W : World) (ROW : Array Value) (dCap sCap : Nat), W.heap[w.heap.size]? = some (.cells ROW 264 (0, 0)) → (cap + 1) * 4 ≤ ROW.size → W.heap[g]? = w.heap[g]? → ∃ v' W', (Builtin.copy_ #[191, 191] ty #[.slice (some ⟨w.heap.size, (i + 1) * 4, none⟩) (cap + 1 - (i + 1)) dCap, .slice (some ⟨g, i * 4, none⟩) (cap - i) sCap]).run Tryz.prog W = .ok v' W' ∧
          ((∃ x, v' = .int .i64 x) ∧ (∃ cur', W'.heap[w.heap.size]? = some (.cells cur' 264 (0, 0)) ∧ cur'.size = ROW.size ∧ ∀ j, (IsNum ROW j ∨ ((i + 1) * 4 ≤ j ∧ j < ((i + 1) + (cap - i)) * 4)) → IsNum cur' j) ∧ Turn (fun k => k = w.heap.size) W W') from fun ty W ROW dCap sCap hg hcz hb' =>
        copy_items ty hg (d := i + 1) (m := cap - i) (by rw [show cap + 1 - (i + 1) = cap - i by omega]; exact Nat.min_self _) rfl (by omega) (fun j hj => by
          obtain ⟨x, hx⟩ := hnum (i * 4 + j) (by omega)
          exact ⟨x, (World.cell?_of_block (w := w) (a := ⟨g, i * 4 + j, none⟩) hb').trans hx⟩))
      haveI := in_of_cell b0
      haveI := in_of_block hcs
      have LB := Lib.hid (And.intro (lt_of_block hb) (lt_of_block hcs))
      have j9 : (i : Int) ≤ (cap : Int) + 1 := by omega
      have j10 : (i : Int) + 1 ≤ (cap : Int) + 1 := by omega
      have KK := Lib.hid hk
      have HI := Lib.hid hlt
      clear h hB hn hi hb hne hcs hnum hnum' hbsrc hbg hsz hk hlt hnc hcap63 iz0 iz1 iz2 iz3 hin hroom
      go_enter Tryz.func351, Tryz.ntmps351
      go_wp2_with (first
       | (at_builtin; refine wpList_append_of rfl (.tmp 34) (.tmp 39) 191 3 rfl _ _ rfl rfl (AZ.out _ w (Below.refl _ _) rfl) ?_; rintro v1 w1 ⟨G, ROW, rfl, hG1, hG2, hR, hRs, hRn, hB1⟩
          have R1 := Lib.hid (And.intro hR (And.intro hRs hRn))
          have B1 := Lib.hid hB1
          have G1 := Lib.hid (And.intro hG1 hG2)
          have g1 : ¬ (G = i) := by have := HI.out; omega
          have g2 : ¬ (G = i + 1) := by have := HI.out; omega
          have g3 : (i : Int) ≤ (G : Int) := by have := HI.out; omega
          have g4 : (i : Int) + 1 ≤ (G : Int) := by have := HI.out; omega
          clear hR hRs hRn hB1 hG1 hG2)
       | (refine wpList_copy_of rfl (.tmp 43) (.tmp 44) 191 191 rfl _ _ rfl rfl (CPA.out _ w1 ROW _ _ R1.out.1 (by have := R1.out.2.1; have := G1.out.1; omega) (B1.out.block b LB.out.1) (by have := KK.out; omega)) ?_; rintro v2 w2 ⟨⟨x2, rfl⟩, ⟨cur2, h2, hs2, hn2⟩, hT2⟩
          have C2 := Lib.hid (And.intro h2 (And.intro hs2 hn2))
          have T2 := Lib.hid hT2
          clear h2 hs2 hn2 hT2))
      have B2 := Lib.hid (show Below w.heap.size w w2 from B1.out.trans (T2.out.below (B := w.heap.size) (fun k _ e => by omega) B1.out.size))
      have c4 : cap + 1 - (i + 1) = cap - i := by omega
      go_region_law
        (refine step_copy_of rfl (.tmp 50) (.tmp 53) 191 191 rfl (.slice (some ⟨w.heap.size, (i + 1) * 4, none⟩) (cap + 1 - (i + 1)) (G - (i + 1))) (.slice (some ⟨g, i * 4, none⟩) (cap - i) (cap - i)) (by simp [Act.eval, Act.put]) (by simp [Act.eval, Act.put]) (CPB.out _ w2.drew cur2 _ _ (show w2.drew.heap[w.heap.size]? = _ from C2.out.1) (by rw [C2.out.2.1]; have := R1.out.2.1; have := G1.out.1; omega) (show w2.drew.heap[g]? = _ from B2.out.block g LB.out.2)) ?_; rintro v3 w3 ⟨⟨x3, rfl⟩, ⟨cur3, h3, hs3, hn3⟩, hT3⟩
         have C3 := Lib.hid (And.intro h3 (And.intro hs3 hn3))
         have T3 := Lib.hid hT3
         clear h3 hs3 hn3 hT3)
      go_wp2_with fail
      go_ret
      refine ⟨_, rfl, qrow_of HB.out C3.out.1 (by rw [C3.out.2.1, C2.out.2.1, R1.out.2.1]) G1.out.1 G1.out.2 (fun j hj => C3.out.2.2 j ?_), ?_⟩
      · by_cases hj1 : j < (i + 1) * 4
        · by_cases hj2 : j < i * 4
          · exact .inl (C2.out.2.2 j (.inl (R1.out.2.2 j (by omega))))
          · exact .inl (C2.out.2.2 j (.inr ⟨by omega, hj1⟩))
        · exact .inr ⟨by omega, by have := HI.out; omega⟩
      · exact turn_below (B2.out.trans ((Below.refl _ w2).drew.trans (T3.out.below (B := w.heap.size) (fun k _ e => by omega) (show w.heap.size ≤ w2.drew.heap.size from B2.out.size)) |>.mono (by first | exact Nat.le_refl _ | exact B2.out.size)))
#print axioms insert_any
end Go.Proofs.YtnogfelfgclajaaGreatDoor
end

section
namespace Go.Proofs.YtnogfelfgclajaaGreatDoor
open Go.RowKit
attribute [local go_sem] ext_ext drew_ext ext_drew ext_cell ext_frozen in_lt in_le in_ne in_en in_ne1 in_en1 in_le1 in_ltn in_len in_nen in_enn size_le ite_max ite_min
set_option linter.unusedVariables false
set_option linter.unusedSimpArgs false

def eqcS (x y z a b c : Int) : Bool := decide (x = a ∧ y = b ∧ z = c)
theorem eqc_any (x y z a b c : Int) (w : World) : (Op.equalIn 10000 30 (.agg #[.int .i64 x, .int .i64 y, .int .i64 z]) (.agg #[.int .i64 a, .int .i64 b, .int .i64 c])).run Tryz.prog w = .ok (eqcS x y z a b c) w := by
  simp [go_sem]
  unfold eqcS
  by_cases h1 : x = a <;> by_cases h2 : y = b <;> by_cases h3 : z = c <;> simp [h1, h2, h3]
attribute [local go_sem ↓] eqc_any
theorem drop1_any (a0 a1 a2 a3 x y z : Int) (cb : Nat) (w : World) (h0 : w.cell? ⟨cb, 0, none⟩ = some (.int .i64 x)) (h1 : w.cell? ⟨cb, 1, none⟩ = some (.int .i64 y)) (h2 : w.cell? ⟨cb, 2, none⟩ = some (.int .i64 z)) :
    Calls Tryz.prog 346 #[.agg #[.int .i64 a0, .int .i64 a1, .int .i64 a2, .int .i64 a3], .pointer (some ⟨cb, 0, none⟩)] w fun e w' => e = .returned (.bool (eqcS a1 a2 a3 x y z)) ∧ ∃ f, w' = ext w f := by
  haveI := in_of_cell h0
  go_enter Tryz.func346, Tryz.ntmps346
  go_wp2_with fail
  go_ret
  exact ⟨rfl, grown_of⟩
theorem clear_items {W : World} (ty : TypeId) {g d o m c : Nat} {cur : Array Value} (hg : W.heap[g]? = some (.cells cur 264 (0, 0))) (ho : o = d * 4) (hfit : (d + m) * 4 ≤ cur.size) :
    ∃ W', (Builtin.clear_ #[191] ty #[.slice (some ⟨g, o, none⟩) m c]).run Tryz.prog W = .ok (.tuple #[]) W' ∧
      (∃ cur', W'.heap[g]? = some (.cells cur' 264 (0, 0)) ∧ cur'.size = cur.size ∧ ∀ j, IsNum cur j → IsNum cur' j) ∧ Turn (fun k => k = g) W W' := by
  rcases m with _ | m
  · exact ⟨W, by simp [Builtin.clear_, run_underlying Tryz.underlying191], ⟨cur, hg, rfl, fun j h => h⟩, Turn.refl _ _⟩
  · have hz : ∀ w, (zeroValue 264).run Tryz.prog w = .ok (.agg #[.int .i64 0, .int .i64 0, .int .i64 0, .int .i64 0]) w := fun w => by kernel_rfl
    obtain ⟨vs, hvs⟩ : ∃ vs, (Builtin.zeroCells #[.int .i64 0, .int .i64 0, .int .i64 0, .int .i64 0] (m + 1)).toList = vs := ⟨_, rfl⟩
    have hl : vs.length = (m + 1) * 4 := by rw [← hvs, Array.length_toList, size_zeroCells]; rfl
    have hn : ∀ j, j < (m + 1) * 4 → vs[j]? = some (.int .i64 0) := fun j hj => by
      obtain ⟨i, hi⟩ := zero_nums (m + 1) j hj
      rw [← hvs]
      simp only [Array.getElem?_toList]
      rw [hi]
      have h4 : (Builtin.zeroCells #[Value.int .i64 0, .int .i64 0, .int .i64 0, .int .i64 0] (m + 1))[j]? = some (.int .i64 0) := by
        rw [Array.getElem?_eq_getElem (by rw [size_zeroCells]; exact hj)]
        simp only [Builtin.zeroCells, Array.getElem_ofFn]
        have h4 : j % 4 < 4 := Nat.mod_lt _ (by omega)
        simp
        rcases h : j % 4 with _ | _ | _ | _ | q
        all_goals first | rfl | (simp; done) | omega
      rw [← hi, h4]
    have h1 : ∀ v ∈ vs, v.oneCell' = true := fun v hv => by
      obtain ⟨j, hj, rfl⟩ := List.getElem_of_mem hv
      have := hn j (by omega)
      rw [List.getElem?_eq_getElem hj] at this
      rw [Option.some.inj this]
      rfl
    have hst := run_storeCells_at Tryz.prog g o 264 vs 0 cur W hg (by omega) h1
    simp only [Nat.add_zero] at hst
    refine ⟨W.setRow g (cur.toList.take o ++ vs ++ cur.toList.drop (o + vs.length)).toArray, ?_, ⟨_, setRow_heap W g cur _ _ _ hg, ?_, fun j hj => ?_⟩, ⟨rfl, rfl, rfl, by simp, fun k _ hk => setRow_other W g k _ (fun e => hk (by first | exact e | exact e.symm))⟩⟩
    · simp [Builtin.clear_, run_underlying Tryz.underlying191, hz, Value.cells, hvs, hst]
    · simp only [List.size_toArray, List.length_append, List.length_take, List.length_drop, Array.length_toList]
      omega
    · obtain ⟨x, hx⟩ := hj
      have hjs := (Array.getElem?_eq_some_iff.1 hx).1
      unfold IsNum
      simp only [List.getElem?_toArray]
      have ht : (cur.toList.take o).length = o := by simp; omega
      by_cases h2 : j < o
      · rw [List.append_assoc, List.getElem?_append_left (by omega), List.getElem?_take_of_lt h2]
        exact ⟨x, by simpa using hx⟩
      · by_cases h3 : j < o + vs.length
        · rw [List.append_assoc, List.getElem?_append_right (by omega), ht, List.getElem?_append_left (by omega)]
          exact ⟨0, hn _ (by omega)⟩
        · rw [List.getElem?_append_right (by rw [List.length_append, ht]; omega), List.length_append, ht, List.getElem?_drop]
          refine ⟨x, ?_⟩
          rw [show o + vs.length + (j - (o + vs.length)) = j by omega]
          simpa using hx
theorem wpList_clear_of {P : Program} {w : World} {R : World → Prop} {ops : Array Oper} {rest : List Oper} {o : Oper} {a : Act} {Q : Exit → Act → World → Prop} (hgd : o.guard = none) (d : Operand) (t : TypeId)
    (ho : o.op = .call { callee := .builtin .clear, args := #[d], argTypes := #[t] }) (u1 : Value) (e1 : a.eval d = u1)
    (hr : ∃ w', (Builtin.clear_ #[t] o.type #[u1]).run P w = .ok (.tuple #[]) w' ∧ R w')
    (h : ∀ w', R w' → wpList P ops Q rest (a.put o.dst (.tuple #[])) w') : wpList P ops Q (o :: rest) a w := by
  obtain ⟨w', hr, h2⟩ := hr
  refine wpList_plain hgd fun K hK => ?_
  unfold Oper.wp execOp
  simp only [ho, resolve, invoke, builtin, Sem.run_bind, Sem.run_pure, Result.andThen_ok, List.map_toArray, List.map_cons, List.map_nil, e1, hr]
  exact hK _ _ (h w' h2)
/-- Where the first such item stands, if anywhere. -/
def SomeOr (n : Nat) (w : World) (e : Ending) (w' : World) : Prop := ((e = .returned (.int .i64 (-1))) ∨ ∃ i : Nat, i < n ∧ e = .returned (.int .i64 (i : Int))) ∧ ∃ f, w' = ext w f
/-- What the walks read of a row. -/
def ItemsAt (w : World) (og : Option Addr) (n : Nat) : Prop := ∀ k, k < n → ∃ g, og = some ⟨g, 0, none⟩ ∧ ∃ i0 i1 i2 i3 : Int, w.cell? ⟨g, k * 4, none⟩ = some (.int .i64 i0) ∧ w.cell? ⟨g, k * 4 + 1, none⟩ = some (.int .i64 i1) ∧ w.cell? ⟨g, k * 4 + 2, none⟩ = some (.int .i64 i2) ∧ w.cell? ⟨g, k * 4 + 3, none⟩ = some (.int .i64 i3)
theorem QRow.items {B : Nat} {w : World} {og : Option Addr} {n m cap : Nat} (h : QRow B w (.slice og m cap) n) : ItemsAt w og n := fun k hk => by
  obtain ⟨g, cap', hv, _, _, _, hc⟩ := h.cells (by omega)
  injection hv with e1 e2 e3
  obtain ⟨i0, h0⟩ := hc (k * 4) (by omega)
  obtain ⟨i1, h1⟩ := hc (k * 4 + 1) (by omega)
  obtain ⟨i2, h2⟩ := hc (k * 4 + 2) (by omega)
  obtain ⟨i3, h3⟩ := hc (k * 4 + 3) (by omega)
  exact ⟨g, e1, i0, i1, i2, i3, h0, h1, h2, h3⟩
set_option maxRecDepth 100000 in
set_option maxHeartbeats 1000000 in
theorem itemix_any (og : Option Addr) (n cap : Nat) (x y z : Int) (cb : Nat) (w : World) (h : ItemsAt w og n) (hn : n ≤ 10000) (h0 : w.cell? ⟨cb, 0, none⟩ = some (.int .i64 x)) (h1 : w.cell? ⟨cb, 1, none⟩ = some (.int .i64 y)) (h2 : w.cell? ⟨cb, 2, none⟩ = some (.int .i64 z)) :
    Calls Tryz.prog 364 #[.slice og n cap, .func (.func 346) #[] #[.pointer (some ⟨cb, 0, none⟩)]] w (SomeOr n w) := by
  have eg : ∀ args W, (callFunc 346 args).run Tryz.prog W = .ok (.enter 346 args) W := fun args W => by kernel_rfl
  have HC := Lib.hid h
  have n1 : (n : Int) ≤ 10000 := by omega
  haveI := in_of_cell h0
  clear h
  go_enter Tryz.func364, Tryz.ntmps364
  go_wp2_with fail
  go_loopw [5, 8] (fun _ s8 wr => ∃ k : Nat, k ≤ n ∧ s8 = .int .i64 (k : Int) ∧ ∃ f, wr = ext w f) (fun _ s8 _ => n - (intOf s8).toNat)
  case atStart => exact ⟨0, by omega, rfl, ⟨id, by unfold ext; split <;> rfl⟩⟩
  case round =>
    obtain ⟨k, hk, rfl, _, hw⟩ := hrel
    rename World => w1
    haveI hg1 := named_grown hw
    haveI hb1 := named_below (w := w) hw
    have hc1 := named_cell hw
    haveI hi1 := named_in hw
    clear hw
    by_cases hlt : k < n
    · obtain ⟨g, rfl, i0, i1, i2, i3, d0, d1, d2, d3⟩ := HC.out k hlt
      haveI := in_of_cell d0
      have HK := Lib.hid hlt
      have k1 : (k : Int) < (n : Int) := by omega
      have DR := Lib.hid (drop1_any i0 i1 i2 i3 x y z cb w1 (by rw [hc1]; exact h0) (by rw [hc1]; exact h1) (by rw [hc1]; exact h2))
      clear hlt hk
      generalize eqcS i1 i2 i3 x y z = bb at DR
      cases bb
      · go_wp2_with fail
        refine DR.out.mono ?_
        rintro e w2 ⟨rfl, _t, hw⟩
        haveI hb2 := named_below (w := w) hw
        clear hw DR
        go_wp2_with fail
        go_roundw
        case rel => exact ⟨k + 1, by have := HK.out; omega, by go_num, grown_of⟩
        case measure => have := HK.out; simp [intOf]; omega
      · go_wp2_with fail
        refine DR.out.mono ?_
        rintro e w2 ⟨rfl, _t, hw⟩
        haveI hb2 := named_below (w := w) hw
        clear hw DR
        go_wp2_with fail
        go_ret
        exact ⟨.inr ⟨k, HK.out, rfl⟩, grown_of⟩
    · have k1 : ¬ (k : Int) < (n : Int) := by omega
      clear hlt hk
      go_wp2_with fail
      go_ret
      exact ⟨.inl rfl, grown_of⟩
#print axioms itemix_any
end Go.Proofs.YtnogfelfgclajaaGreatDoor
end
