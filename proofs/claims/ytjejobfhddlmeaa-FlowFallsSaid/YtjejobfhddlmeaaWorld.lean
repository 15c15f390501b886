/-
  A small world, made of any.
-/
import Derived.Test.YtjejobfhddlmeaaLives
import Derived.Deep.RegionLaw
import Derived.Deep.AppendLies
import Derived.LoopTactic
namespace Go.Proofs.Ytjejobfhddlmeaa
open Go.RowKit
attribute [local go_sem] ext_ext drew_ext ext_drew ext_cell ext_frozen in_lt in_le in_ne in_en in_ne1 in_en1 in_le1 in_ltn in_len in_nen in_enn size_le ite_max ite_min
set_option linter.unusedVariables false
set_option linter.unusedSimpArgs false

theorem intInfo : (Try.prog.info? 3).map (fun i => (i.zero, i.size, i.bytes)) = some (some (.int .i64 0), 1, 8) := by kernel_rfl

theorem cellFar {w : World} {b o n i : Nat} {v : Value} (h : n ≠ b) : (w.setCell ⟨b, o, none⟩ v).cell? ⟨n, i, none⟩ = w.cell? ⟨n, i, none⟩ := by
  unfold World.setCell World.cell?
  simp [Array.getElem?_modify, Ne.symm h]
theorem cellNear {w : World} {b o i : Nat} {v : Value} (h : i ≠ o) : (w.setCell ⟨b, o, none⟩ v).cell? ⟨b, i, none⟩ = w.cell? ⟨b, i, none⟩ := by
  unfold World.setCell World.cell?
  simp only [Array.getElem?_modify, if_true]
  cases hb : w.heap[b]? with
  | none => rfl
  | some x =>
    cases x with
    | cells c elem frozen => simp [Array.getElem?_setIfInBounds_ne (Ne.symm h)]
    | _ => rfl
/-- Behind k rounds: the world's own blocks. -/
structure GoodIn (sv : Value) (el : Int) (bs : List Int) (w : World) (k : Nat) (ov : Value) (wr : World) : Prop where
  below : Below w.heap.size w wr
  size : w.heap.size + 1 + 1 + 1 ≤ wr.heap.size
  p0 : wr.cell? ⟨w.heap.size, 0, none⟩ = some sv
  p1 : wr.cell? ⟨w.heap.size, 1, none⟩ = some (.int .i64 el)
  r0 : wr.cell? ⟨w.heap.size + 1, 0, none⟩ = some (.slice none 0 0)
  r1 : wr.cell? ⟨w.heap.size + 1, 1, none⟩ = some (.int .i64 0)
  rf : ∀ j, wr.frozen? ⟨w.heap.size + 1, j, none⟩ = false
  o0 : wr.cell? ⟨w.heap.size + 1 + 1, 0, none⟩ = some ov
  o1 : wr.cell? ⟨w.heap.size + 1 + 1, 1, none⟩ = some (.int .i64 0)
  off : ∀ j, wr.frozen? ⟨w.heap.size + 1 + 1, j, none⟩ = false
  owns : wr.ownsRow (w.heap.size + 1 + 1 + 1) 3 1 ov k (((bs.take k).map gdS).map (Value.int .i64))

theorem owns_set {w : World} {base : Nat} {e : TypeId} {size : Nat} {v : Value} {n : Nat} {xs : List Value} {b o : Nat} {u : Value} (h : w.ownsRow base e size v n xs) (hb : b < base) : (w.setCell ⟨b, o, none⟩ u).ownsRow base e size v n xs := by
  refine ⟨h.1, ?_⟩
  rcases h.2 with hn | ⟨g, cap, cur, rfl, hbg, hgg, rest⟩
  · exact .inl hn
  · exact .inr ⟨g, cap, cur, rfl, hbg, by rw [heap_setCell_other w ⟨b, o, none⟩ g u (by simp; omega)]; exact hgg, rest⟩

theorem good_step {sv : Value} {el : Int} {bs : List Int} {w wr w1 : World} {k gg cc : Nat} {ov : Value} {b : Int} (hG : GoodIn sv el bs w k ov wr) (hk : k < bs.length) (hb : b = bs.getD k 0)
    (hown1 : w1.ownsRow (w.heap.size + 1 + 1 + 1) 3 1 (.slice (some ⟨gg, 0, none⟩) (k + 1) cc) (k + 1) ((((bs.take k).map gdS).map (Value.int .i64)) ++ [.int .i64 (gdS b)]))
    (hgrow1 : ((wr.alloc (.cells #[.int .i64 (gdS b)] 3)).drew).grownBy w1 ov.ownBlock) :
    GoodIn sv el bs w (k + 1) (.slice (some ⟨gg, 0, none⟩) (k + 1) cc) (w1.setCell ⟨w.heap.size + 1 + 1, 0, none⟩ (.slice (some ⟨gg, 0, none⟩) (k + 1) cc)) := by
  obtain ⟨hB, hsz, p0, p1, r0, r1, rf, o0, o1, off, ho⟩ := hG
  have hne : ∀ n, n < w.heap.size + 1 + 1 + 1 → some n ≠ ov.ownBlock := fun n hn e => by have := (ho.lt _ e.symm).1; omega
  have old : ∀ n j u, n < w.heap.size + 1 + 1 + 1 → wr.cell? ⟨n, j, none⟩ = some u → w1.cell? ⟨n, j, none⟩ = some u := fun n j u hn h => by
    have hlt : n < wr.heap.size := World.block_lt_of_cell? wr _ h
    rw [hgrow1.cell_far ⟨n, j, none⟩ (by simp; omega) (hne n hn)]
    exact (((Below.refl wr.heap.size wr).alloc (Nat.le_refl _) _).cell (p := ⟨n, j, none⟩) hlt).trans h
  have oldf : ∀ n j, n < w.heap.size + 1 + 1 + 1 → wr.frozen? ⟨n, j, none⟩ = false → w1.frozen? ⟨n, j, none⟩ = false := fun n j hn h => by
    have hlt : n < wr.heap.size := by omega
    rw [hgrow1.frozen_far ⟨n, j, none⟩ (by simp; omega) (hne n hn)]
    exact (((Below.refl wr.heap.size wr).alloc (Nat.le_refl _) _).frozen (p := ⟨n, j, none⟩) hlt).trans h
  have hs1 : wr.heap.size + 1 ≤ w1.heap.size := by have := hgrow1.size; simpa using this
  refine ⟨?_, ?_, ?_, ?_, ?_, ?_, fun j => ?_, ?_, ?_, fun j => ?_, ?_⟩
  · refine Below.setCell ?_ (by simp; omega) _
    exact ((hB.alloc hB.size _).drew).grown hgrow1 (by have := hB.size; simp; omega) (fun q hq => by have := (ho.lt q hq).1; omega)
  · simp; omega
  · rw [cellFar (by omega)]; exact old _ _ _ (by omega) p0
  · rw [cellFar (by omega)]; exact old _ _ _ (by omega) p1
  · rw [cellFar (by omega)]; exact old _ _ _ (by omega) r0
  · rw [cellFar (by omega)]; exact old _ _ _ (by omega) r1
  · rw [World.frozen?_setCell]; exact oldf _ _ (by omega) (rf j)
  · apply World.cell?_setCell_same
    exact old _ _ _ (by omega) o0
  · rw [cellNear (by omega)]; exact old _ _ _ (by omega) o1
  · rw [World.frozen?_setCell]; exact oldf _ _ (by omega) (off j)
  · have e : ((bs.take (k + 1)).map gdS).map (Value.int .i64) = (((bs.take k).map gdS).map (Value.int .i64)) ++ [.int .i64 (gdS b)] := by
      rw [List.take_succ_eq_append_getElem hk, hb, List.getD_eq_getElem?_getD, List.getElem?_eq_getElem hk]
      simp only [List.map_append, List.map_cons, List.map_nil, Option.getD_some]
    rw [e]
    exact owns_set hown1 (by omega)

/-- What the call hands back: a small world. -/
def MadeWorld (bs : List Int) (el : Int) (w : World) (e : Ending) (w' : World) : Prop := ∃ ov, e = .returned (.agg #[ov, .int .i64 el]) ∧ Blocks w' ov bs ∧ ∃ f, w' = ext w f
theorem good_end {sv : Value} {el : Int} {bs : List Int} {w wr : World} {k : Nat} {ov : Value} (hG : GoodIn sv el bs w k ov wr) (h1 : k ≤ 216) (h2 : k = bs.length ∨ k = 216) :
    wr.ownsRow (w.heap.size + 1 + 1 + 1) 3 1 ov ((bs.take 216).map gdS).length (((bs.take 216).map gdS).map (Value.int .i64)) ∧ ((bs.take 216).map gdS).length ≤ 216 := by
  have e : bs.take 216 = bs.take k := by
    rcases h2 with rfl | rfl
    · rw [List.take_of_length_le h1, List.take_length]
    · rfl
  have ho := hG.owns
  have hn := ho.1
  rw [e]
  simp only [List.length_map, Nat.mul_one] at hn ⊢
  rw [hn]
  exact ⟨ho, h1⟩

set_option maxHeartbeats 4000000 in
theorem goodw_some (g fo cap : Nat) (el : Int) (bs : List Int) (w : World) (hl : bs.length ≤ 9223372036854775807) (hf : ∀ b ∈ bs, Fit b) (fe : Fit el)
    (hc : ∀ k, k < bs.length → w.cell? ⟨g, fo + k, none⟩ = some (.int .i64 (bs.getD k 0))) :
    Calls Try.prog 9 #[.agg #[.slice (some ⟨g, fo, none⟩) bs.length cap, .int .i64 el]] w (MadeWorld ((bs.take 216).map gdS) (arS el 3 - 1) w) := by
  obtain ⟨i0, iz0, iz1, iz2, iz3⟩ := info_parts intInfo
  have HC := Lib.hid hc
  have HF := Lib.hid hf
  clear hc hf
  go_enter Try.func9, Try.ntmps9
  go_wp2_with fail
  go_loopw [4] (fun i wr => ∃ k : Nat, k ≤ bs.length ∧ k ≤ 216 ∧ i = .int .i64 k ∧ ∃ ov, GoodIn (.slice (some ⟨g, fo, none⟩) bs.length cap) el bs w k ov wr) (fun i _ => bs.length - (intOf i).toNat)
  case atStart =>
    refine ⟨0, Nat.zero_le _, by omega, rfl, .slice none 0 0, ?_⟩
    refine ⟨((((Below.refl _ _).alloc (Nat.le_refl _) _).alloc (by simp) _).alloc (by simp; omega) _), by simp, by go_simp, by go_simp, by go_simp, by go_simp, fun j => by go_simp, by go_simp, by go_simp, fun j => by go_simp, ?_⟩
    simpa using World.ownsRow_nil _ _ _ _
  case round =>
    obtain ⟨k, hk, hk2, rfl, ov, hG⟩ := hrel
    have HG := Lib.hid hG
    obtain ⟨hB, hsz, p0, p1, r0, r1, rf, o0, o1, off, ho⟩ := hG
    have k0 : (0 : Int) ≤ (k : Int) := Int.natCast_nonneg _
    by_cases hlt : k < bs.length
    · have k1 : (k : Int) < (bs.length : Int) := by omega
      by_cases hlt2 : (k : Int) < 216
      · have hg : g < w.heap.size := World.block_lt_of_cell? w _ (HC.out k hlt)
        have d : wr.cell? ⟨g, fo + k, none⟩ = some (.int .i64 (bs.getD k 0)) := by
          rw [hB.cell (p := ⟨g, fo + k, none⟩) hg]
          exact HC.out k hlt
        have fd : Fit (bs.getD k 0) := HF.out _ (by rw [List.getD_eq_getElem?_getD, List.getElem?_eq_getElem hlt]; exact List.getElem_mem hlt)
        have f0 := off 0
        have lt := ho.lt
        have n2 : some (w.heap.size + 1 + 1) ≠ ov.ownBlock := fun e => by have := (lt _ e.symm).1; omega
        have n1 : some (w.heap.size + 1) ≠ ov.ownBlock := fun e => by have := (lt _ e.symm).1; omega
        have n0 : some w.heap.size ≠ ov.ownBlock := fun e => by have := (lt _ e.symm).1; omega
        have ng : some g ≠ ov.ownBlock := fun e => by have := (lt _ e.symm).1; omega
        have HO := Lib.hid ho
        have HB := Lib.hid hB
        have HR := Lib.hid rf
        have HF2 := Lib.hid off
        have HL := Lib.hid lt
        clear ho hB rf off lt
        obtain ⟨b, hb⟩ : ∃ b, b = bs.getD k 0 := ⟨_, rfl⟩
        rw [← hb] at d fd
        have HBB := Lib.hid hb
        clear hb
        go_wp2_with fail
        haveI := in_of_cell p0
        haveI := in_of_cell r0
        haveI := in_of_cell o0
        haveI := in_of_cell d
        go_region_law
          (first
            | (go_simp; go_at_call 17; refine (refgood_any _ _ fd).mono ?_; rintro e w' ⟨rfl, rfl⟩)
            | (refine step_append_lies _ (by rfl) _ _ _ (by rfl) (w.heap.size + 1 + 1 + 1) 3 i0 _ 1 8 Try.underlying22 iz0 iz1 iz2 iz3 rfl (by omega) ov k (((bs.take k).map gdS).map (Value.int .i64)) (by rfl) (by first | exact (HO.out.alloc _).drew | exact HO.out.drew.alloc _)
                ⟨wr.heap.size, 0, none⟩ 1 1 [.int .i64 (gdS b)] (by rfl) (by rfl) (World.news_of_block (cs := #[.int .i64 (gdS b)]) (t := 3) (fr := (0, 0)) (heap_alloc_new wr _)) (by simp [Value.oneCell'])
                (by omega) (by unfold maxLen; omega) (by omega) (by simp; omega) (wr.heap.size + 1) (by simp) ?_; intro gg cc w1 hown1 hgrow1 hat hlt1
               have q0 : w1.cell? ⟨w.heap.size + 1 + 1, 0, none⟩ = some ov := (hgrow1.cell_far _ (by simp; omega) n2).trans (by go_simp)
               have q1 : w1.frozen? ⟨w.heap.size + 1 + 1, 0, none⟩ = false := (hgrow1.frozen_far _ (by simp; omega) n2).trans (by go_simp)))
        all_goals
          go_wp2_with fail
          go_roundw
          case rel => exact ⟨k + 1, by omega, by omega, by go_num, _, good_step HG.out hlt HBB.out hown1 hgrow1⟩
          case measure => simp [intOf]; omega
      · have hk3 : k = 216 := by omega
        obtain ⟨a1, a2⟩ := arS_bd (n := el) (m := 3) (by omega)
        have f0 := off 0
        have f1 := off 1
        have g0 := rf 0
        have g1 := rf 1
        haveI := in_of_cell p0
        haveI := in_of_cell r0
        haveI := in_of_cell o0
        have HR := Lib.hid (good_end HG.out hk2 (.inr hk3))
        haveI hgw : Nonempty (Below w.heap.size w wr) := ⟨hB⟩
        obtain ⟨og, cp, rfl⟩ := owns_form ho
        clear off rf ho hB hk3
        go_wp2_with (first | (go_at_call 30; refine (around_fit _ _ _ fe (by omega) (by omega)).mono ?_; rintro e w1 ⟨rfl, rfl⟩))
        refine bodyPost_ret (v := .agg #[.slice og k cp, .int .i64 (arS el 3 - 1)]) (by simp [results, Try.results9, go_sem, r0, r1, o0, o1]; try rfl) rfl ⟨_, rfl, ?_, grown_of⟩
        exact ⟨owns_base (owns_set (owns_set (owns_set HR.out.1 (by omega)) (by omega)) (by omega)) (Nat.zero_le _), HR.out.2⟩
    · have hk3 : k = bs.length := by omega
      have hk4 : ¬ (k : Int) < (bs.length : Int) := by omega
      obtain ⟨a1, a2⟩ := arS_bd (n := el) (m := 3) (by omega)
      have f0 := off 0
      have f1 := off 1
      have g0 := rf 0
      have g1 := rf 1
      haveI := in_of_cell p0
      haveI := in_of_cell r0
      haveI := in_of_cell o0
      have HR := Lib.hid (good_end HG.out hk2 (.inl hk3))
      haveI hgw : Nonempty (Below w.heap.size w wr) := ⟨hB⟩
      obtain ⟨og, cp, rfl⟩ := owns_form ho
      clear off rf ho hB hk3
      go_wp2_with (first | (go_at_call 30; refine (around_fit _ _ _ fe (by omega) (by omega)).mono ?_; rintro e w1 ⟨rfl, rfl⟩))
      refine bodyPost_ret (v := .agg #[.slice og k cp, .int .i64 (arS el 3 - 1)]) (by simp [results, Try.results9, go_sem, r0, r1, o0, o1]; try rfl) rfl ⟨_, rfl, ?_, grown_of⟩
      exact ⟨owns_base (owns_set (owns_set (owns_set HR.out.1 (by omega)) (by omega)) (by omega)) (Nat.zero_le _), HR.out.2⟩

theorem goodw_nil (el : Int) (w : World) (fe : Fit el) : Calls Try.prog 9 #[.agg #[.slice none 0 0, .int .i64 el]] w (MadeWorld [] (arS el 3 - 1) w) := by
  obtain ⟨a1, a2⟩ := arS_bd (n := el) (m := 3) (by omega)
  go_enter Try.func9, Try.ntmps9
  go_wp2_with fail
  refine wp_loop_rounds 1 ?_
  rw [rounds_succ]
  go_wp2_with (first | (go_at_call 30; refine (around_fit _ _ _ fe (by omega) (by omega)).mono ?_; rintro e w1 ⟨rfl, rfl⟩))
  refine bodyPost_ret (v := .agg #[.slice none 0 0, .int .i64 (arS el 3 - 1)]) (by simp [results, Try.results9, go_sem]; try rfl) rfl ⟨_, rfl, ⟨World.ownsRow_nil .., by simp⟩, grown_of⟩
end Go.Proofs.Ytjejobfhddlmeaa
