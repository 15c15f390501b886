/-
  The laying of changes over a view: the Go function's loop.
-/
import Derived.Test.YtjejobfhddlmeaaLay
import Derived.LoopTactic
namespace Go.Proofs.Ytjejobfhddlmeaa
open Go.RowKit
attribute [local go_sem] ext_ext drew_ext ext_drew ext_cell ext_frozen in_lt in_le in_ne in_en in_ne1 in_en1 in_le1 in_ltn in_len in_nen in_enn size_le ite_max ite_min
set_option linter.unusedVariables false
set_option linter.unusedSimpArgs false

theorem chV_at (l : List Ch) (k : Nat) (hk : k < l.length) : (chV l)[k * 4]? = some (.int .i64 l[k].1) ∧ (chV l)[k * 4 + 1]? = some (.int .i64 l[k].2.1) ∧ (chV l)[k * 4 + 2]? = some (.int .i64 l[k].2.2.1) ∧ (chV l)[k * 4 + 3]? = some (.int .i64 l[k].2.2.2) := by
  induction l generalizing k with
  | nil => simp at hk
  | cons c l ih =>
    cases k with
    | zero => exact ⟨rfl, rfl, rfl, rfl⟩
    | succ k =>
      have := ih k (by simpa using hk)
      simp only [List.getElem_cons_succ]
      have e : chV (c :: l) = .int .i64 c.1 :: .int .i64 c.2.1 :: .int .i64 c.2.2.1 :: .int .i64 c.2.2.2 :: chV l := rfl
      rw [e, show (k + 1) * 4 = k * 4 + 1 + 1 + 1 + 1 by omega]
      simpa [Nat.add_assoc] using this

/-- Behind k rounds: the map holds the first k changes. -/
def LayIn (v : Value) (l : List Ch) (w : World) (k : Nat) (wr : World) : Prop :=
  Below (w.heap.size + 1) (w.alloc (.cells #[v] 31)) wr ∧ wr.cell? ⟨w.heap.size + 1 + 1, 0, none⟩ = some (.map (some (w.heap.size + 1))) ∧ theMap wr (w.heap.size + 1) k (l.take k)

set_option maxHeartbeats 4000000 in
theorem lay_some (f : FuncId) (caps : Array Value) (V : Int → Int → Int → Int) (l : List Ch) (g cap : Nat) (w : World) (hn : Near3 l) (hw : ∀ c ∈ l, (Lit.int .i64 c.2.2.2).wf = true) (hv : IsView Try.prog f caps V w)
    (hl : l.length ≤ 1000) (hc : ∀ j u, (chV l)[j]? = some u → w.cell? ⟨g, j, none⟩ = some u) (hg : g < w.heap.size) :
    Calls Try.prog 18 #[.func (.func f) #[] caps, .slice (some ⟨g, 0, none⟩) l.length cap] w (MadeView Try.prog (layS V l) w) := by
  have hmf : ∀ (fn : Fn) (first cap : Array Value) (w : World), (Instr.makeFunc fn first cap).run Try.prog w = .ok (.func fn first cap) w := fun _ _ _ _ => rfl
  have hmm := @run_makeMap Try.prog
  have HC := Lib.hid hc
  have HN := Lib.hid hn
  have HW := Lib.hid hw
  clear hc hn hw
  go_enter Try.func18, Try.ntmps18
  go_wp2_with fail
  go_loopw [11] (fun i wr => ∃ k : Nat, k ≤ l.length ∧ i = .int .i64 k ∧ LayIn (.func (.func f) #[] caps) l w k wr) (fun i _ => l.length - (intOf i).toNat)
  case atStart =>
    refine ⟨0, Nat.zero_le _, rfl, ?_, ?_, ?_⟩
    · exact ((Below.refl _ _).alloc (by simp) _).alloc (by simp) _
    · go_simp
    · have h := (World.ownsMap_made (w.alloc (.cells #[.func (.func f) #[] caps] 31)) Try.prog 26 (plainElem (H := Unit) Try.prog 3)).alloc (.cells #[.map (some (w.heap.size + 1))] 57)
      rw [World.size_alloc] at h
      exact h
  case round =>
    obtain ⟨k, hk, rfl, hB, hp, hM⟩ := hrel
    haveI := in_of_cell hp
    by_cases hlt : k < l.length
    · obtain ⟨c0, c1, c2, c3⟩ := chV_at l k hlt
      have hcw : ∀ j u, (chV l)[j]? = some u → wr.cell? ⟨g, j, none⟩ = some u := fun j u hu => by
        rw [hB.cell (p := ⟨g, j, none⟩) (by simp; omega)]
        rw [((Below.refl w.heap.size w).alloc (Nat.le_refl _) _).cell (p := ⟨g, j, none⟩) hg]
        exact HC.out j u hu
      have d0 := hcw _ _ c0
      have d1 := hcw _ _ c1
      have d2 := hcw _ _ c2
      have d3 := hcw _ _ c3
      obtain ⟨n1, n2, n3⟩ := HN.out l[k] (List.getElem_mem hlt)
      have n4 := HW.out l[k] (List.getElem_mem hlt)
      haveI := in_of_cell d0
      clear hcw c0 c1 c2 c3
      have HT := Lib.hid (show l.take (k + 1) = l.take k ++ [(l[k].1, l[k].2.1, l[k].2.2.1, l[k].2.2.2)] from List.take_succ_eq_append_getElem hlt)
      have HM := Lib.hid hM
      have HB := Lib.hid hB
      have N1 := Lib.hid n1
      have N2 := Lib.hid n2
      have N3 := Lib.hid n3
      have N4 := Lib.hid n4
      clear hM hB n1 n2 n3 n4
      generalize l[k].1 = a at *
      generalize l[k].2.1 = b at *
      generalize l[k].2.2.1 = c at *
      generalize l[k].2.2.2 = e at *
      go_wp2_with (at_mapUpdate; refine wpList_mapUpdate_own _ rfl _ _ _ 57 rfl 26 3 cellKey Try.underlying57 (plainElem Try.prog 3) (w.heap.size + 1) k _ rfl (HM.out.alloc _) (by unfold maxLen; omega) _ _ _ rfl rfl (ckey_of N1.out N2.out N3.out) _ [] (plainElem_int Try.underlying3 N4.out) ?_; intro w1 hown1 hgrow1)
      go_roundw
      case rel =>
        refine ⟨k + 1, by omega, by go_num, ?_, ?_, ?_⟩
        · exact (HB.out.alloc (by have := HB.out.size; simp at this; omega) _).grown hgrow1 (by have := HB.out.size; simp at this ⊢; omega) (fun q hq => by cases hq; exact Nat.le_refl _)
        · exact hgrow1.cell ((((Below.refl wr.heap.size wr).alloc (Nat.le_refl _) _).cell (p := ⟨w.heap.size + 1 + 1, 0, none⟩) (World.block_lt_of_cell? wr _ hp)).trans hp) (by simp)
        · unfold theMap
          rw [HT.out, mapS_snoc]
          exact hown1
      case measure => simp [intOf]; omega
    · have hkl : k = l.length := by omega
      go_wp2_with fail
      go_ret
      subst hkl
      rw [List.take_length] at hM
      have hw0 : ∃ f, wr = ext w f := ext_of ((((Below.refl w.heap.size w).alloc (Nat.le_refl _) _)).trans (hB.mono (by omega)))
      refine ⟨_, rfl, ⟨_, _, rfl, lay1_any (.func (.func f) #[] caps) V l (w.heap.size + 1) l.length (w.heap.size + 1 + 1) w.heap.size wr HN.out hM ⟨f, caps, rfl, hv.grow hw0⟩ hp ?_⟩, hw0⟩
      rw [hB.cell (p := ⟨w.heap.size, 0, none⟩) (by simp)]
      go_simp
end Go.Proofs.Ytjejobfhddlmeaa
