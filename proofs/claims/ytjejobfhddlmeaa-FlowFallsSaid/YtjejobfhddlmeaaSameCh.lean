/-
  Laying any changes; changes that are the same; a cell made near.
-/
import Derived.Test.YtjejobfhddlmeaaLayOf
import Derived.LoopTactic
namespace Go.Proofs.Ytjejobfhddlmeaa
open Go.RowKit
attribute [local go_sem] ext_ext drew_ext ext_drew ext_cell ext_frozen in_lt in_le in_ne in_en in_ne1 in_en1 in_le1 in_ltn in_len in_nen in_enn size_le ite_max ite_min
set_option linter.unusedVariables false
set_option linter.unusedSimpArgs false

theorem lay_nil (v : Value) (V : Int → Int → Int → Int) (w : World) (hv : ViewVal Try.prog v V w) : Calls Try.prog 18 #[v, .slice none 0 0] w (MadeView Try.prog (layS V []) w) := by
  obtain ⟨f, caps, rfl, hv⟩ := hv
  have hmf : ∀ (fn : Fn) (first cap : Array Value) (w : World), (Instr.makeFunc fn first cap).run Try.prog w = .ok (.func fn first cap) w := fun _ _ _ _ => rfl
  have hmm := @run_makeMap Try.prog
  go_enter Try.func18, Try.ntmps18
  go_wp2_with fail
  refine wp_loop_rounds 1 ?_
  rw [rounds_succ]
  go_wp2_with fail
  go_ret
  have hM : theMap (((w.alloc (.cells #[.func (.func f) #[] caps] 31)).alloc (.map #[] 0)).alloc (.cells #[.map (some (w.heap.size + 1))] 57)) (w.heap.size + 1) 0 [] := by
    have h := (World.ownsMap_made (w.alloc (.cells #[.func (.func f) #[] caps] 31)) Try.prog 26 (plainElem (H := Unit) Try.prog 3)).alloc (.cells #[.map (some (w.heap.size + 1))] 57)
    rw [World.size_alloc] at h
    exact h
  exact ⟨_, rfl, ⟨_, _, rfl, lay1_any (.func (.func f) #[] caps) V [] (w.heap.size + 1) 0 (w.heap.size + 1 + 1) w.heap.size _ (fun c hc => by cases hc) hM ⟨f, caps, rfl, hv.grow (by exact grown_of)⟩ (by go_simp) (by go_simp)⟩, grown_of⟩
theorem lay_any (v : Value) (V : Int → Int → Int → Int) (l : List Ch) (sv : Value) (base : Nat) (w : World) (hn : Near3 l) (hw : ∀ c ∈ l, (Lit.int .i64 c.2.2.2).wf = true) (hv : ViewVal Try.prog v V w) (hl : l.length ≤ 1000)
    (hs : w.ownsRow base 36 4 sv l.length (chV l)) : Calls Try.prog 18 #[v, sv] w (MadeView Try.prog (layS V l) w) := by
  by_cases h0 : 0 < l.length
  · obtain ⟨g, cap, rfl, _, _, _, hc⟩ := owns_some hs h0
    obtain ⟨f, caps, rfl, hv⟩ := hv
    have hg : g < w.heap.size := (hs.lt g rfl).2
    exact lay_some f caps V l g cap w hn hw hv hl hc hg
  · obtain rfl : l = [] := List.eq_nil_of_length_eq_zero (by omega)
    rcases hs.2 with ⟨rfl, _⟩ | ⟨g, cap, cur, rfl, _, _, _⟩
    · exact lay_nil v V w hv
    · have hc : ∀ j u, (chV [])[j]? = some u → w.cell? ⟨g, j, none⟩ = some u := fun j u hu => by simp [chV] at hu
      obtain ⟨f, caps, rfl, hv⟩ := hv
      have hg : g < w.heap.size := (hs.lt g rfl).2
      exact lay_some f caps V [] g cap w hn hw hv hl hc hg

theorem eq_change (a b c d : Int) (w : World) : (Op.equalIn 10000 36 (.agg #[.int .i64 a, .int .i64 b, .int .i64 c, .int .i64 d]) (.agg #[.int .i64 a, .int .i64 b, .int .i64 c, .int .i64 d])).run Try.prog w = .ok true w := by
  simp [go_sem]
attribute [local go_sem ↓] eq_change

set_option maxHeartbeats 2000000 in
theorem same_any (l : List Ch) (s t : Value) (b1 b2 : Nat) (w : World) (hs : w.ownsRow b1 36 4 s l.length (chV l)) (ht : w.ownsRow b2 36 4 t l.length (chV l)) (hl : l.length ≤ 1000) :
    Calls Try.prog 20 #[s, t] w fun e w' => e = .returned (.bool true) ∧ ∃ f, w' = ext w f := by
  have hcs : ∀ k, k < l.length → ∃ g cap, s = .slice (some ⟨g, 0, none⟩) l.length cap ∧ ∀ j u, (chV l)[j]? = some u → w.cell? ⟨g, j, none⟩ = some u := fun k hk => by
    obtain ⟨g, cap, h, _, _, _, hc⟩ := owns_some hs (by omega)
    exact ⟨g, cap, h, hc⟩
  by_cases h0 : 0 < l.length
  · obtain ⟨g, cap, rfl, _, _, _, hc⟩ := owns_some hs h0
    obtain ⟨g', cap', rfl, _, _, _, hc'⟩ := owns_some ht h0
    have HC := Lib.hid hc
    have HC' := Lib.hid hc'
    have hg : g < w.heap.size := (hs.lt g rfl).2
    have hg' : g' < w.heap.size := (ht.lt g' rfl).2
    clear hc hc' hcs hs ht
    go_enter Try.func20, Try.ntmps20
    go_wp2_with fail
    go_loopw [5] (fun i wr => ∃ k : Nat, k ≤ l.length ∧ i = .int .i64 k ∧ ∃ f, wr = ext w f) (fun i _ => l.length - (intOf i).toNat)
    case atStart => exact ⟨0, Nat.zero_le _, rfl, grown_of⟩
    case round =>
      obtain ⟨k, hk, rfl, f, rfl⟩ := hrel
      by_cases hlt : k < l.length
      · obtain ⟨c0, c1, c2, c3⟩ := chV_at l k hlt
        have d0 := HC.out _ _ c0
        have d1 := HC.out _ _ c1
        have d2 := HC.out _ _ c2
        have d3 := HC.out _ _ c3
        have e0 := HC'.out _ _ c0
        have e1 := HC'.out _ _ c1
        have e2 := HC'.out _ _ c2
        have e3 := HC'.out _ _ c3
        haveI := in_of_cell d0
        haveI := in_of_cell e0
        have k0 : (0 : Int) ≤ (k : Int) := Int.natCast_nonneg _
        have k1 : (k : Int) < (l.length : Int) := by omega
        clear c0 c1 c2 c3
        generalize l[k].1 = a at *
        generalize l[k].2.1 = b at *
        generalize l[k].2.2.1 = c at *
        generalize l[k].2.2.2 = e at *
        go_wp2_with fail
        first | (with_reducible refine wp_region_ext_on ?_ ?_ ?_) | refine wp_region_ext ?_ ?_ ?_
        · kernel_rfl
        · kernel_rfl
        repeat (go_big_quiet_step (first | fail))
        refine wpQuiet_nil ?_
        rintro _ ⟨t, rfl⟩
        go_wp2_with fail
        go_roundw
        case rel => exact ⟨k + 1, by omega, by go_num, grown_of⟩
        case measure => simp [intOf]; omega
      · go_wp2_with fail
        go_ret
        exact ⟨rfl, grown_of⟩
  · obtain rfl : l = [] := List.eq_nil_of_length_eq_zero (by omega)
    obtain ⟨o1, c1, rfl⟩ := owns_form hs
    obtain ⟨o2, c2, rfl⟩ := owns_form ht
    clear hs ht hcs
    go_enter Try.func20, Try.ntmps20
    go_wp2_with fail
    refine wp_loop_rounds 1 ?_
    rw [rounds_succ]
    go_wp2_with fail
    go_ret
    exact ⟨rfl, grown_of⟩

theorem near18_any (x y z : Int) (w : World) (hx : Fit x) (hy : Fit y) (hz : Fit z) :
    Calls Try.prog 12 #[.agg #[.int .i64 x, .int .i64 y, .int .i64 z]] w fun e w' => e = .returned (.agg #[.int .i64 (arS x 8 - 1), .int .i64 (arS y 8 - 1), .int .i64 (arS z 8 - 1)]) ∧ ∃ f, w' = ext w f := by
  obtain ⟨a1, a2⟩ := arS_bd (n := x) (m := 8) (by omega)
  obtain ⟨b1, b2⟩ := arS_bd (n := y) (m := 8) (by omega)
  obtain ⟨c1, c2⟩ := arS_bd (n := z) (m := 8) (by omega)
  go_enter Try.func12, Try.ntmps12
  go_wp2_with fail
  first | (with_reducible refine wp_region_ext_tail_on 13 ?_ ?_ ?_) | refine wp_region_ext_tail 13 ?_ ?_ ?_
  · kernel_rfl
  · kernel_rfl
  simp only [List.take_succ_cons, List.take_zero, List.drop_succ_cons, List.drop_zero]
  repeat (go_big_quiet_step (first | (go_at_call 30; exact ext_same (around_fit _ _ _ (by assumption) (by omega) (by omega)))))
  refine wpQuiet_nil ?_
  rintro _ ⟨t, rfl⟩
  go_wp2
  go_returns
  exact ⟨rfl, grown_of⟩
theorem near_mid {x : Int} : Mid (arS x 8 - 1) := by have := arS_bd (n := x) (m := 8) (by omega); exact ⟨by omega, by omega⟩
end Go.Proofs.Ytjejobfhddlmeaa
