/-
  The document's example: it lives.
-/
import Derived.Test.YtjejobfhddlmeaaSameCh
import Derived.Test.YtjejobfhddlmeaaUpd
namespace Go.Proofs.Ytjejobfhddlmeaa
open Go.RowKit
attribute [local go_sem] ext_ext drew_ext ext_drew ext_cell ext_frozen in_lt in_le in_ne in_en in_ne1 in_en1 in_le1 in_ltn in_len in_nen in_enn size_le ite_max ite_min
set_option linter.unusedVariables false
set_option linter.unusedSimpArgs false

theorem alive_next : nextS (layS (atS (List.replicate 37 0) 0) [(0, 1, 0, 3)]) 0 1 0 = [(0, 1, 0, 0), (0, 0, 0, 3)] := by decide +kernel
theorem func_nil (f : FuncId) (caps : Array Value) (W : World) : (binOp .eql 31 (.func (.func f) #[] caps) .nilFunc).run Try.prog W = .ok (.bool false) W := by kernel_rfl
theorem mid0 : Mid 0 := ⟨by omega, by omega⟩
theorem mid1 : Mid 1 := ⟨by omega, by omega⟩

set_option maxHeartbeats 2000000 in
theorem lives_any (w : World) : Calls Try.prog 16 #[] w fun e w' => e = .returned (.bool true) ∧ ∃ f, w' = ext w f := by
  have hmk : ∀ w : World, (Instr.makeSlice 22 (.int .i64 37) (.int .i64 37)).run Try.prog w = .ok (.slice (some ⟨w.heap.size, 0, none⟩) 37 37) (w.alloc (.cells (Array.replicate 37 (.int .i64 0)) 3)) := fun _ => by kernel_rfl
  go_enter Try.func16, Try.ntmps16
  go_wp2_with fail
  have hb : Blocks (w.alloc (.cells (Array.replicate 37 (.int .i64 0)) 3)) (.slice (some ⟨w.heap.size, 0, none⟩) 37 37) (List.replicate 37 0) := by
    refine ⟨?_, by simp⟩
    have h := owns_lit (w := w) (base := 0) (e := 3) (n := 37) (size := 1) (cs := Array.replicate 37 (.int .i64 0)) (by simp) (by unfold maxLen; omega) (Nat.zero_le _)
    simpa using h
  refine (view_any (List.replicate 37 0) _ 0 _ hb).mono ?_
  rintro e w1 ⟨v1, rfl, hv1, _t, hw⟩
  have hc1 := named_cell hw
  have hz1 := named_frozen hw
  have hh1 := named_heap hw
  haveI hi1 := named_in hw
  haveI hb1 := named_below (w := w) hw
  clear hw
  go_wp2_with fail
  have hl : (w1.alloc (.cells #[.int .i64 0, .int .i64 1, .int .i64 0, .int .i64 3] 36)).ownsRow 0 36 4 (.slice (some ⟨w1.heap.size, 0, none⟩) 1 1) ([(0, 1, 0, 3)] : List Ch).length (chV [(0, 1, 0, 3)]) := owns_lit (n := 1) (size := 4) rfl (by unfold maxLen; omega) (Nat.zero_le _)
  have one : ∀ c ∈ ([(0, 1, 0, 3)] : List Ch), c = (0, 1, 0, 3) := fun c hc => by simpa using hc
  have wid : Near3 [(0, 1, 0, 3)] := fun c hc => by
    rw [one c hc]
    exact ⟨mid0.wid, mid1.wid, mid0.wid⟩
  have wel : ∀ c ∈ ([(0, 1, 0, 3)] : List Ch), (Lit.int .i64 c.2.2.2).wf = true := fun c hc => by
    rw [one c hc]
    rfl
  refine (lay_any v1 _ [(0, 1, 0, 3)] _ 0 _ wid wel (hv1.grow (by exact grown_of)) (by simp) hl).mono ?_
  rintro e w2 ⟨v2, rfl, hv2, _t, hw⟩
  have hc2 := named_cell hw
  have hz2 := named_frozen hw
  have hh2 := named_heap hw
  haveI hi2 := named_in hw
  haveI hb2 := named_below (w := w) hw
  clear hw
  have NX := fun (w : World) (h : ViewVal Try.prog v2 (layS (atS (List.replicate 37 0) 0) [(0, 1, 0, 3)]) w) => next_any v2 _ 0 1 0 w h mid0 mid1 mid0
  rw [alive_next] at NX
  have HV2 := Lib.hid hv2
  obtain ⟨f2, caps2, rfl, _⟩ := hv2
  have hne : ∀ W : World, (binOp .eql 31 (.func (.func f2) #[] caps2) .nilFunc).run Try.prog W = .ok (.bool false) W := fun W => func_nil f2 caps2 W
  clear hl wid hb one wel
  go_wp2_with fail
  refine (NX _ HV2.out).mono ?_
  rintro e w3 ⟨v3, rfl, ho3, _t, hw⟩
  have hc3 := named_cell hw
  have hz3 := named_frozen hw
  have hh3 := named_heap hw
  haveI hi3 := named_in hw
  haveI hb3 := named_below (w := w) hw
  clear hw
  go_wp2_with fail
  have hl2 : (w3.alloc (.cells #[.int .i64 0, .int .i64 1, .int .i64 0, .int .i64 0, .int .i64 0, .int .i64 0, .int .i64 0, .int .i64 3] 36)).ownsRow 0 36 4 (.slice (some ⟨w3.heap.size, 0, none⟩) 2 2) ([(0, 1, 0, 0), (0, 0, 0, 3)] : List Ch).length (chV [(0, 1, 0, 0), (0, 0, 0, 3)]) := owns_lit (n := 2) (size := 4) rfl (by unfold maxLen; omega) (Nat.zero_le _)
  refine (same_any [(0, 1, 0, 0), (0, 0, 0, 3)] _ _ _ _ _ (owns_grown ho3 (by exact grown_of)) hl2 (by simp)).mono ?_
  rintro e w4 ⟨rfl, _t, hw⟩
  have hc4 := named_cell hw
  have hz4 := named_frozen hw
  have hh4 := named_heap hw
  haveI hi4 := named_in hw
  haveI hb4 := named_below (w := w) hw
  clear hw
  go_wp2_with fail
  go_ret
  exact ⟨rfl, grown_of⟩
end Go.Proofs.Ytjejobfhddlmeaa
