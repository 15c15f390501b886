/-
  A cell's six neighbours, as the Go function lays them down.
-/
import Derived.Test.YtjejobfhddlmeaaNearA
namespace Go.Proofs.Ytjejobfhddlmeaa
open Go.RowKit
attribute [local go_sem] ext_ext drew_ext ext_drew ext_cell ext_frozen in_lt in_le in_ne in_en in_ne1 in_en1 in_le1 in_ltn in_len in_nen in_enn size_le ite_max ite_min
set_option linter.unusedVariables false
set_option linter.unusedSimpArgs false
attribute [local go_sem] cutS_fold cutS_cutS

theorem near_size : (Try.prog.info? 59).map (·.size) = some 18 := by kernel_rfl

theorem near_one (x y z : Int) : (nearS x y z).all (·.oneCell') = true := by simp [nearS, Value.oneCell']

set_option maxHeartbeats 1000000 in
theorem near_any (x y z : Int) (w : World) :
    Calls Try.prog 41 #[.agg #[.int .i64 x, .int .i64 y, .int .i64 z]] w fun e w' => e = .returned (.agg (nearS x y z)) ∧ ∃ f, w' = ext w f := by
  have hmf : ∀ (fn : Fn) (first cap : Array Value) (w : World), (Instr.makeFunc fn first cap).run Try.prog w = .ok (.func fn first cap) w := fun _ _ _ _ => rfl
  go_enter Try.func41, Try.ntmps41
  go_wp2_with (first
    | (go_at_call 45; refine (near1_any _ _ _ x y z _ _ ?_ ?_ ?_ (by omega) (by omega) (by omega) (by omega) (by omega) (by omega)).mono ?_; (go_simp); (go_simp); (go_simp); rintro e w1 ⟨rfl, t1, rfl⟩)
    | (refine wpList_store_mid rfl 59 (.tmp 2) (.tmp 17) rfl (w.heap.size + 1) 0 (nearS x y z) rfl rfl (there_ext _ (there_new _ _ _ (by simp) (by simp [nearS]))) near_size (near_one x y z) ?_
       repeat go_step
       refine post_stored (nearS x y z).toList rfl Try.underlying59 rfl near_size rfl rfl (there_ext _ (there_new _ _ _ (by simp) (by simp [nearS]))) ?_
       exact ⟨rfl, grown_of⟩))
end Go.Proofs.Ytjejobfhddlmeaa
