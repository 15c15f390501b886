/-
  Blocks' names.
-/
import Derived.Test.YtnogfelfgclajaaGreatDoorMb04
import Derived.Test.YtnogfelfgclajaaGreatDoorMb01
section
namespace Go.Proofs.YtnogfelfgclajaaGreatDoor
open Go.RowKit
attribute [local go_sem] ext_ext drew_ext ext_drew ext_cell ext_frozen in_lt in_le in_ne in_en in_ne1 in_en1 in_le1 in_ltn in_len in_nen in_enn size_le ite_max ite_min
set_option linter.unusedVariables false
set_option linter.unusedSimpArgs false

/-- The names; of the waters' the first k. -/
def nmK (k : Nat) : Array Value := match k with
  | 0 => #[.string ⟨#[97, 105, 114]⟩, .string ⟨#[115, 116, 111, 110, 101]⟩, .string ⟨#[100, 105, 114, 116]⟩, .string ⟨#[115, 97, 110, 100]⟩, .string ⟨#[108, 97, 100, 100, 101, 114]⟩, .string ⟨#[103, 108, 97, 115, 115]⟩, .string ⟨#[]⟩, .string ⟨#[]⟩, .string ⟨#[]⟩, .string ⟨#[]⟩, .string ⟨#[]⟩, .string ⟨#[]⟩, .string ⟨#[]⟩, .string ⟨#[]⟩, .string ⟨#[]⟩, .string ⟨#[]⟩]
  | 1 => #[.string ⟨#[97, 105, 114]⟩, .string ⟨#[115, 116, 111, 110, 101]⟩, .string ⟨#[100, 105, 114, 116]⟩, .string ⟨#[115, 97, 110, 100]⟩, .string ⟨#[108, 97, 100, 100, 101, 114]⟩, .string ⟨#[103, 108, 97, 115, 115]⟩, .string ⟨#[]⟩, .string ⟨#[]⟩, .string ⟨#[119, 97, 116, 101, 114, 48]⟩, .string ⟨#[]⟩, .string ⟨#[]⟩, .string ⟨#[]⟩, .string ⟨#[]⟩, .string ⟨#[]⟩, .string ⟨#[]⟩, .string ⟨#[]⟩]
  | 2 => #[.string ⟨#[97, 105, 114]⟩, .string ⟨#[115, 116, 111, 110, 101]⟩, .string ⟨#[100, 105, 114, 116]⟩, .string ⟨#[115, 97, 110, 100]⟩, .string ⟨#[108, 97, 100, 100, 101, 114]⟩, .string ⟨#[103, 108, 97, 115, 115]⟩, .string ⟨#[]⟩, .string ⟨#[]⟩, .string ⟨#[119, 97, 116, 101, 114, 48]⟩, .string ⟨#[119, 97, 116, 101, 114, 49]⟩, .string ⟨#[]⟩, .string ⟨#[]⟩, .string ⟨#[]⟩, .string ⟨#[]⟩, .string ⟨#[]⟩, .string ⟨#[]⟩]
  | 3 => #[.string ⟨#[97, 105, 114]⟩, .string ⟨#[115, 116, 111, 110, 101]⟩, .string ⟨#[100, 105, 114, 116]⟩, .string ⟨#[115, 97, 110, 100]⟩, .string ⟨#[108, 97, 100, 100, 101, 114]⟩, .string ⟨#[103, 108, 97, 115, 115]⟩, .string ⟨#[]⟩, .string ⟨#[]⟩, .string ⟨#[119, 97, 116, 101, 114, 48]⟩, .string ⟨#[119, 97, 116, 101, 114, 49]⟩, .string ⟨#[119, 97, 116, 101, 114, 50]⟩, .string ⟨#[]⟩, .string ⟨#[]⟩, .string ⟨#[]⟩, .string ⟨#[]⟩, .string ⟨#[]⟩]
  | 4 => #[.string ⟨#[97, 105, 114]⟩, .string ⟨#[115, 116, 111, 110, 101]⟩, .string ⟨#[100, 105, 114, 116]⟩, .string ⟨#[115, 97, 110, 100]⟩, .string ⟨#[108, 97, 100, 100, 101, 114]⟩, .string ⟨#[103, 108, 97, 115, 115]⟩, .string ⟨#[]⟩, .string ⟨#[]⟩, .string ⟨#[119, 97, 116, 101, 114, 48]⟩, .string ⟨#[119, 97, 116, 101, 114, 49]⟩, .string ⟨#[119, 97, 116, 101, 114, 50]⟩, .string ⟨#[119, 97, 116, 101, 114, 51]⟩, .string ⟨#[]⟩, .string ⟨#[]⟩, .string ⟨#[]⟩, .string ⟨#[]⟩]
  | 5 => #[.string ⟨#[97, 105, 114]⟩, .string ⟨#[115, 116, 111, 110, 101]⟩, .string ⟨#[100, 105, 114, 116]⟩, .string ⟨#[115, 97, 110, 100]⟩, .string ⟨#[108, 97, 100, 100, 101, 114]⟩, .string ⟨#[103, 108, 97, 115, 115]⟩, .string ⟨#[]⟩, .string ⟨#[]⟩, .string ⟨#[119, 97, 116, 101, 114, 48]⟩, .string ⟨#[119, 97, 116, 101, 114, 49]⟩, .string ⟨#[119, 97, 116, 101, 114, 50]⟩, .string ⟨#[119, 97, 116, 101, 114, 51]⟩, .string ⟨#[119, 97, 116, 101, 114, 52]⟩, .string ⟨#[]⟩, .string ⟨#[]⟩, .string ⟨#[]⟩]
  | 6 => #[.string ⟨#[97, 105, 114]⟩, .string ⟨#[115, 116, 111, 110, 101]⟩, .string ⟨#[100, 105, 114, 116]⟩, .string ⟨#[115, 97, 110, 100]⟩, .string ⟨#[108, 97, 100, 100, 101, 114]⟩, .string ⟨#[103, 108, 97, 115, 115]⟩, .string ⟨#[]⟩, .string ⟨#[]⟩, .string ⟨#[119, 97, 116, 101, 114, 48]⟩, .string ⟨#[119, 97, 116, 101, 114, 49]⟩, .string ⟨#[119, 97, 116, 101, 114, 50]⟩, .string ⟨#[119, 97, 116, 101, 114, 51]⟩, .string ⟨#[119, 97, 116, 101, 114, 52]⟩, .string ⟨#[119, 97, 116, 101, 114, 53]⟩, .string ⟨#[]⟩, .string ⟨#[]⟩]
  | 7 => #[.string ⟨#[97, 105, 114]⟩, .string ⟨#[115, 116, 111, 110, 101]⟩, .string ⟨#[100, 105, 114, 116]⟩, .string ⟨#[115, 97, 110, 100]⟩, .string ⟨#[108, 97, 100, 100, 101, 114]⟩, .string ⟨#[103, 108, 97, 115, 115]⟩, .string ⟨#[]⟩, .string ⟨#[]⟩, .string ⟨#[119, 97, 116, 101, 114, 48]⟩, .string ⟨#[119, 97, 116, 101, 114, 49]⟩, .string ⟨#[119, 97, 116, 101, 114, 50]⟩, .string ⟨#[119, 97, 116, 101, 114, 51]⟩, .string ⟨#[119, 97, 116, 101, 114, 52]⟩, .string ⟨#[119, 97, 116, 101, 114, 53]⟩, .string ⟨#[119, 97, 116, 101, 114, 54]⟩, .string ⟨#[]⟩]
  | _ => #[.string ⟨#[97, 105, 114]⟩, .string ⟨#[115, 116, 111, 110, 101]⟩, .string ⟨#[100, 105, 114, 116]⟩, .string ⟨#[115, 97, 110, 100]⟩, .string ⟨#[108, 97, 100, 100, 101, 114]⟩, .string ⟨#[103, 108, 97, 115, 115]⟩, .string ⟨#[]⟩, .string ⟨#[]⟩, .string ⟨#[119, 97, 116, 101, 114, 48]⟩, .string ⟨#[119, 97, 116, 101, 114, 49]⟩, .string ⟨#[119, 97, 116, 101, 114, 50]⟩, .string ⟨#[119, 97, 116, 101, 114, 51]⟩, .string ⟨#[119, 97, 116, 101, 114, 52]⟩, .string ⟨#[119, 97, 116, 101, 114, 53]⟩, .string ⟨#[119, 97, 116, 101, 114, 54]⟩, .string ⟨#[119, 97, 116, 101, 114, 55]⟩]
theorem nmK0 : nmK 0 = #[.string ⟨#[97, 105, 114]⟩, .string ⟨#[115, 116, 111, 110, 101]⟩, .string ⟨#[100, 105, 114, 116]⟩, .string ⟨#[115, 97, 110, 100]⟩, .string ⟨#[108, 97, 100, 100, 101, 114]⟩, .string ⟨#[103, 108, 97, 115, 115]⟩, .string ⟨#[]⟩, .string ⟨#[]⟩, .string ⟨#[]⟩, .string ⟨#[]⟩, .string ⟨#[]⟩, .string ⟨#[]⟩, .string ⟨#[]⟩, .string ⟨#[]⟩, .string ⟨#[]⟩, .string ⟨#[]⟩] := rfl
theorem nmK1 : nmK 1 = #[.string ⟨#[97, 105, 114]⟩, .string ⟨#[115, 116, 111, 110, 101]⟩, .string ⟨#[100, 105, 114, 116]⟩, .string ⟨#[115, 97, 110, 100]⟩, .string ⟨#[108, 97, 100, 100, 101, 114]⟩, .string ⟨#[103, 108, 97, 115, 115]⟩, .string ⟨#[]⟩, .string ⟨#[]⟩, .string ⟨#[119, 97, 116, 101, 114, 48]⟩, .string ⟨#[]⟩, .string ⟨#[]⟩, .string ⟨#[]⟩, .string ⟨#[]⟩, .string ⟨#[]⟩, .string ⟨#[]⟩, .string ⟨#[]⟩] := rfl
theorem nmK2 : nmK 2 = #[.string ⟨#[97, 105, 114]⟩, .string ⟨#[115, 116, 111, 110, 101]⟩, .string ⟨#[100, 105, 114, 116]⟩, .string ⟨#[115, 97, 110, 100]⟩, .string ⟨#[108, 97, 100, 100, 101, 114]⟩, .string ⟨#[103, 108, 97, 115, 115]⟩, .string ⟨#[]⟩, .string ⟨#[]⟩, .string ⟨#[119, 97, 116, 101, 114, 48]⟩, .string ⟨#[119, 97, 116, 101, 114, 49]⟩, .string ⟨#[]⟩, .string ⟨#[]⟩, .string ⟨#[]⟩, .string ⟨#[]⟩, .string ⟨#[]⟩, .string ⟨#[]⟩] := rfl
theorem nmK3 : nmK 3 = #[.string ⟨#[97, 105, 114]⟩, .string ⟨#[115, 116, 111, 110, 101]⟩, .string ⟨#[100, 105, 114, 116]⟩, .string ⟨#[115, 97, 110, 100]⟩, .string ⟨#[108, 97, 100, 100, 101, 114]⟩, .string ⟨#[103, 108, 97, 115, 115]⟩, .string ⟨#[]⟩, .string ⟨#[]⟩, .string ⟨#[119, 97, 116, 101, 114, 48]⟩, .string ⟨#[119, 97, 116, 101, 114, 49]⟩, .string ⟨#[119, 97, 116, 101, 114, 50]⟩, .string ⟨#[]⟩, .string ⟨#[]⟩, .string ⟨#[]⟩, .string ⟨#[]⟩, .string ⟨#[]⟩] := rfl
theorem nmK4 : nmK 4 = #[.string ⟨#[97, 105, 114]⟩, .string ⟨#[115, 116, 111, 110, 101]⟩, .string ⟨#[100, 105, 114, 116]⟩, .string ⟨#[115, 97, 110, 100]⟩, .string ⟨#[108, 97, 100, 100, 101, 114]⟩, .string ⟨#[103, 108, 97, 115, 115]⟩, .string ⟨#[]⟩, .string ⟨#[]⟩, .string ⟨#[119, 97, 116, 101, 114, 48]⟩, .string ⟨#[119, 97, 116, 101, 114, 49]⟩, .string ⟨#[119, 97, 116, 101, 114, 50]⟩, .string ⟨#[119, 97, 116, 101, 114, 51]⟩, .string ⟨#[]⟩, .string ⟨#[]⟩, .string ⟨#[]⟩, .string ⟨#[]⟩] := rfl
theorem nmK5 : nmK 5 = #[.string ⟨#[97, 105, 114]⟩, .string ⟨#[115, 116, 111, 110, 101]⟩, .string ⟨#[100, 105, 114, 116]⟩, .string ⟨#[115, 97, 110, 100]⟩, .string ⟨#[108, 97, 100, 100, 101, 114]⟩, .string ⟨#[103, 108, 97, 115, 115]⟩, .string ⟨#[]⟩, .string ⟨#[]⟩, .string ⟨#[119, 97, 116, 101, 114, 48]⟩, .string ⟨#[119, 97, 116, 101, 114, 49]⟩, .string ⟨#[119, 97, 116, 101, 114, 50]⟩, .string ⟨#[119, 97, 116, 101, 114, 51]⟩, .string ⟨#[119, 97, 116, 101, 114, 52]⟩, .string ⟨#[]⟩, .string ⟨#[]⟩, .string ⟨#[]⟩] := rfl
theorem nmK6 : nmK 6 = #[.string ⟨#[97, 105, 114]⟩, .string ⟨#[115, 116, 111, 110, 101]⟩, .string ⟨#[100, 105, 114, 116]⟩, .string ⟨#[115, 97, 110, 100]⟩, .string ⟨#[108, 97, 100, 100, 101, 114]⟩, .string ⟨#[103, 108, 97, 115, 115]⟩, .string ⟨#[]⟩, .string ⟨#[]⟩, .string ⟨#[119, 97, 116, 101, 114, 48]⟩, .string ⟨#[119, 97, 116, 101, 114, 49]⟩, .string ⟨#[119, 97, 116, 101, 114, 50]⟩, .string ⟨#[119, 97, 116, 101, 114, 51]⟩, .string ⟨#[119, 97, 116, 101, 114, 52]⟩, .string ⟨#[119, 97, 116, 101, 114, 53]⟩, .string ⟨#[]⟩, .string ⟨#[]⟩] := rfl
theorem nmK7 : nmK 7 = #[.string ⟨#[97, 105, 114]⟩, .string ⟨#[115, 116, 111, 110, 101]⟩, .string ⟨#[100, 105, 114, 116]⟩, .string ⟨#[115, 97, 110, 100]⟩, .string ⟨#[108, 97, 100, 100, 101, 114]⟩, .string ⟨#[103, 108, 97, 115, 115]⟩, .string ⟨#[]⟩, .string ⟨#[]⟩, .string ⟨#[119, 97, 116, 101, 114, 48]⟩, .string ⟨#[119, 97, 116, 101, 114, 49]⟩, .string ⟨#[119, 97, 116, 101, 114, 50]⟩, .string ⟨#[119, 97, 116, 101, 114, 51]⟩, .string ⟨#[119, 97, 116, 101, 114, 52]⟩, .string ⟨#[119, 97, 116, 101, 114, 53]⟩, .string ⟨#[119, 97, 116, 101, 114, 54]⟩, .string ⟨#[]⟩] := rfl
theorem nmK8 : nmK 8 = #[.string ⟨#[97, 105, 114]⟩, .string ⟨#[115, 116, 111, 110, 101]⟩, .string ⟨#[100, 105, 114, 116]⟩, .string ⟨#[115, 97, 110, 100]⟩, .string ⟨#[108, 97, 100, 100, 101, 114]⟩, .string ⟨#[103, 108, 97, 115, 115]⟩, .string ⟨#[]⟩, .string ⟨#[]⟩, .string ⟨#[119, 97, 116, 101, 114, 48]⟩, .string ⟨#[119, 97, 116, 101, 114, 49]⟩, .string ⟨#[119, 97, 116, 101, 114, 50]⟩, .string ⟨#[119, 97, 116, 101, 114, 51]⟩, .string ⟨#[119, 97, 116, 101, 114, 52]⟩, .string ⟨#[119, 97, 116, 101, 114, 53]⟩, .string ⟨#[119, 97, 116, 101, 114, 54]⟩, .string ⟨#[119, 97, 116, 101, 114, 55]⟩] := rfl
def nmZ : Array Value := #[.string ⟨#[]⟩, .string ⟨#[]⟩, .string ⟨#[]⟩, .string ⟨#[]⟩, .string ⟨#[]⟩, .string ⟨#[]⟩, .string ⟨#[]⟩, .string ⟨#[]⟩, .string ⟨#[]⟩, .string ⟨#[]⟩, .string ⟨#[]⟩, .string ⟨#[]⟩, .string ⟨#[]⟩, .string ⟨#[]⟩, .string ⟨#[]⟩, .string ⟨#[]⟩]

set_option maxRecDepth 100000 in
set_option maxHeartbeats 2000000 in
theorem names_any (w : World) : Calls Tryz.prog 162 #[] w fun e w' => e = .returned (.agg (nmK 8)) ∧ ∃ f, w' = ext w f := by
  go_enter Tryz.func162, Tryz.ntmps162
  go_wp2_with fail
  go_loopw [4] (fun i wr => ∃ k : Nat, k ≤ 8 ∧ i = .int .i64 k ∧ wr = (w.alloc (.cells (nmZ) 222)).alloc (.cells (nmK k) 222)) (fun i _ => 8 - (intOf i).toNat)
  case atStart => exact ⟨0, by omega, rfl, rfl⟩
  case round =>
    obtain ⟨k, hk, rfl, rfl⟩ := hrel
    have key : ∀ k : Nat, k < 8 → ∀ W : World, Calls Tryz.prog 132 #[.int .i64 (k : Int)] W fun e w' => e = .returned (.string ⟨#[48 + k.toUInt8]⟩) ∧ W = w' := fun k hk W => itoa_d k (by omega) W
    obtain rfl | rfl | rfl | rfl | rfl | rfl | rfl | rfl | rfl : k = 0 ∨ k = 1 ∨ k = 2 ∨ k = 3 ∨ k = 4 ∨ k = 5 ∨ k = 6 ∨ k = 7 ∨ k = 8 := by omega
    · have HI := key 0 (by omega)
      clear key hk
      simp only [nmK0]
      go_wp2_with (go_at_call 132; refine (HI _).mono ?_; rintro e w1 ⟨rfl, rfl⟩)
      go_roundw
      case rel => exact ⟨1, by omega, rfl, rfl⟩
      case measure => simp [intOf]
    · have HI := key 1 (by omega)
      clear key hk
      simp only [nmK1]
      go_wp2_with (go_at_call 132; refine (HI _).mono ?_; rintro e w1 ⟨rfl, rfl⟩)
      go_roundw
      case rel => exact ⟨2, by omega, rfl, rfl⟩
      case measure => simp [intOf]
    · have HI := key 2 (by omega)
      clear key hk
      simp only [nmK2]
      go_wp2_with (go_at_call 132; refine (HI _).mono ?_; rintro e w1 ⟨rfl, rfl⟩)
      go_roundw
      case rel => exact ⟨3, by omega, rfl, rfl⟩
      case measure => simp [intOf]
    · have HI := key 3 (by omega)
      clear key hk
      simp only [nmK3]
      go_wp2_with (go_at_call 132; refine (HI _).mono ?_; rintro e w1 ⟨rfl, rfl⟩)
      go_roundw
      case rel => exact ⟨4, by omega, rfl, rfl⟩
      case measure => simp [intOf]
    · have HI := key 4 (by omega)
      clear key hk
      simp only [nmK4]
      go_wp2_with (go_at_call 132; refine (HI _).mono ?_; rintro e w1 ⟨rfl, rfl⟩)
      go_roundw
      case rel => exact ⟨5, by omega, rfl, rfl⟩
      case measure => simp [intOf]
    · have HI := key 5 (by omega)
      clear key hk
      simp only [nmK5]
      go_wp2_with (go_at_call 132; refine (HI _).mono ?_; rintro e w1 ⟨rfl, rfl⟩)
      go_roundw
      case rel => exact ⟨6, by omega, rfl, rfl⟩
      case measure => simp [intOf]
    · have HI := key 6 (by omega)
      clear key hk
      simp only [nmK6]
      go_wp2_with (go_at_call 132; refine (HI _).mono ?_; rintro e w1 ⟨rfl, rfl⟩)
      go_roundw
      case rel => exact ⟨7, by omega, rfl, rfl⟩
      case measure => simp [intOf]
    · have HI := key 7 (by omega)
      clear key hk
      simp only [nmK7]
      go_wp2_with (go_at_call 132; refine (HI _).mono ?_; rintro e w1 ⟨rfl, rfl⟩)
      go_roundw
      case rel => exact ⟨8, by omega, rfl, rfl⟩
      case measure => simp [intOf]
    · simp only [nmK8, nmZ]
      go_wp2_with fail
      refine bodyPost_ret (by simp [results, Tryz.results162, go_sem]; try rfl) rfl ?_
      exact ⟨rfl, grown_of⟩
end Go.Proofs.YtnogfelfgclajaaGreatDoor
end
