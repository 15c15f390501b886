/-
  TopFlat: single steps, by texts.
-/
import Derived.Test.YtnogfelfgclajaaGreatDoorMa38
section
namespace Go.Proofs.YtnogfelfgclajaaGreatDoor
open Go.RowKit
attribute [local go_sem] ext_ext drew_ext ext_drew ext_cell ext_frozen in_lt in_le in_ne in_en in_ne1 in_en1 in_le1 in_ltn in_len in_nen in_enn size_le ite_max ite_min
set_option linter.unusedVariables false
set_option linter.unusedSimpArgs false
set_option maxRecDepth 1000000

theorem small_num {n : Int} (h : Num n) : Small17 n := small17 (by have := h.lo; omega) (by have := h.hi; omega)
theorem decs_two (x z : Int) : decs [x, z] = [decI 16 x, decI 16 z] := rfl
theorem decs_three (x y z : Int) : decs [x, y, z] = [decI 16 x, decI 16 y, decI 16 z] := rfl
theorem txt_load (x z : Int) : (⟨#[108, 111, 97, 100, 32]⟩ : ByteArray) ++ bs (joinW (decs [x, z])) = bs (joinW [[108, 111, 97, 100], decI 16 x, decI 16 z]) := bs_append [108, 111, 97, 100, 32] _
theorem txt_unload (x z : Int) : (⟨#[117, 110, 108, 111, 97, 100, 32]⟩ : ByteArray) ++ bs (joinW (decs [x, z])) = bs (joinW [[117, 110, 108, 111, 97, 100], decI 16 x, decI 16 z]) := bs_append [117, 110, 108, 111, 97, 100, 32] _
theorem txt_flush (x z : Int) : (⟨#[102, 108, 117, 115, 104, 32]⟩ : ByteArray) ++ bs (joinW (decs [x, z])) = bs (joinW [[102, 108, 117, 115, 104], decI 16 x, decI 16 z]) := bs_append [102, 108, 117, 115, 104, 32] _
theorem txt_flushall : (⟨#[102, 108, 117, 115, 104, 97, 108, 108]⟩ : ByteArray) = bs (joinW [[102, 108, 117, 115, 104, 97, 108, 108]]) := rfl
theorem txt_at (x y z : Int) : (⟨#[97, 116, 32]⟩ : ByteArray) ++ bs (joinW (decs [x, y, z])) = bs (joinW [[97, 116], decI 16 x, decI 16 y, decI 16 z]) := bs_append [97, 116, 32] _
theorem bs_lit (a : List UInt8) : (⟨a.toArray⟩ : ByteArray) = bs a := rfl
theorem txt_edit (x y z b : Int) : ((⟨#[101, 100, 105, 116, 32]⟩ : ByteArray) ++ bs (joinW (decs [x, y, z]))) ++ (⟨#[32]⟩ : ByteArray) ++ nmB b = bs (joinW [[101, 100, 105, 116], decI 16 x, decI 16 y, decI 16 z, nmL b]) := by
  rw [← nmL_bs b, show (⟨#[101, 100, 105, 116, 32]⟩ : ByteArray) = bs [101, 100, 105, 116, 32] from rfl, show (⟨#[32]⟩ : ByteArray) = bs [32] from rfl, bs_append, bs_append, bs_append, decs_three]
  simp [joinW]
theorem txt_world (s l : Int) : (((⟨#[119, 111, 114, 108, 100, 32]⟩ : ByteArray) ++ bs (decI 16 s)) ++ (⟨#[32]⟩ : ByteArray)) ++ bs (decI 16 l) ++ (⟨#[32, 49]⟩ : ByteArray) = bs (joinW [[119, 111, 114, 108, 100], decI 16 s, decI 16 l, decI 16 1]) := by
  rw [show (⟨#[119, 111, 114, 108, 100, 32]⟩ : ByteArray) = bs [119, 111, 114, 108, 100, 32] from rfl, show (⟨#[32]⟩ : ByteArray) = bs [32] from rfl, show (⟨#[32, 49]⟩ : ByteArray) = bs [32, 49] from rfl, bs_append, bs_append, bs_append, bs_append]
  have : decI 16 1 = [49] := by kernel_rfl
  rw [this]
  simp [joinW]
theorem neq_self (s : ByteArray) (w : World) : (binOp .neq 9 (.string s) (.string s)).run Tryz.prog w = .ok (.bool false) w := by
  simp [go_sem]
#print axioms txt_edit
end Go.Proofs.YtnogfelfgclajaaGreatDoor
end
