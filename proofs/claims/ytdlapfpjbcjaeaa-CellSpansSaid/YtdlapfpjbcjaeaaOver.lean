/-
  Two boxes that overlap.
-/
import Derived.Test.YtdlapfpjbcjaeaaExt
import Derived.Test.YtdlapfpjbcjaeaaProg
import Derived.Handy
import Derived.Deep.CutRange
namespace Go.Proofs.Ytdlapfpjbcjaeaa
open Go.RowKit
attribute [local go_sem] ext_ext drew_ext ext_drew ext_cell ext_frozen in_lt in_le in_ne in_en in_ne1 in_en1 in_le1 in_ltn in_len in_nen in_enn size_le ite_max ite_min
set_option linter.unusedVariables false
set_option linter.unusedSimpArgs false

/-- Two sides overlap: from a to b, from c to d. -/
def ovS (a b c d : Int) : Bool := decide (a < d ∧ c < b)
theorem ovS_tt {a b c d : Int} (h1 : a < d) (h2 : c < b) : ovS a b c d = true := by simp [ovS, h1, h2]
theorem ovS_f {a b c d : Int} (h1 : ¬ a < d) : ovS a b c d = false := by simp [ovS, h1]
theorem ovS_tf {a b c d : Int} (h2 : ¬ c < b) : ovS a b c d = false := by simp [ovS, h2]
theorem ret_b {a b : Bool} (h : a = b) : Value.bool a = Value.bool b := by rw [h]

set_option maxHeartbeats 2000000 in
theorem over_any (a b c d e f p q r s t u : Int) (w : World) :
    Calls Try.prog 42 #[.agg #[.int .i64 a, .int .i64 b, .int .i64 c, .int .i64 d, .int .i64 e, .int .i64 f], .agg #[.int .i64 p, .int .i64 q, .int .i64 r, .int .i64 s, .int .i64 t, .int .i64 u]] w fun o w' =>
      o = .returned (.bool (ovS a d p s && ovS b e q t && ovS c f r u)) ∧ ∃ f, w' = ext w f := by
  go_enter Try.func42, Try.ntmps42
  go_upto_region 1 with fail
  go_cut [5] from 8 to 23 (fun v wx => v = .bool (ovS a d p s) ∧ wx = (w.alloc (.cells #[.int .i64 a, .int .i64 b, .int .i64 c, .int .i64 d, .int .i64 e, .int .i64 f] 47)).alloc (.cells #[.int .i64 p, .int .i64 q, .int .i64 r, .int .i64 s, .int .i64 t, .int .i64 u] 47))
  case first =>
    by_cases h1 : a < s
    · by_cases h2 : p < d
      · have H := Lib.hid (ovS_tt h1 h2)
        go_wp2
        go_meet
        exact ⟨ret_b H.out.symm, rfl⟩
      · have H := Lib.hid (ovS_tf (a := a) (d := s) h2)
        go_wp2
        go_meet
        exact ⟨ret_b H.out.symm, rfl⟩
    · have H := Lib.hid (ovS_f (b := d) (c := p) h1)
      go_wp2
      go_meet
      exact ⟨ret_b H.out.symm, rfl⟩
  obtain ⟨rfl, rfl⟩ := hcut
  go_upto_region 2 with fail
  go_cut [6] from 24 to 39 (fun v wx => v = .bool (ovS b e q t) ∧ wx = (w.alloc (.cells #[.int .i64 a, .int .i64 b, .int .i64 c, .int .i64 d, .int .i64 e, .int .i64 f] 47)).alloc (.cells #[.int .i64 p, .int .i64 q, .int .i64 r, .int .i64 s, .int .i64 t, .int .i64 u] 47))
  case first =>
    by_cases h1 : b < t
    · by_cases h2 : q < e
      · have H := Lib.hid (ovS_tt h1 h2)
        go_wp2
        go_meet
        exact ⟨ret_b H.out.symm, rfl⟩
      · have H := Lib.hid (ovS_tf (a := b) (d := t) h2)
        go_wp2
        go_meet
        exact ⟨ret_b H.out.symm, rfl⟩
    · have H := Lib.hid (ovS_f (b := e) (c := q) h1)
      go_wp2
      go_meet
      exact ⟨ret_b H.out.symm, rfl⟩
  obtain ⟨rfl, rfl⟩ := hcut
  go_upto_region 3 with fail
  go_cut [7] from 40 to 55 (fun v wx => v = .bool (ovS c f r u) ∧ wx = (w.alloc (.cells #[.int .i64 a, .int .i64 b, .int .i64 c, .int .i64 d, .int .i64 e, .int .i64 f] 47)).alloc (.cells #[.int .i64 p, .int .i64 q, .int .i64 r, .int .i64 s, .int .i64 t, .int .i64 u] 47))
  case first =>
    by_cases h1 : c < u
    · by_cases h2 : r < f
      · have H := Lib.hid (ovS_tt h1 h2)
        go_wp2
        go_meet
        exact ⟨ret_b H.out.symm, rfl⟩
      · have H := Lib.hid (ovS_tf (a := c) (d := u) h2)
        go_wp2
        go_meet
        exact ⟨ret_b H.out.symm, rfl⟩
    · have H := Lib.hid (ovS_f (b := f) (c := r) h1)
      go_wp2
      go_meet
      exact ⟨ret_b H.out.symm, rfl⟩
  obtain ⟨rfl, rfl⟩ := hcut
  obtain ⟨x, hx⟩ : ∃ x, ovS a d p s = x := ⟨_, rfl⟩
  obtain ⟨y, hy⟩ : ∃ y, ovS b e q t = y := ⟨_, rfl⟩
  obtain ⟨z, hz⟩ : ∃ z, ovS c f r u = z := ⟨_, rfl⟩
  rw [hx, hy, hz]
  have HX := Lib.hid hx
  have HY := Lib.hid hy
  have HZ := Lib.hid hz
  clear hx hy hz
  rcases x with _ | _ <;> rcases y with _ | _ <;> rcases z with _ | _
  all_goals
    go_wp2
    go_ret
    exact ⟨ret_bool (by rw [HX.out, HY.out, HZ.out]; rfl), grown_of⟩
end Go.Proofs.Ytdlapfpjbcjaeaa
