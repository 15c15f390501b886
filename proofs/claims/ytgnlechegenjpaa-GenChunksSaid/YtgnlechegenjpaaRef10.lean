/-
  The document's hash, ground and block: what they hand back.
-/
import Derived.Test.YtgnlechegenjpaaGround
import Derived.Test.YtgnlechegenjpaaGood
import Derived.Handy
namespace Go.Proofs.Ytgnlechegenjpaa
open Go.RowKit
attribute [local go_sem] ext_ext drew_ext ext_drew ext_cell ext_frozen in_lt in_le in_ne in_en in_ne1 in_en1 in_le1 in_ltn in_len in_nen in_enn size_le ite_max ite_min
set_option linter.unusedVariables false
set_option linter.unusedSimpArgs false

theorem ret_u64 {a b : Int} (h : a = b) : Ending.returned (.int .u64 a) = .returned (.int .u64 b) := by rw [h]
theorem refhash_any (s x z : Int) (w : World) : Calls Try.prog 30 #[.int .i64 s, .int .i64 x, .int .i64 z] w fun e w' => e = .returned (.int .u64 (hashS s x z)) ∧ w = w' := by
  obtain ⟨hm1, hm2⟩ := wrap_u64_bd (IntKind.u64.wrap (IntKind.u64.wrap (IntKind.u64.wrap s * 11400714819323198485) + IntKind.u64.wrap (IntKind.u64.wrap x * 14029467366897019727)) + IntKind.u64.wrap (IntKind.u64.wrap z * 1609587929392839161))
  obtain ⟨hn1, hn2⟩ := wrap_u64_bd (bits BinOp.xor IntKind.u64 (mixS s x z) (mixS s x z / 536870912) * 13787848793156543929)
  unfold mixS at hn1 hn2
  go_enter Try.func30, Try.ntmps30
  go_wp2
  go_ret
  exact ⟨rfl, rfl⟩

/-- A block's place in a chunk. -/
def fromV (px pz i : Int) : Value := .agg #[.int .i64 (px * 16 + i % 16), .int .i64 (i / 256), .int .i64 (pz * 16 + i / 16 % 16)]
theorem from_any (px pz : Int) (i : Int) (w : World) (p1 : -134217728 ≤ px) (p2 : px ≤ 134217728) (q1 : -134217728 ≤ pz) (q2 : pz ≤ 134217728) (i1 : 0 ≤ i) (i2 : i < 8192) :
    Calls Try.prog 26 #[.agg #[.int .i64 px, .int .i64 pz], .int .i64 i] w fun e w' => e = .returned (.tuple #[.agg #[.int .i64 (px * 16 + i % 16), .int .i64 (i / 256), .int .i64 (pz * 16 + i / 16 % 16)], .bool true]) ∧ ∃ f, w' = ext w f := by
  go_enter Try.func26, Try.ntmps26
  go_wp2
  go_returns
  exact ⟨rfl, grown_of⟩
theorem reffrom_any (px pz : Int) (i : Int) (w : World) (p1 : -134217728 ≤ px) (p2 : px ≤ 134217728) (q1 : -134217728 ≤ pz) (q2 : pz ≤ 134217728) (i1 : 0 ≤ i) (i2 : i < 8192) :
    Calls Try.prog 15 #[.agg #[.int .i64 px, .int .i64 pz], .int .i64 i] w fun e w' => e = .returned (.tuple #[.agg #[.int .i64 (px * 16 + i % 16), .int .i64 (i / 256), .int .i64 (pz * 16 + i % 256 / 16)], .bool true]) ∧ ∃ f, w' = ext w f := by
  go_enter Try.func15, Try.ntmps15
  go_wp2
  go_returns
  exact ⟨rfl, grown_of⟩
theorem from_same (i : Int) : i % 256 / 16 = i / 16 % 16 := by omega

theorem ref01div_any (a b : Int) (w : World) (ha : Fit a) (hb : Fit b) (h1 : 1 ≤ b) :
    Calls Try.prog 32 #[.int .i64 a, .int .i64 b] w fun e w' => e = .returned (.int .i64 (divS a b)) ∧ w = w' := by
  have h2 : ¬ b = 0 := by omega
  have f1 := ha.1
  have f2 := ha.2
  have f3 := hb.2
  have f4 := tdiv_bd (a := a) (b := b) (by omega)
  have f5 : -9223372036854775808 ≤ a.tdiv b := by
    rcases Int.le_total 0 a with h0 | h0
    · have := f4.1 h0; omega
    · have := f4.2 h0; omega
  have f6 : a.tdiv b ≤ 9223372036854775807 := by
    rcases Int.le_total 0 a with h0 | h0
    · have := f4.1 h0; omega
    · have := f4.2 h0; omega
  have f8 : a.tdiv b * b = a - a.tmod b := by rw [tdiv_tmod, Int.mul_comm]; omega
  have f9 : -9223372036854775808 ≤ a.tdiv b * b ∧ a.tdiv b * b ≤ 9223372036854775807 := by
    rw [f8]
    rcases Int.le_total 0 a with h0 | h0
    · have := Int.tmod_nonneg b h0
      have := f4.1 h0
      have h3 : a.tdiv b * b = b * a.tdiv b := Int.mul_comm _ _
      have h5 : 0 ≤ a.tdiv b * b := Int.mul_nonneg this.1 (by omega)
      omega
    · have h4 : a.tmod b ≤ 0 := by
        obtain ⟨n, rfl⟩ : ∃ n, a = -n := ⟨-a, by omega⟩
        rw [Int.neg_tmod]
        have := Int.tmod_nonneg (a := n) b (by omega)
        omega
      have := f4.2 h0
      have h5 : a.tdiv b * b ≤ 0 := Int.mul_nonpos_of_nonpos_of_nonneg this.2 (by omega)
      omega
  obtain ⟨f10, f11⟩ := f9
  by_cases h3 : a.tmod b < 0
  · have H := Lib.hid (divS_neg (a := a) (b := b) (by omega) h3)
    have f7 := tdiv_low (a := a) (b := b) (by omega) h3
    have h9 : a < a.tdiv b * b := by omega
    clear f4 f8
    go_enter Try.func32, Try.ntmps32
    go_wp2
    go_ret
    exact ⟨ret_int H.out.symm, rfl⟩
  · have H := Lib.hid (divS_pos (a := a) (b := b) (by omega) (by omega))
    have h9 : ¬ a < a.tdiv b * b := by omega
    clear f4 f8
    go_enter Try.func32, Try.ntmps32
    go_wp2
    go_ret
    exact ⟨ret_int H.out.symm, rfl⟩

theorem ref03div_any (a b : Int) (w : World) (ha : Fit a) (hb : Fit b) :
    Calls Try.prog 31 #[.int .i64 a, .int .i64 b] w fun e w' => e = .returned (.int .i64 (divS a b)) ∧ w = w' := by
  by_cases h1 : b < 1
  · have H := Lib.hid (divS_low (a := a) h1)
    go_enter Try.func31, Try.ntmps31
    go_wp2
    go_ret
    exact ⟨ret_int H.out.symm, rfl⟩
  · have h2 : 1 ≤ b := by omega
    go_enter Try.func31, Try.ntmps31
    go_wp2_with (first | (go_at_call 32; refine (ref01div_any _ _ _ ha hb h2).mono ?_; rintro e w1 ⟨rfl, rfl⟩))
    go_ret
    exact ⟨rfl, rfl⟩

theorem prod_bd {P H : Int} (p1 : 0 ≤ P) (p2 : P ≤ 64) (h1 : 0 ≤ H) (h2 : H < 9) : 0 ≤ P * H ∧ P * H ≤ 512 :=
  ⟨Int.mul_nonneg p1 h1, Int.le_trans (Int.mul_le_mul_of_nonneg_right p2 h1) (by omega)⟩
theorem hash9 (s a b : Int) : 0 ≤ hashS s a b % 9 ∧ hashS s a b % 9 < 9 := ⟨Int.emod_nonneg _ (by omega), Int.emod_lt_of_pos _ (by omega)⟩

set_option maxRecDepth 100000 in
set_option maxHeartbeats 4000000 in
theorem refground_any (s x z : Int) (w : World) (hx : Fit x) (hz : Fit z) :
    Calls Try.prog 27 #[.int .i64 s, .int .i64 x, .int .i64 z] w fun e w' => e = .returned (.int .i64 (groundS s x z)) ∧ w = w' := by
  obtain ⟨u1, u2⟩ := mod8 x
  obtain ⟨v1, v2⟩ := mod8 z
  obtain ⟨⟨a1, a2⟩, ⟨b1, b2⟩, ⟨c1, c2⟩, ⟨d1, d2⟩, _⟩ := weights u1 u2 v1 v2
  have x1 := hx.1
  have x2 := hx.2
  have z1 := hz.1
  have z2 := hz.2
  have f1 : -9223372036854775808 ≤ divS x 8 ∧ divS x 8 ≤ 1152921504606846976 := by rw [divS, if_neg (by omega)]; omega
  have f2 : -9223372036854775808 ≤ divS z 8 ∧ divS z 8 ≤ 1152921504606846976 := by rw [divS, if_neg (by omega)]; omega
  obtain ⟨f11, f12⟩ := f1
  obtain ⟨f21, f22⟩ := f2
  obtain ⟨g1, g2⟩ := hash9 s (divS x 8) (divS z 8)
  obtain ⟨g3, g4⟩ := hash9 s (divS x 8) (divS z 8 + 1)
  obtain ⟨g5, g6⟩ := hash9 s (divS x 8 + 1) (divS z 8)
  obtain ⟨g7, g8⟩ := hash9 s (divS x 8 + 1) (divS z 8 + 1)
  have g9 := (hashS_bd s (divS x 8) (divS z 8)).1
  have g10 := (hashS_bd s (divS x 8) (divS z 8 + 1)).1
  have g11 := (hashS_bd s (divS x 8 + 1) (divS z 8)).1
  have g12 := (hashS_bd s (divS x 8 + 1) (divS z 8 + 1)).1
  obtain ⟨k1, k2⟩ := prod_bd a1 a2 g1 g2
  obtain ⟨k3, k4⟩ := prod_bd c1 c2 g3 g4
  obtain ⟨k5, k6⟩ := prod_bd b1 b2 g5 g6
  obtain ⟨k7, k8⟩ := prod_bd d1 d2 g7 g8
  have H : Hid (6 + ((8 - modS x 8) * (8 - modS z 8) * (hashS s (divS x 8) (divS z 8) % 9) + (8 - modS x 8) * modS z 8 * (hashS s (divS x 8) (divS z 8 + 1) % 9) + modS x 8 * (8 - modS z 8) * (hashS s (divS x 8 + 1) (divS z 8) % 9) + modS x 8 * modS z 8 * (hashS s (divS x 8 + 1) (divS z 8 + 1) % 9)) / 64 = groundS s x z) := Lib.hid (by
    unfold groundS corS
    rw [Int.mul_comm (hashS s (divS x 8) (divS z 8) % 9), Int.mul_comm (hashS s (divS x 8 + 1) (divS z 8) % 9), Int.mul_comm (hashS s (divS x 8) (divS z 8 + 1) % 9), Int.mul_comm (hashS s (divS x 8 + 1) (divS z 8 + 1) % 9)]
    omega)
  go_enter Try.func27, Try.ntmps27
  go_wp2_with fail
  refine wp_loop_rounds 3 ?_
  rw [rounds_succ]
  go_wp2_with fail
  refine wp_loop_rounds 3 ?_
  rw [rounds_succ]
  go_wp2_with (first | (go_at_call 29; refine (refmod_any _ _ _ (by assumption) fit8).mono ?_; rintro e w1 ⟨rfl, rfl⟩) | (go_at_call 31; refine (ref03div_any _ _ _ (by assumption) fit8).mono ?_; rintro e w1 ⟨rfl, rfl⟩) | (go_at_call 30; refine (refhash_any _ _ _ _).mono ?_; rintro e w1 ⟨rfl, rfl⟩))
  rw [rounds_succ]
  go_wp2_with (first | (go_at_call 29; refine (refmod_any _ _ _ (by assumption) fit8).mono ?_; rintro e w1 ⟨rfl, rfl⟩) | (go_at_call 31; refine (ref03div_any _ _ _ (by assumption) fit8).mono ?_; rintro e w1 ⟨rfl, rfl⟩) | (go_at_call 30; refine (refhash_any _ _ _ _).mono ?_; rintro e w1 ⟨rfl, rfl⟩))
  rw [rounds_succ]
  go_wp2_with fail
  rw [rounds_succ]
  go_wp2_with fail
  refine wp_loop_rounds 3 ?_
  rw [rounds_succ]
  go_wp2_with (first | (go_at_call 29; refine (refmod_any _ _ _ (by assumption) fit8).mono ?_; rintro e w1 ⟨rfl, rfl⟩) | (go_at_call 31; refine (ref03div_any _ _ _ (by assumption) fit8).mono ?_; rintro e w1 ⟨rfl, rfl⟩) | (go_at_call 30; refine (refhash_any _ _ _ _).mono ?_; rintro e w1 ⟨rfl, rfl⟩))
  rw [rounds_succ]
  go_wp2_with (first | (go_at_call 29; refine (refmod_any _ _ _ (by assumption) fit8).mono ?_; rintro e w1 ⟨rfl, rfl⟩) | (go_at_call 31; refine (ref03div_any _ _ _ (by assumption) fit8).mono ?_; rintro e w1 ⟨rfl, rfl⟩) | (go_at_call 30; refine (refhash_any _ _ _ _).mono ?_; rintro e w1 ⟨rfl, rfl⟩))
  rw [rounds_succ]
  go_wp2_with fail
  rw [rounds_succ]
  go_wp2_with fail
  go_ret
  exact ⟨ret_int H.out, rfl⟩
end Go.Proofs.Ytgnlechegenjpaa
