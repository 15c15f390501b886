/-
  The hash of a seed and a place, and how high the ground is: what the Go functions hand back.
-/
import Derived.Test.YtgnlechegenjpaaDivs
namespace Go.Proofs.Ytgnlechegenjpaa
open Go.RowKit
attribute [local go_sem] ext_ext drew_ext ext_drew ext_cell ext_frozen in_lt in_le in_ne in_en in_ne1 in_en1 in_le1 in_ltn in_len in_nen in_enn size_le ite_max ite_min
set_option linter.unusedVariables false
set_option linter.unusedSimpArgs false

def mixS (s x z : Int) : Int := IntKind.u64.wrap (IntKind.u64.wrap (IntKind.u64.wrap (IntKind.u64.wrap s * 11400714819323198485) + IntKind.u64.wrap (IntKind.u64.wrap x * 14029467366897019727)) + IntKind.u64.wrap (IntKind.u64.wrap z * 1609587929392839161))
def mix2S (h : Int) : Int := IntKind.u64.wrap (bits BinOp.xor IntKind.u64 h (h / 536870912) * 13787848793156543929)
def lastS (h : Int) : Int := bits BinOp.xor IntKind.u64 h (h / 4294967296)
/-- The hash. -/
def hashS (s x z : Int) : Int := lastS (mix2S (mixS s x z))

theorem wrap_u64_bd (n : Int) : 0 ≤ IntKind.u64.wrap n ∧ IntKind.u64.wrap n < 18446744073709551616 := by
  rw [IntKind.wrap_u64]
  omega
theorem hashS_bd (s x z : Int) : 0 ≤ hashS s x z ∧ hashS s x z < 18446744073709551616 := by
  unfold hashS lastS
  generalize mix2S (mixS s x z) = h
  show 0 ≤ IntKind.u64.wrap _ ∧ IntKind.u64.wrap _ < _
  exact wrap_u64_bd _

theorem hash_any (s x z : Int) (w : World) : Calls Try.prog 21 #[.int .i64 s, .int .i64 x, .int .i64 z] w fun e w' => e = .returned (.int .u64 (hashS s x z)) ∧ w = w' := by
  go_enter Try.func21, Try.ntmps21
  go_wp2
  go_ret
  exact ⟨rfl, rfl⟩

/-- A corner's part of the ground. -/
def corS (s a b k : Int) : Int := hashS s a b % 9 * k
theorem corS_bd (s a b : Int) {k : Int} (hk : 0 ≤ k) : 0 ≤ corS s a b k ∧ corS s a b k ≤ 8 * k := by
  unfold corS
  have h1 := Int.emod_nonneg (hashS s a b) (by omega : (9 : Int) ≠ 0)
  have h2 := Int.emod_lt_of_pos (hashS s a b) (by omega : (0 : Int) < 9)
  exact ⟨Int.mul_nonneg h1 hk, Int.mul_le_mul_of_nonneg_right (by omega) hk⟩

theorem corner_any (a b k s : Int) (g : Nat) (w : World) (h0 : w.cell? ⟨g, 0, none⟩ = some (.int .i64 s)) (k1 : 0 ≤ k) (k2 : k ≤ 64) :
    Calls Try.prog 20 #[.int .i64 a, .int .i64 b, .int .i64 k, .pointer (some ⟨g, 0, none⟩)] w fun e w' => e = .returned (.int .i64 (corS s a b k)) ∧ w = w' := by
  have b1 := (hashS_bd s a b).1
  have c1 := Int.emod_nonneg (hashS s a b) (by omega : (9 : Int) ≠ 0)
  have c2 := Int.emod_lt_of_pos (hashS s a b) (by omega : (0 : Int) < 9)
  obtain ⟨d1, d2⟩ := corS_bd s a b k1
  unfold corS at d1 d2
  go_enter Try.func20, Try.ntmps20
  go_wp2_with (first | (go_at_call 21; refine (hash_any _ _ _ _).mono ?_; rintro e w1 ⟨rfl, rfl⟩))
  go_ret
  exact ⟨rfl, rfl⟩

theorem hash0 : hashS 0 0 0 = 0 := by decide +kernel

theorem mod8 (n : Int) : 0 ≤ modS n 8 ∧ modS n 8 < 8 := modS_bd (by omega)
theorem fit8 : Fit 8 := ⟨by omega, by omega⟩

/-- How high the ground is. -/
def groundS (s x z : Int) : Int :=
  6 + (corS s (divS x 8) (divS z 8) ((8 - modS x 8) * (8 - modS z 8)) + corS s (divS x 8 + 1) (divS z 8) (modS x 8 * (8 - modS z 8)) +
    corS s (divS x 8) (divS z 8 + 1) ((8 - modS x 8) * modS z 8) + corS s (divS x 8 + 1) (divS z 8 + 1) (modS x 8 * modS z 8)) / 64

theorem weights {u v : Int} (u1 : 0 ≤ u) (u2 : u < 8) (v1 : 0 ≤ v) (v2 : v < 8) :
    (0 ≤ (8 - u) * (8 - v) ∧ (8 - u) * (8 - v) ≤ 64) ∧ (0 ≤ u * (8 - v) ∧ u * (8 - v) ≤ 64) ∧ (0 ≤ (8 - u) * v ∧ (8 - u) * v ≤ 64) ∧ (0 ≤ u * v ∧ u * v ≤ 64) ∧
      (8 - u) * (8 - v) + u * (8 - v) + (8 - u) * v + u * v = 64 := by
  rcases (by omega : u = 0 ∨ u = 1 ∨ u = 2 ∨ u = 3 ∨ u = 4 ∨ u = 5 ∨ u = 6 ∨ u = 7) with rfl | rfl | rfl | rfl | rfl | rfl | rfl | rfl <;> omega

theorem groundS_bd (s x z : Int) : 6 ≤ groundS s x z ∧ groundS s x z ≤ 14 := by
  obtain ⟨u1, u2⟩ := mod8 x
  obtain ⟨v1, v2⟩ := mod8 z
  obtain ⟨⟨a1, _⟩, ⟨b1, _⟩, ⟨c1, _⟩, ⟨d1, _⟩, e⟩ := weights u1 u2 v1 v2
  have h1 := corS_bd s (divS x 8) (divS z 8) a1
  have h2 := corS_bd s (divS x 8 + 1) (divS z 8) b1
  have h3 := corS_bd s (divS x 8) (divS z 8 + 1) c1
  have h4 := corS_bd s (divS x 8 + 1) (divS z 8 + 1) d1
  unfold groundS
  omega

set_option maxHeartbeats 1000000 in
theorem ground_any (s x z : Int) (w : World) (hx : Fit x) (hz : Fit z) :
    Calls Try.prog 7 #[.int .i64 s, .int .i64 x, .int .i64 z] w fun e w' => e = .returned (.int .i64 (groundS s x z)) ∧ ∃ f, w' = ext w f := by
  have hmf : ∀ (fn : Fn) (first cap : Array Value) (w : World), (Instr.makeFunc fn first cap).run Try.prog w = .ok (.func fn first cap) w := fun _ _ _ _ => rfl
  obtain ⟨u1, u2⟩ := mod8 x
  obtain ⟨v1, v2⟩ := mod8 z
  obtain ⟨⟨a1, a2⟩, ⟨b1, b2⟩, ⟨c1, c2⟩, ⟨d1, d2⟩, _⟩ := weights u1 u2 v1 v2
  obtain ⟨h1, h1'⟩ := corS_bd s (divS x 8) (divS z 8) a1
  obtain ⟨h2, h2'⟩ := corS_bd s (divS x 8 + 1) (divS z 8) b1
  obtain ⟨h3, h3'⟩ := corS_bd s (divS x 8) (divS z 8 + 1) c1
  obtain ⟨h4, h4'⟩ := corS_bd s (divS x 8 + 1) (divS z 8 + 1) d1
  have x1 := hx.1
  have x2 := hx.2
  have z1 := hz.1
  have z2 := hz.2
  have f1 : -9223372036854775808 ≤ divS x 8 ∧ divS x 8 ≤ 1152921504606846976 := by rw [divS, if_neg (by omega)]; omega
  have f2 : -9223372036854775808 ≤ divS z 8 ∧ divS z 8 ≤ 1152921504606846976 := by rw [divS, if_neg (by omega)]; omega
  obtain ⟨f11, f12⟩ := f1
  obtain ⟨f21, f22⟩ := f2
  go_enter Try.func7, Try.ntmps7
  go_wp2_with (first
    | (go_at_call 18; refine (div_any _ _ _ (by assumption) fit8).mono ?_; rintro e w1 ⟨rfl, rfl⟩)
    | (go_at_call 19; refine (mod_any _ _ _ (by assumption) fit8).mono ?_; rintro e w1 ⟨rfl, rfl⟩)
    | (go_at_call 20; refine (corner_any _ _ _ s _ _ ?_ (by assumption) (by assumption)).mono ?_; (go_simp); rintro e w1 ⟨rfl, rfl⟩))
  go_ret
  exact ⟨rfl, grown_of⟩

/-- The block of a height, over some ground. -/
def ofS (y g : Int) : Int := if y < 0 ∨ 32 ≤ y then 0 else if y = 0 ∨ y < g - 3 then 1 else if y < g - 1 ∨ (y = g - 1 ∧ 9 < g) then 2 else if y = g - 1 then 3 else if y < 9 then 8 else 0

theorem of_any (y g : Int) (w : World) (g1 : 6 ≤ g) (g2 : g ≤ 14) :
    Calls Try.prog 17 #[.int .i64 y, .int .i64 g] w fun e w' => e = .returned (.int .i64 (ofS y g)) ∧ w = w' := by
  by_cases c1 : y < 0
  · have H : Hid (ofS y g = 0) := by unfold ofS; rw [if_pos (.inl c1)]; exact rfl
    go_enter Try.func17, Try.ntmps17
    go_wp2
    go_ret
    exact ⟨ret_int H.out.symm, rfl⟩
  by_cases c2 : 32 ≤ y
  · have H : Hid (ofS y g = 0) := by unfold ofS; rw [if_pos (.inr c2)]; exact rfl
    go_enter Try.func17, Try.ntmps17
    go_wp2
    go_ret
    exact ⟨ret_int H.out.symm, rfl⟩
  by_cases c3 : y = 0
  · subst c3
    have H : Hid (ofS 0 g = 1) := by unfold ofS; rw [if_neg (by omega), if_pos (.inl rfl)]; exact rfl
    go_enter Try.func17, Try.ntmps17
    go_wp2
    go_ret
    exact ⟨ret_int H.out.symm, rfl⟩
  have d3 : (y == 0) = false := by simp [c3]
  by_cases c4 : y < g - 3
  · have H : Hid (ofS y g = 1) := by unfold ofS; rw [if_neg (by omega), if_pos (.inr c4)]; exact rfl
    clear c3
    go_enter Try.func17, Try.ntmps17
    go_wp2
    go_ret
    exact ⟨ret_int H.out.symm, rfl⟩
  by_cases c5 : y < g - 1
  · have H : Hid (ofS y g = 2) := by unfold ofS; rw [if_neg (by omega), if_neg (by omega), if_pos (.inl c5)]; exact rfl
    clear c3
    go_enter Try.func17, Try.ntmps17
    go_wp2
    go_ret
    exact ⟨ret_int H.out.symm, rfl⟩
  by_cases c6 : y = g - 1
  · have d6 : (y == g - 1) = true := by simp [c6]
    by_cases c7 : 9 < g
    · have H : Hid (ofS y g = 2) := by unfold ofS; rw [if_neg (by omega), if_neg (by omega), if_pos (.inr ⟨c6, c7⟩)]; exact rfl
      clear c6 c3
      go_enter Try.func17, Try.ntmps17
      go_wp2
      go_ret
      exact ⟨ret_int H.out.symm, rfl⟩
    · have H : Hid (ofS y g = 3) := by unfold ofS; rw [if_neg (by omega), if_neg (by omega), if_neg (by omega), if_pos c6]; exact rfl
      clear c6 c3
      go_enter Try.func17, Try.ntmps17
      go_wp2
      go_ret
      exact ⟨ret_int H.out.symm, rfl⟩
  have d6 : (y == g - 1) = false := by simp [c6]
  by_cases c8 : y < 9
  · have H : Hid (ofS y g = 8) := by unfold ofS; rw [if_neg (by omega), if_neg (by omega), if_neg (by omega), if_neg (by omega), if_pos c8]; exact rfl
    clear c6 c3
    go_enter Try.func17, Try.ntmps17
    go_wp2
    go_ret
    exact ⟨ret_int H.out.symm, rfl⟩
  · have H : Hid (ofS y g = 0) := by unfold ofS; rw [if_neg (by omega), if_neg (by omega), if_neg (by omega), if_neg (by omega), if_neg (by omega)]; exact rfl
    clear c6 c3
    go_enter Try.func17, Try.ntmps17
    go_wp2
    go_ret
    exact ⟨ret_int H.out.symm, rfl⟩

theorem block_any (s x y z : Int) (w : World) (hx : Fit x) (hz : Fit z) :
    Calls Try.prog 6 #[.int .i64 s, .agg #[.int .i64 x, .int .i64 y, .int .i64 z]] w fun e w' => e = .returned (.int .i64 (ofS y (groundS s x z))) ∧ ∃ f, w' = ext w f := by
  obtain ⟨g1, g2⟩ := groundS_bd s x z
  go_enter Try.func6, Try.ntmps6
  go_wp2_with fail
  first | (with_reducible refine wp_region_ext_on ?_ ?_ ?_) | refine wp_region_ext ?_ ?_ ?_
  · kernel_rfl
  · kernel_rfl
  repeat (go_big_quiet_step (first | (go_at_call 7; exact ext_call (ground_any _ _ _ _ hx hz)) | (go_at_call 17; exact ext_same (of_any _ _ _ g1 g2))))
  refine wpQuiet_nil ?_
  rintro _ ⟨t, rfl⟩
  go_wp2
  go_ret
  exact ⟨rfl, grown_of⟩

theorem lives10_any (w : World) : Calls Try.prog 8 #[] w fun e w' => e = .returned (.bool true) ∧ ∃ f, w' = ext w f := by
  obtain ⟨g1, _⟩ := groundS_bd 0 0 0
  have h0 := hash0
  go_enter Try.func8, Try.ntmps8
  go_wp2_with (first | (go_at_call 21; refine (hash_any _ _ _ _).mono ?_; rintro e w1 ⟨rfl, rfl⟩) | (go_at_call 7; refine (ground_any _ _ _ _ fit0 fit0).mono ?_; rintro e w1 ⟨rfl, t1, rfl⟩))
  go_ret
  exact ⟨rfl, grown_of⟩
end Go.Proofs.Ytgnlechegenjpaa
