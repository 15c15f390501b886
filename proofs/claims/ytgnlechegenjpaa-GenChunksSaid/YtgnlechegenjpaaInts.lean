/-
  No Go in sight. Quotients rounded down, what is left; bounds.
-/
namespace Go.Proofs.Ytgnlechegenjpaa
set_option linter.unusedVariables false

/-- A number fits an int. -/
def Fit (n : Int) : Prop := -9223372036854775808 ≤ n ∧ n ≤ 9223372036854775807
theorem Fit.lo {n : Int} (h : Fit n) : -9223372036854775808 ≤ n := h.1
theorem Fit.hi {n : Int} (h : Fit n) : n ≤ 9223372036854775807 := h.2

def divS (a b : Int) : Int := if b < 1 then 0 else a / b
def modS (a b : Int) : Int := if b < 1 then 0 else a % b
theorem divS_low {a b : Int} (h : b < 1) : divS a b = 0 := by rw [divS, if_pos h]
theorem modS_low {a b : Int} (h : b < 1) : modS a b = 0 := by rw [modS, if_pos h]
theorem tdiv_tmod (a b : Int) : a.tmod b = a - b * a.tdiv b := by have := Int.mul_tdiv_add_tmod a b; omega
theorem divS_neg {a b : Int} (hb : 1 ≤ b) (h : a.tmod b < 0) : divS a b = a.tdiv b - 1 := by
  rw [divS, if_neg (by omega)]
  have h1 := Int.mul_tdiv_add_tmod a b
  have h2 := Int.lt_tmod_of_pos a (by omega : 0 < b)
  have h3 : a = (a.tmod b + b) + b * (a.tdiv b - 1) := by rw [Int.mul_sub]; omega
  rw [h3, Int.add_mul_ediv_left _ _ (by omega), ← h3, Int.ediv_eq_zero_of_lt (by omega) (by omega)]
  omega
theorem divS_pos {a b : Int} (hb : 1 ≤ b) (h : 0 ≤ a.tmod b) : divS a b = a.tdiv b := by
  rw [divS, if_neg (by omega)]
  have h1 := Int.mul_tdiv_add_tmod a b
  have h2 := Int.tmod_lt_of_pos a (by omega : 0 < b)
  have h3 : a = a.tmod b + b * a.tdiv b := by omega
  rw [h3, Int.add_mul_ediv_left _ _ (by omega), ← h3, Int.ediv_eq_zero_of_lt (by omega) (by omega)]
  omega
theorem modS_neg {a b : Int} (hb : 1 ≤ b) (h : a.tmod b < 0) : modS a b = a.tmod b + b := by
  have h1 := divS_neg hb h
  rw [divS, if_neg (by omega)] at h1
  rw [modS, if_neg (by omega)]
  have h2 := Int.mul_tdiv_add_tmod a b
  have h3 := Int.mul_ediv_add_emod a b
  rw [h1, Int.mul_sub] at h3
  omega
theorem modS_pos {a b : Int} (hb : 1 ≤ b) (h : 0 ≤ a.tmod b) : modS a b = a.tmod b := by
  have h1 := divS_pos hb h
  rw [divS, if_neg (by omega)] at h1
  rw [modS, if_neg (by omega)]
  have h2 := Int.mul_tdiv_add_tmod a b
  have h3 := Int.mul_ediv_add_emod a b
  rw [h1] at h3
  omega
theorem modS_bd {a b : Int} (hb : 1 ≤ b) : 0 ≤ modS a b ∧ modS a b < b := by
  rw [modS, if_neg (by omega)]
  exact ⟨Int.emod_nonneg _ (by omega), Int.emod_lt_of_pos _ (by omega)⟩
theorem divS_modS {a b : Int} (hb : 1 ≤ b) : b * divS a b + modS a b = a := by
  rw [modS, divS, if_neg (by omega), if_neg (by omega)]
  exact Int.mul_ediv_add_emod a b
/-- Go's own quotient of two ints, the second at least 1, fits. -/
theorem tdiv_bd {a b : Int} (hb : 1 ≤ b) : (0 ≤ a → 0 ≤ a.tdiv b ∧ a.tdiv b ≤ a) ∧ (a ≤ 0 → a ≤ a.tdiv b ∧ a.tdiv b ≤ 0) := by
  refine ⟨fun h => ⟨Int.tdiv_nonneg h (by omega), ?_⟩, fun h => ?_⟩
  · rw [Int.tdiv_eq_ediv_of_nonneg h]
    exact Int.ediv_le_self _ h
  · obtain ⟨n, rfl⟩ : ∃ n, a = -n := ⟨-a, by omega⟩
    rw [Int.neg_tdiv, Int.tdiv_eq_ediv_of_nonneg (by omega)]
    have h1 := Int.ediv_le_self (a := n) b (by omega)
    have h2 := Int.ediv_nonneg (a := n) (b := b) (by omega) (by omega)
    omega
theorem tdiv_low {a b : Int} (hb : 1 ≤ b) (h : a.tmod b < 0) : a < a.tdiv b := by
  have h1 := Int.mul_tdiv_add_tmod a b
  have h2 := (tdiv_bd (a := a) hb)
  rcases Int.lt_or_le a 0 with h0 | h0
  · have h3 := (h2.2 (by omega)).2
    have h4 : b * a.tdiv b ≤ 1 * a.tdiv b := Int.mul_le_mul_of_nonpos_right hb h3
    omega
  · have := Int.tmod_nonneg b h0
    omega
theorem tmod_bd {a b : Int} (hb : 1 ≤ b) : -b < a.tmod b ∧ a.tmod b < b := ⟨Int.lt_tmod_of_pos a (by omega), Int.tmod_lt_of_pos a (by omega)⟩
theorem Fit.divS {a b : Int} (ha : Fit a) : Fit (divS a b) := by
  by_cases hb : b < 1
  · rw [divS_low hb]; exact ⟨by omega, by omega⟩
  · have h1 := ha.1
    have h2 := ha.2
    have h3 := (tdiv_bd (a := a) (b := b) (by omega))
    by_cases h : a.tmod b < 0
    · rw [divS_neg (by omega) h]
      have := tdiv_low (a := a) (b := b) (by omega) h
      rcases Int.le_total 0 a with h0 | h0
      · have := h3.1 h0; exact ⟨by omega, by omega⟩
      · have := h3.2 h0; exact ⟨by omega, by omega⟩
    · rw [divS_pos (by omega) (by omega)]
      rcases Int.le_total 0 a with h0 | h0
      · have := h3.1 h0; exact ⟨by omega, by omega⟩
      · have := h3.2 h0; exact ⟨by omega, by omega⟩

theorem fit0 : Fit 0 := ⟨by omega, by omega⟩
theorem fit16 : Fit 16 := ⟨by omega, by omega⟩
theorem mod16 (n : Int) : 0 ≤ modS n 16 ∧ modS n 16 < 16 := modS_bd (by omega)

/-- A number, cut to what a cell's may be. -/
def cutS (n : Int) : Int := min 2147483648 (max n (-2147483648))
theorem cutS_fold (n : Int) : min 2147483648 (max n (-2147483648)) = cutS n := rfl
theorem cutS_bd (n : Int) : -2147483648 ≤ cutS n ∧ cutS n ≤ 2147483648 := by unfold cutS; omega
theorem cutS_in {n : Int} (h1 : -2147483648 ≤ n) (h2 : n ≤ 2147483648) : cutS n = n := by unfold cutS; omega
theorem cutS_cutS (n : Int) : cutS (cutS n) = cutS n := cutS_in (cutS_bd n).1 (cutS_bd n).2
theorem cutS_fit (n : Int) : Fit (cutS n) := by have := cutS_bd n; exact ⟨by omega, by omega⟩

/-- A cell's index. -/
def idxS (x y z : Int) : Int := y * 256 + modS z 16 * 16 + modS x 16
theorem idxS_bd {x y z : Int} (h1 : 0 ≤ y) (h2 : y ≤ 31) : 0 ≤ idxS x y z ∧ idxS x y z ≤ 8191 := by
  have := mod16 x
  have := mod16 z
  unfold idxS
  omega

theorem divS16 (n : Int) : divS n 16 = n / 16 := by rw [divS, if_neg (by omega)]
theorem modS16 (n : Int) : modS n 16 = n % 16 := by rw [modS, if_neg (by omega)]

/-- The cell of a chunk's place and an index. -/
def atX (p i : Int) : Int := p * 16 + i % 16
def atY (i : Int) : Int := i / 256
def atZ (p i : Int) : Int := p * 16 + i / 16 % 16
theorem atX_idx {x y z : Int} : atX (divS x 16) (idxS x y z) = x := by
  unfold atX idxS
  rw [divS16, modS16, modS16]
  omega
theorem atY_idx {x y z : Int} : atY (idxS x y z) = y := by
  unfold atY idxS
  rw [modS16, modS16]
  omega
theorem atZ_idx {x y z : Int} : atZ (divS z 16) (idxS x y z) = z := by
  unfold atZ idxS
  rw [divS16, modS16, modS16]
  omega
theorem atY_bd {i : Int} (h1 : 0 ≤ i) (h2 : i ≤ 8191) : 0 ≤ atY i ∧ atY i ≤ 31 := by unfold atY; omega
theorem at_idx {p q i : Int} : idxS (atX p i) (atY i) (atZ q i) = i := by
  unfold atX atY atZ idxS
  rw [modS16, modS16]
  omega
theorem divX {p i : Int} : divS (atX p i) 16 = p := by
  unfold atX
  rw [divS16]
  omega
theorem divZ {p i : Int} : divS (atZ p i) 16 = p := by
  unfold atZ
  rw [divS16]
  omega
theorem atX_fit {p i : Int} (h1 : -134217728 ≤ p) (h2 : p ≤ 134217728) : Fit (atX p i) := by unfold atX; exact ⟨by omega, by omega⟩
theorem atZ_fit {p i : Int} (h1 : -134217728 ≤ p) (h2 : p ≤ 134217728) : Fit (atZ p i) := by unfold atZ; exact ⟨by omega, by omega⟩

/-- Of a number, which one it is made to, from 0 on, below some most. -/
def arS (n m : Int) : Int := if n < 0 then (-(n + 1)) % m else n % m
theorem arS_bd {n m : Int} (hm : 1 ≤ m) : 0 ≤ arS n m ∧ arS n m < m := by
  unfold arS
  split <;> exact ⟨Int.emod_nonneg _ (by omega), Int.emod_lt_of_pos _ (by omega)⟩
end Go.Proofs.Ytgnlechegenjpaa
