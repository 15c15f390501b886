/-
  No Go in sight. What an update changes: which cells, which blocks.
-/
import Derived.Test.YtjejobfhddlmeaaWays
namespace Go.Proofs.Ytjejobfhddlmeaa
open Go.RowKit
attribute [local go_sem] ext_ext drew_ext ext_drew ext_cell ext_frozen in_lt in_le in_ne in_en in_ne1 in_en1 in_le1 in_ltn in_len in_nen in_enn size_le ite_max ite_min
set_option linter.unusedVariables false
set_option linter.unusedSimpArgs false

theorem row_cells {w : World} {base : Nat} {e : TypeId} {size : Nat} {og : Option Addr} {n cap : Nat} {xs : List Value} (h : w.ownsRow base e size (.slice og n cap) n xs) (hn : 0 < n) :
    ∃ g, og = some ⟨g, 0, none⟩ ∧ ∀ j u, xs[j]? = some u → w.cell? ⟨g, j, none⟩ = some u := by
  obtain ⟨g, cap', hv, _, _, _, hc⟩ := owns_some h hn
  simp only [Value.slice.injEq] at hv
  exact ⟨g, hv.1, hc⟩

theorem eqc_ne {a b c x y z : Int} (h : ¬ (a = x ∧ b = y ∧ c = z)) : eqcS a b c x y z = false := by unfold eqcS; rw [decide_eq_false_iff_not]; exact h
theorem dry_mem {V : Int → Int → Int → Int} {t x y z : Int} {k : Nat} {c : Ch} (h : c ∈ dryL V t x y z k) : ∃ j, j < k ∧ c = (sdX x j, y, sdZ z j, t) ∧ V (sdX x j) y (sdZ z j) = 0 := by
  induction k with
  | zero => cases h
  | succ k ih =>
    have e : dryL V t x y z (k + 1) = dryS V t (dryL V t x y z k) (sdX x k) y (sdZ z k) := rfl
    rw [e] at h
    by_cases hv : V (sdX x k) y (sdZ z k) = 0
    · rw [dryS_in hv] at h
      rcases List.mem_append.1 h with h | h
      · obtain ⟨j, hj, h1⟩ := ih h
        exact ⟨j, by omega, h1⟩
      · rw [List.mem_singleton] at h
        exact ⟨k, by omega, h, hv⟩
    · rw [dryS_out hv] at h
      obtain ⟨j, hj, h1⟩ := ih h
      exact ⟨j, by omega, h1⟩
theorem sd_ne (x z : Int) (j : Nat) (hj : j < 4) : ¬ (sdX x j = x ∧ sdZ z j = z) := by
  rcases j with _ | _ | _ | _ | j
  · show ¬ (x + -1 = x ∧ z = z); omega
  · show ¬ (x + 1 = x ∧ z = z); omega
  · show ¬ (x = x ∧ z + -1 = z); omega
  · show ¬ (x = x ∧ z + 1 = z); omega
  · omega
theorem sd_apart (x z : Int) (i j : Nat) (hi : i < 4) (hj : j < 4) (hne : i ≠ j) : ¬ (sdX x i = sdX x j ∧ sdZ z i = sdZ z j) := by
  have h : ∀ k, k < 4 → (k = 0 ∧ sdX x k = x + -1 ∧ sdZ z k = z) ∨ (k = 1 ∧ sdX x k = x + 1 ∧ sdZ z k = z) ∨ (k = 2 ∧ sdX x k = x ∧ sdZ z k = z + -1) ∨ (k = 3 ∧ sdX x k = x ∧ sdZ z k = z + 1) := by
    intro k hk
    rcases k with _ | _ | _ | _ | k
    · exact .inl ⟨rfl, rfl, rfl⟩
    · exact .inr (.inl ⟨rfl, rfl, rfl⟩)
    · exact .inr (.inr (.inl ⟨rfl, rfl, rfl⟩))
    · exact .inr (.inr (.inr ⟨rfl, rfl, rfl⟩))
    · omega
  have h1 := h i hi
  have h2 := h j hj
  omega

/-- The forms of what an update changes. -/
inductive Form (V : Int → Int → Int → Int) (x y z : Int) : List Ch → Prop where
  | none : Form V x y z []
  | sand (h3 : V x y z = 3) (hy : yldB (V x (y + -1) z) = true) : Form V x y z [(x, y, z, V x (y + -1) z), (x, y + -1, z, 3)]
  | dry (h0 : 8 < V x y z) (h1 : V x y z ≤ 15) : Form V x y z [(x, y, z, 0)]
  | fed (b : Int) (h0 : 8 < V x y z) (h1 : V x y z ≤ 15) (hb : 9 ≤ b) (hb1 : b ≤ 15) (hne : b ≠ V x y z) : Form V x y z [(x, y, z, b)]
  | down (h0 : 8 ≤ V x y z) (h1 : V x y z ≤ 15) (hl : V x (y + -1) z = 0) : Form V x y z [(x, y + -1, z, 9)]
  | spread (b : Int) (h0 : 8 ≤ V x y z) (h1 : V x y z ≤ 15) (hb : 9 ≤ b) (hb1 : b ≤ 15) : Form V x y z (dryL V b x y z 4)
theorem next_form (V : Int → Int → Int → Int) (x y z : Int) : Form V x y z (nextS V x y z) := by
  by_cases h3 : V x y z = 3
  · have e : nextS V x y z = sandS V x y z := by unfold nextS; rw [if_pos h3]
    rw [e]
    unfold sandS
    cases hy : yldB (V x (y + -1) z)
    · exact .none
    · exact .sand h3 hy
  cases hw : wetB (V x y z)
  · have e : nextS V x y z = [] := by unfold nextS; rw [if_neg h3, hw]; rfl
    rw [e]
    exact .none
  obtain ⟨q1, q2, q3⟩ := water_ways V x y z hw h3
  obtain ⟨r1, r2⟩ := fedR_bd V x y z
  have hw2 := hw
  unfold wetB at hw2
  rw [decide_eq_true_eq] at hw2
  obtain ⟨v1, v2⟩ := hw2
  by_cases g0 : 0 < V x y z - 8 ∧ 7 < fedR V x y z
  · rw [q1 g0.1 g0.2]
    exact .dry (by omega) v2
  by_cases g1 : 0 < V x y z - 8 ∧ ¬ fedR V x y z = V x y z - 8
  · rw [q2 g1.1 (fun h => g0 ⟨g1.1, h⟩) g1.2]
    have g2 : ¬ 7 < fedR V x y z := fun h => g0 ⟨g1.1, h⟩
    exact .fed _ (by omega) v2 (by omega) (by omega) (by have := g1.2; omega)
  obtain ⟨k1, k2, k3⟩ := q3 (fun h => ⟨fun h' => g0 ⟨h, h'⟩, Decidable.byContradiction fun h' => g1 ⟨h, h'⟩⟩)
  by_cases m0 : V x (y + -1) z = 0
  · rw [k1 m0]
    exact .down v1 v2 m0
  by_cases m1 : wetB (V x (y + -1) z) = true ∨ V x y z - 8 = 7
  · rw [k2 m0 m1]
    exact .none
  · have m2 : wetB (V x (y + -1) z) = false := by
      cases h : wetB (V x (y + -1) z)
      · rfl
      · exact absurd (.inl h) m1
    have m3 : ¬ V x y z - 8 = 7 := fun h => m1 (.inr h)
    rw [k3 m0 m2 m3, ← dryL_4]
    exact .spread _ v1 v2 (by omega) (by omega)

theorem source_far {V : Int → Int → Int → Int} {x y z : Int} (h : V x y z = 8) (k : Nat) (hk : k < (nextS V x y z).length) : eqcS (nextS V x y z)[k].1 (nextS V x y z)[k].2.1 (nextS V x y z)[k].2.2.1 x y z = false := by
  have key : ∀ l, Form V x y z l → ∀ c ∈ l, eqcS c.1 c.2.1 c.2.2.1 x y z = false := by
    intro l hl
    cases hl with
    | none => intro c hc; cases hc
    | sand h3 => omega
    | dry h0 => omega
    | fed b h0 => omega
    | down h0 h1 hl =>
      intro c hc
      rw [List.mem_singleton] at hc
      subst hc
      exact eqc_ne (by simp; omega)
    | spread b =>
      intro c hc
      obtain ⟨j, hj, rfl, _⟩ := dry_mem hc
      have := sd_ne x z j hj
      exact eqc_ne (fun hh => this ⟨hh.1, hh.2.2⟩)
  exact key _ (next_form V x y z) _ (List.getElem_mem hk)
theorem unfed_gone {V : Int → Int → Int → Int} {x y z : Int} (h1 : 8 < V x y z) (h2 : V x y z ≤ 15) (hf : fedB V x y z = false) : nextS V x y z = [(x, y, z, 0)] := by
  obtain ⟨f1, _, _⟩ := fed_eq V x y z
  have hw : wetB (V x y z) = true := wetB_in (by omega) h2
  have d : ¬ fedR V x y z ≤ 7 := by
    rw [f1, decide_eq_false_iff_not] at hf
    exact hf
  exact (water_ways V x y z hw (by omega)).1 (by omega) (by omega)

/-- What the blocks of a small world are. -/
theorem at_bd (bs : List Int) (el x y z : Int) (hb : ∀ b ∈ bs, 0 ≤ b ∧ b ≤ 15) (h1 : -1 ≤ el) (h2 : el ≤ 1) : -1 ≤ atS bs el x y z ∧ atS bs el x y z ≤ 15 := by
  unfold atS
  split
  · omega
  split
  · rw [List.getD_eq_getElem?_getD]
    cases hg : bs[((y * 6 + z) * 6 + x).toNat]? with
    | none => simp
    | some b =>
      have := hb b (List.mem_of_getElem? hg)
      simp
      omega
  · omega
theorem good_bd (bs : List Int) : ∀ b ∈ (bs.take 216).map gdS, 0 ≤ b ∧ b ≤ 15 := by
  intro b hb
  obtain ⟨n, _, rfl⟩ := List.mem_map.1 hb
  have := gd_bd n
  omega
end Go.Proofs.Ytjejobfhddlmeaa
