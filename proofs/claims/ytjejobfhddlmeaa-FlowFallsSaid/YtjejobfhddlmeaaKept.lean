/-
  No Go in sight. What an update keeps.
-/
import Derived.Test.YtjejobfhddlmeaaKeeps
namespace Go.Proofs.Ytjejobfhddlmeaa
open Go.RowKit

/-- One change's sand: gone, and come. -/
def sandD (V : Int → Int → Int → Int) (c : Ch) : Int := (if V c.1 c.2.1 c.2.2.1 = 3 then -1 else 0) + (if c.2.2.2 = 3 then 1 else 0)
def sandL (V : Int → Int → Int → Int) (l : List Ch) : Int := (l.map (sandD V)).sum
theorem sandL_take (V : Int → Int → Int → Int) (l : List Ch) (k : Nat) (hk : k < l.length) : sandL V (l.take (k + 1)) = sandL V (l.take k) + sandD V l[k] := by
  unfold sandL
  rw [List.take_succ_eq_append_getElem hk, List.map_append, List.sum_append]
  simp
theorem sandL_bd (V : Int → Int → Int → Int) (l : List Ch) : -(l.length : Int) ≤ sandL V l ∧ sandL V l ≤ l.length := by
  unfold sandL
  induction l with
  | nil => simp
  | cons c l ih =>
    have h : -1 ≤ sandD V c ∧ sandD V c ≤ 1 := by unfold sandD; split <;> split <;> omega
    simp only [List.map_cons, List.sum_cons, List.length_cons]
    omega

structure KeptL (V : Int → Int → Int → Int) (l : List Ch) : Prop where
  each : ∀ c ∈ l, (V c.1 c.2.1 c.2.2.1 = 3 ∨ yldB (V c.1 c.2.1 c.2.2.1) = true) ∧ V c.1 c.2.1 c.2.2.1 ≠ c.2.2.2 ∧ 0 ≤ c.2.2.2 ∧ c.2.2.2 ≤ 15 ∧ c.2.2.2 ≠ 6 ∧ c.2.2.2 ≠ 7
  apart : l.Pairwise fun c d => eqcS c.1 c.2.1 c.2.2.1 d.1 d.2.1 d.2.2.1 = false
  sand : sandL V l = 0

theorem dry_apart (V : Int → Int → Int → Int) (t x y z : Int) (k : Nat) (hk : k ≤ 4) : (dryL V t x y z k).Pairwise fun c d => eqcS c.1 c.2.1 c.2.2.1 d.1 d.2.1 d.2.2.1 = false := by
  induction k with
  | zero => exact List.Pairwise.nil
  | succ k ih =>
    have e : dryL V t x y z (k + 1) = dryS V t (dryL V t x y z k) (sdX x k) y (sdZ z k) := rfl
    rw [e]
    by_cases hv : V (sdX x k) y (sdZ z k) = 0
    · rw [dryS_in hv, List.pairwise_append]
      refine ⟨ih (by omega), List.pairwise_singleton _ _, fun c hc d hd => ?_⟩
      rw [List.mem_singleton] at hd
      subst hd
      obtain ⟨j, hj, rfl, _⟩ := dry_mem hc
      have := sd_apart x z j k (by omega) (by omega) (by omega)
      exact eqc_ne (fun hh => this ⟨hh.1, hh.2.2⟩)
    · rw [dryS_out hv]
      exact ih (by omega)
theorem yld_wet {b : Int} (h1 : 8 ≤ b) (h2 : b ≤ 15) : yldB b = true := by unfold yldB; rw [decide_eq_true_eq]; exact .inr ⟨h1, h2⟩
theorem yld_bd {b : Int} (h : yldB b = true) : b = 0 ∨ 8 ≤ b ∧ b ≤ 15 := by unfold yldB at h; rwa [decide_eq_true_eq] at h
theorem sand_one (V : Int → Int → Int → Int) (c : Ch) (h1 : V c.1 c.2.1 c.2.2.1 ≠ 3) (h2 : c.2.2.2 ≠ 3) : sandD V c = 0 := by unfold sandD; rw [if_neg h1, if_neg h2]; rfl
theorem kept_one (V : Int → Int → Int → Int) (x y z b : Int) (h1 : yldB (V x y z) = true) (h2 : V x y z ≠ b) (h3 : 0 ≤ b) (h4 : b ≤ 15) (h5 : b ≠ 6 ∧ b ≠ 7) (h6 : b ≠ 3) : KeptL V [(x, y, z, b)] := by
  have := yld_bd h1
  refine ⟨fun c hc => ?_, List.pairwise_singleton _ _, ?_⟩
  · rw [List.mem_singleton] at hc
    subst hc
    exact ⟨.inr h1, h2, h3, h4, h5.1, h5.2⟩
  · have h := sand_one V (x, y, z, b) (by show V x y z ≠ 3; omega) h6
    simp [sandL, h]
theorem next_kept (V : Int → Int → Int → Int) (x y z : Int) : KeptL V (nextS V x y z) := by
  have key : ∀ l, Form V x y z l → KeptL V l := by
    intro l hl
    cases hl with
    | none => exact ⟨fun c hc => by (cases hc), List.Pairwise.nil, rfl⟩
    | sand h3 hy =>
      have hb := yld_bd hy
      refine ⟨fun c hc => ?_, ?_, ?_⟩
      · simp only [List.mem_cons, List.not_mem_nil, or_false] at hc
        rcases hc with rfl | rfl
        · refine ⟨.inl h3, ?_, ?_, ?_, ?_, ?_⟩ <;> (try show V x y z ≠ _) <;> simp only <;> omega
        · refine ⟨.inr hy, ?_, ?_, ?_, ?_, ?_⟩ <;> (try show V x (y + -1) z ≠ _) <;> simp only <;> omega
      · refine List.Pairwise.cons (fun d hd => ?_) (List.pairwise_singleton _ _)
        rw [List.mem_singleton] at hd
        subst hd
        exact eqc_ne (by simp; omega)
      · have d1 : sandD V (x, y, z, V x (y + -1) z) = -1 := by
          unfold sandD
          rw [if_pos (by exact h3), if_neg (by show ¬ V x (y + -1) z = 3; omega)]
          rfl
        have d2 : sandD V (x, y + -1, z, 3) = 1 := by
          unfold sandD
          rw [if_neg (by show ¬ V x (y + -1) z = 3; omega), if_pos rfl]
          rfl
        simp [sandL, d1, d2]
    | dry h0 h1 => exact kept_one V x y z 0 (yld_wet (by omega) h1) (by omega) (by omega) (by omega) (by omega) (by omega)
    | fed b h0 h1 hb hb1 hne => exact kept_one V x y z b (yld_wet (by omega) h1) (fun e => hne e.symm) (by omega) (by omega) (by omega) (by omega)
    | down h0 h1 hl => exact kept_one V x (y + -1) z 9 (by rw [hl]; rfl) (by omega) (by omega) (by omega) (by omega) (by omega)
    | spread b h0 h1 hb hb1 =>
      have hw : ∀ c ∈ dryL V b x y z 4, V c.1 c.2.1 c.2.2.1 = 0 ∧ c.2.2.2 = b := fun c hc => by
        obtain ⟨j, _, rfl, hv⟩ := dry_mem hc
        exact ⟨hv, rfl⟩
      refine ⟨fun c hc => ?_, dry_apart V b x y z 4 (by omega), ?_⟩
      · obtain ⟨h5, h6⟩ := hw c hc
        rw [h5, h6]
        exact ⟨.inr rfl, by omega, by omega, by omega, by omega, by omega⟩
      · have hz : ∀ l : List Ch, (∀ c ∈ l, V c.1 c.2.1 c.2.2.1 = 0 ∧ c.2.2.2 = b) → sandL V l = 0 := by
          intro l hl
          induction l with
          | nil => rfl
          | cons c l ih =>
            obtain ⟨h5, h6⟩ := hl c (by simp)
            have h7 := sand_one V c (by omega) (by omega)
            have h8 := ih (fun d hd => hl d (by simp [hd]))
            unfold sandL at h8 ⊢
            rw [List.map_cons, List.sum_cons, h7, h8]
            rfl
        exact hz _ hw
  exact key _ (next_form V x y z)
theorem kept_at {V : Int → Int → Int → Int} {l : List Ch} (h : KeptL V l) (k : Nat) (hk : k < l.length) :
    (V l[k].1 l[k].2.1 l[k].2.2.1 = 3 ∨ yldB (V l[k].1 l[k].2.1 l[k].2.2.1) = true) ∧ V l[k].1 l[k].2.1 l[k].2.2.1 ≠ l[k].2.2.2 ∧ 0 ≤ l[k].2.2.2 ∧ l[k].2.2.2 ≤ 15 ∧ l[k].2.2.2 ≠ 6 ∧ l[k].2.2.2 ≠ 7 := h.each _ (List.getElem_mem hk)
theorem kept_apart {V : Int → Int → Int → Int} {l : List Ch} (h : KeptL V l) (i j : Nat) (hi : i < l.length) (hj : j < l.length) (hij : i < j) : eqcS l[i].1 l[i].2.1 l[i].2.2.1 l[j].1 l[j].2.1 l[j].2.2.1 = false :=
  List.pairwise_iff_getElem.1 h.apart i j hi hj hij
end Go.Proofs.Ytjejobfhddlmeaa
