/-
  No Go in sight. A row that may have spare room behind it, and behind that more cells still; what append makes of it.
  No Go in sight. Quotients rounded down, what is left; bounds.
  The Go functions for quotients and what is left: each hands back what the plain definitions say, and leaves the world as it was.
  The hash of a seed and a place, and how high the ground is: what the Go functions hand back.
  A number made to lie below some most; a cell made near 0.
  The document's hash, ground and block: what they hand back.
  The document's block of a cell; a chunk's blocks, number by number.
-/
import Derived.Test.YtnogfelfgclajaaGreatDoorMb01
import Derived.ArgAppend
import Derived.Test.YtnogfelfgclajaaGreatDoorProg
import Derived.Handy
section
namespace Go.Proofs.YtnogfelfgclajaaGreatDoor
open Go.RowKit
set_option linter.unusedVariables false

/-- A slice of cells of one block, each element one cell; the block may have more cells than the slice has room. -/
def SRow (B : Nat) (w : World) (T : TypeId) (v : Value) (xs : List Value) : Prop :=
  (v = .slice none 0 0 ∧ xs = []) ∨ ∃ (g cap : Nat) (cur : Array Value), v = .slice (some ⟨g, 0, none⟩) xs.length cap ∧ B ≤ g ∧ w.heap[g]? = some (.cells cur T (0, 0)) ∧ xs.length ≤ cap ∧ cap ≤ maxLen ∧ cap ≤ cur.size ∧ ∀ (j : Nat) u, xs[j]? = some u → cur[j]? = some u
section
variable {B : Nat} {w W : World} {T : TypeId} {v : Value} {xs : List Value}
theorem srow_nil (B : Nat) (w : World) (T : TypeId) : SRow B w T (.slice none 0 0) [] := .inl ⟨rfl, rfl⟩
theorem SRow.form (h : SRow B w T v xs) : ∃ og cap, v = .slice og xs.length cap := by
  rcases h with ⟨rfl, rfl⟩ | ⟨g, cap, cur, rfl, _⟩
  · exact ⟨_, _, rfl⟩
  · exact ⟨_, _, rfl⟩
theorem SRow.got (h : SRow B w T v xs) (h0 : 0 < xs.length) : ∃ g cap, v = .slice (some ⟨g, 0, none⟩) xs.length cap ∧ xs.length ≤ cap ∧ cap ≤ maxLen ∧ B ≤ g ∧ (∃ cur, w.heap[g]? = some (.cells cur T (0, 0)) ∧ cap ≤ cur.size) ∧ ∀ j u, xs[j]? = some u → w.cell? ⟨g, j, none⟩ = some u := by
  rcases h with ⟨rfl, rfl⟩ | ⟨g, cap, cur, rfl, hB, hg, h1, h2, h3, h4⟩
  · simp at h0
  · exact ⟨g, cap, rfl, h1, h2, hB, ⟨cur, hg, h3⟩, fun j u hu => cell_of_block hg (h4 j u hu)⟩
theorem SRow.turn {F : Nat → Prop} (h : SRow B w T v xs) (hT : Turn F w W) (hF : ∀ g c fz, w.heap[g]? = some (.cells c T fz) → ¬ F g) : SRow B W T v xs := by
  rcases h with h | ⟨g, cap, cur, rfl, hB, hg, h1⟩
  · exact .inl h
  · exact .inr ⟨g, cap, cur, rfl, hB, (hT.block _ (lt_of_block hg) (hF _ _ _ hg)).trans hg, h1⟩
theorem SRow.turnOne {F : Nat → Prop} (h : SRow B w T v xs) (hT : Turn F w W) (hF : ∀ g, v.ownBlock = some g → ¬ F g) : SRow B W T v xs := by
  rcases h with h | ⟨g, cap, cur, rfl, hB, hg, h1⟩
  · exact .inl h
  · exact .inr ⟨g, cap, cur, rfl, hB, (hT.block _ (lt_of_block hg) (hF _ rfl)).trans hg, h1⟩
theorem SRow.grown (h : SRow B w T v xs) (hW : Below w.heap.size w W) : SRow B W T v xs := h.turnOne (turn_below (F := fun _ => False) hW) (fun _ _ => id)
theorem SRow.of_owns (h : w.ownsRow B T 1 v xs.length xs) : SRow B w T v xs := by
  rcases h.2 with ⟨rfl, h0⟩ | ⟨g, cap, cur, rfl, hB, hg, h1, h2, h3, h4⟩
  · exact .inl ⟨rfl, List.eq_nil_of_length_eq_zero h0⟩
  · refine .inr ⟨g, cap, cur, rfl, hB, hg, h1, h2, by omega, fun j u hu => ?_⟩
    rw [← h4] at hu
    rw [List.getElem?_take] at hu
    split at hu
    · simpa using hu
    · cases hu
/-- The slice s[:k:k]. -/
theorem SRow.cut {g n cap : Nat} (h : SRow B w T (.slice (some ⟨g, 0, none⟩) n cap) xs) (k : Nat) (hk : k ≤ xs.length) : SRow B w T (.slice (some ⟨g, 0, none⟩) k k) (xs.take k) := by
  rcases h with ⟨h, _⟩ | ⟨g', cap', cur, hv, hB, hg, h1, h2, h3, h4⟩
  · cases h
  · injection hv with e1 e2 e3
    injection e1 with e1
    injection e1 with e1
    subst e1 e2 e3
    have hlen : (xs.take k).length = k := by simp; omega
    refine .inr ⟨g, k, cur, by rw [hlen], hB, hg, by omega, by omega, by omega, fun j u hu => ?_⟩
    rw [List.getElem?_take] at hu
    split at hu
    · exact h4 j u hu
    · cases hu
theorem SRow.lt (h : SRow B w T v xs) : ∀ k, v.ownBlock = some k → B ≤ k ∧ k < w.heap.size := by
  intro k hk
  rcases h with ⟨rfl, _⟩ | ⟨g, cap, cur, rfl, hB, hg, _⟩
  · cases hk
  · obtain rfl := Option.some.inj hk
    exact ⟨hB, lt_of_block hg⟩
theorem SRow.ty (h : SRow B w T v xs) : ∀ k, v.ownBlock = some k → ∀ {TS : List TypeId}, T ∈ TS → Ty B TS w k := by
  intro k hk
  rcases h with ⟨rfl, _⟩ | ⟨g, cap, cur, rfl, hB, hg, _⟩
  · cases hk
  · obtain rfl := Option.some.inj hk
    exact fun hT => ty_yes hB hg hT

theorem run_append_s {P : Program} (t ty : TypeId) (i : TypeInfo) (z : Value) (bytes : Nat) (ht : P.underlying t = some (.slice T)) (hi : P.info? T = some i) (hz : i.zero = some z) (hsize : i.size = 1) (hby : i.bytes = bytes) (hzs : z.cells.size = 1)
    (h : SRow B w T v xs) (ad : Addr) (m c : Nat) (news : List Value) (hl : news.length = m) (hnews : ∀ j u, news[j]? = some u → w.cell? (ad.add j) = some u) (h1 : ∀ u ∈ news, u.oneCell' = true)
    (h63 : xs.length + m ≤ maxLen) (hbytes : (xs.length + m) * bytes ≤ 140737488355328) (hbase : B ≤ w.heap.size) :
    ∃ v' w', (Builtin.append_ #[t, t] ty #[v, .slice (some ad) m c]).run P w = .ok v' w' ∧ SRow B w' T v' (xs ++ news) ∧ Turn (fun k => v.ownBlock = some k) w w' := by
  rcases h with ⟨rfl, rfl⟩ | ⟨g, cap, cur, rfl, hB, hg, h2, h3, h4, h5⟩
  · obtain ⟨v', w', hr, r1, r2, _⟩ := run_append_own (P := P) w B t ty T i z 1 bytes ht hi hz hsize hby hzs (by omega) (.slice none 0 0) 0 [] (World.ownsRow_nil w _ T 1) ad m c news (by omega) hnews h1 (by simpa using h63) (by simpa using hbytes) hbase
    have e : 0 + m = ([] ++ news).length := by simp [hl]
    rw [e] at r1
    exact ⟨v', w', hr, SRow.of_owns r1, turn_by r2⟩
  · by_cases hroom : xs.length + m ≤ cap
    · have hr := run_append_room (P := P) w t ty T i ht hi g xs.length cap cur hg ad m c news (by rw [hsize]; omega) hnews h1 hroom (by rw [hsize]; omega)
      refine ⟨_, _, hr, .inr ⟨g, cap, _, by rw [List.length_append, hl], hB, setRow_heap w g cur _ T _ hg, by rw [List.length_append]; omega, h3, ?_, ?_⟩, turn_by ⟨rfl, rfl, rfl, by simp, fun k _ hk => setRow_other w g k _ (fun e => hk (by simp [Value.ownBlock, e]))⟩⟩
      · simp only [List.size_toArray, List.length_append, List.length_take, List.length_drop, Array.length_toList]
        rw [hsize]
        omega
      · intro j u hu
        rw [hsize, Nat.mul_one]
        simp only [List.getElem?_toArray]
        have hlt : (cur.toList.take xs.length).length = xs.length := by simp; omega
        have htk : cur.toList.take xs.length = xs := by
          refine List.ext_getElem? (fun k => ?_)
          rw [List.getElem?_take]
          split
          · next hk =>
            have := h5 k xs[k] (List.getElem?_eq_getElem hk)
            rw [List.getElem?_eq_getElem hk]
            simpa using this
          · next hk => rw [List.getElem?_eq_none (by omega)]
        rw [htk]
        have hj : j < (xs ++ news).length := (List.getElem?_eq_some_iff.1 hu).1
        rw [List.getElem?_append_left hj]
        exact hu
    · obtain ⟨v', w', hr, r1, r2⟩ := run_append_arg_grows (P := P) w t ty T i z 1 bytes ht hi hz hsize hby hzs (by omega) ⟨g, 0, none⟩ xs.length cap xs (by omega) (fun j u hu => by rw [Addr.add_lit]; exact cell_of_block hg (by rw [Nat.zero_add]; exact h5 j u hu)) ad m c news (by omega) hnews (by omega) h63 hbytes
      have e : xs.length + m = (xs ++ news).length := by simp [hl]
      rw [e] at r1
      exact ⟨v', w', hr, SRow.of_owns (owns_base r1 hbase), (turn_by r2).mono (fun _ _ e => by cases e)⟩
/-- An append whose run is known, for the walk. -/
theorem wpList_append_of {P : Program} {R : Value → World → Prop} {ops : Array Oper} {rest : List Oper} {o : Oper} {a : Act} {Q : Exit → Act → World → Prop} (hgd : o.guard = none) (s x : Operand) (t t' : TypeId)
    (ho : o.op = .call { callee := .builtin .append, args := #[s, x], argTypes := #[t, t'] }) (u1 u2 : Value) (e1 : a.eval s = u1) (e2 : a.eval x = u2)
    (hr : ∃ v' w', (Builtin.append_ #[t, t'] o.type #[u1, u2]).run P w = .ok v' w' ∧ R v' w')
    (h : ∀ v' w', R v' w' → wpList P ops Q rest (a.put o.dst v') w') : wpList P ops Q (o :: rest) a w := by
  obtain ⟨v', w', hr, h2⟩ := hr
  refine wpList_plain hgd fun K hK => ?_
  unfold Oper.wp execOp
  simp only [ho, resolve, invoke, builtin, Sem.run_bind, Sem.run_pure, Result.andThen_ok, List.map_toArray, List.map_cons, List.map_nil, e1, e2, hr]
  exact hK _ _ (h v' w' h2)
/-- .. at a step of a region that draws its order. -/
theorem step_append_of {P : Program} {R : Value → World → Prop} {ops : Array Oper} {o : Oper} {a : Act} {K : Act → World → Prop} {Q : Exit → Act → World → Prop} {E : Prop} (hgd : o.guard = none) (s x : Operand) (t t' : TypeId)
    (ho : o.op = .call { callee := .builtin .append, args := #[s, x], argTypes := #[t, t'] }) (u1 u2 : Value) (e1 : a.eval s = u1) (e2 : a.eval x = u2)
    (hr : ∃ v' w', (Builtin.append_ #[t, t'] o.type #[u1, u2]).run P w = .ok v' w' ∧ R v' w')
    (h : ∀ v' w', R v' w' → K (a.put o.dst v') w') : if Region.wanted o (yielded ops a.tmps) = true then Oper.wp P o a w K Q else E := by
  have hw : Region.wanted o (yielded ops a.tmps) = true := by simp [Region.wanted, hgd]
  rw [if_pos hw]
  obtain ⟨v', w', hr, h2⟩ := hr
  unfold Oper.wp execOp
  simp only [ho, resolve, invoke, builtin, Sem.run_bind, Sem.run_pure, Result.andThen_ok, List.map_toArray, List.map_cons, List.map_nil, e1, e2, hr]
  exact h v' w' h2
end
#print axioms run_append_s
end Go.Proofs.YtnogfelfgclajaaGreatDoor
end

section
namespace Go.Proofs.YtnogfelfgclajaaGreatDoor
set_option linter.unusedVariables false

/-- A number fits an int. -/
def Fit (n : Int) : Prop := -9223372036854775808 ≤ n ∧ n ≤ 9223372036854775807
theorem Fit.lo {n : Int} (h : Fit n) : -9223372036854775808 ≤ n := h.1
theorem Fit.hi {n : Int} (h : Fit n) : n ≤ 9223372036854775807 := h.2

def divS (a b : Int) : Int := if b < 1 then 0 else a / b
def modS (a b : Int) : Int := if b < 1 then 0 else a % b
theorem divS_low {a b : Int} (h : b < 1) : divS a b = 0 := by rw [divS, if_pos h]
theorem modS_low {a b : Int} (h : b < 1) : modS a b = 0 := by rw [modS, if_pos h]
theorem tdiv_tmod (a b : Int) : a.tmod b = a - b * a.tdiv b := by have := Int.mul_tdiv_add_tmod a b; omega
theorem divS_neg {a b : Int} (hb : 1 ≤ b) (h : a.tmod b < 0) : divS a b = a.tdiv b - 1 := by
  rw [divS, if_neg (by omega)]
  have h1 := Int.mul_tdiv_add_tmod a b
  have h2 := Int.lt_tmod_of_pos a (by omega : 0 < b)
  have h3 : a = (a.tmod b + b) + b * (a.tdiv b - 1) := by rw [Int.mul_sub]; omega
  rw [h3, Int.add_mul_ediv_left _ _ (by omega), ← h3, Int.ediv_eq_zero_of_lt (by omega) (by omega)]
  omega
theorem divS_pos {a b : Int} (hb : 1 ≤ b) (h : 0 ≤ a.tmod b) : divS a b = a.tdiv b := by
  rw [divS, if_neg (by omega)]
  have h1 := Int.mul_tdiv_add_tmod a b
  have h2 := Int.tmod_lt_of_pos a (by omega : 0 < b)
  have h3 : a = a.tmod b + b * a.tdiv b := by omega
  rw [h3, Int.add_mul_ediv_left _ _ (by omega), ← h3, Int.ediv_eq_zero_of_lt (by omega) (by omega)]
  omega
theorem modS_neg {a b : Int} (hb : 1 ≤ b) (h : a.tmod b < 0) : modS a b = a.tmod b + b := by
  have h1 := divS_neg hb h
  rw [divS, if_neg (by omega)] at h1
  rw [modS, if_neg (by omega)]
  have h2 := Int.mul_tdiv_add_tmod a b
  have h3 := Int.mul_ediv_add_emod a b
  rw [h1, Int.mul_sub] at h3
  omega
theorem modS_pos {a b : Int} (hb : 1 ≤ b) (h : 0 ≤ a.tmod b) : modS a b = a.tmod b := by
  have h1 := divS_pos hb h
  rw [divS, if_neg (by omega)] at h1
  rw [modS, if_neg (by omega)]
  have h2 := Int.mul_tdiv_add_tmod a b
  have h3 := Int.mul_ediv_add_emod a b
  rw [h1] at h3
  omega
theorem modS_bd {a b : Int} (hb : 1 ≤ b) : 0 ≤ modS a b ∧ modS a b < b := by
  rw [modS, if_neg (by omega)]
  exact ⟨Int.emod_nonneg _ (by omega), Int.emod_lt_of_pos _ (by omega)⟩
theorem divS_modS {a b : Int} (hb : 1 ≤ b) : b * divS a b + modS a b = a := by
  rw [modS, divS, if_neg (by omega), if_neg (by omega)]
  exact Int.mul_ediv_add_emod a b
/-- Go's own quotient of two ints, the second at least 1, fits. -/
theorem tdiv_bd {a b : Int} (hb : 1 ≤ b) : (0 ≤ a → 0 ≤ a.tdiv b ∧ a.tdiv b ≤ a) ∧ (a ≤ 0 → a ≤ a.tdiv b ∧ a.tdiv b ≤ 0) := by
  refine ⟨fun h => ⟨Int.tdiv_nonneg h (by omega), ?_⟩, fun h => ?_⟩
  · rw [Int.tdiv_eq_ediv_of_nonneg h]
    exact Int.ediv_le_self _ h
  · obtain ⟨n, rfl⟩ : ∃ n, a = -n := ⟨-a, by omega⟩
    rw [Int.neg_tdiv, Int.tdiv_eq_ediv_of_nonneg (by omega)]
    have h1 := Int.ediv_le_self (a := n) b (by omega)
    have h2 := Int.ediv_nonneg (a := n) (b := b) (by omega) (by omega)
    omega
theorem tdiv_low {a b : Int} (hb : 1 ≤ b) (h : a.tmod b < 0) : a < a.tdiv b := by
  have h1 := Int.mul_tdiv_add_tmod a b
  have h2 := (tdiv_bd (a := a) hb)
  rcases Int.lt_or_le a 0 with h0 | h0
  · have h3 := (h2.2 (by omega)).2
    have h4 : b * a.tdiv b ≤ 1 * a.tdiv b := Int.mul_le_mul_of_nonpos_right hb h3
    omega
  · have := Int.tmod_nonneg b h0
    omega
theorem tmod_bd {a b : Int} (hb : 1 ≤ b) : -b < a.tmod b ∧ a.tmod b < b := ⟨Int.lt_tmod_of_pos a (by omega), Int.tmod_lt_of_pos a (by omega)⟩
theorem Fit.divS {a b : Int} (ha : Fit a) : Fit (divS a b) := by
  by_cases hb : b < 1
  · rw [divS_low hb]; exact ⟨by omega, by omega⟩
  · have h1 := ha.1
    have h2 := ha.2
    have h3 := (tdiv_bd (a := a) (b := b) (by omega))
    by_cases h : a.tmod b < 0
    · rw [divS_neg (by omega) h]
      have := tdiv_low (a := a) (b := b) (by omega) h
      rcases Int.le_total 0 a with h0 | h0
      · have := h3.1 h0; exact ⟨by omega, by omega⟩
      · have := h3.2 h0; exact ⟨by omega, by omega⟩
    · rw [divS_pos (by omega) (by omega)]
      rcases Int.le_total 0 a with h0 | h0
      · have := h3.1 h0; exact ⟨by omega, by omega⟩
      · have := h3.2 h0; exact ⟨by omega, by omega⟩

theorem fit0 : Fit 0 := ⟨by omega, by omega⟩
theorem fit16 : Fit 16 := ⟨by omega, by omega⟩
theorem mod16 (n : Int) : 0 ≤ modS n 16 ∧ modS n 16 < 16 := modS_bd (by omega)

/-- A number, cut to what a cell's may be. -/
def cutS (n : Int) : Int := min 2147483648 (max n (-2147483648))
theorem cutS_fold (n : Int) : min 2147483648 (max n (-2147483648)) = cutS n := rfl
theorem cutS_bd (n : Int) : -2147483648 ≤ cutS n ∧ cutS n ≤ 2147483648 := by unfold cutS; omega
theorem cutS_in {n : Int} (h1 : -2147483648 ≤ n) (h2 : n ≤ 2147483648) : cutS n = n := by unfold cutS; omega
theorem cutS_cutS (n : Int) : cutS (cutS n) = cutS n := cutS_in (cutS_bd n).1 (cutS_bd n).2
theorem cutS_fit (n : Int) : Fit (cutS n) := by have := cutS_bd n; exact ⟨by omega, by omega⟩

/-- A cell's index. -/
def idxS (x y z : Int) : Int := y * 256 + modS z 16 * 16 + modS x 16
theorem idxS_bd {x y z : Int} (h1 : 0 ≤ y) (h2 : y ≤ 31) : 0 ≤ idxS x y z ∧ idxS x y z ≤ 8191 := by
  have := mod16 x
  have := mod16 z
  unfold idxS
  omega

theorem divS16 (n : Int) : divS n 16 = n / 16 := by rw [divS, if_neg (by omega)]
theorem modS16 (n : Int) : modS n 16 = n % 16 := by rw [modS, if_neg (by omega)]

/-- The cell of a chunk's place and an index. -/
def atX (p i : Int) : Int := p * 16 + i % 16
def atY (i : Int) : Int := i / 256
def atZ (p i : Int) : Int := p * 16 + i / 16 % 16
theorem atX_idx {x y z : Int} : atX (divS x 16) (idxS x y z) = x := by
  unfold atX idxS
  rw [divS16, modS16, modS16]
  omega
theorem atY_idx {x y z : Int} : atY (idxS x y z) = y := by
  unfold atY idxS
  rw [modS16, modS16]
  omega
theorem atZ_idx {x y z : Int} : atZ (divS z 16) (idxS x y z) = z := by
  unfold atZ idxS
  rw [divS16, modS16, modS16]
  omega
theorem atY_bd {i : Int} (h1 : 0 ≤ i) (h2 : i ≤ 8191) : 0 ≤ atY i ∧ atY i ≤ 31 := by unfold atY; omega
theorem at_idx {p q i : Int} : idxS (atX p i) (atY i) (atZ q i) = i := by
  unfold atX atY atZ idxS
  rw [modS16, modS16]
  omega
theorem divX {p i : Int} : divS (atX p i) 16 = p := by
  unfold atX
  rw [divS16]
  omega
theorem divZ {p i : Int} : divS (atZ p i) 16 = p := by
  unfold atZ
  rw [divS16]
  omega
theorem atX_fit {p i : Int} (h1 : -134217728 ≤ p) (h2 : p ≤ 134217728) : Fit (atX p i) := by unfold atX; exact ⟨by omega, by omega⟩
theorem atZ_fit {p i : Int} (h1 : -134217728 ≤ p) (h2 : p ≤ 134217728) : Fit (atZ p i) := by unfold atZ; exact ⟨by omega, by omega⟩

/-- Of a number, which one it is made to, from 0 on, below some most. -/
def arS (n m : Int) : Int := if n < 0 then (-(n + 1)) % m else n % m
theorem arS_bd {n m : Int} (hm : 1 ≤ m) : 0 ≤ arS n m ∧ arS n m < m := by
  unfold arS
  split <;> exact ⟨Int.emod_nonneg _ (by omega), Int.emod_lt_of_pos _ (by omega)⟩
end Go.Proofs.YtnogfelfgclajaaGreatDoor
end

section
namespace Go.Proofs.YtnogfelfgclajaaGreatDoor
open Go.RowKit
set_option linter.unusedVariables false

theorem div_any (a b : Int) (w : World) (ha : Fit a) (hb : Fit b) :
    Calls Tryz.prog 127 #[.int .i64 a, .int .i64 b] w fun e w' => e = .returned (.int .i64 (divS a b)) ∧ w = w' := by
  by_cases h1 : b < 1
  · have H := Lib.hid (divS_low (a := a) h1)
    go_enter Tryz.func127, Tryz.ntmps127
    go_wp2
    go_ret
    exact ⟨ret_int H.out.symm, rfl⟩
  · have h2 : ¬ b = 0 := by omega
    have f1 := ha.1
    have f2 := ha.2
    have f3 := hb.2
    have f4 := tdiv_bd (a := a) (b := b) (by omega)
    have f5 : -9223372036854775808 ≤ a.tdiv b := by
      rcases Int.le_total 0 a with h0 | h0
      · have := f4.1 h0; omega
      · have := f4.2 h0; omega
    have f6 : a.tdiv b ≤ 9223372036854775807 := by
      rcases Int.le_total 0 a with h0 | h0
      · have := f4.1 h0; omega
      · have := f4.2 h0; omega
    by_cases h3 : a.tmod b < 0
    · have H := Lib.hid (divS_neg (a := a) (b := b) (by omega) h3)
      have f7 := tdiv_low (a := a) (b := b) (by omega) h3
      clear f4
      go_enter Tryz.func127, Tryz.ntmps127
      go_wp2
      go_ret
      exact ⟨ret_int H.out.symm, rfl⟩
    · have H := Lib.hid (divS_pos (a := a) (b := b) (by omega) (by omega))
      clear f4
      go_enter Tryz.func127, Tryz.ntmps127
      go_wp2
      go_ret
      exact ⟨ret_int H.out.symm, rfl⟩

theorem mod_any (a b : Int) (w : World) (ha : Fit a) (hb : Fit b) :
    Calls Tryz.prog 223 #[.int .i64 a, .int .i64 b] w fun e w' => e = .returned (.int .i64 (modS a b)) ∧ w = w' := by
  by_cases h1 : b < 1
  · have H := Lib.hid (modS_low (a := a) h1)
    go_enter Tryz.func223, Tryz.ntmps223
    go_wp2
    go_ret
    exact ⟨ret_int H.out.symm, rfl⟩
  · have h2 : ¬ b = 0 := by omega
    have f3 := hb.2
    have f4 := (tmod_bd (a := a) (b := b) (by omega)).1
    have f5 := (tmod_bd (a := a) (b := b) (by omega)).2
    by_cases h3 : a.tmod b < 0
    · have H := Lib.hid (modS_neg (a := a) (b := b) (by omega) h3)
      go_enter Tryz.func223, Tryz.ntmps223
      go_wp2
      go_ret
      exact ⟨ret_int H.out.symm, rfl⟩
    · have H := Lib.hid (modS_pos (a := a) (b := b) (by omega) (by omega))
      go_enter Tryz.func223, Tryz.ntmps223
      go_wp2
      go_ret
      exact ⟨ret_int H.out.symm, rfl⟩

theorem refmod_any (a b : Int) (w : World) (ha : Fit a) (hb : Fit b) :
    Calls Tryz.prog 120 #[.int .i64 a, .int .i64 b] w fun e w' => e = .returned (.int .i64 (modS a b)) ∧ w = w' := by
  by_cases h1 : b < 1
  · have H := Lib.hid (modS_low (a := a) h1)
    go_enter Tryz.func120, Tryz.ntmps120
    go_wp2
    go_ret
    exact ⟨ret_int H.out.symm, rfl⟩
  · have h2 : ¬ b = 0 := by omega
    have f3 := hb.2
    have f4 := (tmod_bd (a := a) (b := b) (by omega)).1
    have f5 := (tmod_bd (a := a) (b := b) (by omega)).2
    by_cases h3 : a.tmod b < 0
    · have H := Lib.hid (modS_neg (a := a) (b := b) (by omega) h3)
      go_enter Tryz.func120, Tryz.ntmps120
      go_wp2
      go_ret
      exact ⟨ret_int H.out.symm, rfl⟩
    · have H := Lib.hid (modS_pos (a := a) (b := b) (by omega) (by omega))
      go_enter Tryz.func120, Tryz.ntmps120
      go_wp2
      go_ret
      exact ⟨ret_int H.out.symm, rfl⟩
end Go.Proofs.YtnogfelfgclajaaGreatDoor
end

section
namespace Go.Proofs.YtnogfelfgclajaaGreatDoor
open Go.RowKit
attribute [local go_sem] ext_ext drew_ext ext_drew ext_cell ext_frozen in_lt in_le in_ne in_en in_ne1 in_en1 in_le1 in_ltn in_len in_nen in_enn size_le ite_max ite_min
set_option linter.unusedVariables false
set_option linter.unusedSimpArgs false

def mixS (s x z : Int) : Int := IntKind.u64.wrap (IntKind.u64.wrap (IntKind.u64.wrap (IntKind.u64.wrap s * 11400714819323198485) + IntKind.u64.wrap (IntKind.u64.wrap x * 14029467366897019727)) + IntKind.u64.wrap (IntKind.u64.wrap z * 1609587929392839161))
def mix2S (h : Int) : Int := IntKind.u64.wrap (bits BinOp.xor IntKind.u64 h (h / 536870912) * 13787848793156543929)
def lastS (h : Int) : Int := bits BinOp.xor IntKind.u64 h (h / 4294967296)
/-- The hash. -/
def hashS (s x z : Int) : Int := lastS (mix2S (mixS s x z))

theorem wrap_u64_bd (n : Int) : 0 ≤ IntKind.u64.wrap n ∧ IntKind.u64.wrap n < 18446744073709551616 := by
  rw [IntKind.wrap_u64]
  omega
theorem hashS_bd (s x z : Int) : 0 ≤ hashS s x z ∧ hashS s x z < 18446744073709551616 := by
  unfold hashS lastS
  generalize mix2S (mixS s x z) = h
  show 0 ≤ IntKind.u64.wrap _ ∧ IntKind.u64.wrap _ < _
  exact wrap_u64_bd _

theorem hash_any (s x z : Int) (w : World) : Calls Tryz.prog 306 #[.int .i64 s, .int .i64 x, .int .i64 z] w fun e w' => e = .returned (.int .u64 (hashS s x z)) ∧ w = w' := by
  go_enter Tryz.func306, Tryz.ntmps306
  go_wp2
  go_ret
  exact ⟨rfl, rfl⟩

/-- A corner's part of the ground. -/
def corS (s a b k : Int) : Int := hashS s a b % 9 * k
theorem corS_bd (s a b : Int) {k : Int} (hk : 0 ≤ k) : 0 ≤ corS s a b k ∧ corS s a b k ≤ 8 * k := by
  unfold corS
  have h1 := Int.emod_nonneg (hashS s a b) (by omega : (9 : Int) ≠ 0)
  have h2 := Int.emod_lt_of_pos (hashS s a b) (by omega : (0 : Int) < 9)
  exact ⟨Int.mul_nonneg h1 hk, Int.mul_le_mul_of_nonneg_right (by omega) hk⟩

theorem corner_any (a b k s : Int) (g : Nat) (w : World) (h0 : w.cell? ⟨g, 0, none⟩ = some (.int .i64 s)) (k1 : 0 ≤ k) (k2 : k ≤ 64) :
    Calls Tryz.prog 305 #[.int .i64 a, .int .i64 b, .int .i64 k, .pointer (some ⟨g, 0, none⟩)] w fun e w' => e = .returned (.int .i64 (corS s a b k)) ∧ w = w' := by
  have b1 := (hashS_bd s a b).1
  have c1 := Int.emod_nonneg (hashS s a b) (by omega : (9 : Int) ≠ 0)
  have c2 := Int.emod_lt_of_pos (hashS s a b) (by omega : (0 : Int) < 9)
  obtain ⟨d1, d2⟩ := corS_bd s a b k1
  unfold corS at d1 d2
  go_enter Tryz.func305, Tryz.ntmps305
  go_wp2_with (first | (go_at_call 306; refine (hash_any _ _ _ _).mono ?_; rintro e w1 ⟨rfl, rfl⟩))
  go_ret
  exact ⟨rfl, rfl⟩

theorem hash0 : hashS 0 0 0 = 0 := by decide +kernel

theorem mod8 (n : Int) : 0 ≤ modS n 8 ∧ modS n 8 < 8 := modS_bd (by omega)
theorem fit8 : Fit 8 := ⟨by omega, by omega⟩

/-- How high the ground is. -/
def groundS (s x z : Int) : Int :=
  6 + (corS s (divS x 8) (divS z 8) ((8 - modS x 8) * (8 - modS z 8)) + corS s (divS x 8 + 1) (divS z 8) (modS x 8 * (8 - modS z 8)) +
    corS s (divS x 8) (divS z 8 + 1) ((8 - modS x 8) * modS z 8) + corS s (divS x 8 + 1) (divS z 8 + 1) (modS x 8 * modS z 8)) / 64

theorem weights {u v : Int} (u1 : 0 ≤ u) (u2 : u < 8) (v1 : 0 ≤ v) (v2 : v < 8) :
    (0 ≤ (8 - u) * (8 - v) ∧ (8 - u) * (8 - v) ≤ 64) ∧ (0 ≤ u * (8 - v) ∧ u * (8 - v) ≤ 64) ∧ (0 ≤ (8 - u) * v ∧ (8 - u) * v ≤ 64) ∧ (0 ≤ u * v ∧ u * v ≤ 64) ∧
      (8 - u) * (8 - v) + u * (8 - v) + (8 - u) * v + u * v = 64 := by
  rcases (by omega : u = 0 ∨ u = 1 ∨ u = 2 ∨ u = 3 ∨ u = 4 ∨ u = 5 ∨ u = 6 ∨ u = 7) with rfl | rfl | rfl | rfl | rfl | rfl | rfl | rfl <;> omega

theorem groundS_bd (s x z : Int) : 6 ≤ groundS s x z ∧ groundS s x z ≤ 14 := by
  obtain ⟨u1, u2⟩ := mod8 x
  obtain ⟨v1, v2⟩ := mod8 z
  obtain ⟨⟨a1, _⟩, ⟨b1, _⟩, ⟨c1, _⟩, ⟨d1, _⟩, e⟩ := weights u1 u2 v1 v2
  have h1 := corS_bd s (divS x 8) (divS z 8) a1
  have h2 := corS_bd s (divS x 8 + 1) (divS z 8) b1
  have h3 := corS_bd s (divS x 8) (divS z 8 + 1) c1
  have h4 := corS_bd s (divS x 8 + 1) (divS z 8 + 1) d1
  unfold groundS
  omega

set_option maxHeartbeats 1000000 in
theorem ground_any (s x z : Int) (w : World) (hx : Fit x) (hz : Fit z) :
    Calls Tryz.prog 233 #[.int .i64 s, .int .i64 x, .int .i64 z] w fun e w' => e = .returned (.int .i64 (groundS s x z)) ∧ ∃ f, w' = ext w f := by
  have hmf : ∀ (fn : Fn) (first cap : Array Value) (w : World), (Instr.makeFunc fn first cap).run Tryz.prog w = .ok (.func fn first cap) w := fun _ _ _ _ => rfl
  obtain ⟨u1, u2⟩ := mod8 x
  obtain ⟨v1, v2⟩ := mod8 z
  obtain ⟨⟨a1, a2⟩, ⟨b1, b2⟩, ⟨c1, c2⟩, ⟨d1, d2⟩, _⟩ := weights u1 u2 v1 v2
  obtain ⟨h1, h1'⟩ := corS_bd s (divS x 8) (divS z 8) a1
  obtain ⟨h2, h2'⟩ := corS_bd s (divS x 8 + 1) (divS z 8) b1
  obtain ⟨h3, h3'⟩ := corS_bd s (divS x 8) (divS z 8 + 1) c1
  obtain ⟨h4, h4'⟩ := corS_bd s (divS x 8 + 1) (divS z 8 + 1) d1
  have x1 := hx.1
  have x2 := hx.2
  have z1 := hz.1
  have z2 := hz.2
  have f1 : -9223372036854775808 ≤ divS x 8 ∧ divS x 8 ≤ 1152921504606846976 := by rw [divS, if_neg (by omega)]; omega
  have f2 : -9223372036854775808 ≤ divS z 8 ∧ divS z 8 ≤ 1152921504606846976 := by rw [divS, if_neg (by omega)]; omega
  obtain ⟨f11, f12⟩ := f1
  obtain ⟨f21, f22⟩ := f2
  go_enter Tryz.func233, Tryz.ntmps233
  go_wp2_with (first
    | (go_at_call 127; refine (div_any _ _ _ (by assumption) fit8).mono ?_; rintro e w1 ⟨rfl, rfl⟩)
    | (go_at_call 223; refine (mod_any _ _ _ (by assumption) fit8).mono ?_; rintro e w1 ⟨rfl, rfl⟩)
    | (go_at_call 305; refine (corner_any _ _ _ s _ _ ?_ (by assumption) (by assumption)).mono ?_; (go_simp); rintro e w1 ⟨rfl, rfl⟩))
  go_ret
  exact ⟨rfl, grown_of⟩

/-- The block of a height, over some ground. -/
def ofS (y g : Int) : Int := if y < 0 ∨ 32 ≤ y then 0 else if y = 0 ∨ y < g - 3 then 1 else if y < g - 1 ∨ (y = g - 1 ∧ 9 < g) then 2 else if y = g - 1 then 3 else if y < 9 then 8 else 0

theorem of_any (y g : Int) (w : World) (g1 : 6 ≤ g) (g2 : g ≤ 14) :
    Calls Tryz.prog 234 #[.int .i64 y, .int .i64 g] w fun e w' => e = .returned (.int .i64 (ofS y g)) ∧ w = w' := by
  by_cases c1 : y < 0
  · have H : Hid (ofS y g = 0) := by unfold ofS; rw [if_pos (.inl c1)]; exact rfl
    go_enter Tryz.func234, Tryz.ntmps234
    go_wp2
    go_ret
    exact ⟨ret_int H.out.symm, rfl⟩
  by_cases c2 : 32 ≤ y
  · have H : Hid (ofS y g = 0) := by unfold ofS; rw [if_pos (.inr c2)]; exact rfl
    go_enter Tryz.func234, Tryz.ntmps234
    go_wp2
    go_ret
    exact ⟨ret_int H.out.symm, rfl⟩
  by_cases c3 : y = 0
  · subst c3
    have H : Hid (ofS 0 g = 1) := by unfold ofS; rw [if_neg (by omega), if_pos (.inl rfl)]; exact rfl
    go_enter Tryz.func234, Tryz.ntmps234
    go_wp2
    go_ret
    exact ⟨ret_int H.out.symm, rfl⟩
  have d3 : (y == 0) = false := by simp [c3]
  by_cases c4 : y < g - 3
  · have H : Hid (ofS y g = 1) := by unfold ofS; rw [if_neg (by omega), if_pos (.inr c4)]; exact rfl
    clear c3
    go_enter Tryz.func234, Tryz.ntmps234
    go_wp2
    go_ret
    exact ⟨ret_int H.out.symm, rfl⟩
  by_cases c5 : y < g - 1
  · have H : Hid (ofS y g = 2) := by unfold ofS; rw [if_neg (by omega), if_neg (by omega), if_pos (.inl c5)]; exact rfl
    clear c3
    go_enter Tryz.func234, Tryz.ntmps234
    go_wp2
    go_ret
    exact ⟨ret_int H.out.symm, rfl⟩
  by_cases c6 : y = g - 1
  · have d6 : (y == g - 1) = true := by simp [c6]
    by_cases c7 : 9 < g
    · have H : Hid (ofS y g = 2) := by unfold ofS; rw [if_neg (by omega), if_neg (by omega), if_pos (.inr ⟨c6, c7⟩)]; exact rfl
      clear c6 c3
      go_enter Tryz.func234, Tryz.ntmps234
      go_wp2
      go_ret
      exact ⟨ret_int H.out.symm, rfl⟩
    · have H : Hid (ofS y g = 3) := by unfold ofS; rw [if_neg (by omega), if_neg (by omega), if_neg (by omega), if_pos c6]; exact rfl
      clear c6 c3
      go_enter Tryz.func234, Tryz.ntmps234
      go_wp2
      go_ret
      exact ⟨ret_int H.out.symm, rfl⟩
  have d6 : (y == g - 1) = false := by simp [c6]
  by_cases c8 : y < 9
  · have H : Hid (ofS y g = 8) := by unfold ofS; rw [if_neg (by omega), if_neg (by omega), if_neg (by omega), if_neg (by omega), if_pos c8]; exact rfl
    clear c6 c3
    go_enter Tryz.func234, Tryz.ntmps234
    go_wp2
    go_ret
    exact ⟨ret_int H.out.symm, rfl⟩
  · have H : Hid (ofS y g = 0) := by unfold ofS; rw [if_neg (by omega), if_neg (by omega), if_neg (by omega), if_neg (by omega), if_neg (by omega)]; exact rfl
    clear c6 c3
    go_enter Tryz.func234, Tryz.ntmps234
    go_wp2
    go_ret
    exact ⟨ret_int H.out.symm, rfl⟩

end Go.Proofs.YtnogfelfgclajaaGreatDoor
end

section
namespace Go.Proofs.YtnogfelfgclajaaGreatDoor
open Go.RowKit
attribute [local go_sem] ext_ext drew_ext ext_drew ext_cell ext_frozen in_lt in_le in_ne in_en in_ne1 in_en1 in_le1 in_ltn in_len in_nen in_enn size_le ite_max ite_min
set_option linter.unusedVariables false
set_option linter.unusedSimpArgs false

theorem around_fit (n m : Int) (w : World) (hn : Fit n) (h1 : 1 ≤ m) (h2 : m ≤ 4611686018427387904) :
    Calls Tryz.prog 6 #[.int .i64 n, .int .i64 m] w fun e w' => e = .returned (.int .i64 (arS n m)) ∧ w = w' := by
  have f1 := hn.1
  have f2 := hn.2
  have h3 : ¬ m = 0 := by omega
  by_cases h : n < 0
  · have H : Hid (arS n m = (-(n + 1)) % m) := by unfold arS; exact if_pos h
    have g : 0 ≤ -(n + 1) := by omega
    go_enter Tryz.func6, Tryz.ntmps6
    go_wp2
    go_ret
    exact ⟨ret_int (by rw [← Int.neg_tmod, Int.tmod_eq_emod_of_nonneg g]; exact H.out.symm), rfl⟩
  · have H : Hid (arS n m = n % m) := by unfold arS; exact if_neg h
    have g : 0 ≤ n := by omega
    go_enter Tryz.func6, Tryz.ntmps6
    go_wp2
    go_ret
    exact ⟨ret_int H.out.symm, rfl⟩

theorem good_any (x y z k : Int) (w : World) (hx : Fit x) (hy : Fit y) (hz : Fit z) (k1 : 0 ≤ k) (k2 : k ≤ 1000) :
    Calls Tryz.prog 9 #[.agg #[.int .i64 x, .int .i64 y, .int .i64 z], .int .i64 k] w fun e w' =>
      e = .returned (.agg #[.int .i64 (arS x (2 * k + 1) - k), .int .i64 (arS y 32), .int .i64 (arS z (2 * k + 1) - k)]) ∧ ∃ f, w' = ext w f := by
  obtain ⟨a1, a2⟩ := arS_bd (n := x) (m := 2 * k + 1) (by omega)
  obtain ⟨b1, b2⟩ := arS_bd (n := z) (m := 2 * k + 1) (by omega)
  go_enter Tryz.func9, Tryz.ntmps9
  go_wp2_with fail
  first | (with_reducible refine wp_region_ext_tail_on 20 ?_ ?_ ?_) | refine wp_region_ext_tail 20 ?_ ?_ ?_
  · kernel_rfl
  · kernel_rfl
  simp only [List.take_succ_cons, List.take_zero, List.drop_succ_cons, List.drop_zero]
  repeat (go_big_quiet_step (first | (go_at_call 6; exact ext_same (around_fit _ _ _ (by assumption) (by omega) (by omega)))))
  refine wpQuiet_nil ?_
  rintro _ ⟨t, rfl⟩
  go_wp2
  go_returns
  exact ⟨rfl, grown_of⟩
end Go.Proofs.YtnogfelfgclajaaGreatDoor
end

section
namespace Go.Proofs.YtnogfelfgclajaaGreatDoor
open Go.RowKit
attribute [local go_sem] ext_ext drew_ext ext_drew ext_cell ext_frozen in_lt in_le in_ne in_en in_ne1 in_en1 in_le1 in_ltn in_len in_nen in_enn size_le ite_max ite_min
set_option linter.unusedVariables false
set_option linter.unusedSimpArgs false

theorem ret_u64 {a b : Int} (h : a = b) : Ending.returned (.int .u64 a) = .returned (.int .u64 b) := by rw [h]
theorem refhash_any (s x z : Int) (w : World) : Calls Tryz.prog 121 #[.int .i64 s, .int .i64 x, .int .i64 z] w fun e w' => e = .returned (.int .u64 (hashS s x z)) ∧ w = w' := by
  obtain ⟨hm1, hm2⟩ := wrap_u64_bd (IntKind.u64.wrap (IntKind.u64.wrap (IntKind.u64.wrap s * 11400714819323198485) + IntKind.u64.wrap (IntKind.u64.wrap x * 14029467366897019727)) + IntKind.u64.wrap (IntKind.u64.wrap z * 1609587929392839161))
  obtain ⟨hn1, hn2⟩ := wrap_u64_bd (bits BinOp.xor IntKind.u64 (mixS s x z) (mixS s x z / 536870912) * 13787848793156543929)
  unfold mixS at hn1 hn2
  go_enter Tryz.func121, Tryz.ntmps121
  go_wp2
  go_ret
  exact ⟨rfl, rfl⟩

/-- A block's place in a chunk. -/
def fromV (px pz i : Int) : Value := .agg #[.int .i64 (px * 16 + i % 16), .int .i64 (i / 256), .int .i64 (pz * 16 + i / 16 % 16)]
theorem from_any (px pz : Int) (i : Int) (w : World) (p1 : -134217728 ≤ px) (p2 : px ≤ 134217728) (q1 : -134217728 ≤ pz) (q2 : pz ≤ 134217728) (i1 : 0 ≤ i) (i2 : i < 8192) :
    Calls Tryz.prog 232 #[.agg #[.int .i64 px, .int .i64 pz], .int .i64 i] w fun e w' => e = .returned (.tuple #[.agg #[.int .i64 (px * 16 + i % 16), .int .i64 (i / 256), .int .i64 (pz * 16 + i / 16 % 16)], .bool true]) ∧ ∃ f, w' = ext w f := by
  go_enter Tryz.func232, Tryz.ntmps232
  go_wp2
  go_returns
  exact ⟨rfl, grown_of⟩
theorem from_same (i : Int) : i % 256 / 16 = i / 16 % 16 := by omega

theorem ref01div_any (a b : Int) (w : World) (ha : Fit a) (hb : Fit b) (h1 : 1 ≤ b) :
    Calls Tryz.prog 70 #[.int .i64 a, .int .i64 b] w fun e w' => e = .returned (.int .i64 (divS a b)) ∧ w = w' := by
  have h2 : ¬ b = 0 := by omega
  have f1 := ha.1
  have f2 := ha.2
  have f3 := hb.2
  have f4 := tdiv_bd (a := a) (b := b) (by omega)
  have f5 : -9223372036854775808 ≤ a.tdiv b := by
    rcases Int.le_total 0 a with h0 | h0
    · have := f4.1 h0; omega
    · have := f4.2 h0; omega
  have f6 : a.tdiv b ≤ 9223372036854775807 := by
    rcases Int.le_total 0 a with h0 | h0
    · have := f4.1 h0; omega
    · have := f4.2 h0; omega
  have f8 : a.tdiv b * b = a - a.tmod b := by rw [tdiv_tmod, Int.mul_comm]; omega
  have f9 : -9223372036854775808 ≤ a.tdiv b * b ∧ a.tdiv b * b ≤ 9223372036854775807 := by
    rw [f8]
    rcases Int.le_total 0 a with h0 | h0
    · have := Int.tmod_nonneg b h0
      have := f4.1 h0
      have h3 : a.tdiv b * b = b * a.tdiv b := Int.mul_comm _ _
      have h5 : 0 ≤ a.tdiv b * b := Int.mul_nonneg this.1 (by omega)
      omega
    · have h4 : a.tmod b ≤ 0 := by
        obtain ⟨n, rfl⟩ : ∃ n, a = -n := ⟨-a, by omega⟩
        rw [Int.neg_tmod]
        have := Int.tmod_nonneg (a := n) b (by omega)
        omega
      have := f4.2 h0
      have h5 : a.tdiv b * b ≤ 0 := Int.mul_nonpos_of_nonpos_of_nonneg this.2 (by omega)
      omega
  obtain ⟨f10, f11⟩ := f9
  by_cases h3 : a.tmod b < 0
  · have H := Lib.hid (divS_neg (a := a) (b := b) (by omega) h3)
    have f7 := tdiv_low (a := a) (b := b) (by omega) h3
    have h9 : a < a.tdiv b * b := by omega
    clear f4 f8
    go_enter Tryz.func70, Tryz.ntmps70
    go_wp2
    go_ret
    exact ⟨ret_int H.out.symm, rfl⟩
  · have H := Lib.hid (divS_pos (a := a) (b := b) (by omega) (by omega))
    have h9 : ¬ a < a.tdiv b * b := by omega
    clear f4 f8
    go_enter Tryz.func70, Tryz.ntmps70
    go_wp2
    go_ret
    exact ⟨ret_int H.out.symm, rfl⟩

theorem ref03div_any (a b : Int) (w : World) (ha : Fit a) (hb : Fit b) :
    Calls Tryz.prog 32 #[.int .i64 a, .int .i64 b] w fun e w' => e = .returned (.int .i64 (divS a b)) ∧ w = w' := by
  by_cases h1 : b < 1
  · have H := Lib.hid (divS_low (a := a) h1)
    go_enter Tryz.func32, Tryz.ntmps32
    go_wp2
    go_ret
    exact ⟨ret_int H.out.symm, rfl⟩
  · have h2 : 1 ≤ b := by omega
    go_enter Tryz.func32, Tryz.ntmps32
    go_wp2_with (first | (go_at_call 70; refine (ref01div_any _ _ _ ha hb h2).mono ?_; rintro e w1 ⟨rfl, rfl⟩))
    go_ret
    exact ⟨rfl, rfl⟩

theorem prod_bd {P H : Int} (p1 : 0 ≤ P) (p2 : P ≤ 64) (h1 : 0 ≤ H) (h2 : H < 9) : 0 ≤ P * H ∧ P * H ≤ 512 :=
  ⟨Int.mul_nonneg p1 h1, Int.le_trans (Int.mul_le_mul_of_nonneg_right p2 h1) (by omega)⟩
theorem hash9 (s a b : Int) : 0 ≤ hashS s a b % 9 ∧ hashS s a b % 9 < 9 := ⟨Int.emod_nonneg _ (by omega), Int.emod_lt_of_pos _ (by omega)⟩

set_option maxRecDepth 100000 in
set_option maxHeartbeats 4000000 in
theorem refground_any (s x z : Int) (w : World) (hx : Fit x) (hz : Fit z) :
    Calls Tryz.prog 71 #[.int .i64 s, .int .i64 x, .int .i64 z] w fun e w' => e = .returned (.int .i64 (groundS s x z)) ∧ w = w' := by
  obtain ⟨u1, u2⟩ := mod8 x
  obtain ⟨v1, v2⟩ := mod8 z
  obtain ⟨⟨a1, a2⟩, ⟨b1, b2⟩, ⟨c1, c2⟩, ⟨d1, d2⟩, _⟩ := weights u1 u2 v1 v2
  have x1 := hx.1
  have x2 := hx.2
  have z1 := hz.1
  have z2 := hz.2
  have f1 : -9223372036854775808 ≤ divS x 8 ∧ divS x 8 ≤ 1152921504606846976 := by rw [divS, if_neg (by omega)]; omega
  have f2 : -9223372036854775808 ≤ divS z 8 ∧ divS z 8 ≤ 1152921504606846976 := by rw [divS, if_neg (by omega)]; omega
  obtain ⟨f11, f12⟩ := f1
  obtain ⟨f21, f22⟩ := f2
  obtain ⟨g1, g2⟩ := hash9 s (divS x 8) (divS z 8)
  obtain ⟨g3, g4⟩ := hash9 s (divS x 8) (divS z 8 + 1)
  obtain ⟨g5, g6⟩ := hash9 s (divS x 8 + 1) (divS z 8)
  obtain ⟨g7, g8⟩ := hash9 s (divS x 8 + 1) (divS z 8 + 1)
  have g9 := (hashS_bd s (divS x 8) (divS z 8)).1
  have g10 := (hashS_bd s (divS x 8) (divS z 8 + 1)).1
  have g11 := (hashS_bd s (divS x 8 + 1) (divS z 8)).1
  have g12 := (hashS_bd s (divS x 8 + 1) (divS z 8 + 1)).1
  obtain ⟨k1, k2⟩ := prod_bd a1 a2 g1 g2
  obtain ⟨k3, k4⟩ := prod_bd c1 c2 g3 g4
  obtain ⟨k5, k6⟩ := prod_bd b1 b2 g5 g6
  obtain ⟨k7, k8⟩ := prod_bd d1 d2 g7 g8
  have H : Hid (6 + ((8 - modS x 8) * (8 - modS z 8) * (hashS s (divS x 8) (divS z 8) % 9) + (8 - modS x 8) * modS z 8 * (hashS s (divS x 8) (divS z 8 + 1) % 9) + modS x 8 * (8 - modS z 8) * (hashS s (divS x 8 + 1) (divS z 8) % 9) + modS x 8 * modS z 8 * (hashS s (divS x 8 + 1) (divS z 8 + 1) % 9)) / 64 = groundS s x z) := Lib.hid (by
    unfold groundS corS
    rw [Int.mul_comm (hashS s (divS x 8) (divS z 8) % 9), Int.mul_comm (hashS s (divS x 8 + 1) (divS z 8) % 9), Int.mul_comm (hashS s (divS x 8) (divS z 8 + 1) % 9), Int.mul_comm (hashS s (divS x 8 + 1) (divS z 8 + 1) % 9)]
    omega)
  go_enter Tryz.func71, Tryz.ntmps71
  go_wp2_with fail
  refine wp_loop_rounds 3 ?_
  rw [rounds_succ]
  go_wp2_with fail
  refine wp_loop_rounds 3 ?_
  rw [rounds_succ]
  go_wp2_with (first | (go_at_call 120; refine (refmod_any _ _ _ (by assumption) fit8).mono ?_; rintro e w1 ⟨rfl, rfl⟩) | (go_at_call 32; refine (ref03div_any _ _ _ (by assumption) fit8).mono ?_; rintro e w1 ⟨rfl, rfl⟩) | (go_at_call 121; refine (refhash_any _ _ _ _).mono ?_; rintro e w1 ⟨rfl, rfl⟩))
  rw [rounds_succ]
  go_wp2_with (first | (go_at_call 120; refine (refmod_any _ _ _ (by assumption) fit8).mono ?_; rintro e w1 ⟨rfl, rfl⟩) | (go_at_call 32; refine (ref03div_any _ _ _ (by assumption) fit8).mono ?_; rintro e w1 ⟨rfl, rfl⟩) | (go_at_call 121; refine (refhash_any _ _ _ _).mono ?_; rintro e w1 ⟨rfl, rfl⟩))
  rw [rounds_succ]
  go_wp2_with fail
  rw [rounds_succ]
  go_wp2_with fail
  refine wp_loop_rounds 3 ?_
  rw [rounds_succ]
  go_wp2_with (first | (go_at_call 120; refine (refmod_any _ _ _ (by assumption) fit8).mono ?_; rintro e w1 ⟨rfl, rfl⟩) | (go_at_call 32; refine (ref03div_any _ _ _ (by assumption) fit8).mono ?_; rintro e w1 ⟨rfl, rfl⟩) | (go_at_call 121; refine (refhash_any _ _ _ _).mono ?_; rintro e w1 ⟨rfl, rfl⟩))
  rw [rounds_succ]
  go_wp2_with (first | (go_at_call 120; refine (refmod_any _ _ _ (by assumption) fit8).mono ?_; rintro e w1 ⟨rfl, rfl⟩) | (go_at_call 32; refine (ref03div_any _ _ _ (by assumption) fit8).mono ?_; rintro e w1 ⟨rfl, rfl⟩) | (go_at_call 121; refine (refhash_any _ _ _ _).mono ?_; rintro e w1 ⟨rfl, rfl⟩))
  rw [rounds_succ]
  go_wp2_with fail
  rw [rounds_succ]
  go_wp2_with fail
  go_ret
  exact ⟨ret_int H.out, rfl⟩
end Go.Proofs.YtnogfelfgclajaaGreatDoor
end

section
namespace Go.Proofs.YtnogfelfgclajaaGreatDoor
open Go.RowKit
attribute [local go_sem] ext_ext drew_ext ext_drew ext_cell ext_frozen in_lt in_le in_ne in_en in_ne1 in_en1 in_le1 in_ltn in_len in_nen in_enn size_le ite_max ite_min
set_option linter.unusedVariables false
set_option linter.unusedSimpArgs false

theorem refblock_any (s x y z : Int) (w : World) (hx : Fit x) (hz : Fit z) (y1 : 0 ≤ y) (y2 : y < 32) :
    Calls Tryz.prog 34 #[.int .i64 s, .agg #[.int .i64 x, .int .i64 y, .int .i64 z]] w fun e w' => e = .returned (.int .i64 (ofS y (groundS s x z))) ∧ ∃ f, w' = ext w f := by
  obtain ⟨g1, g2⟩ := groundS_bd s x z
  have GR := fun w => refground_any s x z w hx hz
  generalize groundS s x z = g at *
  by_cases c3 : y = 0
  · have H : Hid (ofS y g = 1) := by subst c3; unfold ofS; rw [if_neg (by omega), if_pos (.inl rfl)]; exact rfl
    have d3 : (y == 0) = true := by simp [c3]
    clear c3
    go_enter Tryz.func34, Tryz.ntmps34
    go_wp2_with (first | (go_at_call 71; refine (GR _).mono ?_; rintro e w1 ⟨rfl, rfl⟩))
    go_ret
    exact ⟨ret_int H.out.symm, grown_of⟩
  have d3 : (y == 0) = false := by simp [c3]
  by_cases c4 : y < g - 3
  · have H : Hid (ofS y g = 1) := by unfold ofS; rw [if_neg (by omega), if_pos (.inr c4)]; exact rfl
    clear c3
    go_enter Tryz.func34, Tryz.ntmps34
    go_wp2_with (first | (go_at_call 71; refine (GR _).mono ?_; rintro e w1 ⟨rfl, rfl⟩))
    go_ret
    exact ⟨ret_int H.out.symm, grown_of⟩
  by_cases c5 : y < g - 1
  · have H : Hid (ofS y g = 2) := by unfold ofS; rw [if_neg (by omega), if_neg (by omega), if_pos (.inl c5)]; exact rfl
    clear c3
    go_enter Tryz.func34, Tryz.ntmps34
    go_wp2_with (first | (go_at_call 71; refine (GR _).mono ?_; rintro e w1 ⟨rfl, rfl⟩))
    go_ret
    exact ⟨ret_int H.out.symm, grown_of⟩
  by_cases c6 : y = g - 1
  · have d6 : (y == g - 1) = true := by simp [c6]
    by_cases c7 : 9 < g
    · have H : Hid (ofS y g = 2) := by unfold ofS; rw [if_neg (by omega), if_neg (by omega), if_pos (.inr ⟨c6, c7⟩)]; exact rfl
      clear c6 c3
      go_enter Tryz.func34, Tryz.ntmps34
      go_wp2_with (first | (go_at_call 71; refine (GR _).mono ?_; rintro e w1 ⟨rfl, rfl⟩))
      go_ret
      exact ⟨ret_int H.out.symm, grown_of⟩
    · have H : Hid (ofS y g = 3) := by unfold ofS; rw [if_neg (by omega), if_neg (by omega), if_neg (by omega), if_pos c6]; exact rfl
      clear c6 c3
      go_enter Tryz.func34, Tryz.ntmps34
      go_wp2_with (first | (go_at_call 71; refine (GR _).mono ?_; rintro e w1 ⟨rfl, rfl⟩))
      go_ret
      exact ⟨ret_int H.out.symm, grown_of⟩
  have d6 : (y == g - 1) = false := by simp [c6]
  by_cases c8 : y < 9
  · have H : Hid (ofS y g = 8) := by unfold ofS; rw [if_neg (by omega), if_neg (by omega), if_neg (by omega), if_neg (by omega), if_pos c8]; exact rfl
    clear c6 c3
    go_enter Tryz.func34, Tryz.ntmps34
    go_wp2_with (first | (go_at_call 71; refine (GR _).mono ?_; rintro e w1 ⟨rfl, rfl⟩))
    go_ret
    exact ⟨ret_int H.out.symm, grown_of⟩
  · have H : Hid (ofS y g = 0) := by unfold ofS; rw [if_neg (by omega), if_neg (by omega), if_neg (by omega), if_neg (by omega), if_neg (by omega)]; exact rfl
    clear c6 c3
    go_enter Tryz.func34, Tryz.ntmps34
    go_wp2_with (first | (go_at_call 71; refine (GR _).mono ?_; rintro e w1 ⟨rfl, rfl⟩))
    go_ret
    exact ⟨ret_int H.out.symm, grown_of⟩

/-- A chunk's block, by its number. -/
def blkS (s px pz : Int) (i : Nat) : Int := ofS ((i : Int) / 256) (groundS s (px * 16 + (i : Int) % 16) (pz * 16 + (i : Int) / 16 % 16))
/-- A chunk's place is not too far. -/
structure Pl (px pz : Int) : Prop where
  p1 : -134217728 ≤ px
  p2 : px ≤ 134217728
  q1 : -134217728 ≤ pz
  q2 : pz ≤ 134217728
theorem pl_fit {px pz : Int} (h : Pl px pz) (i j : Int) (i1 : 0 ≤ i) (i2 : i < 16) (j1 : 0 ≤ j) (j2 : j < 16) : Fit (px * 16 + i) ∧ Fit (pz * 16 + j) := by
  obtain ⟨p1, p2, q1, q2⟩ := h
  exact ⟨⟨by omega, by omega⟩, ⟨by omega, by omega⟩⟩
end Go.Proofs.YtnogfelfgclajaaGreatDoor
end
