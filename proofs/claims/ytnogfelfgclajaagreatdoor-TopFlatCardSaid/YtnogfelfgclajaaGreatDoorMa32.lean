/-
  Numbers in a row, with a blank between (the document's).
  No Go in sight. The words of words with a blank between.
-/
import Derived.Test.YtnogfelfgclajaaGreatDoorMa31
import Derived.Test.YtnogfelfgclajaaGreatDoorMa04
import Derived.Lib.FieldsP
import Derived.Laws.RangeString
section
namespace Go.Proofs.YtnogfelfgclajaaGreatDoor
open Go.RowKit
attribute [local go_sem] ext_ext drew_ext ext_drew ext_cell ext_frozen in_lt in_le in_ne in_en in_ne1 in_en1 in_le1 in_ltn in_len in_nen in_enn size_le ite_max ite_min
set_option linter.unusedVariables false
set_option linter.unusedSimpArgs false

/-- Words, with a blank between. -/
def joinW : List (List UInt8) → List UInt8
  | [] => []
  | [w] => w
  | w :: v :: r => w ++ 32 :: joinW (v :: r)
theorem joinW_cons (w : List UInt8) {r : List (List UInt8)} (h : r ≠ []) : joinW (w :: r) = w ++ 32 :: joinW r := by
  cases r with
  | nil => exact absurd rfl h
  | cons v r => rfl
theorem joinW_snoc (l : List (List UInt8)) (x : List UInt8) (h : l ≠ []) : joinW (l ++ [x]) = joinW l ++ ([32] ++ x) := by
  induction l with
  | nil => exact absurd rfl h
  | cons w l ih =>
    by_cases h0 : l = []
    · subst h0; rfl
    · rw [List.cons_append, joinW_cons _ (by simp), joinW_cons _ h0, ih h0, List.append_assoc]; rfl
def decs (ns : List Int) : List (List UInt8) := ns.map (decI 16)
theorem decs_len (ns : List Int) : (joinW (decs ns)).length ≤ 20 * ns.length := by
  induction ns with
  | nil => simp [decs, joinW]
  | cons n ns ih =>
    have h1 := decI_len 16 n
    by_cases h0 : decs ns = []
    · have : joinW (decs (n :: ns)) = decI 16 n := by
        show joinW (decI 16 n :: decs ns) = _
        rw [h0]; rfl
      rw [this, List.length_cons]; omega
    · have : joinW (decs (n :: ns)) = decI 16 n ++ 32 :: joinW (decs ns) := joinW_cons _ h0
      rw [this]
      simp only [List.length_append, List.length_cons]
      omega
theorem row_first (ns : List Int) (n : Int) (h : ns = []) : joinW (decs (ns ++ [n])) = decI 16 n := by subst h; rfl
theorem row_next (ns : List Int) (n : Int) (h : ns ≠ []) : joinW (decs (ns ++ [n])) = joinW (decs ns) ++ ([32] ++ decI 16 n) := by
  have := joinW_snoc (decs ns) (decI 16 n) (by simpa [decs] using h)
  simpa [decs] using this
theorem blank_bs (l : List UInt8) : bs l ++ (⟨#[32]⟩ : ByteArray) = bs (l ++ [32]) := bs_append l [32]
def Small17 (n : Int) : Prop := -(10 ^ 17) < n ∧ n < 10 ^ 17
theorem Small17.fit {n : Int} (h : Small17 n) : Fit n := by
  have h1 : (10 : Int) ^ 17 = 100000000000000000 := by decide
  obtain ⟨a, b⟩ := h
  rw [h1] at a b
  exact ⟨by omega, by omega⟩
theorem small17 {n : Int} (h1 : -100000000000000000 < n) (h2 : n < 100000000000000000) : Small17 n := by
  have e : (10 : Int) ^ 17 = 100000000000000000 := by decide
  exact ⟨by rw [e]; exact h1, by rw [e]; exact h2⟩

set_option maxRecDepth 100000 in
set_option maxHeartbeats 1000000 in
theorem row_any (ns : List Int) (g cap : Nat) (w : World) (h0 : 0 < ns.length) (hl : ns.length ≤ 10) (hs : ∀ n ∈ ns, Small17 n) (hc : ∀ k (h : k < ns.length), w.cell? ⟨g, k, none⟩ = some (.int .i64 ns[k])) :
    Calls Tryz.prog 11 #[.slice (some ⟨g, 0, none⟩) ns.length cap] w fun e w' => e = .returned (sV (joinW (decs ns))) ∧ ∃ f, w' = ext w f := by
  have HC := Lib.hid hc
  have HS := Lib.hid hs
  haveI := in_of_cell (hc 0 h0)
  clear hc hs h0
  go_enter Tryz.func11, Tryz.ntmps11
  go_wp2_with fail
  go_loopw [3, 4] (fun s i wr => ∃ k : Nat, k ≤ ns.length ∧ i = .int .i64 k ∧ s = sV (joinW (decs (ns.take k))) ∧ ∃ f, wr = ext w f) (fun _ i _ => ns.length - (intOf i).toNat)
  case atStart => exact ⟨0, by omega, rfl, rfl, grown_of⟩
  case round =>
    obtain ⟨k, hk, rfl, rfl, _, hw⟩ := hrel
    rename World => w1
    haveI hg1 := named_grown hw
    have hc1 := named_cell hw
    have hz1 := named_frozen hw
    haveI hi1 := named_in hw
    haveI hb1 := named_below (w := w) hw
    clear hw
    by_cases hlt : k < ns.length
    · have d0 := HC.out k hlt
      have HT := Lib.hid (show ns.take (k + 1) = ns.take k ++ [ns[k]] from List.take_succ_eq_append_getElem hlt)
      have HK := Lib.hid hlt
      have k1 : (k : Int) < (ns.length : Int) := by omega
      have k2 : (ns.length : Int) ≤ 10 := by omega
      have s1 : (bs (joinW (decs (ns.take k)))).size ≤ 200 := by rw [bs_size]; have := decs_len (ns.take k); have : (ns.take k).length ≤ ns.length := List.length_take_le' ..; omega
      have s2 := decI_size 16 ns[k]
      have hsk := HS.out ns[k] (List.getElem_mem hlt)
      have D := fun W => dec_any 16 ns[k] W (by omega) hsk.1 hsk.2 hsk.fit
      have HE : Hid (ns.take k = [] ↔ k = 0) := Lib.hid (by
        constructor
        · intro h; have := congrArg List.length h; simp at this; rcases this with h | h
          · exact h
          · subst h; simp at hlt
        · rintro rfl; rfl)
      clear hsk
      generalize ns[k] = n at *
      generalize ns.take k = l at *
      clear hlt
      by_cases k0 : k = 0
      · subst k0
        have HL : Hid (joinW (decs l) = [] ∧ joinW (decs (l ++ [n])) = decI 16 n) := Lib.hid ⟨by rw [HE.out.2 rfl]; rfl, row_first l n (HE.out.2 rfl)⟩
        rw [HL.out.1] at s1
        simp only [HL.out.1]
        go_wp2_with (go_at_call 8; refine (D _).mono ?_; rintro e w1 ⟨rfl, t1, rfl⟩)
        go_roundw
        case rel => exact ⟨1, HK.out, rfl, by rw [HT.out, HL.out.2]; exact congrArg Value.string (bs_append [] _), grown_of⟩
        case measure => have := HK.out; simp [intOf]; omega
      · have HL := Lib.hid (row_next l n (fun e => k0 (HE.out.1 e)))
        have k3 : 0 < k := by omega
        have s3 : (bs (joinW (decs l)) ++ (⟨#[32]⟩ : ByteArray)).size ≤ 201 := by rw [blank_bs, bs_size, List.length_append]; rw [bs_size] at s1; simp; omega
        go_wp2_with (go_at_call 8; refine (D _).mono ?_; rintro e w1 ⟨rfl, t1, rfl⟩)
        go_roundw
        case rel => exact ⟨k + 1, HK.out, by go_num, by rw [HT.out, HL.out, blank_bs, bs_append, List.append_assoc], grown_of⟩
        case measure => have := HK.out; simp [intOf]; omega
    · have k1 : ¬ (k : Int) < (ns.length : Int) := by omega
      rw [List.take_of_length_le (show ns.length ≤ k by omega)]
      go_wp2_with fail
      go_ret
      exact ⟨rfl, grown_of⟩
end Go.Proofs.YtnogfelfgclajaaGreatDoor
end

section
namespace Go.Proofs.YtnogfelfgclajaaGreatDoor
open Go.RowKit Go.Lib

/-- A word: something, without blanks, of plain letters. -/
structure Wd (w : List UInt8) : Prop where
  full : w ≠ []
  fine : ∀ c ∈ w, c.toNat < 128 ∧ c ≠ 32

def isBl (n : Nat) : Bool := n == 32
def sp : List UInt8 → Nat → Option Nat → List (Nat × Nat) → List (Nat × Nat) × Option Nat
  | [], _, st, acc => (acc, st)
  | c :: l, pos, st, acc =>
    if c = 32 then (match st with
      | some a => sp l (pos + 1) none (acc ++ [(a, pos)])
      | none => sp l (pos + 1) none acc)
    else (match st with
      | some a => sp l (pos + 1) (some a) acc
      | none => sp l (pos + 1) (some pos) acc)

theorem sp_in {c : UInt8} (h : c ≠ 32) (l : List UInt8) (pos a : Nat) (acc : List (Nat × Nat)) : sp (c :: l) pos (some a) acc = sp l (pos + 1) (some a) acc := by
  show (if c = 32 then _ else _) = _
  rw [if_neg h]
theorem sp_on {c : UInt8} (h : c ≠ 32) (l : List UInt8) (pos : Nat) (acc : List (Nat × Nat)) : sp (c :: l) pos none acc = sp l (pos + 1) (some pos) acc := by
  show (if c = 32 then _ else _) = _
  rw [if_neg h]
theorem sp_off (l : List UInt8) (pos a : Nat) (acc : List (Nat × Nat)) : sp (32 :: l) pos (some a) acc = sp l (pos + 1) none (acc ++ [(a, pos)]) := rfl
theorem u8_32 (c : UInt8) : (c.toNat == 32) = decide (c = 32) := by
  rw [Bool.eq_iff_iff]
  simp only [beq_iff_eq, decide_eq_true_eq]
  constructor
  · intro h; exact UInt8.toNat_inj.1 (by rw [h]; rfl)
  · rintro rfl; rfl

theorem len_data (s : ByteArray) : s.data.toList.length = s.size := Array.length_toList
theorem spans_sp (s : ByteArray) (hs : ∀ c ∈ s.data.toList, c.toNat < 128) : ∀ (f pos : Nat) (st : Option Nat) (acc : List (Nat × Nat)), s.size ≤ pos + f → spansFromP isBl s f pos st acc = sp (s.data.toList.drop pos) pos st acc := by
  intro f
  induction f with
  | zero =>
    intro pos st acc h
    rw [List.drop_of_length_le (by rw [len_data]; exact h)]
    rfl
  | succ f ih =>
    intro pos st acc h
    by_cases hp : pos < s.size
    · have hp' : pos < s.data.toList.length := by rw [len_data]; exact hp
      have ha : (s[pos]'hp).toNat < 128 := hs _ (by
        show s.data[pos] ∈ s.data.toList
        exact Array.getElem_mem_toList _)
      have hd : s.data.toList.drop pos = (s[pos]'hp) :: s.data.toList.drop (pos + 1) := List.drop_eq_getElem_cons hp'
      rw [hd]
      unfold spansFromP sp
      rw [if_pos hp, decode_ascii s pos hp ha]
      simp only
      rw [show isBl (s[pos]'hp).toNat = decide ((s[pos]'hp) = 32) from u8_32 _]
      by_cases hb : (s[pos]'hp) = 32
      · simp only [hb, decide_true, if_true]
        cases st <;> exact ih _ _ _ (by omega)
      · simp only [hb, decide_false, if_false, Bool.false_eq_true]
        cases st <;> exact ih _ _ _ (by omega)
    · rw [spansFromP_end _ _ _ _ _ _ hp, List.drop_of_length_le (by rw [len_data]; exact Nat.le_of_not_lt hp)]
      rfl

theorem sp_word (w : List UInt8) (hw : ∀ c ∈ w, c ≠ 32) (r : List UInt8) : ∀ (pos a : Nat) (acc : List (Nat × Nat)), sp (w ++ r) pos (some a) acc = sp r (pos + w.length) (some a) acc := by
  induction w with
  | nil => intro pos a acc; rfl
  | cons c w ih =>
    intro pos a acc
    rw [List.cons_append, sp_in (hw c (by simp)), ih (fun x hx => hw x (by simp [hx])), show pos + 1 + w.length = pos + (c :: w).length by simp only [List.length_cons]; omega]
theorem sp_first (w : List UInt8) (hw : Wd w) (r : List UInt8) (pos : Nat) (acc : List (Nat × Nat)) : sp (w ++ r) pos none acc = sp r (pos + w.length) (some pos) acc := by
  cases w with
  | nil => exact absurd rfl hw.full
  | cons c w =>
    rw [List.cons_append, sp_on (hw.fine c (by simp)).2, sp_word w (fun x hx => (hw.fine x (by simp [hx])).2), show pos + 1 + w.length = pos + (c :: w).length by simp only [List.length_cons]; omega]

/-- Where the words lie. -/
def spW : List (List UInt8) → Nat → List (Nat × Nat)
  | [], _ => []
  | w :: r, pos => (pos, pos + w.length) :: spW r (pos + w.length + 1)
theorem sp_join (ws : List (List UInt8)) (h : ws ≠ []) (hw : ∀ w ∈ ws, Wd w) : ∀ (pos : Nat) (acc : List (Nat × Nat)), ∃ a l, sp (joinW ws) pos none acc = (acc ++ l, some a) ∧ l ++ [(a, pos + (joinW ws).length)] = spW ws pos := by
  induction ws with
  | nil => exact absurd rfl h
  | cons w r ih =>
    intro pos acc
    by_cases h0 : r = []
    · subst h0
      refine ⟨pos, [], ?_, rfl⟩
      have := sp_first w (hw w (by simp)) [] pos acc
      rw [List.append_nil] at this
      simp only [joinW, List.append_nil]
      rw [this]
      rfl
    · rw [joinW_cons _ h0, sp_first w (hw w (by simp))]
      obtain ⟨a, l, h1, h2⟩ := ih h0 (fun x hx => hw x (by simp [hx])) (pos + w.length + 1) (acc ++ [(pos, pos + w.length)])
      refine ⟨a, (pos, pos + w.length) :: l, ?_, ?_⟩
      · unfold sp
        rw [if_pos rfl]
        simp only
        rw [h1]
        simp
      · rw [spW, ← h2, List.cons_append]
        congr 4
        simp only [List.length_append, List.length_cons]
        omega
theorem cut_words (ws : List (List UInt8)) : ∀ (s : ByteArray) (pos : Nat), s.data.toList.drop pos = joinW ws → (spW ws pos).map (fun x => s.extract x.1 x.2) = ws.map bs := by
  induction ws with
  | nil => intro s pos _; rfl
  | cons w r ih =>
    intro s pos h
    have hh : s.data.toList.drop pos = w ++ (s.data.toList.drop pos).drop w.length := by
      by_cases h0 : r = []
      · subst h0
        rw [h, joinW]; simp
      · rw [h, joinW_cons _ h0]; simp
    have hx : s.extract pos (pos + w.length) = bs w := by
      apply ByteArray.ext
      apply Array.ext'
      simp only [ByteArray.data_extract, Array.toList_extract, bs]
      rw [List.extract_eq_take_drop]
      rw [Nat.add_sub_cancel_left, hh]
      simp
    rw [spW, List.map_cons, List.map_cons]
    simp only
    rw [hx]
    congr 1
    by_cases h0 : r = []
    · subst h0; rfl
    · refine ih s _ ?_
      have e : s.data.toList.drop (pos + w.length + 1) = ((s.data.toList.drop pos).drop w.length).drop 1 := by rw [List.drop_drop, List.drop_drop, Nat.add_assoc]
      rw [e, h, joinW_cons _ h0]
      simp
theorem join_ascii (ws : List (List UInt8)) (hw : ∀ w ∈ ws, Wd w) : ∀ c ∈ joinW ws, c.toNat < 128 := by
  induction ws with
  | nil => intro c hc; simp [joinW] at hc
  | cons w r ih =>
    intro c hc
    by_cases h0 : r = []
    · subst h0
      exact ((hw w (by simp)).fine c (by simpa [joinW] using hc)).1
    · rw [joinW_cons _ h0] at hc
      simp only [List.mem_append, List.mem_cons] at hc
      rcases hc with hc | rfl | hc
      · exact ((hw w (by simp)).fine c hc).1
      · decide
      · exact ih (fun x hx => hw x (by simp [hx])) c hc
theorem fields_join (ws : List (List UInt8)) (h : ws ≠ []) (hw : ∀ w ∈ ws, Wd w) : goFieldsP isBl (bs (joinW ws)) = ws.map bs := by
  unfold goFieldsP spansOfP
  rw [spans_sp _ (by rw [bs_list]; exact join_ascii ws hw) _ _ _ _ (by omega), bs_list, List.drop_zero]
  obtain ⟨a, l, h1, h2⟩ := sp_join ws h hw 0 []
  rw [h1]
  unfold closeSpans
  simp only [List.nil_append]
  rw [bs_size, ← Nat.zero_add (joinW ws).length, h2]
  exact cut_words ws _ 0 (by rw [bs_list, List.drop_zero])
end Go.Proofs.YtnogfelfgclajaaGreatDoor
end
