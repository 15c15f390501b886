/-
  A line's words.
  A word's number.
  The block of a name.
  The words of a line, that are still to be read.
-/
import Derived.Test.YtnogfelfgclajaaGreatDoorMa32
import Derived.Test.YtnogfelfgclajaaGreatDoorMa33
import Derived.Test.YtnogfelfgclajaaGreatDoorMa31
import Derived.Laws.RangeString
import Derived.Test.YtnogfelfgclajaaGreatDoorMa08
import Derived.Test.YtnogfelfgclajaaGreatDoorMa02
section
namespace Go.Proofs.YtnogfelfgclajaaGreatDoor
open Go.RowKit Go.Lib
attribute [local go_sem] ext_ext drew_ext ext_drew ext_cell ext_frozen in_lt in_le in_ne in_en in_ne1 in_en1 in_le1 in_ltn in_len in_nen in_enn size_le ite_max ite_min
set_option linter.unusedVariables false
set_option linter.unusedSimpArgs false

theorem blank_any (x : Nat) (hx : x ≤ 1114111) (w : World) : Calls Tryz.prog 45 #[.int .i32 (x : Int)] w fun e w' => e = .returned (.bool (isBl x)) ∧ w = w' := by
  by_cases h : x = 32
  · subst h
    go_enter Tryz.func45, Tryz.ntmps45
    go_wp2
    go_ret
    exact ⟨rfl, rfl⟩
  · have hb := Lib.hid (show isBl x = false by simp [isBl, h])
    have h1 : ((x : Int) == 32) = false := by simp; omega
    go_enter Tryz.func45, Tryz.ntmps45
    go_wp2
    go_ret
    exact ⟨by rw [hb.out]; rfl, rfl⟩

set_option maxRecDepth 100000 in
theorem lineword_any (ws : List (List UInt8)) (h : ws ≠ []) (hw : ∀ x ∈ ws, Wd x) (hl : (joinW ws).length ≤ 1000000) (w : World) :
    Calls Tryz.prog 27 #[sV (joinW ws)] w (MadeRow 9 1 ws.length (ws.map sV) w) := by
  have eg : ∀ (args : Array Value) (w : World), (callFunc 45 args).run Tryz.prog w = .ok (.enter 45 args) w := fun _ _ => rfl
  have HP : PredGrows Tryz.prog 45 #[] isBl w := fun W x hx hb => (blank_any x hx W).mono fun e w' ⟨he, hw⟩ => ⟨he, hw ▸ Below.refl _ _⟩
  have HF := Tryz.strings_FieldsFunc_grows 45 #[] eg isBl (bs (joinW ws)) w (by rw [bs_size]; omega) HP
  rw [fields_join ws h hw] at HF
  have HX := Lib.hid (show (ws.map bs).length = ws.length ∧ (ws.map bs).map Value.string = ws.map sV from ⟨by simp, by simp [List.map_map]⟩)
  rw [HX.out.1, HX.out.2] at HF
  clear HP
  go_enter Tryz.func27, Tryz.ntmps27
  go_wp2_with (go_at_call 44; refine HF.mono ?_; rintro e w1 ⟨A, rfl, hA, ho, hb⟩)
  go_ret
  exact ⟨_, rfl, ho, ext_of hb⟩
end Go.Proofs.YtnogfelfgclajaaGreatDoor
end

section
namespace Go.Proofs.YtnogfelfgclajaaGreatDoor
open Go.RowKit Go.Lib
attribute [local go_sem] ext_ext drew_ext ext_drew ext_cell ext_frozen in_lt in_le in_ne in_en in_ne1 in_en1 in_le1 in_ltn in_len in_nen in_enn size_le ite_max ite_min
set_option linter.unusedVariables false
set_option linter.unusedSimpArgs false

theorem bs_at (l : List UInt8) (k : Nat) (h : k < l.length) (hb : k < (bs l).size) : (bs l)[k]'hb = l[k] := by
  show l.toArray[k]'(by simpa using h) = _
  exact List.getElem_toArray _

set_option maxRecDepth 100000 in
set_option maxHeartbeats 2000000 in
/-- The number of a word: its digits l, and whether it is below 0. -/
theorem number_core (ns : ByteArray) (l : List UInt8) (b : Bool) (m : Int) (hcut : ∀ W, Calls Tryz.prog 175 #[.string ns, .string ⟨#[45]⟩] W fun e w' => e = .returned (.tuple #[.string (bs l), .bool b]) ∧ W = w')
    (hl : ∀ c ∈ l, Dig c) (h0 : l ≠ []) (h15 : l.length ≤ 15) (hv : valD l = m) (hm : m < 1000000000000000) (r : Int) (hr : (if b then -m else m) = r) (w : World) :
    Calls Tryz.prog 131 #[.string ns] w fun e w' => e = .returned (.tuple #[.int .i64 r, .bool true]) ∧ ∃ f, w' = ext w f := by
  have HR := Lib.hid hr
  have hm0 : 0 ≤ m := by have := (valD_mono l hl 0).2; have := (valD_mono l hl 0).1; omega
  have HL := Lib.hid hl
  have HV := Lib.hid hv
  have H0 := Lib.hid h0
  have H15 := Lib.hid h15
  have HS := Lib.hid (bs_size l)
  clear hl hv h0 h15 hr
  go_enter Tryz.func131, Tryz.ntmps131
  go_wp2_with (go_at_call 175; refine (hcut _).mono ?_; rintro e w1 ⟨rfl, rfl⟩)
  go_loopw [6] (fun n wr => ∃ k : Nat, k ≤ l.length ∧ n = .int .i64 (valD (l.take k)) ∧ wr = w.iter (bs l) k) (fun _ wr => l.length - wr.iterPos w.heap.size)
  case atStart => exact ⟨0, by omega, rfl, rfl⟩
  case round =>
    obtain ⟨k, hk, rfl, rfl⟩ := hrel
    by_cases hlt : k < l.length
    · have hsz : k < (bs l).size := by rw [HS.out]; exact hlt
      have hd := HL.out l[k] (List.getElem_mem hlt)
      have hnx : ∀ ty, (Instr.next (.pointer (some ⟨w.heap.size, 0, none⟩)) true ty).run Tryz.prog (w.iter (bs l) k) = .ok (.tuple #[.bool true, .int .i64 k, .int .i32 (l[k].toNat : Int)]) (w.iter (bs l) (k + 1)) := fun ty => by
        have := run_next_ascii (P := Tryz.prog) w (bs l) k ty hsz (by rw [bs_at l k hlt]; have := hd.2; omega)
        rw [this, bs_at l k hlt]
      have HT := Lib.hid (show valD (l.take (k + 1)) = valD (l.take k) * 10 + ((l[k].toNat : Int) - 48) by rw [List.take_succ_eq_append_getElem hlt]; exact valD_snoc _ _)
      obtain ⟨v0, v1⟩ := valD_mono l HL.out k
      have v2 := (valD_mono l HL.out (k + 1)).2
      have v3 : valD l < 1000000000000000 := by rw [HV.out]; exact hm
      rw [HT.out] at v2
      obtain ⟨d0, d1⟩ := hd
      have HK := Lib.hid hlt
      have MU : Hid ((w.iter (bs l) k).iterPos w.heap.size = k ∧ (w.iter (bs l) (k + 1)).iterPos w.heap.size = k + 1) := Lib.hid ⟨by simp [World.iterPos, World.iter_heap], by simp [World.iterPos, World.iter_heap]⟩
      generalize l[k].toNat = c at *
      generalize valD (l.take k) = v at *
      have c0 : (48 : Int) ≤ (c : Int) := by omega
      have c1 : (c : Int) ≤ 57 := by omega
      have c2 : v * 10 + ((c : Int) - 48) < 1000000000000000 := by omega
      clear hlt hsz d0 d1
      go_wp2_with fail
      go_roundw
      case rel => exact ⟨k + 1, HK.out, by rw [HT.out], rfl⟩
      case measure => have := HK.out; rw [MU.out.1, MU.out.2]; omega
    · have hnx : ∀ ty, (Instr.next (.pointer (some ⟨w.heap.size, 0, none⟩)) true ty).run Tryz.prog (w.iter (bs l) k) = .ok (.tuple #[.bool false]) (w.iter (bs l) k) := fun ty => run_next_end (P := Tryz.prog) w (bs l) k ty (by rw [HS.out]; exact hlt)
      obtain rfl : k = l.length := by omega
      rw [List.take_length, HV.out]
      clear hlt hk
      have n1 : ¬ (bs l).toList = [] := by rw [bs_toList]; exact H0.out
      have n2 : (bs l).toList.isEmpty = false := by rw [bs_toList]; exact List.isEmpty_eq_false_iff.2 H0.out
      have n3 : ((bs l).size : Int) ≤ 15 := by rw [HS.out]; have := H15.out; omega
      cases b
      · obtain rfl : m = r := HR.out
        go_wp2_with fail
        go_ret2
        exact ⟨rfl, ext_of ((Below.refl _ w).alloc (Nat.le_refl _) _)⟩
      · obtain rfl : -m = r := HR.out
        go_wp2_with fail
        go_ret2
        exact ⟨rfl, ext_of ((Below.refl _ w).alloc (Nat.le_refl _) _)⟩

theorem p15 : (10 : Int) ^ (14 + 1) = 1000000000000000 := by decide
set_option maxRecDepth 100000 in
theorem number_any (n : Int) (h1 : -1000000000000000 < n) (h2 : n < 1000000000000000) (w : World) :
    Calls Tryz.prog 131 #[sV (decI 16 n)] w fun e w' => e = .returned (.tuple #[.int .i64 n, .bool true]) ∧ ∃ f, w' = ext w f := by
  have e17 : (10 : Int) ^ (16 + 1) = 100000000000000000 := by decide
  by_cases h : n < 0
  · have hd : decI 16 n = 45 :: decF 16 (-n) := by unfold decI; rw [if_pos h]
    rw [hd]
    refine number_core _ (decF 16 (-n)) true (-n) (fun W => ?_) (decF_dig 16 _ (by omega)) (decF_full _ _) (decF_short 14 16 _ (by omega) (by rw [p15]; omega)) (decF_val 16 _ (by omega) (by rw [e17]; omega)) (by omega) n (by simp) w
    refine (Tryz.strings_CutPrefix (bs (45 :: decF 16 (-n))) ⟨#[45]⟩ W).mono ?_
    rintro e w' ⟨rfl, rfl⟩
    refine ⟨?_, rfl⟩
    rw [bs_list]
    simp [Lib.hasPrefix, Lib.trimPrefix, bs]
  · have hd : decI 16 n = decF 16 n := by unfold decI; rw [if_neg h]
    rw [hd]
    refine number_core _ (decF 16 n) false n (fun W => ?_) (decF_dig 16 _ (by omega)) (decF_full _ _) (decF_short 14 16 _ (by omega) (by rw [p15]; omega)) (decF_val 16 _ (by omega) (by rw [e17]; omega)) (by omega) n (by simp) w
    refine (Tryz.strings_CutPrefix (bs (decF 16 n)) ⟨#[45]⟩ W).mono ?_
    rintro e w' ⟨rfl, rfl⟩
    refine ⟨?_, rfl⟩
    rw [bs_list]
    have hp : Lib.hasPrefix (decF 16 n) [45] = false := by
      obtain ⟨c, l, hc⟩ := List.exists_cons_of_ne_nil (decF_full 16 n)
      have h3 := (decF_dig 16 n (by omega) c (by rw [hc]; simp)).1
      have h4 : ¬ (45 : UInt8) = c := by rintro rfl; exact absurd h3 (by decide)
      rw [hc]
      show ((45 : UInt8) == c && _) = false
      rw [show ((45 : UInt8) == c) = false from beq_eq_false_iff_ne.2 h4, Bool.false_and]
    simp only [Lib.trimPrefix]
    rw [hp]
    simp [bs]
end Go.Proofs.YtnogfelfgclajaaGreatDoor
end

section
namespace Go.Proofs.YtnogfelfgclajaaGreatDoor
open Go.RowKit
attribute [local go_sem] ext_ext drew_ext ext_drew ext_cell ext_frozen in_lt in_le in_ne in_en in_ne1 in_en1 in_le1 in_ltn in_len in_nen in_enn size_le ite_max ite_min
set_option linter.unusedVariables false
set_option linter.unusedSimpArgs false

theorem nmB_inj (j k : Nat) (hj : j < 16) (hk : k < 16) (h : j ≠ k) (h6 : ¬ (k = 6 ∨ k = 7)) : ¬ (nmB j).toList = (nmB k).toList := by
  have key : ∀ j : Fin 16, ∀ k : Fin 16, j ≠ k → ¬ (k = 6 ∨ k = 7) → ¬ (nmB (j.val : Int)).toList = (nmB (k.val : Int)).toList := by decide +kernel
  exact key ⟨j, hj⟩ ⟨k, hk⟩ (fun e => h (by simpa using e)) (fun e => h6 (by rcases e with e | e <;> simp [Fin.ext_iff] at e <;> omega))
theorem nmB_full (k : Nat) (hk : k < 16) (h6 : ¬ (k = 6 ∨ k = 7)) : (!(nmB k).toList.isEmpty) = true := by
  have key : ∀ k : Fin 16, ¬ (k = 6 ∨ k = 7) → (!(nmB (k.val : Int)).toList.isEmpty) = true := by decide +kernel
  exact key ⟨k, hk⟩ (fun e => h6 (by rcases e with e | e <;> simp [Fin.ext_iff] at e <;> omega))

set_option maxRecDepth 100000 in
set_option maxHeartbeats 2000000 in
theorem parse_any (b : Int) (h : GoodB b) (w : World) : Calls Tryz.prog 156 #[.string (nmB b)] w fun e w' => e = .returned (.tuple #[.int .i64 b, .bool true]) ∧ ∃ f, w' = ext w f := by
  obtain ⟨n, rfl⟩ : ∃ n : Nat, b = n := ⟨b.toNat, by have := h.lo; omega⟩
  have hn : n < 16 := by have := h.hi; omega
  have H6 := Lib.hid (show ¬ (n = 6 ∨ n = 7) by have := h.n6; have := h.n7; omega)
  have HN := Lib.hid hn
  clear h hn
  go_enter Tryz.func156, Tryz.ntmps156
  go_wp2_with (go_at_call 162; refine (names_any _).mono ?_; rintro e w1 ⟨rfl, t1, rfl⟩)
  go_loopw [7] (fun i wr => ∃ k : Nat, k ≤ n ∧ i = .int .i64 k ∧ ∃ f, wr = ext w f) (fun i _ => 16 - (intOf i).toNat)
  case atStart => exact ⟨0, by omega, rfl, grown_of⟩
  case round =>
    obtain ⟨k, hk, rfl, f, rfl⟩ := hrel
    have hn := HN.out
    have ix := fun w => nm_ix k (by omega) w
    have k1 : (k : Int) < 16 := by omega
    by_cases e : k = n
    · subst e
      have hfl := nmB_full k hn H6.out
      clear hk hn
      go_wp2_with fail
      go_ret2
      exact ⟨rfl, grown_of⟩
    · have hne := nmB_inj k n (by omega) hn e H6.out
      have HL := Lib.hid (show k + 1 ≤ n by omega)
      clear hk hn e
      go_wp2_with fail
      go_roundw
      case rel => exact ⟨k + 1, HL.out, by go_num, grown_of⟩
      case measure => have := HL.out; have := HN.out; simp [intOf]; omega
end Go.Proofs.YtnogfelfgclajaaGreatDoor
end

section
namespace Go.Proofs.YtnogfelfgclajaaGreatDoor
open Go.RowKit
attribute [local go_sem] ext_ext drew_ext ext_drew ext_cell ext_frozen in_lt in_le in_ne in_en in_ne1 in_en1 in_le1 in_ltn in_len in_nen in_enn size_le ite_max ite_min
set_option linter.unusedVariables false
set_option linter.unusedSimpArgs false

/-- Words that lie in a slice. -/
def RestAt (w : World) (v : Value) (rs : List (List UInt8)) : Prop :=
  ∃ o, v = .slice o rs.length rs.length ∧ (rs ≠ [] → ∃ A off cur, o = some ⟨A, off, none⟩ ∧ w.heap[A]? = some (.cells cur 9 (0, 0)) ∧ ∀ k (h : k < rs.length), cur[off + k]? = some (sV rs[k]))
/-- The words that are still to be read. -/
def ArgsAt (w : World) (ab : Nat) (rs : List (List UInt8)) : Prop := ∃ v, w.heap[ab]? = some (.cells #[v] 80 (0, 0)) ∧ RestAt w v rs
def one (ab k : Nat) : Prop := k = ab
theorem not_one {ab k : Nat} (h : k ≠ ab) : ¬ one ab k := h
theorem ArgsAt.lt {w : World} {ab : Nat} {rs : List (List UInt8)} (h : ArgsAt w ab rs) : ab < w.heap.size := by
  obtain ⟨v, h, _⟩ := h; exact lt_of_block h
theorem ArgsAt.in {w : World} {ab : Nat} {rs : List (List UInt8)} (h : ArgsAt w ab rs) : Nonempty (In ab w) := ⟨h.lt⟩
/-- The words stay what they are, whatever blocks of other types turn. -/
theorem ArgsAt.keep {w w' : World} {ab : Nat} {rs : List (List UInt8)} {F : Nat → Prop} (h : ArgsAt w ab rs) (hT : Turn F w w') (hs : ∀ k c T fz, w.heap[k]? = some (.cells c T fz) → F k → T ≠ 9 ∧ T ≠ 80) : ArgsAt w' ab rs := by
  have hlt := h.lt
  obtain ⟨v, h, o, rfl, hr⟩ := h
  refine ⟨_, (hT.block _ hlt (fun hf => (hs _ _ _ _ h hf).2 rfl)).trans h, o, rfl, fun hne => ?_⟩
  obtain ⟨A, off, cur, rfl, hA, hc⟩ := hr hne
  exact ⟨A, off, cur, rfl, (hT.block _ (lt_of_block hA) (fun hf => (hs _ _ _ _ hA hf).1 rfl)).trans hA, hc⟩
theorem ArgsAt.ty {w w' : World} {ab B : Nat} {TS : List TypeId} {rs : List (List UInt8)} (h : ArgsAt w ab rs) (hT : Turn (Ty B TS w) w w') (h1 : 9 ∉ TS) (h2 : 80 ∉ TS) : ArgsAt w' ab rs :=
  h.keep hT (fun k c T fz hk hF => by
    obtain ⟨_, c', T', fz', h3, h4⟩ := hF
    rw [hk] at h3
    injection h3 with h3
    injection h3 with _ h5
    subst h5
    exact ⟨fun e => h1 (e ▸ h4), fun e => h2 (e ▸ h4)⟩)
/-- .. and whatever block is made or turned behind it. -/
theorem ArgsAt.far {w w' : World} {ab : Nat} {rs : List (List UInt8)} (h : ArgsAt w ab rs) (hT : Below w.heap.size w w') : ArgsAt w' ab rs :=
  h.keep (turn_below (F := fun _ => False) hT) (fun _ _ _ _ _ hF => hF.elim)
/-- .. and whatever is stored into a block of another type. -/
theorem ArgsAt.set {w w' : World} {ab b : Nat} {rs : List (List UInt8)} {c : Array Value} {T : TypeId} {fz : Nat × Nat} (h : ArgsAt w ab rs) (hb : w.heap[b]? = some (.cells c T fz)) (h1 : T ≠ 9) (h2 : T ≠ 80) (hT : Turn (fun k => k = b) w w') : ArgsAt w' ab rs :=
  h.keep hT (fun k c' T' fz' hk hF => by
    subst hF
    rw [hb] at hk
    injection hk with hk
    injection hk with _ h5
    subst h5
    exact ⟨h1, h2⟩)
theorem turn_one (w : World) (b o : Nat) (x : Value) : Turn (fun k => k = b) w (w.setCell ⟨b, o, none⟩ x) := turn_set w _ _ rfl
theorem turn_two (w : World) (b o p : Nat) (x y : Value) : Turn (fun k => k = b) w ((w.setCell ⟨b, o, none⟩ x).setCell ⟨b, p, none⟩ y) := (turn_one w b o x).trans (turn_one _ b p y) (fun _ _ h => h)
theorem turn_three (w : World) (b o p q : Nat) (x y z : Value) : Turn (fun k => k = b) w (((w.setCell ⟨b, o, none⟩ x).setCell ⟨b, p, none⟩ y).setCell ⟨b, q, none⟩ z) := (turn_two w b o p x y).trans (turn_one _ b q z) (fun _ _ h => h)
/-- What a reader of words hands back. -/
def Reads (ab : Nat) (rs : List (List UInt8)) (v : Value) (w : World) (e : Ending) (w' : World) : Prop := e = .returned v ∧ ArgsAt w' ab rs ∧ Turn (one ab) w w'

theorem must_any (w : World) : Calls Tryz.prog 31 #[.bool true] w fun e w' => e = .returned (.tuple #[]) ∧ w = w' := by
  go_enter Tryz.func31, Tryz.ntmps31
  go_wp2
  go_end0
  exact ⟨rfl, rfl⟩

set_option maxRecDepth 100000 in
set_option maxHeartbeats 1000000 in
theorem word_any (x : List UInt8) (rs : List (List UInt8)) (ab : Nat) (w : World) (h : ArgsAt w ab (x :: rs)) (hl : rs.length ≤ 1000) :
    Calls Tryz.prog 30 #[.pointer (some ⟨ab, 0, none⟩)] w (Reads ab rs (sV x) w) := by
  obtain ⟨v, hb, o, rfl, hr⟩ := h
  obtain ⟨A, off, cur, rfl, hA, hc⟩ := hr (by simp)
  have c0 := cell_of_one hb
  have z0 := free_of_one hb
  have d0 : w.cell? ⟨A, off, none⟩ = some (sV x) := cell_of_block hA (hc 0 (by simp))
  have HC := Lib.hid hc
  have HB := Lib.hid hb
  have hlen : (x :: rs).length = rs.length + 1 := rfl
  rw [hlen] at c0
  have HH := Lib.hid hA
  have HL := Lib.hid hlen
  clear hc hb hr hA hlen
  have fin : ∀ o, (rs ≠ [] → o = some ⟨A, off + 1, none⟩) → ArgsAt (w.setCell ⟨ab, 0, none⟩ (.slice o rs.length rs.length)) ab rs ∧ Turn (one ab) w (w.setCell ⟨ab, 0, none⟩ (.slice o rs.length rs.length)) := fun o ho => by
    have hT : Turn (one ab) w (w.setCell ⟨ab, 0, none⟩ (.slice o rs.length rs.length)) := turn_set w _ _ rfl
    have hne : A ≠ ab := by
      rintro rfl
      have := HH.out.symm.trans HB.out
      injection this with h1
      injection h1 with _ h2
      exact absurd h2 (by decide)
    refine ⟨⟨_, one_setCell HB.out, o, rfl, fun hn => ⟨A, off + 1, cur, ho hn, (hT.block _ (lt_of_block HH.out) hne).trans HH.out, fun k hk => ?_⟩⟩, hT⟩
    have h1 := HC.out (k + 1) (by simp; omega)
    rw [show off + 1 + k = off + (k + 1) by omega]
    simpa using h1
  have FIN := Lib.hid fin
  clear fin
  by_cases h0 : rs = []
  · subst h0
    have e0 : ((0 : Nat) + 1) = 1 := rfl
    go_enter Tryz.func30, Tryz.ntmps30
    go_wp2_with (go_at_call 31; refine (must_any _).mono ?_; rintro e w1 ⟨rfl, rfl⟩)
    go_ret
    exact ⟨rfl, FIN.out _ (fun h => absurd rfl h)⟩
  · have hne : rs.length ≠ 0 := by simpa using h0
    have HN := Lib.hid h0
    generalize hj : rs.length = j at *
    have HJ := Lib.hid hj
    clear h0 hj
    have j0 : 0 < j := by omega
    go_enter Tryz.func30, Tryz.ntmps30
    go_wp2_with (go_at_call 31; refine (must_any _).mono ?_; rintro e w1 ⟨rfl, rfl⟩)
    go_ret
    exact ⟨rfl, FIN.out _ (fun _ => rfl)⟩

set_option maxRecDepth 100000 in
theorem num_any (n : Int) (h1 : -1000000000000000 < n) (h2 : n < 1000000000000000) (rs : List (List UInt8)) (ab : Nat) (w : World) (h : ArgsAt w ab (decI 16 n :: rs)) (hl : rs.length ≤ 1000) :
    Calls Tryz.prog 86 #[.pointer (some ⟨ab, 0, none⟩)] w (Reads ab rs (.int .i64 n) w) := by
  haveI := h.in
  go_enter Tryz.func86, Tryz.ntmps86
  go_wp2_with fail
  refine (word_any _ rs ab _ h hl).mono ?_
  rintro e w1 ⟨rfl, hA1, hT⟩
  have hc1 := turn_cell hT
  have hz1 := turn_frozen hT
  have hh1 := turn_heap hT
  haveI hi1 := turn_in hT
  haveI ht1 : Nonempty (Turn (one ab) w w1) := turn_named hT
  haveI hl1 := turn_le (w := w) hT
  clear hT
  go_wp2_with fail
  refine (number_any n h1 h2 _).mono ?_
  rintro e w2 ⟨rfl, _t, hw⟩
  haveI hg2 := named_grown hw
  have hT := turn_ext (one ab) hw
  have hc2 := named_cell hw
  have hz2 := named_frozen hw
  have hh2 := named_heap hw
  haveI hi2 := named_in hw
  haveI ht2 : Nonempty (Turn (one ab) w w2) := turn_named hT
  haveI hl2 := turn_le (w := w) hT
  clear hT hw
  have hA2 := hA1.far (grown_now (w := w1) (W := w2))
  go_wp2_with (go_at_call 31; refine (must_any _).mono ?_; rintro e w1 ⟨rfl, rfl⟩)
  go_ret
  exact ⟨rfl, hA2, turn_now⟩
set_option maxRecDepth 100000 in
theorem block_any (b : Int) (hb : GoodB b) (rs : List (List UInt8)) (ab : Nat) (w : World) (x : List UInt8) (hx : bs x = nmB b) (h : ArgsAt w ab (x :: rs)) (hl : rs.length ≤ 1000) :
    Calls Tryz.prog 108 #[.pointer (some ⟨ab, 0, none⟩)] w (Reads ab rs (.int .i64 b) w) := by
  haveI := h.in
  have HX := Lib.hid hx
  clear hx
  go_enter Tryz.func108, Tryz.ntmps108
  go_wp2_with fail
  refine (word_any _ rs ab _ h hl).mono ?_
  rintro e w1 ⟨rfl, hA1, hT⟩
  have hc1 := turn_cell hT
  have hz1 := turn_frozen hT
  have hh1 := turn_heap hT
  haveI hi1 := turn_in hT
  haveI ht1 : Nonempty (Turn (one ab) w w1) := turn_named hT
  haveI hl1 := turn_le (w := w) hT
  clear hT
  rw [show sV x = .string (nmB b) from congrArg Value.string HX.out]
  go_wp2_with fail
  refine (parse_any b hb _).mono ?_
  rintro e w2 ⟨rfl, _t, hw⟩
  haveI hg2 := named_grown hw
  have hT := turn_ext (one ab) hw
  have hc2 := named_cell hw
  have hz2 := named_frozen hw
  have hh2 := named_heap hw
  haveI hi2 := named_in hw
  haveI ht2 : Nonempty (Turn (one ab) w w2) := turn_named hT
  haveI hl2 := turn_le (w := w) hT
  clear hT hw
  have hA2 := hA1.far (grown_now (w := w1) (W := w2))
  go_wp2_with (go_at_call 31; refine (must_any _).mono ?_; rintro e w1 ⟨rfl, rfl⟩)
  go_ret
  exact ⟨rfl, hA2, turn_now⟩
set_option maxRecDepth 100000 in
theorem end_any (ab : Nat) (w : World) (h : ArgsAt w ab []) :
    Calls Tryz.prog 87 #[.pointer (some ⟨ab, 0, none⟩)] w fun e w' => e = .returned (.tuple #[]) ∧ w = w' := by
  obtain ⟨v, hb, o, rfl, hr⟩ := h
  have c0 := cell_of_one hb
  rw [show ([] : List (List UInt8)).length = 0 from rfl] at c0
  clear hb hr
  go_enter Tryz.func87, Tryz.ntmps87
  go_wp2_with (go_at_call 31; refine (must_any _).mono ?_; rintro e w1 ⟨rfl, rfl⟩)
  go_end0
  exact ⟨rfl, rfl⟩
/-- A number that a line may bear. -/
structure Num (n : Int) : Prop where
  lo : -1000000000000000 < n
  hi : n < 1000000000000000
set_option maxRecDepth 100000 in
theorem pos_any (x z : Int) (hx : Num x) (hz : Num z) (rs : List (List UInt8)) (ab : Nat) (w : World) (h : ArgsAt w ab (decI 16 x :: decI 16 z :: rs)) (hl : rs.length ≤ 999) :
    Calls Tryz.prog 90 #[.pointer (some ⟨ab, 0, none⟩)] w (Reads ab rs (.agg #[.int .i64 x, .int .i64 z]) w) := by
  haveI := h.in
  have hn0 : ¬ one ab w.heap.size := not_one (fun e => Nat.lt_irrefl _ (e ▸ h.lt))
  go_enter Tryz.func90, Tryz.ntmps90
  go_wp2_with fail
  have hA0 : ArgsAt (w.alloc (.cells #[.int .i64 0, .int .i64 0] 35)) ab _ := h.far ((Below.refl _ w).alloc (Nat.le_refl _) _)
  refine (num_any x hx.lo hx.hi _ ab _ hA0 (by simp; omega)).mono ?_
  rintro e w1 ⟨rfl, hA1, hT⟩
  have hc1 := turn_cell hT
  have hz1 := turn_frozen hT
  have hh1 := turn_heap hT
  haveI hi1 := turn_in hT
  haveI ht1 : Nonempty (Turn (one ab) w w1) := turn_named hT
  haveI hl1 := turn_le (w := w) hT
  clear hT
  clear hA0
  go_wp2_with fail
  refine (num_any z hz.lo hz.hi rs ab _ hA1 (by omega)).mono ?_
  rintro e w2 ⟨rfl, hA2, hT⟩
  have hc2 := turn_cell hT
  have hz2 := turn_frozen hT
  have hh2 := turn_heap hT
  haveI hi2 := turn_in hT
  haveI ht2 : Nonempty (Turn (one ab) w w2) := turn_named hT
  haveI hl2 := turn_le (w := w) hT
  clear hT
  clear hA1
  go_wp2_with fail
  have hb2 : w2.heap[w.heap.size]? = some (.cells #[.int .i64 0, .int .i64 0] 35 (0, 0)) := (hh2 _ hn0).trans ((hh1 _ hn0).trans (heap_alloc_new w _))
  have hB := (show ((w2.setCell ⟨w.heap.size, 0, none⟩ (.int .i64 x)).setCell ⟨w.heap.size, 1, none⟩ (.int .i64 z)).heap[w.heap.size]? = some (.cells #[.int .i64 x, .int .i64 z] 35 (0, 0)) from block_set (block_set hb2 _ (by simp)) _ (by simp))
  have d0 := cell_of_block (i := 0) hB rfl
  have d1 := cell_of_block (i := 1) hB rfl
  refine bodyPost_ret (by simp [results, Tryz.results90, go_sem, d0, d1]; try rfl) rfl ?_
  exact ⟨rfl, hA2.set hb2 (by decide) (by decide) (turn_two ..), turn_now⟩
set_option maxRecDepth 100000 in
theorem vec_any (x y z : Int) (hx : Num x) (hy : Num y) (hz : Num z) (rs : List (List UInt8)) (ab : Nat) (w : World) (h : ArgsAt w ab (decI 16 x :: decI 16 y :: decI 16 z :: rs)) (hl : rs.length ≤ 990) :
    Calls Tryz.prog 103 #[.pointer (some ⟨ab, 0, none⟩)] w (Reads ab rs (.agg #[.int .i64 x, .int .i64 y, .int .i64 z]) w) := by
  haveI := h.in
  have hn0 : ¬ one ab w.heap.size := not_one (fun e => Nat.lt_irrefl _ (e ▸ h.lt))
  go_enter Tryz.func103, Tryz.ntmps103
  go_wp2_with fail
  have hA0 : ArgsAt (w.alloc (.cells #[.int .i64 0, .int .i64 0, .int .i64 0] 46)) ab _ := h.far ((Below.refl _ w).alloc (Nat.le_refl _) _)
  refine (num_any x hx.lo hx.hi _ ab _ hA0 (by simp; omega)).mono ?_
  rintro e w1 ⟨rfl, hA1, hT⟩
  have hc1 := turn_cell hT
  have hz1 := turn_frozen hT
  have hh1 := turn_heap hT
  haveI hi1 := turn_in hT
  haveI ht1 : Nonempty (Turn (one ab) w w1) := turn_named hT
  haveI hl1 := turn_le (w := w) hT
  clear hT
  clear hA0
  go_wp2_with fail
  refine (num_any y hy.lo hy.hi _ ab _ hA1 (by simp; omega)).mono ?_
  rintro e w2 ⟨rfl, hA2, hT⟩
  have hc2 := turn_cell hT
  have hz2 := turn_frozen hT
  have hh2 := turn_heap hT
  haveI hi2 := turn_in hT
  haveI ht2 : Nonempty (Turn (one ab) w w2) := turn_named hT
  haveI hl2 := turn_le (w := w) hT
  clear hT
  clear hA1
  go_wp2_with fail
  refine (num_any z hz.lo hz.hi rs ab _ hA2 (by omega)).mono ?_
  rintro e w3 ⟨rfl, hA3, hT⟩
  have hc3 := turn_cell hT
  have hz3 := turn_frozen hT
  have hh3 := turn_heap hT
  haveI hi3 := turn_in hT
  haveI ht3 : Nonempty (Turn (one ab) w w3) := turn_named hT
  haveI hl3 := turn_le (w := w) hT
  clear hT
  clear hA2
  go_wp2_with fail
  have hb3 : w3.heap[w.heap.size]? = some (.cells #[.int .i64 0, .int .i64 0, .int .i64 0] 46 (0, 0)) := (hh3 _ hn0).trans ((hh2 _ hn0).trans ((hh1 _ hn0).trans (heap_alloc_new w _)))
  have hB := (show (((w3.setCell ⟨w.heap.size, 0, none⟩ (.int .i64 x)).setCell ⟨w.heap.size, 1, none⟩ (.int .i64 y)).setCell ⟨w.heap.size, 2, none⟩ (.int .i64 z)).heap[w.heap.size]? = some (.cells #[.int .i64 x, .int .i64 y, .int .i64 z] 46 (0, 0)) from block_set (block_set (block_set hb3 _ (by simp)) _ (by simp)) _ (by simp))
  have d0 := cell_of_block (i := 0) hB rfl
  have d1 := cell_of_block (i := 1) hB rfl
  have d2 := cell_of_block (i := 2) hB rfl
  refine bodyPost_ret (by simp [results, Tryz.results103, go_sem, d0, d1, d2]; try rfl) rfl ?_
  exact ⟨rfl, hA3.set hb3 (by decide) (by decide) (turn_three ..), turn_now⟩
set_option maxRecDepth 100000 in
theorem linecell_any (x y z : Int) (hx : Num x) (hy : Num y) (hz : Num z) (rs : List (List UInt8)) (ab : Nat) (w : World) (h : ArgsAt w ab (decI 16 x :: decI 16 y :: decI 16 z :: rs)) (hl : rs.length ≤ 990) :
    Calls Tryz.prog 110 #[.pointer (some ⟨ab, 0, none⟩)] w (Reads ab rs (.agg #[.int .i64 x, .int .i64 y, .int .i64 z]) w) := by
  haveI := h.in
  have hn0 : ¬ one ab w.heap.size := not_one (fun e => Nat.lt_irrefl _ (e ▸ h.lt))
  go_enter Tryz.func110, Tryz.ntmps110
  go_wp2_with fail
  have hA0 : ArgsAt (w.alloc (.cells #[.int .i64 0, .int .i64 0, .int .i64 0] 30)) ab _ := h.far ((Below.refl _ w).alloc (Nat.le_refl _) _)
  refine (vec_any x y z hx hy hz rs ab _ hA0 hl).mono ?_
  rintro e w1 ⟨rfl, hA1, hT⟩
  have hc1 := turn_cell hT
  have hz1 := turn_frozen hT
  have hh1 := turn_heap hT
  haveI hi1 := turn_in hT
  haveI ht1 : Nonempty (Turn (one ab) w w1) := turn_named hT
  haveI hl1 := turn_le (w := w) hT
  clear hT
  clear hA0
  go_wp2_with fail
  have hb1 : w1.heap[w.heap.size]? = some (.cells #[.int .i64 0, .int .i64 0, .int .i64 0] 30 (0, 0)) := (hh1 _ hn0).trans (heap_alloc_new w _)
  have hA2 := hA1.set hb1 (by decide) (by decide) (turn_three w1 _ 0 1 2 (.int .i64 x) (.int .i64 y) (.int .i64 z))
  have hB := (show (((w1.setCell ⟨w.heap.size, 0, none⟩ (.int .i64 x)).setCell ⟨w.heap.size, 1, none⟩ (.int .i64 y)).setCell ⟨w.heap.size, 2, none⟩ (.int .i64 z)).heap[w.heap.size]? = some (.cells #[.int .i64 x, .int .i64 y, .int .i64 z] 30 (0, 0)) from block_set (block_set (block_set hb1 _ (by simp)) _ (by simp)) _ (by simp))
  have hB' := fun o => (Below.heap_alloc _ o _ (lt_of_block hB)).trans hB
  have d0 := fun o => cell_of_block (i := 0) (hB' o) rfl
  have d1 := fun o => cell_of_block (i := 1) (hB' o) rfl
  have d2 := fun o => cell_of_block (i := 2) (hB' o) rfl
  refine bodyPost_ret (by simp [results, Tryz.results110, go_sem, d0, d1, d2]; try rfl) rfl ?_
  exact ⟨rfl, hA2.far ((Below.refl _ _).alloc (Nat.le_refl _) _), turn_now⟩
#print axioms linecell_any
end Go.Proofs.YtnogfelfgclajaaGreatDoor
end
