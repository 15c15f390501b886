/-
  A view over which changes are laid.
-/
import Derived.Test.YtjejobfhddlmeaaNext
import Derived.Maps.OwnSet
import Derived.Carry
import Derived.DeepKeys4
import Derived.LoopTactic
namespace Go.Proofs.Ytjejobfhddlmeaa
open Go.RowKit
attribute [local go_sem] ext_ext drew_ext ext_drew ext_cell ext_frozen in_lt in_le in_ne in_en in_ne1 in_en1 in_le1 in_ltn in_len in_nen in_enn size_le ite_max ite_min
set_option linter.unusedVariables false
set_option linter.unusedSimpArgs false

theorem laidOutF : laidOutB Try.prog = true := by kernel_rfl
theorem cellRow18 : (26 : TypeId) < Try.prog.types.size := of_decide_eq_true (by kernel_rfl)
theorem cellWide : (match Try.prog.underlying 26 with | some (.array _ _) | some (.struct _) => true | _ => false) = true := by rw [Try.underlying26]
theorem cellKey : Maps.Keyed Try.prog 26 := Maps.Keyed.of_law (deep_law_laid laidOutF (m := 2) (by omega) cellRow18 (by kernel_rfl) cellWide)
theorem cells3 : Try.prog.cellsOf 26 = 3 := by kernel_rfl
/-- A cell, as a key. -/
def ckey (x y z : Int) : Lit := .string (keyBytes [.int .i64 x, .int .i64 y, .int .i64 z])
theorem ckey_of {x y z : Int} (hx : Wid x) (hy : Wid y) (hz : Wid z) : keyOf Try.prog 26 (.agg #[.int .i64 x, .int .i64 y, .int .i64 z]) = some (ckey x y z) := by
  have w1 : ∀ n, Wid n → (Lit.int .i64 n).wf = true := fun n h => by
    have h1 := h.1
    have h2 := h.2
    have hmin : IntKind.i64.min = -9223372036854775808 := rfl
    have hmax : IntKind.i64.max = 9223372036854775807 := rfl
    simp only [Lit.wf, Bool.and_eq_true, decide_eq_true_eq, hmin, hmax]
    omega
  obtain ⟨m, hm⟩ : ∃ m, Try.prog.types.size = m + 1 := ⟨Try.prog.types.size - 1, by have : 0 < Try.prog.types.size := Nat.lt_of_le_of_lt (Nat.zero_le _) cellRow18; omega⟩
  have hk : Try.prog.keyType 26 = true := by kernel_rfl
  have hf : (Value.agg #[.int .i64 x, .int .i64 y, .int .i64 z]).formed Try.prog 26 = true := by simp [Value.formed, Try.underlying26, cells3]
  have hi : ∀ n, Wid n → Try.prog.keyLits (m + 1) 3 [.int .i64 n] = some [.int .i64 n] := fun n h => by
    unfold Program.keyLits
    simp [Try.underlying3, w1 n h]
  have c1 : Try.prog.cellsOf 3 = 1 := by kernel_rfl
  unfold keyOf
  rw [Try.underlying26]
  simp only [hk, hf, Bool.and_self, if_true]
  rw [hm]
  unfold Program.keyLits
  rw [Try.underlying26]
  simp [Value.cells, cells3, c1, hi x hx, hi y hy, hi z hz, ckey]

theorem ckey_inj {x y z a b c : Int} (hx : Wid x) (hy : Wid y) (hz : Wid z) (ha : Wid a) (hb : Wid b) (hc : Wid c) (h : ckey x y z = ckey a b c) : x = a ∧ y = b ∧ z = c := by
  have h1 := ckey_of hx hy hz
  have h2 := ckey_of ha hb hc
  rw [← h] at h2
  have h3 := cellKey.inj h1 h2
  simpa using h3

/-- A view over which changes are laid: the last one of each cell. -/
def putS (U : Int → Int → Int → Int) (c : Ch) : Int → Int → Int → Int := fun x y z => if x = c.1 ∧ y = c.2.1 ∧ z = c.2.2.1 then c.2.2.2 else U x y z
def layS (V : Int → Int → Int → Int) (l : List Ch) : Int → Int → Int → Int := l.foldl putS V
theorem layS_snoc (V : Int → Int → Int → Int) (l : List Ch) (c : Ch) : layS V (l ++ [c]) = putS (layS V l) c := by simp [layS]
/-- What the map of the changes reads as. -/
def mapS (l : List Ch) : DataW Unit := l.foldl (fun D c => D.put (ckey c.1 c.2.1 c.2.2.1) (.lit (.int .i64 c.2.2.2))) (.map [])
theorem mapS_snoc (l : List Ch) (c : Ch) : mapS (l ++ [c]) = (mapS l).put (ckey c.1 c.2.1 c.2.2.1) (.lit (.int .i64 c.2.2.2)) := by simp [mapS]
/-- Changes that lie not too far from 0. -/
def Near3 (l : List Ch) : Prop := ∀ c ∈ l, Wid c.1 ∧ Wid c.2.1 ∧ Wid c.2.2.1
theorem mapS_look (V : Int → Int → Int → Int) {x y z : Int} (hx : Wid x) (hy : Wid y) (hz : Wid z) (l : List Ch) (hn : Near3 l) :
    (Maps.has (mapS l) (ckey x y z) = true ∧ ∀ zd, (mapS l).atKey (ckey x y z) zd = .lit (.int .i64 (layS V l x y z))) ∨ (Maps.has (mapS l) (ckey x y z) = false ∧ layS V l x y z = V x y z) := by
  have key : ∀ (l : List Ch) (D : DataW Unit) (U : Int → Int → Int → Int), Near3 l → Maps.IsMap D →
      ((Maps.has D (ckey x y z) = true ∧ ∀ zd, D.atKey (ckey x y z) zd = .lit (.int .i64 (U x y z))) ∨ (Maps.has D (ckey x y z) = false ∧ U x y z = V x y z)) →
      ((Maps.has (l.foldl (fun D c => D.put (ckey c.1 c.2.1 c.2.2.1) (.lit (.int .i64 c.2.2.2))) D) (ckey x y z) = true ∧ ∀ zd, (l.foldl (fun D c => D.put (ckey c.1 c.2.1 c.2.2.1) (.lit (.int .i64 c.2.2.2))) D).atKey (ckey x y z) zd = .lit (.int .i64 ((l.foldl putS U) x y z))) ∨
        (Maps.has (l.foldl (fun D c => D.put (ckey c.1 c.2.1 c.2.2.1) (.lit (.int .i64 c.2.2.2))) D) (ckey x y z) = false ∧ (l.foldl putS U) x y z = V x y z)) := by
    intro l
    induction l with
    | nil => intro D U _ _ h; exact h
    | cons c l ih =>
      intro D U hn hD h
      obtain ⟨n1, n2, n3⟩ := hn c (by simp)
      refine ih _ _ (fun d hd => hn d (by simp [hd])) (hD.put _ _) ?_
      show (Maps.has (D.put (ckey c.1 c.2.1 c.2.2.1) (.lit (.int .i64 c.2.2.2))) (ckey x y z) = true ∧ ∀ zd, (D.put (ckey c.1 c.2.1 c.2.2.1) (.lit (.int .i64 c.2.2.2))).atKey (ckey x y z) zd = .lit (.int .i64 (putS U c x y z))) ∨ (Maps.has (D.put (ckey c.1 c.2.1 c.2.2.1) (.lit (.int .i64 c.2.2.2))) (ckey x y z) = false ∧ putS U c x y z = V x y z)
      by_cases he : x = c.1 ∧ y = c.2.1 ∧ z = c.2.2.1
      · refine .inl ?_
        have h1 : ckey c.1 c.2.1 c.2.2.1 = ckey x y z := by rw [he.1, he.2.1, he.2.2]
        rw [h1]
        refine ⟨Maps.has_put_same hD (cellKey.key (ckey_of hx hy hz)) _, fun zd => ?_⟩
        rw [Maps.atKey_put_same hD (cellKey.key (ckey_of hx hy hz))]
        unfold putS
        rw [if_pos he]
      · have hne : ckey x y z ≠ ckey c.1 c.2.1 c.2.2.1 := fun e => he (ckey_inj hx hy hz n1 n2 n3 e)
        have hp : putS U c x y z = U x y z := by unfold putS; rw [if_neg he]
        rw [Maps.has_put_other hne, hp]
        rcases h with ⟨h1, h2⟩ | ⟨h1, h2⟩
        · exact .inl ⟨h1, fun zd => by rw [Maps.atKey_put_other hne]; exact h2 zd⟩
        · exact .inr ⟨h1, h2⟩
  exact key l _ V hn Maps.isMap_empty (.inr ⟨rfl, rfl⟩)

theorem zeroInt (w : World) : (zeroValue 3).run Try.prog w = .ok (.int .i64 0) w := by kernel_rfl
def theMap (w : World) (b n : Nat) (l : List Ch) : Prop := w.ownsMap Try.prog 26 (Go.plainElem Try.prog 3) b n (mapS l)
theorem theMap_grown {w W : World} {b n : Nat} {l : List Ch} (h : theMap w b n l) (hW : ∃ f, W = ext w f) : theMap W b n l := by
  obtain ⟨f, rfl⟩ := hW
  obtain ⟨es, clock, hb, rest⟩ := h
  exact ⟨es, clock, by rw [(ext_below w f).block b (Array.getElem?_eq_some_iff.1 hb).1]; exact hb, rest⟩

set_option maxHeartbeats 1000000 in
/-- A view over which changes are laid, wherever its parts lie. -/
theorem lay1_any (v : Value) (V : Int → Int → Int → Int) (l : List Ch) (b n p q : Nat) (w : World) (hn : Near3 l) (hm : theMap w b n l) (hv : ViewVal Try.prog v V w)
    (hp : w.cell? ⟨p, 0, none⟩ = some (.map (some b))) (hq : w.cell? ⟨q, 0, none⟩ = some v) :
    IsView Try.prog 38 #[.pointer (some ⟨p, 0, none⟩), .pointer (some ⟨q, 0, none⟩)] (layS V l) w := by
  refine ⟨fun args W => rfl, fun W hW x y z hx hy hz => ?_⟩
  have hm' := theMap_grown hm hW
  have hv' := hv.grow hW
  obtain ⟨g, rfl⟩ := hW
  haveI := in_of_cell hp
  haveI := in_of_cell hq
  have hp' : (ext w g).cell? ⟨p, 0, none⟩ = some (.map (some b)) := by go_simp
  have hq' : (ext w g).cell? ⟨q, 0, none⟩ = some v := by go_simp
  clear hm hv hp hq
  generalize ext w g = w at *
  haveI := in_of_cell hp'
  haveI := in_of_cell hq'
  obtain ⟨f, caps, rfl, hv⟩ := hv'
  have hvf := hv.enters
  rcases mapS_look V hx hy hz l hn with ⟨h1, h2⟩ | ⟨h1, h2⟩
  · have H2 := Lib.hid h2
    clear h2
    go_enter Try.func38, Try.ntmps38
    go_wp2_with (at_lookup; refine wpList_lookup_own_ok_int _ rfl _ _ 57 rfl 26 3 .i64 cellKey Try.underlying57 Try.underlying3 (zeroInt _) b n (mapS l) rfl (theMap_grown hm' (by exact grown_of)) _ _ rfl (ckey_of hx hy hz) ?_; intro c hat _)
    go_ret
    rw [H2.out] at hat
    obtain rfl : layS V l x y z = c := by simpa using hat
    exact ⟨rfl, grown_of⟩
  · have H2 := Lib.hid h2
    clear h2
    go_enter Try.func38, Try.ntmps38
    go_wp2_with (at_lookup; refine wpList_lookup_own_ok_int _ rfl _ _ 57 rfl 26 3 .i64 cellKey Try.underlying57 Try.underlying3 (zeroInt _) b n (mapS l) rfl (theMap_grown hm' (by exact grown_of)) _ _ rfl (ckey_of hx hy hz) ?_; intro c hat _)
    refine (hv.tells _ (by exact grown_of) x y z hx hy hz).mono ?_
    rintro e w1 ⟨rfl, _t, hw⟩
    have hc1 := named_cell hw
    have hz1 := named_frozen hw
    have hh1 := named_heap hw
    haveI hi1 := named_in hw
    haveI hb1 := named_below (w := w) hw
    clear hw
    go_wp2_with fail
    go_ret
    exact ⟨by rw [H2.out]; rfl, grown_of⟩
end Go.Proofs.Ytjejobfhddlmeaa
