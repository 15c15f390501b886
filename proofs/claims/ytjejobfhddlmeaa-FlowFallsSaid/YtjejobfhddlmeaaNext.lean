/-
  What an update changes: of sand; of water; of any cell: the Go functions, in plain definitions.
-/
import Derived.Test.YtjejobfhddlmeaaFeeds
import Derived.Handy
import Derived.Deep.CutRange
import Derived.Deep.CutBlock
namespace Go.Proofs.Ytjejobfhddlmeaa
open Go.RowKit
attribute [local go_sem] ext_ext drew_ext ext_drew ext_cell ext_frozen in_lt in_le in_ne in_en in_ne1 in_en1 in_le1 in_ltn in_len in_nen in_enn size_le ite_max ite_min
set_option linter.unusedVariables false
set_option linter.unusedSimpArgs false
attribute [local go_sem] nb_under nb_over

/-- A change: a cell's three numbers, its block. -/
abbrev Ch := Int × Int × Int × Int
def chV (l : List Ch) : List Value := l.flatMap fun c => [.int .i64 c.1, .int .i64 c.2.1, .int .i64 c.2.2.1, .int .i64 c.2.2.2]
theorem chV_length (l : List Ch) : (chV l).length = l.length * 4 := by
  induction l with
  | nil => rfl
  | cons c l ih =>
    unfold chV at ih ⊢
    rw [List.flatMap_cons, List.length_append, ih]
    simp only [List.length_cons, List.length_nil]
    omega
theorem chV_snoc (l : List Ch) (x y z b : Int) : chV (l ++ [(x, y, z, b)]) = chV l ++ [.int .i64 x, .int .i64 y, .int .i64 z, .int .i64 b] := by simp [chV]
theorem chInfo : (Try.prog.info? 36).map (fun i => (i.zero, i.size, i.bytes)) = some (some (.agg #[.int .i64 0, .int .i64 0, .int .i64 0, .int .i64 0]), 4, 32) := by kernel_rfl

theorem owns_lit {w : World} {base : Nat} {e : TypeId} {size n : Nat} {cs : Array Value} (hs : cs.size = n * size) (hm : n ≤ maxLen) (hb : base ≤ w.heap.size) :
    (w.alloc (.cells cs e)).ownsRow base e size (.slice (some ⟨w.heap.size, 0, none⟩) n n) n cs.toList :=
  ⟨by simpa using hs, .inr ⟨w.heap.size, n, cs, rfl, hb, heap_alloc_new w _, Nat.le_refl _, hm, hs, List.take_of_length_le (by simp; omega)⟩⟩

/-- The changes that a call hands back. -/
def MadeCh (l : List Ch) (w : World) (o : Ending) (w' : World) : Prop := MadeRow 36 4 l.length (chV l) w o w'
theorem madeCh_nil {w w' : World} (h : ∃ f, w' = ext w f) : MadeCh [] w (.returned (.slice none 0 0)) w' := ⟨_, rfl, World.ownsRow_nil .., h⟩

def sandS (V : Int → Int → Int → Int) (x y z : Int) : List Ch := if yldB (V x (y + -1) z) then [(x, y, z, V x (y + -1) z), (x, y + -1, z, 3)] else []

set_option maxHeartbeats 1000000 in
theorem sand_any (v : Value) (V : Int → Int → Int → Int) (x y z : Int) (w : World) (hv : ViewVal Try.prog v V w) (hx : Mid x) (hy : Mid y) (hz : Mid z) :
    Calls Try.prog 32 #[v, .agg #[.int .i64 x, .int .i64 y, .int .i64 z]] w (MadeCh (sandS V x y z) w) := by
  obtain ⟨f, caps, rfl, hv⟩ := hv
  have hvf := hv.enters
  rcases hyl : yldB (V x (y + -1) z) with _ | _
  · have H := Lib.hid (show sandS V x y z = [] by unfold sandS; rw [hyl]; rfl)
    go_enter Try.func32, Try.ntmps32
    go_wp2_with fail
    refine (nb_any _ _ _ _ hx hy hz).mono ?_
    rintro e w1 ⟨rfl, _t, hw⟩
    have hc1 := named_cell hw
    have hz1 := named_frozen hw
    have hh1 := named_heap hw
    haveI hi1 := named_in hw
    haveI hb1 := named_below (w := w) hw
    clear hw
    go_wp2_with fail
    refine (hv.tells _ (by exact grown_of) _ _ _ (by first | exact hx.wid | exact hx.up | exact hx.down) (by first | exact hy.wid | exact hy.up | exact hy.down) (by first | exact hz.wid | exact hz.up | exact hz.down)).mono ?_
    rintro e w2 ⟨rfl, _t, hw⟩
    have hc2 := named_cell hw
    have hz2 := named_frozen hw
    have hh2 := named_heap hw
    haveI hi2 := named_in hw
    haveI hb2 := named_below (w := w) hw
    clear hw
    go_wp2_with (first | (go_at_call 43; refine (yld_any _ _).mono ?_; rintro e w1 ⟨rfl, rfl⟩))
    go_ret
    exact H.out ▸ madeCh_nil grown_of
  · have H := Lib.hid (show sandS V x y z = [(x, y, z, V x (y + -1) z), (x, y + -1, z, 3)] by unfold sandS; rw [hyl]; rfl)
    go_enter Try.func32, Try.ntmps32
    go_wp2_with fail
    refine (nb_any _ _ _ _ hx hy hz).mono ?_
    rintro e w1 ⟨rfl, _t, hw⟩
    have hc1 := named_cell hw
    have hz1 := named_frozen hw
    have hh1 := named_heap hw
    haveI hi1 := named_in hw
    haveI hb1 := named_below (w := w) hw
    clear hw
    go_wp2_with fail
    refine (hv.tells _ (by exact grown_of) _ _ _ (by first | exact hx.wid | exact hx.up | exact hx.down) (by first | exact hy.wid | exact hy.up | exact hy.down) (by first | exact hz.wid | exact hz.up | exact hz.down)).mono ?_
    rintro e w2 ⟨rfl, _t, hw⟩
    have hc2 := named_cell hw
    have hz2 := named_frozen hw
    have hh2 := named_heap hw
    haveI hi2 := named_in hw
    haveI hb2 := named_below (w := w) hw
    clear hw
    go_wp2_with (first | (go_at_call 43; refine (yld_any _ _).mono ?_; rintro e w1 ⟨rfl, rfl⟩))
    go_ret
    refine H.out ▸ ⟨_, rfl, owns_lit (n := 2) (size := 4) rfl (by unfold maxLen; omega) ?_, grown_of⟩
    exact (grown_now (w := w) (W := w2)).size

/-- The changes of a dry cell beside. -/
def dryS (V : Int → Int → Int → Int) (t : Int) (l : List Ch) (x y z : Int) : List Ch := if V x y z = 0 then l ++ [(x, y, z, t)] else l
theorem dryS_in {V : Int → Int → Int → Int} {t : Int} {l : List Ch} {x y z : Int} (h : V x y z = 0) : dryS V t l x y z = l ++ [(x, y, z, t)] := by unfold dryS; rw [if_pos h]
theorem dryS_out {V : Int → Int → Int → Int} {t : Int} {l : List Ch} {x y z : Int} (h : ¬ V x y z = 0) : dryS V t l x y z = l := by unfold dryS; rw [if_neg h]
theorem dryS_len {V : Int → Int → Int → Int} {t : Int} {l : List Ch} {x y z : Int} : (dryS V t l x y z).length ≤ l.length + 1 := by unfold dryS; split <;> simp
def spreadS (V : Int → Int → Int → Int) (t x y z : Int) : List Ch := dryS V t (dryS V t (dryS V t (dryS V t [] (x + -1) y z) (x + 1) y z) x y (z + -1)) x y (z + 1)
def waterS (V : Int → Int → Int → Int) (x y z level : Int) : List Ch :=
  if 0 < level ∧ fedB V x y z = false then [(x, y, z, 0)]
  else if 0 < level ∧ fedN V x y z ≠ level then [(x, y, z, watS (fedN V x y z))]
  else if V x (y + -1) z = 0 then [(x, y + -1, z, watS 1)]
  else if wetB (V x (y + -1) z) = true ∨ 7 ≤ level then []
  else spreadS V (watS (level + 1)) x y z
end Go.Proofs.Ytjejobfhddlmeaa
