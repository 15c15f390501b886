/-
  No Go in sight. Slices of the call's own: an append that needs a new array; a literal; their cells, read.
-/
import Derived.Test.YtgnlechegenjpaaExt
import Derived.Laws.AppendOwn
import Derived.Deep.AppendLies
import Derived.OwnWalk
namespace Go.Proofs.Ytgnlechegenjpaa
set_option linter.unusedVariables false
open Go.RowKit

section
variable {P : Program} {w W : World}

theorem owns_ext {base : Nat} {e : TypeId} {size : Nat} {v : Value} {n : Nat} {xs : List Value} (h : w.ownsRow base e size v n xs) (f : World → World) : (ext w f).ownsRow base e size v n xs := by
  refine ⟨h.1, ?_⟩
  rcases h.2 with hn | ⟨g, cap, cur, rfl, hb, hgg, rest⟩
  · exact .inl hn
  · refine .inr ⟨g, cap, cur, rfl, hb, ?_, rest⟩
    rw [(ext_below w f).block g (Array.getElem?_eq_some_iff.1 hgg).1]
    exact hgg
theorem owns_grown {base : Nat} {e : TypeId} {size : Nat} {v : Value} {n : Nat} {xs : List Value} (h : w.ownsRow base e size v n xs) (hW : ∃ f, W = ext w f) : W.ownsRow base e size v n xs := by
  obtain ⟨f, rfl⟩ := hW
  exact owns_ext h f
theorem owns_base {base base' : Nat} {e : TypeId} {size : Nat} {v : Value} {n : Nat} {xs : List Value} (h : w.ownsRow base e size v n xs) (hb : base' ≤ base) : w.ownsRow base' e size v n xs := by
  refine ⟨h.1, ?_⟩
  rcases h.2 with hn | ⟨g, cap, cur, rfl, hbg, rest⟩
  · exact .inl hn
  · exact .inr ⟨g, cap, cur, rfl, by omega, rest⟩
theorem owns_form {base : Nat} {e : TypeId} {size : Nat} {v : Value} {n : Nat} {xs : List Value} (h : w.ownsRow base e size v n xs) : ∃ og cap, v = .slice og n cap := by
  rcases h.2 with ⟨rfl, rfl⟩ | ⟨g, cap, cur, rfl, _⟩
  · exact ⟨none, 0, rfl⟩
  · exact ⟨_, _, rfl⟩
/-- A slice that holds something: where its cells lie. -/
theorem owns_some {base : Nat} {e : TypeId} {size : Nat} {v : Value} {n : Nat} {xs : List Value} (h : w.ownsRow base e size v n xs) (hn : 0 < n) :
    ∃ g cap, v = .slice (some ⟨g, 0, none⟩) n cap ∧ base ≤ g ∧ n ≤ cap ∧ cap ≤ maxLen ∧ ∀ j u, xs[j]? = some u → w.cell? ⟨g, j, none⟩ = some u := by
  rcases h.2 with ⟨_, h0⟩ | ⟨g, cap, cur, rfl, hb, hgg, h1, h2, h3, h4⟩
  · omega
  · refine ⟨g, cap, rfl, hb, h1, h2, fun j u hu => ?_⟩
    have := h.cells (g := g) rfl j u hu
    rcases Nat.eq_zero_or_pos j with rfl | h0
    · simpa [Addr.add] using this
    · have h0' : j ≠ 0 := by omega
      simpa [Addr.add, h0'] using this
theorem owns_nil {base : Nat} {e : TypeId} {size : Nat} {v : Value} {xs : List Value} (h : w.ownsRow base e size v 0 xs) : xs = [] := by
  have := h.1
  simp at this
  exact this

/-- Part of a row, cell by cell. -/
theorem row_holds {b o : Nat} {cs : Array Value} {xs r : List Value} (hcell : ∀ j u, cs[j]? = some u → w.cell? ⟨b, j, none⟩ = some u) (hx : cs.toList.drop o = xs ++ r) :
    ∀ j u, xs[j]? = some u → w.cell? ((⟨b, o, none⟩ : Addr).add j) = some u := by
  intro j u hu
  have h1 : (xs ++ r)[j]? = some u := by
    rw [List.getElem?_append_left (List.getElem?_eq_some_iff.1 hu).1]
    exact hu
  rw [← hx, List.getElem?_drop] at h1
  have h2 := hcell (o + j) u (by simpa using h1)
  rcases Nat.eq_zero_or_pos j with rfl | h0
  · simpa [Addr.add] using h2
  · have h0' : j ≠ 0 := by omega
    simpa [Addr.add, h0'] using h2

theorem grownBy_ext {row : Option Nat} (hg : w.grownBy W row) (h : row = none) : ∃ f, W = ext w f := by
  subst h
  exact ext_of ((Below.refl _ w).grown hg (Nat.le_refl _) (fun k e => by cases e))

/-- The call's results: a slice of the call's own. -/
def MadeRow (e : TypeId) (size n : Nat) (xs : List Value) (w : World) (o : Ending) (w' : World) : Prop := ∃ v, o = .returned v ∧ w'.ownsRow w.heap.size e size v n xs ∧ ∃ f, w' = ext w f

/-- An append that needs a new array. -/
theorem wpList_append_fresh {ops : Array Oper} {rest : List Oper} {o : Oper} {a : Act} {Q : Exit → Act → World → Prop} (hgd : o.guard = none) (s x : Operand) (t : TypeId)
    (ho : o.op = .call { callee := .builtin .append, args := #[s, x], argTypes := #[t, t] })
    (base : Nat) (e : TypeId) (i : TypeInfo) (z : Value) (size bytes : Nat) (ht : P.underlying t = some (.slice e)) (hi : P.info? e = some i) (hz : i.zero = some z)
    (hsize : i.size = size) (hby : i.bytes = bytes) (hzs : z.cells.size = size)
    (A : Addr) (n cap : Nat) (xs : List Value) (hs : a.eval s = .slice (some A) n cap) (hxl : xs.length = n * size) (holds : ∀ j u, xs[j]? = some u → w.cell? (A.add j) = some u)
    (ad : Addr) (m c : Nat) (news : List Value) (hx : a.eval x = .slice (some ad) m c) (hl : news.length = m * size) (hnews : ∀ j u, news[j]? = some u → w.cell? (ad.add j) = some u)
    (hgrow : cap < n + m) (h63 : n + m ≤ maxLen) (hbytes : (n + m) * bytes ≤ 140737488355328) (hbase : base ≤ w.heap.size)
    (h : ∀ v' w', w'.ownsRow base e size v' (n + m) (xs ++ news) → (∃ f, w' = ext w f) → wpList P ops Q rest (a.put o.dst v') w') : wpList P ops Q (o :: rest) a w := by
  subst hsize
  subst hby
  have hr := run_append_grow (P := P) (w := w) t o.type e i z ht hi hz A n cap xs hxl holds ad m c news hl hnews hgrow (by simp only [maxLen] at h63; omega) (growslice_fits hgrow hbytes)
  refine wpList_plain hgd fun K hK => ?_
  unfold Oper.wp execOp
  simp only [ho, resolve, invoke, builtin, Sem.run_bind, Sem.run_pure, Result.andThen_ok, List.map_toArray, List.map_cons, List.map_nil, hs, hx, hr]
  refine hK _ _ (h _ _ ?_ ?_)
  · have hge := grownCap_ge w (n + m) cap e
    have hcm : grownCap w (n + m) cap e ≤ maxLen := grownCap_le_maxLen w (n + m) cap e h63
    refine ⟨by rw [List.length_append, hxl, hl, Nat.add_mul], .inr ⟨w.heap.size, _, _, rfl, hbase, heap_alloc_new w.drew _, hge, hcm, ?_, ?_⟩⟩
    · simp only [Array.size_append, List.size_toArray, size_zeroCells, hzs, hxl, hl, ← Nat.add_mul]
      congr 1
      omega
    · have hlen : (xs ++ news).length = (n + m) * i.size := by rw [List.length_append, hxl, hl, Nat.add_mul]
      simp only [Array.toList_append, List.append_assoc]
      rw [← List.append_assoc, ← hlen]
      exact List.take_left
  · exact ext_of (((Below.refl _ w).drew).alloc (Nat.le_refl _) _)
end
end Go.Proofs.Ytgnlechegenjpaa
