/-
  What a shell does, word by word: the map of its functions.
  A line: the function that is deferred.
  A line.
  The lines, one by one.
  A line, over whatever is said of the system. Printed by gen_pline.py.
-/
import Derived.Test.YtnogfelfgclajaaGreatDoorMb28
import Derived.Maps.OwnSet
import Derived.Defers
import Derived.Recover
import Derived.Test.YtnogfelfgclajaaGreatDoorMb25
section
namespace Go.Proofs.YtnogfelfgclajaaGreatDoor
open Go.RowKit
attribute [local go_sem] ext_ext drew_ext ext_drew ext_cell ext_frozen in_lt in_le in_ne in_en in_ne1 in_en1 in_le1 in_ltn in_len in_nen in_enn size_le ite_max ite_min
set_option linter.unusedVariables false
set_option linter.unusedSimpArgs false
set_option maxRecDepth 1000000

/-- A value is held as it is. -/
def heldR (v : Value) : Option (DataW Value × List MemPlace) := some (.held v, [])
theorem strKey : Maps.Keyed Tryz.prog 9 := Maps.string_keyed Tryz.underlying9
theorem zeroFn (w : World) : (zeroValue 82).run Tryz.prog w = .ok .nilFunc w := by kernel_rfl
theorem strKey_of (l : List UInt8) (h : l.length ≤ 100) : keyOf Tryz.prog 9 (.string (bs l)) = some (.string l) := by
  have := WideMaps.keyOf_string_mk (s := bs l) Tryz.underlying9 (by show (bs l).data.size ≤ maxLen; simp [bs]; unfold maxLen; omega)
  simpa [bs] using this
/-- The map, so far: what its words lead to; the boxes that its closures hold; what was there ahead of it. -/
def DoesAt (w0 : World) (m n : Nat) (Ls : List (List UInt8 × Value)) (L : List (Nat × Value)) (w : World) : Prop :=
  Below w0.heap.size w0 w ∧ (w0.heap.size ≤ m) ∧ (∃ D : DataW Value, w.ownsMap Tryz.prog 9 heldR m n D ∧ ∀ p ∈ Ls, ∀ z, D.atKey (.string p.1) z = .held p.2) ∧
    ∀ p ∈ L, w.heap[p.1]? = some (.cells #[p.2] 112 (0, 0)) ∧ w0.heap.size ≤ p.1
theorem DoesAt.look {w0 w : World} {m n : Nat} {Ls : List (List UInt8 × Value)} {L : List (Nat × Value)} (h : DoesAt w0 m n Ls L w) {p : List UInt8 × Value} (hp : p ∈ Ls) (hl : p.1.length ≤ 100) (W : World) (hW : W.heap[m]? = w.heap[m]?) :
    (Instr.lookup 83 (.map (some m)) (.string (bs p.1)) false).run Tryz.prog W = .ok p.2 W := by
  obtain ⟨_, _, ⟨D, ho, hD⟩, _⟩ := h
  have h' : W.ownsMap Tryz.prog 9 heldR m n D := by
    obtain ⟨es, clock, h1, rest⟩ := ho
    exact ⟨es, clock, hW.trans h1, rest⟩
  obtain ⟨v, ps, hrun, hv⟩ := h'.lookup strKey Tryz.underlying83 (zeroFn W) (show heldR .nilFunc = some (.held .nilFunc, []) from rfl) (strKey_of p.1 hl)
  rw [hD p hp] at hv
  have e : v = p.2 := by
    have := congrArg (fun z => z.map Prod.fst) hv
    simp [heldR] at this
    exact this
  rw [hrun, e]
theorem DoesAt.made {w0 w : World} (h : Below w0.heap.size w0 w) : DoesAt w0 w.heap.size 0 [] [] (w.alloc (.map #[] 0)) :=
  ⟨h.alloc h.size _, h.size, ⟨.map [], World.ownsMap_made _ _ _ _, fun _ h => by cases h⟩, fun _ h => by cases h⟩
theorem upon_insert_does {w0 w : World} {o : Oper} {a : Act} {next : Act → World → Prop} {Q : Exit → Act → World → Prop} {b n : Nat} {Ls : List (List UInt8 × Value)} {L : List (Nat × Value)}
    (h : Hid (DoesAt w0 b n Ls L w)) (hn : n < 100) (key : List UInt8) (val : Value) (hl : key.length ≤ 100) (hk : (Ls.map Prod.fst).all (fun x => !(x == key)) = true)
    (hK : ∀ w', Hid (DoesAt w0 b (n + 1) ((key, val) :: Ls) L w') → next (a.put o.dst undef) w') :
    Oper.upon Tryz.prog o a next Q ((Sem.run Tryz.prog (Instr.mapUpdate 83 (.map (some b)) (.string (bs key)) val) w).andThen fun _ w' => Result.ok Next.skip w') := by
  obtain ⟨h1, h2, ⟨D, ho, hD⟩, hL⟩ := h.out
  obtain ⟨w', hrun, r1, r2⟩ := ho.store strKey Tryz.underlying83 (by unfold maxLen; omega) (strKey_of key hl) (show heldR val = some (.held val, []) from rfl)
  have hrun' : Sem.run Tryz.prog (Instr.mapUpdate 83 (.map (some b)) (.string (bs key)) val) w = .ok () w' := hrun
  rw [hrun']
  refine hK w' (Lib.hid ⟨?_, h2, ⟨_, r1, fun p hp z => ?_⟩, fun p hp => ?_⟩)
  · exact h1.grown r2.grown h1.size (fun k hk => by injection hk with hk; omega)
  · rcases List.mem_cons.1 hp with rfl | hp
    · exact Maps.atKey_put_same ho.isMap (by trivial) _ _
    · rw [Maps.atKey_put_other (fun e => by have h5 := List.all_eq_true.1 hk p.1 (List.mem_map.2 ⟨p, hp, rfl⟩); injection e with e; rw [e] at h5; simp at h5)]
      exact hD p hp z
  · obtain ⟨q1, q2⟩ := hL p hp
    refine ⟨(r2.grown.block p.1 (lt_of_block q1) (fun e => ?_)).trans q1, q2⟩
    injection e with e
    subst e
    obtain ⟨es, clock, h5, _⟩ := ho
    rw [q1] at h5
    injection h5 with h5
    cases h5
/-- A function of the table, boxed: its closure. -/
theorem linebox_any {w0 w : World} {m n : Nat} {Ls : List (List UInt8 × Value)} {L : List (Nat × Value)} (h : Hid (DoesAt w0 m n Ls L w)) (sh fn t : Nat) :
    Calls Tryz.prog 47 #[.pointer (some ⟨sh, 0, none⟩), .func (.func fn) #[.pointer (some ⟨t, 0, none⟩)] #[]] w fun e w' => ∃ bx, e = .returned (.func (.func 89) #[] #[.pointer (some ⟨bx, 0, none⟩)]) ∧ Hid (DoesAt w0 m n Ls ((bx, .func (.func fn) #[.pointer (some ⟨t, 0, none⟩)] #[]) :: L) w') := by
  have hmf : ∀ (fn : Fn) (first cap : Array Value) (w : World), (Instr.makeFunc fn first cap).run Tryz.prog w = .ok (.func fn first cap) w := fun _ _ _ _ => rfl
  go_enter Tryz.func47, Tryz.ntmps47
  go_wp2_with fail
  go_ret
  obtain ⟨h1, h2, ⟨D, ho, hD⟩, hL⟩ := h.out
  refine ⟨_, rfl, Lib.hid ⟨h1.alloc h1.size _, h2, ⟨D, ho.alloc _, hD⟩, fun p hp => ?_⟩⟩
  rcases List.mem_cons.1 hp with rfl | hp
  · exact ⟨heap_alloc_new w _, h1.size⟩
  · obtain ⟨q1, q2⟩ := hL p hp
    exact ⟨(Below.heap_alloc _ _ _ (lt_of_block q1)).trans q1, q2⟩
/-- The words that are known here, and what they lead to. -/
def doesW (sh bl bu bf : Nat) : List (List UInt8 × Value) :=
  [([119, 111, 114, 108, 100], .func (.func 46) #[.pointer (some ⟨sh, 0, none⟩)] #[]), ([108, 111, 97, 100], .func (.func 89) #[] #[.pointer (some ⟨bl, 0, none⟩)]),
   ([117, 110, 108, 111, 97, 100], .func (.func 89) #[] #[.pointer (some ⟨bu, 0, none⟩)]), ([102, 108, 117, 115, 104], .func (.func 89) #[] #[.pointer (some ⟨bf, 0, none⟩)]),
   ([102, 108, 117, 115, 104, 97, 108, 108], .func (.func 53) #[.pointer (some ⟨sh, 0, none⟩)] #[]), ([101, 100, 105, 116], .func (.func 61) #[.pointer (some ⟨sh, 0, none⟩)] #[]),
   ([97, 116], .func (.func 64) #[.pointer (some ⟨sh, 0, none⟩)] #[]), ([115, 112, 97, 119, 110], .func (.func 57) #[.pointer (some ⟨sh, 0, none⟩)] #[]), ([112, 108, 97, 99, 101], .func (.func 60) #[.pointer (some ⟨sh, 0, none⟩)] #[])]
/-- A function of a table, with its table. -/
def tabFn (fn t : Nat) : Value := .func (.func fn) #[.pointer (some ⟨t, 0, none⟩)] #[]
def DoesDone (sh t : Nat) (w : World) (e : Ending) (w' : World) : Prop :=
  ∃ m bl bu bf n Ls L, e = .returned (.map (some m)) ∧ DoesAt w m n Ls L w' ∧ (∀ p ∈ doesW sh bl bu bf, p ∈ Ls) ∧ (bl, tabFn 48 t) ∈ L ∧ (bu, tabFn 49 t) ∈ L ∧ (bf, tabFn 50 t) ∈ L
set_option maxHeartbeats 4000000 in
theorem does_any (sh en sm wo t : Nat) (w : World) (e0 : w.cell? ⟨sh, 0, none⟩ = some (.pointer (some ⟨en, 0, none⟩))) (e1 : w.cell? ⟨en, 0, none⟩ = some (.pointer (some ⟨sm, 0, none⟩))) (e2 : w.cell? ⟨sm, 1, none⟩ = some (.pointer (some ⟨wo, 0, none⟩)))
    (wc : w.cell? ⟨wo, 0, none⟩ = some (.pointer (some ⟨t, 0, none⟩))) : Calls Tryz.prog 29 #[.pointer (some ⟨sh, 0, none⟩)] w (DoesDone sh t w) := by
  have hmf : ∀ (fn : Fn) (first cap : Array Value) (w : World), (Instr.makeFunc fn first cap).run Tryz.prog w = .ok (.func fn first cap) w := fun _ _ _ _ => rfl
  have hmm := @run_makeMap Tryz.prog
  haveI := in_of_cell e0
  haveI := in_of_cell e1
  haveI := in_of_cell e2
  haveI := in_of_cell wc
  have M0 := Lib.hid (DoesAt.made (Below.refl w.heap.size w))
  go_enter Tryz.func29, Tryz.ntmps29
  go_wp2_with (first | (go_at_call 24; refine (simworld_any sm wo _ e2).mono ?_; rintro e w1 ⟨rfl, rfl⟩) | (go_at_call 37; refine (worldtable_any wo t _ wc).mono ?_; rintro e w1 ⟨rfl, rfl⟩) | (refine upon_insert_does (by assumption) (by omega) _ _ (by decide) rfl ?_; intro w' hd') | (go_at_call 47; refine (linebox_any (by assumption) _ _ _).mono ?_; rintro e w' ⟨bx, rfl, hd'⟩))
  go_ret
  refine ⟨_, _, _, _, _, _, _, rfl, hd'.out, ?_, .tail _ (.tail _ (.tail _ (.tail _ (.head _)))), .tail _ (.tail _ (.tail _ (.head _))), .tail _ (.tail _ (.head _))⟩
  intro p hp
  simp only [doesW, List.mem_cons, List.mem_nil_iff, or_false] at hp
  rcases hp with rfl | rfl | rfl | rfl | rfl | rfl | rfl | rfl | rfl
  all_goals repeat (first | exact List.Mem.head _ | apply List.Mem.tail)
#print axioms does_any
end Go.Proofs.YtnogfelfgclajaaGreatDoor
end

section
namespace Go.Proofs.YtnogfelfgclajaaGreatDoor
open Go.RowKit
attribute [local go_sem] ext_ext drew_ext ext_drew ext_cell ext_frozen in_lt in_le in_ne in_en in_ne1 in_en1 in_le1 in_ltn in_len in_nen in_enn size_le ite_max ite_min
set_option linter.unusedVariables false
set_option linter.unusedSimpArgs false
set_option maxRecDepth 1000000

theorem line_idle (p : Addr) (w : World) :
    CallsD Tryz.prog 28 #[.pointer (some p)] .returning w fun e u' w' => e = .returned (.tuple #[]) ∧ u' = .returning ∧ w' = w := by
  refine callsD_of_wpS Tryz.func28 rfl fun c₀ cs hu => ?_
  apply wpS_seq
  apply wpS_region
  simp [wpOpsS, go_sem, recoverD, hu, Tryz.ntmps28, Exit.thenS]
  refine wpS_of_wp ?_
  go_wp2
  cases c₀
  simp_all [bodyPostS, results, Tryz.results28]
#print axioms line_idle
set_option maxRecDepth 100000 in
/-- The words of a line. -/
theorem linewords_any (ws : List (List UInt8)) (h : ws ≠ []) (hw : ∀ x ∈ ws, Wd x) (hl : (joinW ws).length ≤ 1000000) (w : World) :
    Calls Tryz.prog 27 #[sV (joinW ws)] w (fun e w' => ∃ v, e = .returned v ∧ RestAt w' v ws ∧ ∃ f, w' = ext w f) := by
  have eg : ∀ (args : Array Value) (w : World), (callFunc 45 args).run Tryz.prog w = .ok (.enter 45 args) w := fun _ _ => rfl
  have HP : PredGrows Tryz.prog 45 #[] isBl w := fun W x hx hb => (blank_any x hx W).mono fun e w' ⟨he, hw⟩ => ⟨he, hw ▸ Below.refl _ _⟩
  have HF := Tryz.strings_FieldsFunc_grows 45 #[] eg isBl (bs (joinW ws)) w (by rw [bs_size]; omega) HP
  rw [fields_join ws h hw] at HF
  have HX := Lib.hid (show (ws.map bs).length = ws.length ∧ (ws.map bs).map Value.string = ws.map sV from ⟨by simp, by simp [List.map_map]⟩)
  rw [HX.out.1, HX.out.2] at HF
  clear HP
  go_enter Tryz.func27, Tryz.ntmps27
  go_wp2_with (go_at_call 44; refine HF.mono ?_; rintro e w1 ⟨A, rfl, hA, ho, hb⟩)
  go_ret
  refine ⟨_, rfl, ⟨_, rfl, fun hne => ?_⟩, ext_of hb⟩
  rcases ho.2 with ⟨h1, _⟩ | ⟨g, cap, cur, hv, hb', hg, hn, hm, hc, ht⟩
  · cases h1
  · injection hv with e1 _ e3
    injection e1 with e1
    injection e1 with e1
    subst e1
    refine ⟨A, 0, cur, rfl, hg, fun k hk => ?_⟩
    have h1 : (cur.toList.take (ws.length * 1))[k]? = some (sV ws[k]) := by rw [ht]; simp [hk]
    rw [List.getElem?_take_of_lt (by omega)] at h1
    simpa using h1
#print axioms linewords_any
end Go.Proofs.YtnogfelfgclajaaGreatDoor
end

section
namespace Go.Proofs.YtnogfelfgclajaaGreatDoor
open Go.RowKit
attribute [local go_sem] ext_ext drew_ext ext_drew ext_cell ext_frozen in_lt in_le in_ne in_en in_ne1 in_en1 in_le1 in_ltn in_len in_nen in_enn size_le ite_max ite_min
set_option linter.unusedVariables false
set_option linter.unusedSimpArgs false
set_option maxRecDepth 1000000

/-- A line's answer: its text; what holds behind it. -/
def Said (B : Nat) (Q : World → Prop) (R : ByteArray → Prop) (w : World) (e : Ending) (w' : World) : Prop := (∃ x, e = .returned (.string x) ∧ R x) ∧ Q w' ∧ Turn (LF B w) w w'
/-- .. with the words that are still to be read. -/
def SaidA (B ab : Nat) (Q : World → Prop) (R : ByteArray → Prop) (w : World) (e : Ending) (w' : World) : Prop := (∃ x, e = .returned (.string x) ∧ R x) ∧ Q w' ∧ Turn (LA B ab w) w w'
theorem Turn.laLf {B ab : Nat} {w a b : World} (h : Turn (LF B w) w a) (k : Turn (LA B ab a) a b) (hn : w.heap.size ≤ ab) : Turn (LF B w) w b :=
  h.trans k (fun i hi hb => by
    by_cases ha : LF B w i
    · exact ha
    · rcases hb with hb | hb
      · rcases hb with ⟨h1, c', T, fz, h2, h3⟩ | ⟨h1, es, cl, h2⟩
        · exact .inl ⟨h1, c', T, fz, (h.block i hi ha).symm.trans h2, h3⟩
        · exact .inr ⟨h1, es, cl, (h.block i hi ha).symm.trans h2⟩
      · omega)
/-- The boxes of a shell's closures. -/
def Boxes (t bl bu bf : Nat) (w : World) : Prop :=
  w.heap[bl]? = some (.cells #[tabFn 48 t] 112 (0, 0)) ∧ w.heap[bu]? = some (.cells #[tabFn 49 t] 112 (0, 0)) ∧ w.heap[bf]? = some (.cells #[tabFn 50 t] 112 (0, 0))
theorem fnNil (fn : Nat) (first cap : Array Value) (w : World) : (binOp .neq 82 (.func (.func fn) first cap) .nilFunc).run Tryz.prog w = .ok (.bool true) w := by kernel_rfl
set_option maxHeartbeats 4000000 in
theorem line_any {B : Nat} {w : World} {sh t e c : Nat} {s lim : Int} {G : Ps → List Int} {T : List (Ps × Bool)} (h : SysOf B w sh t s lim e c G T) (wd : List UInt8) (rs : List (List UInt8)) (hw : ∀ x ∈ wd :: rs, Wd x) (hl : (joinW (wd :: rs)).length ≤ 100000) (hn : rs.length ≤ 1000) (hd : wd.length ≤ 100)
    (Q : World → Prop) (R : ByteArray → Prop) (hQ : ∀ W W' F, Q W → Turn F W W' → Aside W F → Q W')
    (hf : ∀ bl bu bf, ∃ fn first cap, (wd, .func (.func fn) first cap) ∈ doesW sh bl bu bf ∧ (∀ args W, (callFunc fn args).run Tryz.prog W = .ok (.enter fn args) W) ∧
      ∀ W ab, SysOf B W sh t s lim e c G T → ArgsAt W ab rs → Boxes t bl bu bf W → Calls Tryz.prog fn (first.push (.pointer (some ⟨ab, 0, none⟩)) ++ cap) W (SaidA B ab Q R W)) :
    Calls Tryz.prog 7 #[.pointer (some ⟨sh, 0, none⟩), sV (joinW (wd :: rs))] w (Said B Q R w) := by
  have hmf : ∀ (fn : Fn) (first cap : Array Value) (w : World), (Instr.makeFunc fn first cap).run Tryz.prog w = .ok (.func fn first cap) w := fun _ _ _ _ => rfl
  have H := Lib.hid h
  have LW := Lib.hid (fun W => linewords_any (wd :: rs) (by simp) hw (by omega) W)
  have HF := Lib.hid hf
  clear h hw hl hf
  go_enter_defers Tryz.func7, Tryz.ntmps7
  go_wp2_with fail
  refine (LW.out _).mono ?_
  rintro e1 w1 ⟨v1, rfl, hr, _t, hw1⟩
  haveI hb1 := named_below (w := w) hw1
  have hc1 := named_cell hw1
  have hz1 := named_frozen hw1
  have hh1 := named_heap hw1
  haveI hi1 := named_in hw1
  clear hw1
  obtain ⟨o1, rfl, hr1⟩ := hr
  have r1 : w1.heap[w.heap.size]? = some (.cells #[.string ⟨#[]⟩] 9 (0, 0)) := (hh1 _).trans (heap_alloc_new w _)
  have R1 := Lib.hid hr1
  have B1 := Lib.hid (grown_now (w := w) (W := w1))
  clear hc1 hz1 hh1 hr1 LW
  go_wp2_with fail
  have B2 := Lib.hid ((Below.refl w1.heap.size w1).alloc (Nat.le_refl _) (.cells #[.slice o1 (rs.length + 1) (rs.length + 1)] 80))
  have A2 := Lib.hid (show ArgsAt (w1.alloc (.cells #[.slice o1 (rs.length + 1) (rs.length + 1)] 80)) w1.heap.size (wd :: rs) from ⟨_, heap_alloc_new w1 _, o1, rfl, fun hne => by
    obtain ⟨A, off, cur, e, h1, h2⟩ := R1.out hne
    exact ⟨A, off, cur, e, (B2.out.block A (lt_of_block h1)).trans h1, h2⟩⟩)
  have r2 := (B2.out.block _ (lt_of_block r1)).trans r1
  have b2 := Lib.hid (show Below w.heap.size w (w1.alloc (.cells #[.slice o1 (rs.length + 1) (rs.length + 1)] 80)) from B1.out.trans (B2.out.mono B1.out.size))
  have n2 : ¬ w1.heap.size = w.heap.size := by have : w.heap.size < w1.heap.size := lt_of_block r1; omega
  have L2 := Lib.hid (show w.heap.size ≤ w1.heap.size from B1.out.size)
  generalize w1.alloc (.cells #[.slice o1 (rs.length + 1) (rs.length + 1)] 80) = w2 at *
  generalize w1.heap.size = ab at *
  have S2 := Lib.hid (H.out.grown b2.out)
  clear H R1 r1 B1 B2
  obtain ⟨en, sm, qu, mq, wo, bud, oc, dr, h1, h2⟩ := S2.out
  have wc : w2.cell? ⟨wo, 0, none⟩ = some (.pointer (some ⟨t, 0, none⟩)) := by obtain ⟨lv, m, xs, h⟩ := h2.wld; exact cell_of_block (i := 0) h.blk rfl
  refine (does_any sh en sm wo t w2 (cell_of_block (i := 0) h1.blk rfl) (eng_none h2.eng).1 (cell_of_block (i := 1) h2.sim.blk rfl) wc).mono ?_
  rintro e3 w3 ⟨m, bl, bu, bf, n, Ls, L, rfl, hD, hW, q1, q2, q3⟩
  clear h1 h2 wc
  have D3 := Lib.hid hD
  have A3 := Lib.hid (A2.out.far hD.1)
  have S3 := Lib.hid (S2.out.grown hD.1)
  obtain ⟨fn, first, cap, hm, hen, hcall⟩ := HF.out bl bu bf
  have X3 := Lib.hid (show Boxes t bl bu bf w3 from ⟨(hD.2.2.2 _ q1).1, (hD.2.2.2 _ q2).1, (hD.2.2.2 _ q3).1⟩)
  have W3 := Lib.hid (hW _ hm)
  have r3 := (hD.1.block _ (lt_of_block r2)).trans r2
  have F3 := Lib.hid hcall
  clear hD hW q1 q2 q3 hcall HF hm S2 A2
  go_wp2_with fail
  refine (word_any wd rs ab w3 A3.out hn).mono ?_
  rintro e4 w4 ⟨rfl, hA4, hT4⟩
  have A4 := Lib.hid hA4
  have S4 := Lib.hid (S3.out.turn hT4 (aside_args A3.out))
  have X4 := Lib.hid (show Boxes t bl bu bf w4 from ⟨(hT4.block _ (lt_of_block X3.out.1) (A3.out.cells X3.out.1 (by decide))).trans X3.out.1, (hT4.block _ (lt_of_block X3.out.2.1) (A3.out.cells X3.out.2.1 (by decide))).trans X3.out.2.1, (hT4.block _ (lt_of_block X3.out.2.2) (A3.out.cells X3.out.2.2 (by decide))).trans X3.out.2.2⟩)
  have hlk : (Instr.lookup 83 (.map (some m)) (sV wd) false).run Tryz.prog w4 = .ok (.func (.func fn) first cap) w4 := D3.out.look W3.out hd w4 (by
    obtain ⟨_, _, ⟨D, ⟨es, clock, h5, _⟩, _⟩, _⟩ := D3.out
    exact hT4.block m (Array.getElem?_eq_some_iff.1 h5).1 (fun e => by
      obtain ⟨v, hb, _⟩ := A3.out
      rw [show m = ab from e] at h5
      rw [hb] at h5
      injection h5 with h5
      cases h5))
  have T4 := Lib.hid hT4
  have r4 := (hT4.block _ (lt_of_block r3) (fun e => n2 e.symm)).trans r3
  have T34 := Lib.hid ((lf_below (B := B) (b2.out.trans (D3.out.1.mono b2.out.size))).trans T4.out (fun i hi e => by have := L2.out; rw [show i = ab from e] at hi; omega))
  clear hA4 hT4 A3 S3 X3 W3
  have hnil := fnNil fn first cap
  go_wp2_with (go_at_call 31; refine (must_any _).mono ?_; rintro e w1 ⟨rfl, rfl⟩)
  refine (F3.out w4 ab S4.out A4.out X4.out).mono ?_
  rintro e5 w5 ⟨⟨x, rfl, hR⟩, hQ5, hT5⟩
  have r5 := (hT5.block _ (lt_of_block r4) (fun e => e.elim (lf_no r4 (by decide)) (fun e => n2 e.symm))).trans r4
  have c5 := cell_of_one r5
  have z5 := free_of_one r5
  have r5' := Lib.hid r5
  have Q5 := Lib.hid (And.intro hR (And.intro hQ5 (T34.out.laLf hT5 L2.out)))
  haveI := in_of_cell c5
  clear hR hQ5 hT5 r5 r4 r3 r2 F3 S4 A4 X4 T4 T34 D3 hlk hnil
  go_wp2_with fail
  refine leaves_cons (f := 28) (args := #[.pointer (some ⟨w.heap.size, 0, none⟩)]) (by simp) (by simp [go_sem]) ?_
  refine (line_idle ⟨w.heap.size, 0, none⟩ _).mono ?_
  rintro e u' w'' ⟨rfl, rfl, rfl⟩
  have c6 := cell_of_one (one_setCell (u := Value.string x) r5'.out)
  simp [Leaves, settle, results, Tryz.results7, go_sem]
  rw [c6]
  exact ⟨_, rfl, ⟨x, rfl, Q5.out.1⟩, hQ _ _ _ Q5.out.2.1 (turn_one w5 _ 0 (.string x)) (aside_one r5'.out (by decide)), Q5.out.2.2.setNew (Nat.le_refl _) _⟩
#print axioms line_any
end Go.Proofs.YtnogfelfgclajaaGreatDoor
end

section
namespace Go.Proofs.YtnogfelfgclajaaGreatDoor
open Go.RowKit
attribute [local go_sem] ext_ext drew_ext ext_drew ext_cell ext_frozen in_lt in_le in_ne in_en in_ne1 in_en1 in_le1 in_ltn in_len in_nen in_enn size_le ite_max ite_min
set_option linter.unusedVariables false
set_option linter.unusedSimpArgs false
set_option maxRecDepth 1000000

theorem decI_wd {n : Int} (k : Nat) : Wd (decI k n) := by
  have key : ∀ m : Int, 0 ≤ m → ∀ c ∈ decF k m, c.toNat < 128 ∧ c ≠ 32 := fun m hm c hc => by
    have := decF_dig k m hm c hc
    refine ⟨by have := this.2; omega, fun e => ?_⟩
    subst e
    have := this.1
    simp at this
  unfold decI
  split
  · refine ⟨by simp, fun c hc => ?_⟩
    rcases List.mem_cons.1 hc with rfl | hc
    · decide
    · exact key _ (by omega) c hc
  · exact ⟨decF_full k n, fun c hc => key _ (by omega) c hc⟩
/-- A system, after a line. -/
abbrev After (B sh t : Nat) (s lim : Int) (e c : Nat) (G : Ps → List Int) (P : List (Ps × Bool) → Prop) (w : World) : Prop := ∃ T', SysOf B w sh t s lim e c G T' ∧ P T'
theorem After.turn {B sh t : Nat} {s lim : Int} {e c : Nat} {G : Ps → List Int} {P : List (Ps × Bool) → Prop} (W W' : World) (F : Nat → Prop) (h : After B sh t s lim e c G P W) (hT : Turn F W W') (hF : Aside W F) : After B sh t s lim e c G P W' := by
  obtain ⟨T', h1, h2⟩ := h
  exact ⟨T', h1.turn hT hF, h2⟩
def okS : ByteArray := ⟨#[111, 107]⟩
/-- A block's name, as a word. -/
def nmL (b : Int) : List UInt8 := (nmB b).data.toList
theorem nmL_bs (b : Int) : bs (nmL b) = nmB b := by
  apply ByteArray.ext
  simp [bs, nmL]
theorem nmL_all : ((List.range 16).all fun k => k == 6 || k == 7 || (!(nmL (k : Nat)).isEmpty && (nmL (k : Nat)).all (fun c => decide (c.toNat < 128) && !(c == 32)) && decide ((nmL (k : Nat)).length ≤ 100))) = true := by kernel_rfl
theorem nmL_wd {b : Int} (h : GoodB b) : Wd (nmL b) ∧ (nmL b).length ≤ 100 := by
  have hr : 0 ≤ b ∧ b ≤ 15 ∧ b ≠ 6 ∧ b ≠ 7 := by obtain ⟨h1, h2, h3, h4⟩ := h; exact ⟨by omega, by omega, by omega, by omega⟩
  have h1 := List.all_eq_true.1 nmL_all b.toNat (by simp; omega)
  rw [show ((b.toNat : Nat) : Int) = b by omega] at h1
  have n6 : (b.toNat == 6) = false := by simp; omega
  have n7 : (b.toNat == 7) = false := by simp; omega
  rw [n6, n7] at h1
  simp only [Bool.false_or, Bool.and_eq_true, Bool.not_eq_true', decide_eq_true_eq] at h1
  refine ⟨⟨fun e => ?_, fun c hc => ?_⟩, h1.2⟩
  · have := h1.1.1
    rw [e] at this
    cases this
  · have := List.all_eq_true.1 h1.1.2 c hc
    simpa using this
section
variable {B : Nat} {w : World} {sh t e c : Nat} {s lim : Int} {G : Ps → List Int} {T : List (Ps × Bool)}
/-- A chunk loaded. -/
theorem sayload2_any (h : SysOf B w sh t s lim e c G T) (x z : Int) (hx : Num x) (hz : Num z) (hc : Close (x, z)) :
    Calls Tryz.prog 7 #[.pointer (some ⟨sh, 0, none⟩), sV (joinW [[108, 111, 97, 100], decI 16 x, decI 16 z])] w (Said B (After B sh t s lim e c G (fun T' => (∃ c ∈ T', c.1 = (x, z)) ∧ ((T.length : Int) < lim → Keeps T T'))) (fun y => y = okS) w) := by
  refine line_any h [108, 111, 97, 100] [decI 16 x, decI 16 z] ?_ ?_ (by simp) (by simp) _ _ After.turn ?_
  · intro y hy
    simp at hy
    rcases hy with rfl | rfl | rfl
    · exact ⟨by simp, by decide⟩
    · exact decI_wd 16
    · exact decI_wd 16
  · have h1 := decI_len 16 x
    have h2 := decI_len 16 z
    simp [joinW]
    omega
  · intro bl bu bf
    refine ⟨89, #[], #[.pointer (some ⟨bl, 0, none⟩)], by simp [doesW], fun args W => by kernel_rfl, fun W ab hS hA hX => ?_⟩
    have := linetable_any (fn := 48) hS x z hx hz (fun T' => (∃ c ∈ T', c.1 = (x, z)) ∧ ((T.length : Int) < lim → Keeps T T')) true (fun args W => by kernel_rfl) (fun q W hT => by
      obtain ⟨st, d, mb, lv, its, D, N, hT⟩ := hT
      refine (tabload_any hT (x, z) hc).mono ?_
      rintro en w' ⟨rfl, h2, h3⟩
      exact ⟨⟨0, by omega, rfl, fun _ => rfl⟩, h2, h3⟩) hX.1 hA
    refine this.mono ?_
    rintro en w' ⟨⟨y, rfl, hy⟩, h2, h3⟩
    exact ⟨⟨y, rfl, hy rfl⟩, h2, h3⟩
theorem sayload_any (h : SysOf B w sh t s lim e c G T) (x z : Int) (hx : Num x) (hz : Num z) (hc : Close (x, z)) :
    Calls Tryz.prog 7 #[.pointer (some ⟨sh, 0, none⟩), sV (joinW [[108, 111, 97, 100], decI 16 x, decI 16 z])] w (Said B (After B sh t s lim e c G (fun T' => ∃ c ∈ T', c.1 = (x, z))) (fun y => y = okS) w) := by
  refine (sayload2_any h x z hx hz hc).mono ?_
  rintro en w' ⟨h1, ⟨T', h2, h4, _⟩, h3⟩
  exact ⟨h1, ⟨T', h2, h4⟩, h3⟩
/-- A chunk let go. -/
theorem sayunload_any (h : SysOf B w sh t s lim e c G T) (x z : Int) (hx : Num x) (hz : Num z) :
    Calls Tryz.prog 7 #[.pointer (some ⟨sh, 0, none⟩), sV (joinW [[117, 110, 108, 111, 97, 100], decI 16 x, decI 16 z])] w (Said B (After B sh t s lim e c G (fun _ => True)) (fun _ => True) w) := by
  refine line_any h [117, 110, 108, 111, 97, 100] [decI 16 x, decI 16 z] ?_ ?_ (by simp) (by simp) _ _ After.turn ?_
  · intro y hy
    simp at hy
    rcases hy with rfl | rfl | rfl
    · exact ⟨by simp, by decide⟩
    · exact decI_wd 16
    · exact decI_wd 16
  · have h1 := decI_len 16 x
    have h2 := decI_len 16 z
    simp [joinW]
    omega
  · intro bl bu bf
    refine ⟨89, #[], #[.pointer (some ⟨bu, 0, none⟩)], by simp [doesW], fun args W => by kernel_rfl, fun W ab hS hA hX => ?_⟩
    have := linetable_any (fn := 49) hS x z hx hz (fun _ => True) false (fun args W => by kernel_rfl) (fun q W hT => by
      obtain ⟨st, d, mb, lv, its, D, N, hT⟩ := hT
      refine (tabunload_any hT (x, z)).mono ?_
      rintro en w' ⟨⟨n, hn, rfl⟩, ⟨T', h2⟩, h3⟩
      exact ⟨⟨n, hn, rfl, fun h => by cases h⟩, ⟨T', h2, trivial⟩, h3⟩) hX.2.1 hA
    refine this.mono ?_
    rintro en w' ⟨⟨y, rfl, hy⟩, h2, h3⟩
    exact ⟨⟨y, rfl, trivial⟩, h2, h3⟩
/-- A chunk written. -/
theorem sayflush_any (h : SysOf B w sh t s lim e c G T) (x z : Int) (hx : Num x) (hz : Num z) :
    Calls Tryz.prog 7 #[.pointer (some ⟨sh, 0, none⟩), sV (joinW [[102, 108, 117, 115, 104], decI 16 x, decI 16 z])] w (Said B (After B sh t s lim e c G (fun _ => True)) (fun _ => True) w) := by
  refine line_any h [102, 108, 117, 115, 104] [decI 16 x, decI 16 z] ?_ ?_ (by simp) (by simp) _ _ After.turn ?_
  · intro y hy
    simp at hy
    rcases hy with rfl | rfl | rfl
    · exact ⟨by simp, by decide⟩
    · exact decI_wd 16
    · exact decI_wd 16
  · have h1 := decI_len 16 x
    have h2 := decI_len 16 z
    simp [joinW]
    omega
  · intro bl bu bf
    refine ⟨89, #[], #[.pointer (some ⟨bf, 0, none⟩)], by simp [doesW], fun args W => by kernel_rfl, fun W ab hS hA hX => ?_⟩
    have := linetable_any (fn := 50) hS x z hx hz (fun _ => True) false (fun args W => by kernel_rfl) (fun q W hT => by
      obtain ⟨st, d, mb, lv, its, D, N, hT⟩ := hT
      refine (tabflush_any hT (x, z)).mono ?_
      rintro en w' ⟨⟨n, hn, rfl⟩, ⟨T', h2⟩, h3⟩
      exact ⟨⟨n, hn, rfl, fun h => by cases h⟩, ⟨T', h2, trivial⟩, h3⟩) hX.2.2 hA
    refine this.mono ?_
    rintro en w' ⟨⟨y, rfl, hy⟩, h2, h3⟩
    exact ⟨⟨y, rfl, trivial⟩, h2, h3⟩
/-- All written. -/
theorem sayflushall_any (h : SysOf B w sh t s lim e c G T) :
    Calls Tryz.prog 7 #[.pointer (some ⟨sh, 0, none⟩), sV (joinW [[102, 108, 117, 115, 104, 97, 108, 108]])] w (Said B (After B sh t s lim e c G (fun _ => True)) (fun _ => True) w) := by
  refine line_any h [102, 108, 117, 115, 104, 97, 108, 108] [] ?_ (by simp [joinW]) (by simp) (by simp) _ _ After.turn ?_
  · intro y hy
    simp at hy
    subst hy
    exact ⟨by simp, by decide⟩
  · intro bl bu bf
    refine ⟨53, #[.pointer (some ⟨sh, 0, none⟩)], #[], by simp [doesW], fun args W => by kernel_rfl, fun W ab hS hA hX => ?_⟩
    exact lineflushall_any hS hA
/-- A cell edited. -/
theorem sayedit_any (h : SysOf B w sh t s lim e c G T) (hc : c ≤ 800) (x y z b : Int) (hx : Mid x) (hz : Mid z) (h0 : 0 ≤ y) (h1 : y ≤ 31) (hb : GoodB b) (he : e ≤ 14)
    (hh : ∃ c ∈ T, c.1 = (divS x 16, divS z 16)) (j : Nat) (hj : idxS x y z = (j : Int)) :
    Calls Tryz.prog 7 #[.pointer (some ⟨sh, 0, none⟩), sV (joinW [[101, 100, 105, 116], decI 16 x, decI 16 y, decI 16 z, nmL b])] w (Said B (After B sh t s lim (e + 1) (c + 8) (setP G (divS x 16, divS z 16) j b) (fun T' => Same T T')) (fun y => y = okS) w) := by
  obtain ⟨en, sm, qu, mq, wo, bud, oc, dr, q1, q2⟩ := h
  refine line_any (T := T) ⟨en, sm, qu, mq, wo, bud, oc, dr, q1, q2⟩ [101, 100, 105, 116] [decI 16 x, decI 16 y, decI 16 z, nmL b] ?_ ?_ (by simp) (by simp) _ _ After.turn ?_
  · intro y hy
    simp at hy
    rcases hy with rfl | rfl | rfl | rfl | rfl
    · exact ⟨by simp, by decide⟩
    · exact decI_wd 16
    · exact decI_wd 16
    · exact decI_wd 16
    · exact (nmL_wd hb).1
  · have h1 := decI_len 16 x
    have h2 := decI_len 16 y
    have h3 := decI_len 16 z
    have h4 := (nmL_wd hb).2
    simp [joinW]
    omega
  · intro bl bu bf
    refine ⟨61, #[.pointer (some ⟨sh, 0, none⟩)], #[], by simp [doesW], fun args W => by kernel_rfl, fun W ab hS hA hX => ?_⟩
    exact lineedit_any hS hc x y z b hx hz h0 h1 hb he hh j hj (nmL b) (nmL_bs b) hA
/-- What is at a cell. -/
theorem sayat_any (h : SysOf B w sh t s lim e c G T) (x y z : Int) (hx : Mid x) (hz : Mid z) (hy : Num y) (v : Int) (hv : viewT G T x y z = v) (hv0 : 0 ≤ v) (hv1 : v ≤ 15) :
    Calls Tryz.prog 7 #[.pointer (some ⟨sh, 0, none⟩), sV (joinW [[97, 116], decI 16 x, decI 16 y, decI 16 z])] w (Said B (After B sh t s lim e c G (fun T' => T' = T)) (fun y => y = nmB v) w) := by
  refine line_any h [97, 116] [decI 16 x, decI 16 y, decI 16 z] ?_ ?_ (by simp) (by simp) _ _ After.turn ?_
  · intro y hy
    simp at hy
    rcases hy with rfl | rfl | rfl | rfl
    · exact ⟨by simp, by decide⟩
    · exact decI_wd 16
    · exact decI_wd 16
    · exact decI_wd 16
  · have h1 := decI_len 16 x
    have h2 := decI_len 16 y
    have h3 := decI_len 16 z
    simp [joinW]
    omega
  · intro bl bu bf
    refine ⟨64, #[.pointer (some ⟨sh, 0, none⟩)], #[], by simp [doesW], fun args W => by kernel_rfl, fun W ab hS hA hX => ?_⟩
    exact lineat_any hS x y z hx hz hy v hv hv0 hv1 hA
/-- A new world. -/
theorem sayworld_any (h : SysOf B w sh t s lim e c G T) (s' l b lim' : Int) (hs : Num s') (hl : Num l) (hb : Num b) (hlim : min 16 (max l 1) = lim') :
    Calls Tryz.prog 7 #[.pointer (some ⟨sh, 0, none⟩), sV (joinW [[119, 111, 114, 108, 100], decI 16 s', decI 16 l, decI 16 b])] w (Said B (fun W => ∃ t', SysOf B W sh t' s' lim' 0 0 (GrAt s') []) (fun y => y = okS) w) := by
  refine line_any h [119, 111, 114, 108, 100] [decI 16 s', decI 16 l, decI 16 b] ?_ ?_ (by simp) (by simp) _ _ (fun W W' F ⟨t', q⟩ hT hF => ⟨t', q.turn hT hF⟩) ?_
  · intro y hy
    simp at hy
    rcases hy with rfl | rfl | rfl | rfl
    · exact ⟨by simp, by decide⟩
    · exact decI_wd 16
    · exact decI_wd 16
    · exact decI_wd 16
  · have h1 := decI_len 16 s'
    have h2 := decI_len 16 l
    have h3 := decI_len 16 b
    simp [joinW]
    omega
  · intro bl bu bf
    refine ⟨46, #[.pointer (some ⟨sh, 0, none⟩)], #[], by simp [doesW], fun args W => by kernel_rfl, fun W ab hS hA hX => ?_⟩
    refine (lineworld_any hS s' l b lim' hs hl hb hlim hA).mono ?_
    rintro en w' ⟨rfl, h2, h3⟩
    exact ⟨⟨_, rfl, rfl⟩, h2, h3⟩
#print axioms sayworld_any
end
end Go.Proofs.YtnogfelfgclajaaGreatDoor
end

section
namespace Go.Proofs.YtnogfelfgclajaaGreatDoor
open Go.RowKit
attribute [local go_sem] ext_ext drew_ext ext_drew ext_cell ext_frozen in_lt in_le in_ne in_en in_ne1 in_en1 in_le1 in_ltn in_len in_nen in_enn size_le ite_max ite_min
set_option linter.unusedVariables false
set_option linter.unusedSimpArgs false
set_option maxRecDepth 1000000

/-- A shell's cells, down to its table. -/
def ShCells (sh t : Nat) (w : World) : Prop := ∃ en sm wo, w.cell? ⟨sh, 0, none⟩ = some (.pointer (some ⟨en, 0, none⟩)) ∧ w.cell? ⟨en, 0, none⟩ = some (.pointer (some ⟨sm, 0, none⟩)) ∧ w.cell? ⟨sm, 1, none⟩ = some (.pointer (some ⟨wo, 0, none⟩)) ∧ w.cell? ⟨wo, 0, none⟩ = some (.pointer (some ⟨t, 0, none⟩))
/-- The types of a system with bodies. -/
abbrev tyL : List TypeId := tySys ++ [96]
abbrev AsideL (w : World) (F : Nat → Prop) : Prop := AsideOf tyL w F
theorem AsideL.sys {w : World} {F : Nat → Prop} (h : AsideL w F) : Aside w F := ⟨h.1, fun g c T fz hg hm => h.2 g c T fz hg (List.mem_append_left _ hm)⟩
theorem asideL_none (w : World) : AsideL w (fun _ => False) := ⟨fun _ _ _ _ => id, fun _ _ _ _ _ _ => id⟩
/-- What turns in a line of a system with bodies. -/
abbrev tyLG : List TypeId := tyWorld ++ tyQueue ++ [76, 69]
def LG (B : Nat) (w : World) (k : Nat) : Prop := Ty B tyLG w k ∨ (B ≤ k ∧ ∃ es cl, w.heap[k]? = some (.map es cl))
section
variable {B ab : Nat} {w a b : World}
theorem lg_turn {F : Nat → Prop} (h : Turn F w a) (hF : ∀ i, ¬ LG B w i → ¬ F i) {i : Nat} (hi : i < w.heap.size) (hb : LG B a i) : LG B w i := by
  by_cases ha : LG B w i
  · exact ha
  · rcases hb with ⟨h1, c', T, fz, h2, h3⟩ | ⟨h1, es, cl, h2⟩
    · exact .inl ⟨h1, c', T, fz, (h.block i hi (hF i ha)).symm.trans h2, h3⟩
    · exact .inr ⟨h1, es, cl, (h.block i hi (hF i ha)).symm.trans h2⟩
theorem Turn.lg (h : Turn (LG B w) w a) (k : Turn (LG B a) a b) : Turn (LG B w) w b := h.trans k (fun i hi hb => lg_turn h (fun _ => id) hi hb)
theorem lg_lf (h : Turn (LF B w) w a) : Turn (LG B w) w a := h.mono (fun k _ hk => by
  rcases hk with ⟨h1, c, T, fz, h2, h3⟩ | hk
  · refine .inl ⟨h1, c, T, fz, h2, ?_⟩
    rcases List.mem_append.1 h3 with h3 | h3
    · exact List.mem_append_left _ h3
    · exact List.mem_append_right _ (by simp at h3; subst h3; exact .head _)
  · exact .inr hk)
theorem lg_one {en : Nat} {c : Array Value} {fz : Nat × Nat} (h : Turn (fun k => k = en) w a) (he : w.heap[en]? = some (.cells c 69 fz)) (hB : B ≤ en) : Turn (LG B w) w a :=
  h.mono (fun k _ hk => .inl (by subst hk; exact ⟨hB, c, _, fz, he, by decide⟩))
theorem lg_below (h : Below w.heap.size w a) : Turn (LG B w) w a := turn_below h
theorem lg_no {b : Nat} {c : Array Value} {T : TypeId} {fz : Nat × Nat} (h : w.heap[b]? = some (.cells c T fz)) (hT : T ∉ tyLG) : ¬ LG B w b := by
  rintro (h1 | ⟨_, es, cl, h1⟩)
  · exact ty_no h hT h1
  · rw [h] at h1; injection h1 with h1; cases h1
theorem lg_low {b : Nat} (h : b < B) : ¬ LG B w b := by
  rintro (h1 | ⟨h1, _⟩)
  · have := h1.1; omega
  · omega
/-- .. and in the words that are still to be read. -/
def LH (B ab : Nat) (w : World) (k : Nat) : Prop := LG B w k ∨ k = ab
theorem Turn.lh (h : Turn (LH B ab w) w a) (k : Turn (LG B a) a b) : Turn (LH B ab w) w b := h.trans k (fun i hi hb => by
  by_cases ha : LH B ab w i
  · exact ha
  · refine .inl ?_
    rcases hb with ⟨h1, c', T, fz, h2, h3⟩ | ⟨h1, es, cl, h2⟩
    · exact .inl ⟨h1, c', T, fz, (h.block i hi ha).symm.trans h2, h3⟩
    · exact .inr ⟨h1, es, cl, (h.block i hi ha).symm.trans h2⟩)
theorem Turn.lhOne (h : Turn (LH B ab w) w a) (k : Turn (one ab) a b) : Turn (LH B ab w) w b := h.trans k (fun i _ hb => .inr hb)
theorem Turn.lhBelow (h : Turn (LH B ab w) w a) (k : Below a.heap.size a b) : Turn (LH B ab w) w b := h.lh (lg_below k)
theorem Turn.lhLg (h : Turn (LG B w) w a) (k : Turn (LH B ab a) a b) (hn : w.heap.size ≤ ab) : Turn (LG B w) w b := h.trans k (fun i hi hb => by
  rcases hb with hb | hb
  · exact lg_turn h (fun _ => id) hi hb
  · omega)
theorem aside_argsL {rs : List (List UInt8)} (h : ArgsAt w ab rs) : AsideL w (one ab) := by
  obtain ⟨v, h, _⟩ := h
  exact aside_one h (by decide)
theorem ArgsAt.lg {rs : List (List UInt8)} (h : ArgsAt w ab rs) (hT : Turn (LG B w) w a) : ArgsAt a ab rs :=
  h.keep hT (fun k c T fz hk hF => ⟨fun e => lg_no hk (by subst e; decide) hF, fun e => lg_no hk (by subst e; decide) hF⟩)
end
/-- A line's answer: its text; what holds behind it. -/
def SaidG (B : Nat) (Q : World → Prop) (R : ByteArray → Prop) (w : World) (e : Ending) (w' : World) : Prop := (∃ x, e = .returned (.string x) ∧ R x) ∧ Q w' ∧ Turn (LG B w) w w'
def SaidH (B ab : Nat) (Q : World → Prop) (R : ByteArray → Prop) (w : World) (e : Ending) (w' : World) : Prop := (∃ x, e = .returned (.string x) ∧ R x) ∧ Q w' ∧ Turn (LH B ab w) w w'
set_option maxHeartbeats 4000000 in
theorem line_gen {B : Nat} {w : World} {sh t : Nat} (S : World → Prop) (h : S w) (hS1 : ∀ W W', S W → Below W.heap.size W W' → S W') (hS2 : ∀ W W' F, S W → Turn F W W' → AsideL W F → S W') (hS3 : ∀ W, S W → ShCells sh t W) (wd : List UInt8) (rs : List (List UInt8)) (hw : ∀ x ∈ wd :: rs, Wd x) (hl : (joinW (wd :: rs)).length ≤ 100000) (hn : rs.length ≤ 1000) (hd : wd.length ≤ 100)
    (Q : World → Prop) (R : ByteArray → Prop) (hQ : ∀ W W' F, Q W → Turn F W W' → AsideL W F → Q W')
    (hf : ∀ bl bu bf, ∃ fn first cap, (wd, .func (.func fn) first cap) ∈ doesW sh bl bu bf ∧ (∀ args W, (callFunc fn args).run Tryz.prog W = .ok (.enter fn args) W) ∧
      ∀ W ab, S W → ArgsAt W ab rs → Boxes t bl bu bf W → Calls Tryz.prog fn (first.push (.pointer (some ⟨ab, 0, none⟩)) ++ cap) W (SaidH B ab Q R W)) :
    Calls Tryz.prog 7 #[.pointer (some ⟨sh, 0, none⟩), sV (joinW (wd :: rs))] w (SaidG B Q R w) := by
  have hmf : ∀ (fn : Fn) (first cap : Array Value) (w : World), (Instr.makeFunc fn first cap).run Tryz.prog w = .ok (.func fn first cap) w := fun _ _ _ _ => rfl
  have H := Lib.hid h
  have LW := Lib.hid (fun W => linewords_any (wd :: rs) (by simp) hw (by omega) W)
  have HF := Lib.hid hf
  have SG := Lib.hid hS1
  have SN := Lib.hid hS2
  have SC := Lib.hid hS3
  clear h hw hl hf hS1 hS2 hS3
  go_enter_defers Tryz.func7, Tryz.ntmps7
  go_wp2_with fail
  refine (LW.out _).mono ?_
  rintro e1 w1 ⟨v1, rfl, hr, _t, hw1⟩
  haveI hb1 := named_below (w := w) hw1
  have hc1 := named_cell hw1
  have hz1 := named_frozen hw1
  have hh1 := named_heap hw1
  haveI hi1 := named_in hw1
  clear hw1
  obtain ⟨o1, rfl, hr1⟩ := hr
  have r1 : w1.heap[w.heap.size]? = some (.cells #[.string ⟨#[]⟩] 9 (0, 0)) := (hh1 _).trans (heap_alloc_new w _)
  have R1 := Lib.hid hr1
  have B1 := Lib.hid (grown_now (w := w) (W := w1))
  clear hc1 hz1 hh1 hr1 LW
  go_wp2_with fail
  have B2 := Lib.hid ((Below.refl w1.heap.size w1).alloc (Nat.le_refl _) (.cells #[.slice o1 (rs.length + 1) (rs.length + 1)] 80))
  have A2 := Lib.hid (show ArgsAt (w1.alloc (.cells #[.slice o1 (rs.length + 1) (rs.length + 1)] 80)) w1.heap.size (wd :: rs) from ⟨_, heap_alloc_new w1 _, o1, rfl, fun hne => by
    obtain ⟨A, off, cur, e, h1, h2⟩ := R1.out hne
    exact ⟨A, off, cur, e, (B2.out.block A (lt_of_block h1)).trans h1, h2⟩⟩)
  have r2 := (B2.out.block _ (lt_of_block r1)).trans r1
  have b2 := Lib.hid (show Below w.heap.size w (w1.alloc (.cells #[.slice o1 (rs.length + 1) (rs.length + 1)] 80)) from B1.out.trans (B2.out.mono B1.out.size))
  have n2 : ¬ w1.heap.size = w.heap.size := by have : w.heap.size < w1.heap.size := lt_of_block r1; omega
  have L2 := Lib.hid (show w.heap.size ≤ w1.heap.size from B1.out.size)
  generalize w1.alloc (.cells #[.slice o1 (rs.length + 1) (rs.length + 1)] 80) = w2 at *
  generalize w1.heap.size = ab at *
  have S2 := Lib.hid (SG.out _ _ H.out b2.out)
  clear H R1 r1 B1 B2
  obtain ⟨en, sm, wo, k0, k1, k2, k3⟩ := SC.out w2 S2.out
  refine (does_any sh en sm wo t w2 k0 k1 k2 k3).mono ?_
  rintro e3 w3 ⟨m, bl, bu, bf, n, Ls, L, rfl, hD, hW, q1, q2, q3⟩
  clear k0 k1 k2 k3
  have D3 := Lib.hid hD
  have A3 := Lib.hid (A2.out.far hD.1)
  have S3 := Lib.hid (SG.out _ _ S2.out hD.1)
  obtain ⟨fn, first, cap, hm, hen, hcall⟩ := HF.out bl bu bf
  have X3 := Lib.hid (show Boxes t bl bu bf w3 from ⟨(hD.2.2.2 _ q1).1, (hD.2.2.2 _ q2).1, (hD.2.2.2 _ q3).1⟩)
  have W3 := Lib.hid (hW _ hm)
  have r3 := (hD.1.block _ (lt_of_block r2)).trans r2
  have F3 := Lib.hid hcall
  clear hD hW q1 q2 q3 hcall HF hm S2 A2
  go_wp2_with fail
  refine (word_any wd rs ab w3 A3.out hn).mono ?_
  rintro e4 w4 ⟨rfl, hA4, hT4⟩
  have A4 := Lib.hid hA4
  have S4 := Lib.hid (SN.out _ _ _ S3.out hT4 (aside_argsL A3.out))
  have X4 := Lib.hid (show Boxes t bl bu bf w4 from ⟨(hT4.block _ (lt_of_block X3.out.1) (A3.out.cells X3.out.1 (by decide))).trans X3.out.1, (hT4.block _ (lt_of_block X3.out.2.1) (A3.out.cells X3.out.2.1 (by decide))).trans X3.out.2.1, (hT4.block _ (lt_of_block X3.out.2.2) (A3.out.cells X3.out.2.2 (by decide))).trans X3.out.2.2⟩)
  have hlk : (Instr.lookup 83 (.map (some m)) (sV wd) false).run Tryz.prog w4 = .ok (.func (.func fn) first cap) w4 := D3.out.look W3.out hd w4 (by
    obtain ⟨_, _, ⟨D, ⟨es, clock, h5, _⟩, _⟩, _⟩ := D3.out
    exact hT4.block m (Array.getElem?_eq_some_iff.1 h5).1 (fun e => by
      obtain ⟨v, hb, _⟩ := A3.out
      rw [show m = ab from e] at h5
      rw [hb] at h5
      injection h5 with h5
      cases h5))
  have T4 := Lib.hid hT4
  have r4 := (hT4.block _ (lt_of_block r3) (fun e => n2 e.symm)).trans r3
  have T34 := Lib.hid ((lf_below (B := B) (b2.out.trans (D3.out.1.mono b2.out.size))).trans T4.out (fun i hi e => by have := L2.out; rw [show i = ab from e] at hi; omega))
  clear hA4 hT4 A3 S3 X3 W3
  have hnil := fnNil fn first cap
  go_wp2_with (go_at_call 31; refine (must_any _).mono ?_; rintro e w1 ⟨rfl, rfl⟩)
  refine (F3.out w4 ab S4.out A4.out X4.out).mono ?_
  rintro e5 w5 ⟨⟨x, rfl, hR⟩, hQ5, hT5⟩
  have r5 := (hT5.block _ (lt_of_block r4) (fun e => e.elim (lg_no r4 (by decide)) (fun e => n2 e.symm))).trans r4
  have c5 := cell_of_one r5
  have z5 := free_of_one r5
  have r5' := Lib.hid r5
  have Q5 := Lib.hid (And.intro hR (And.intro hQ5 ((lg_lf T34.out).lhLg hT5 L2.out)))
  haveI := in_of_cell c5
  clear hR hQ5 hT5 r5 r4 r3 r2 F3 S4 A4 X4 T4 T34 D3 hlk hnil
  go_wp2_with fail
  refine leaves_cons (f := 28) (args := #[.pointer (some ⟨w.heap.size, 0, none⟩)]) (by simp) (by simp [go_sem]) ?_
  refine (line_idle ⟨w.heap.size, 0, none⟩ _).mono ?_
  rintro e u' w'' ⟨rfl, rfl, rfl⟩
  have c6 := cell_of_one (one_setCell (u := Value.string x) r5'.out)
  simp [Leaves, settle, results, Tryz.results7, go_sem]
  rw [c6]
  exact ⟨_, rfl, ⟨x, rfl, Q5.out.1⟩, hQ _ _ _ Q5.out.2.1 (turn_one w5 _ 0 (.string x)) (aside_one r5'.out (by decide)), Q5.out.2.2.setNew (Nat.le_refl _) _⟩
#print axioms line_gen
end Go.Proofs.YtnogfelfgclajaaGreatDoor
end
