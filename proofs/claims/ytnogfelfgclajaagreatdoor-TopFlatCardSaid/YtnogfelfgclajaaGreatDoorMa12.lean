/-
  The word that tells turned bytes: with bytes behind.
  Room for bytes; bytes one behind the other.
  Checked bytes.
-/
import Derived.Test.YtnogfelfgclajaaGreatDoorMa11
section
namespace Go.Proofs.YtnogfelfgclajaaGreatDoor
open Go.RowKit
attribute [local go_sem] ext_ext drew_ext ext_drew ext_cell ext_frozen in_lt in_le in_ne in_en in_ne1 in_en1 in_le1 in_ltn in_len in_nen in_enn size_le ite_max ite_min
set_option linter.unusedVariables false
set_option linter.unusedSimpArgs false

def U16 (c : Int) : Prop := 0 ≤ c ∧ c ≤ 65535
theorem xor_u16 (a b : Int) : bits BinOp.xor IntKind.u16 a b = ((BitVec.ofInt 16 a ^^^ BitVec.ofInt 16 b).toNat : Int) := by
  show IntKind.u16.wrap ((BitVec.ofInt 16 a ^^^ BitVec.ofInt 16 b).toNat : Nat) = _
  rw [IntKind.wrap_u16]
  have := (BitVec.ofInt 16 a ^^^ BitVec.ofInt 16 b).isLt
  omega
theorem xor_bd (a b : Int) : U16 (bits BinOp.xor IntKind.u16 a b) := by
  rw [xor_u16]
  have := (BitVec.ofInt 16 a ^^^ BitVec.ofInt 16 b).isLt
  exact ⟨by omega, by omega⟩
theorem xor_self (a : Int) : bits BinOp.xor IntKind.u16 a a = 0 := by rw [xor_u16, BitVec.xor_self]; rfl
theorem xor_zero {a : Int} (h : U16 a) : bits BinOp.xor IntKind.u16 a 0 = a := by
  rw [xor_u16]
  have e : BitVec.ofInt 16 a ^^^ BitVec.ofInt 16 0 = BitVec.ofInt 16 a := by rw [show BitVec.ofInt 16 0 = 0#16 from rfl, BitVec.xor_zero]
  rw [e, BitVec.toNat_ofInt]
  obtain ⟨h1, h2⟩ := h
  omega
theorem xor_nib (a b : Nat) (ha : a < 16) (hb : b < 16) : 0 ≤ bits BinOp.xor IntKind.u16 (a : Int) (b : Int) ∧ bits BinOp.xor IntKind.u16 (a : Int) (b : Int) < 16 := by
  have key : ∀ a b : Fin 16, 0 ≤ bits BinOp.xor IntKind.u16 ((a.val : Nat) : Int) ((b.val : Nat) : Int) ∧ bits BinOp.xor IntKind.u16 ((a.val : Nat) : Int) ((b.val : Nat) : Int) < 16 := by decide +kernel
  exact key ⟨a, ha⟩ ⟨b, hb⟩
theorem and15 (n : Nat) (h : n < 256) : bits BinOp.and IntKind.u8 (n : Int) 15 = (n : Int) % 16 := by
  have key : ∀ n : Fin 256, bits BinOp.and IntKind.u8 ((n.val : Nat) : Int) 15 = ((n.val : Nat) : Int) % 16 := by decide +kernel
  exact key ⟨n, h⟩

/-- The word with four bits behind. -/
def crcN (c x : Int) : Int := bits BinOp.xor IntKind.u16 (IntKind.u16.wrap (c * 16)) (tabS (bits BinOp.xor IntKind.u16 (c / 4096) x).toNat)
theorem crcN_u16 (c x : Int) : U16 (crcN c x) := xor_bd _ _
/-- .. with a byte behind. -/
def crcB (c : Int) (n : Nat) : Int := crcN (crcN c ((n : Int) / 16)) ((n : Int) % 16)
theorem crcB_u16 (c : Int) (n : Nat) : U16 (crcB c n) := xor_bd _ _
def crcW (l : List Nat) (c : Int) : Int := l.foldl crcB c
theorem crcW_u16 (l : List Nat) {c : Int} (h : U16 c) : U16 (crcW l c) := by
  induction l generalizing c with
  | nil => exact h
  | cons n l ih => exact ih (crcB_u16 _ _)
theorem crcW_snoc (l : List Nat) (n : Nat) (c : Int) : crcW (l ++ [n]) c = crcB (crcW l c) n := by simp [crcW]
theorem tab_zero : tabS 0 = 0 := by decide +kernel
theorem crcN_self {c : Int} (h : U16 c) : crcN c (c / 4096) = c * 16 % 65536 := by
  unfold crcN
  rw [xor_self, show (0 : Int).toNat = 0 from rfl, tab_zero, IntKind.wrap_u16]
  exact xor_zero ⟨by omega, by omega⟩
/-- Behind its own two bytes a word is 0. -/
theorem crc_own {c : Int} (h : U16 c) : crcB (crcB c (c / 256).toNat) (c % 256).toNat = 0 := by
  obtain ⟨h1, h2⟩ := h
  have a1 : (((c / 256).toNat : Nat) : Int) = c / 256 := by omega
  have a2 : (((c % 256).toNat : Nat) : Int) = c % 256 := by omega
  unfold crcB
  rw [a1, a2, show c / 256 / 16 = c / 4096 by omega, crcN_self ⟨h1, h2⟩]
  rw [show c / 256 % 16 = (c * 16 % 65536) / 4096 by omega, crcN_self ⟨by omega, by omega⟩]
  rw [show c % 256 / 16 = (c * 16 % 65536 * 16 % 65536) / 4096 by omega, crcN_self ⟨by omega, by omega⟩]
  rw [show c % 256 % 16 = (c * 16 % 65536 * 16 % 65536 * 16 % 65536) / 4096 by omega, crcN_self ⟨by omega, by omega⟩]
  omega

theorem tab_one : (tabK 16).all (·.oneCell') = true := by
  rw [Array.all_eq_true]
  intro i hi
  simp only [tabK, List.getElem_toArray, List.getElem_ofFn]
  split <;> rfl
/-- Bytes. -/
def Bytes (l : List Nat) : Prop := ∀ n ∈ l, n < 256

set_option maxRecDepth 100000 in
set_option maxHeartbeats 4000000 in
theorem crcwith_any (l : List Nat) (c : Int) (g o cap : Nat) (w : World) (h : U16 c) (hl : l.length ≤ 1000000) (h0 : 0 < l.length) (hb : Bytes l) (hc : BytesAt w g o l) :
    Calls Tryz.prog 344 #[.int .u16 c, .slice (some ⟨g, o, none⟩) l.length cap] w fun e w' => e = .returned (.int .u16 (crcW l c)) ∧ ∃ f, w' = ext w f := by
  have HC := Lib.hid hc
  have HU := Lib.hid h
  have HB := Lib.hid hb
  haveI := in_of_cell (hc 0 (.int .u8 ((l[0] : Nat) : Int)) (by simp only [bV, List.getElem?_map]; rw [List.getElem?_eq_getElem h0]; rfl))
  clear hc h hb h0
  go_enter Tryz.func344, Tryz.ntmps344
  go_wp2_with fail
  refine (crcsteps_any _).mono ?_
  rintro e w1 ⟨rfl, _t, hw⟩
  have hc1 := named_cell hw
  have hz1 := named_frozen hw
  have hh1 := named_heap hw
  haveI hi1 := named_in hw
  haveI hb1 := named_below (w := w) hw
  clear hw
  go_wp2_with (refine wpList_store_new rfl 399 (.tmp 5) (.tmp 8) rfl _ rfl _ (tabK 16) rfl rfl tab_info (by simp [tabK]) tab_one rfl ?_)
  obtain ⟨w2, hw2⟩ : ∃ W, W = w1.alloc (.cells (tabK 16) 399) := ⟨_, rfl⟩
  rw [← hw2]
  have TB := Lib.hid (show ∀ i, i < 16 → w2.cell? ⟨w1.heap.size, i, none⟩ = some (.int .u16 (tabS i)) from fun i hi => by rw [hw2]; exact (World.cell?_alloc_new ..).trans (tabK_at 16 i hi hi))
  have HC2 := Lib.hid (show BytesAt w2 g o l from HC.out.grown (by rw [hw2]; exact grown_of))
  haveI hb2 : Nonempty (Below w.heap.size w w2) := by rw [hw2]; infer_instance
  clear hw2 HC hc1 hz1 hh1
  generalize w1.heap.size = tb at *
  go_loopw [0, 11] (fun cc i wr => ∃ k : Nat, k ≤ l.length ∧ i = .int .i64 k ∧ cc = .int .u16 (crcW (l.take k) c) ∧ w2 = wr) (fun _ i _ => l.length - (intOf i).toNat)
  case atStart => exact ⟨0, by omega, rfl, rfl, rfl⟩
  case round =>
    obtain ⟨k, hk, rfl, rfl, rfl⟩ := hrel
    by_cases hlt : k < l.length
    · have d0 : w2.cell? ⟨g, o + k, none⟩ = some (.int .u8 ((l[k] : Nat) : Int)) := HC2.out k _ (by simp only [bV, List.getElem?_map]; rw [List.getElem?_eq_getElem hlt]; rfl)
      have HT := Lib.hid (show crcW (l.take (k + 1)) c = crcB (crcW (l.take k) c) l[k] by rw [List.take_succ_eq_append_getElem hlt, crcW_snoc])
      have HK := Lib.hid hlt
      obtain ⟨u0, u1⟩ := crcW_u16 (l.take k) HU.out
      have x1 := HB.out l[k] (List.getElem_mem hlt)
      have k1 : (k : Int) < (l.length : Int) := by omega
      generalize crcW (l.take k) c = d at *
      generalize l[k] = x at *
      have x2 : (x : Int) < 256 := by omega
      have a15 := and15 x x1
      have n1 := xor_nib (d / 4096).toNat (x / 16) (by omega) (by omega)
      rw [show (((d / 4096).toNat : Nat) : Int) = d / 4096 by omega, show ((x / 16 : Nat) : Int) = (x : Int) / 16 by omega] at n1
      obtain ⟨p0, p1⟩ := n1
      have t1 := TB.out (bits BinOp.xor IntKind.u16 (d / 4096) ((x : Int) / 16)).toNat (by omega)
      have HE1 := Lib.hid (show bits BinOp.xor IntKind.u16 (IntKind.u16.wrap (d * 16)) (tabS (bits BinOp.xor IntKind.u16 (d / 4096) ((x : Int) / 16)).toNat) = crcN d ((x : Int) / 16) from rfl)
      obtain ⟨v0, v1⟩ := crcN_u16 d ((x : Int) / 16)
      have HT2 := Lib.hid (show crcB d x = crcN (crcN d ((x : Int) / 16)) ((x : Int) % 16) from rfl)
      have f1 := HE1.out
      generalize crcN d ((x : Int) / 16) = e at *
      have n2 := xor_nib (e / 4096).toNat (x % 16) (by omega) (by omega)
      rw [show (((e / 4096).toNat : Nat) : Int) = e / 4096 by omega, show ((x % 16 : Nat) : Int) = (x : Int) % 16 by omega] at n2
      obtain ⟨q0, q1⟩ := n2
      have t2 := TB.out (bits BinOp.xor IntKind.u16 (e / 4096) ((x : Int) % 16)).toNat (by omega)
      clear hlt hk x1
      go_wp2_with fail
      go_roundw
      case rel => exact ⟨k + 1, HK.out, by go_num, by rw [HT.out, HT2.out]; rfl, trivial⟩
      case measure => have := HK.out; simp [intOf]; omega
    · have k1 : ¬ (k : Int) < (l.length : Int) := by omega
      rw [List.take_of_length_le (show l.length ≤ k by omega)]
      go_wp2_with fail
      go_ret
      exact ⟨rfl, grown_of⟩
theorem crcstart_any (w : World) : Calls Tryz.prog 343 #[] w fun e w' => e = .returned (.int .u16 65535) ∧ w = w' := by
  go_enter Tryz.func343, Tryz.ntmps343
  go_wp2
  go_ret
  exact ⟨rfl, rfl⟩
/-- The word of bytes. -/
def crcOf (l : List Nat) : Int := crcW l 65535
theorem crcOf_u16 (l : List Nat) : U16 (crcOf l) := crcW_u16 l ⟨by omega, by omega⟩
set_option maxRecDepth 100000 in
theorem crcof_any (l : List Nat) (g o cap : Nat) (w : World) (hl : l.length ≤ 1000000) (h0 : 0 < l.length) (hb : Bytes l) (hc : BytesAt w g o l) :
    Calls Tryz.prog 307 #[.slice (some ⟨g, o, none⟩) l.length cap] w fun e w' => e = .returned (.int .u16 (crcOf l)) ∧ ∃ f, w' = ext w f := by
  have W1 := crcwith_any l 65535 g o cap w ⟨by omega, by omega⟩ hl h0 hb hc
  clear hb hc
  go_enter Tryz.func307, Tryz.ntmps307
  go_wp2_with (go_at_call 343; refine (crcstart_any _).mono ?_; rintro e w1 ⟨rfl, rfl⟩)
  refine (W1).mono ?_
  rintro e w1 ⟨rfl, _t, hw⟩
  have hc1 := named_cell hw
  have hz1 := named_frozen hw
  have hh1 := named_heap hw
  haveI hi1 := named_in hw
  haveI hb1 := named_below (w := w) hw
  clear hw
  go_wp2_with fail
  go_ret
  exact ⟨rfl, grown_of⟩
/-- A word's two bytes. -/
def crcT (c : Int) : List Nat := [(c / 256).toNat, (c % 256).toNat]
set_option maxRecDepth 100000 in
theorem crcbytes_any (c : Int) (h : U16 c) (w : World) :
    Calls Tryz.prog 308 #[.int .u16 c] w fun e w' => e = .returned (.agg #[.int .u8 (c / 256), .int .u8 (c % 256)]) ∧ ∃ f, w' = ext w f := by
  have h0 := h.1
  have h1 := h.2
  clear h
  go_enter Tryz.func308, Tryz.ntmps308
  go_wp2_with fail
  refine bodyPost_ret (by simp [results, Tryz.results308, go_sem, go_sem]; try rfl) rfl ?_
  exact ⟨rfl, grown_of⟩
end Go.Proofs.YtnogfelfgclajaaGreatDoor
end

section
namespace Go.Proofs.YtnogfelfgclajaaGreatDoor
open Go.RowKit
attribute [local go_sem] ext_ext drew_ext ext_drew ext_cell ext_frozen in_lt in_le in_ne in_en in_ne1 in_en1 in_le1 in_ltn in_len in_nen in_enn size_le ite_max ite_min
set_option linter.unusedVariables false
set_option linter.unusedSimpArgs false

section
variable {P : Program} {w : World}
theorem run_append_zeros (t ti ty e : TypeId) (i : TypeInfo) (z : Value) (ht : P.underlying t = some (.slice e)) (hti : P.underlying ti = some (.int .i64)) (hi : P.info? e = some i) (hz : i.zero = some z) (hsz : i.size = 1) (hby : i.bytes = 1)
    (n : Nat) (h0 : 0 < n) (h48 : n ≤ 1000000) :
    (Builtin.append_ #[t, ti] ty #[.slice none 0 0, .int .i64 (n : Int)]).run P w =
      .ok (.slice (some ⟨w.heap.size, 0, none⟩) n (grownCap w n 0 e)) (w.drew.alloc (.cells (Builtin.zeroCells z.cells n ++ Builtin.zeroCells z.cells (grownCap w n 0 e - n)) e)) := by
  have hn : n ≠ 0 := by omega
  have hw : IntKind.i64.wrap (n : Int) = (n : Int) := IntWalk.i64_in _ (by omega)
  have h1 : ¬ ((n : Int) < 0) := by omega
  have h2 : ¬ ((281474976710656 : Int) < (n : Int)) := by omega
  have h63' : ¬ (9223372036854775807 < (n : Int)) := by omega
  have h48' : ¬ (281474976710656 < Builtin.nextslicecap n 0) := by rw [nextslicecap_zero h0]; omega
  have ha : ∀ w : World, (asInt (.int .i64 (n : Int))).run P w = .ok (n : Int) w := fun _ => rfl
  simp [Builtin.append_, run_underlying ht, run_underlying hti, sizeOf, typeInfo, zeroValue, hi, hz, hsz, hby, Builtin.lenOf, hn, h63', h48', Question.forced, run_firstCells_none, newRow, grownCap, hw, h1, h2, ha]

theorem wpList_append_zeros {ops : Array Oper} {rest : List Oper} {o : Oper} {a : Act} {Q : Exit → Act → World → Prop} (hgd : o.guard = none) (s x : Operand) (t ti : TypeId)
    (ho : o.op = .call { callee := .builtin .append, args := #[s, x], argTypes := #[t, ti] }) (e : TypeId) (i : TypeInfo) (z : Value)
    (ht : P.underlying t = some (.slice e)) (hti : P.underlying ti = some (.int .i64)) (hi : P.info? e = some i) (hz : i.zero = some z) (hsz : i.size = 1) (hby : i.bytes = 1) (hzs : z.cells.size = 1)
    (n : Nat) (h0 : 0 < n) (h48 : n ≤ 1000000) (hs : a.eval s = .slice none 0 0) (hx : a.eval x = .int .i64 (n : Int))
    (h : ∀ cap w', n ≤ cap → w'.ownsRow w.heap.size e 1 (.slice (some ⟨w.heap.size, 0, none⟩) 0 cap) 0 [] → (∃ f, w' = ext w f) → wpList P ops Q rest (a.put o.dst (.slice (some ⟨w.heap.size, 0, none⟩) n cap)) w') : wpList P ops Q (o :: rest) a w := by
  have hr := run_append_zeros (P := P) (w := w) t ti o.type e i z ht hti hi hz hsz hby n h0 h48
  refine wpList_plain hgd fun K hK => ?_
  unfold Oper.wp execOp
  simp only [ho, resolve, invoke, builtin, Sem.run_bind, Sem.run_pure, Result.andThen_ok, List.map_toArray, List.map_cons, List.map_nil, hs, hx, hr]
  have hge : n ≤ grownCap w n 0 e := grownCap_ge w n 0 e
  refine hK _ _ (h _ _ hge ?_ ?_)
  · refine ⟨by simp, .inr ⟨w.heap.size, _, _, rfl, Nat.le_refl _, heap_alloc_new w.drew _, Nat.zero_le _, grownCap_le_maxLen w n 0 e (by unfold maxLen; omega), ?_, by simp⟩⟩
    simp only [Array.size_append, size_zeroCells, hzs]
    omega
  · exact ext_of (((Below.refl _ w).drew).alloc (Nat.le_refl _) _)
end
/-- Room that was made. -/
def MadeRoom (w : World) (o : Ending) (w' : World) : Prop := ∃ g cap, o = .returned (.slice (some ⟨g, 0, none⟩) 0 cap) ∧ w'.ownsRow w.heap.size 5 1 (.slice (some ⟨g, 0, none⟩) 0 cap) 0 [] ∧ ∃ f, w' = ext w f
set_option maxRecDepth 100000 in
set_option maxHeartbeats 1000000 in
theorem grow_any (n : Nat) (h0 : 0 < n) (h1 : n ≤ 1000000) (w : World) :
    Calls Tryz.prog 309 #[.slice none 0 0, .int .i64 (n : Int)] w (MadeRoom w) := by
  obtain ⟨i0, iz0, iz1, iz2, iz3⟩ := info_parts byteInfo
  have n0 : (0 : Int) < (n : Int) := by omega
  have n1 : (n : Int) ≤ 1000000 := by omega
  go_enter Tryz.func309, Tryz.ntmps309
  go_wp2_with (at_builtin; refine wpList_append_zeros rfl (.tmp 20) (.tmp 21) 87 3 rfl 5 i0 _ Tryz.underlying87 Tryz.underlying3 iz0 iz1 iz2 iz3 rfl n h0 h1 rfl rfl ?_; intro cap w1 hcap ho hext)
  go_ret
  exact ⟨_, _, rfl, ho, hext⟩

set_option maxRecDepth 100000 in
set_option maxHeartbeats 2000000 in
theorem concat2_any (l m : List Nat) (g c g1 o1 c1 g2 o2 c2 : Nat) (w : World) (l0 : 0 < l.length) (m0 : 0 < m.length) (hs : l.length + m.length ≤ 1000000)
    (h0 : w.cell? ⟨g, 0, none⟩ = some (.slice (some ⟨g1, o1, none⟩) l.length c1)) (h1 : w.cell? ⟨g, 1, none⟩ = some (.slice (some ⟨g2, o2, none⟩) m.length c2)) (hl : BytesAt w g1 o1 l) (hm : BytesAt w g2 o2 m) :
    Calls Tryz.prog 238 #[.slice (some ⟨g, 0, none⟩) 2 c] w (MadeRow 5 1 (l ++ m).length (bV (l ++ m)) w) := by
  obtain ⟨i0, iz0, iz1, iz2, iz3⟩ := info_parts byteInfo
  haveI := in_of_cell h0
  have HL := Lib.hid hl
  have HM := Lib.hid hm
  have a1 : (0 : Int) < (l.length : Int) := by omega
  have a2 : (0 : Int) < (m.length : Int) := by omega
  have a3 : (l.length : Int) + (m.length : Int) ≤ 1000000 := by omega
  have GR := fun W => grow_any (l.length + m.length) (by omega) hs W
  rw [show (((l.length + m.length : Nat)) : Int) = (l.length : Int) + (m.length : Int) by omega] at GR
  clear hl hm
  go_enter Tryz.func238, Tryz.ntmps238
  go_wp2_with fail
  refine wp_loop_rounds 3 ?_
  rw [rounds_succ]
  go_wp2_with fail
  rw [rounds_succ]
  go_wp2_with fail
  rw [rounds_succ]
  go_wp2_with fail
  refine (GR _).mono ?_
  rintro e w3 ⟨g3, cap3, rfl, ho3, _t, hw⟩
  have hc3 := named_cell hw
  haveI hi3 := named_in hw
  haveI hb3 := named_below (w := w) hw
  clear hw
  have O3 := Lib.hid ho3
  have B3 := Lib.hid (grown_now (w := w) (W := w3))
  have L3 := Lib.hid (HL.out.below B3.out)
  clear ho3
  go_wp2_with fail
  refine wp_loop_rounds 3 ?_
  rw [rounds_succ]
  go_wp2_with (at_builtin; refine wpList_append_own _ rfl (.tmp 31) (.tmp 32) 87 rfl w.heap.size 5 i0 _ 1 1 Tryz.underlying87 iz0 iz1 iz2 iz3 rfl (by omega) _ 0 [] rfl O3.out ⟨g1, o1, none⟩ l.length c1 (bV l) rfl (by rw [bV_length, Nat.mul_one]) (fun j u hu => by rw [addr_add]; exact L3.out j u hu) (by intro u hu; simp only [bV, List.mem_map] at hu; obtain ⟨x, _, rfl⟩ := hu; rfl) (by unfold maxLen; omega) (by omega) B3.out.size ?_; intro v4 w4 ho4 hgr4 hx; clear hx)
  simp only [Nat.zero_add, List.nil_append] at ho4
  have B4 := Lib.hid (show Below w.heap.size w w4 from B3.out.grown hgr4 B3.out.size (fun k hk => (O3.out.lt k hk).1))
  obtain ⟨_, hw⟩ := ext_of B4.out
  have hc4 := named_cell hw
  haveI hi4 := named_in hw
  have M4 := Lib.hid (HM.out.below B4.out)
  have O4 := Lib.hid ho4
  clear ho4 hgr4 hc3 hw
  rw [rounds_succ]
  go_wp2_with (at_builtin; refine wpList_append_own _ rfl (.tmp 31) (.tmp 32) 87 rfl w.heap.size 5 i0 _ 1 1 Tryz.underlying87 iz0 iz1 iz2 iz3 rfl (by omega) v4 l.length (bV l) rfl O4.out ⟨g2, o2, none⟩ m.length c2 (bV m) rfl (by rw [bV_length, Nat.mul_one]) (fun j u hu => by rw [addr_add]; exact M4.out j u hu) (by intro u hu; simp only [bV, List.mem_map] at hu; obtain ⟨x, _, rfl⟩ := hu; rfl) (by unfold maxLen; omega) (by omega) B4.out.size ?_; intro v5 w5 ho5 hgr5 hx; clear hx)
  have B5 := Lib.hid (show Below w.heap.size w w5 from B4.out.grown hgr5 B4.out.size (fun k hk => (O4.out.lt k hk).1))
  have O5 := Lib.hid (show w5.ownsRow w.heap.size 5 1 v5 (l ++ m).length (bV (l ++ m)) by rw [bV_append, List.length_append]; exact ho5)
  clear ho5 hgr5
  rw [rounds_succ]
  go_wp2_with fail
  go_ret
  exact ⟨_, rfl, O5.out, ext_of B5.out⟩
end Go.Proofs.YtnogfelfgclajaaGreatDoor
end

section
namespace Go.Proofs.YtnogfelfgclajaaGreatDoor
open Go.RowKit
attribute [local go_sem] ext_ext drew_ext ext_drew ext_cell ext_frozen in_lt in_le in_ne in_en in_ne1 in_en1 in_le1 in_ltn in_len in_nen in_enn size_le ite_max ite_min
set_option linter.unusedVariables false
set_option linter.unusedSimpArgs false

/-- Bytes, and their word behind them. -/
def crcP (l : List Nat) : List Nat := l ++ crcT (crcOf l)
theorem crcP_len (l : List Nat) : (crcP l).length = l.length + 2 := by simp [crcP, crcT]
theorem crcP_zero (l : List Nat) : crcOf (crcP l) = 0 := by
  have h := crc_own (crcOf_u16 l)
  have e : crcP l = (l ++ [(crcOf l / 256).toNat]) ++ [(crcOf l % 256).toNat] := by simp [crcP, crcT]
  unfold crcOf
  rw [e, crcW_snoc, crcW_snoc]
  exact h
theorem crcT_bytes {c : Int} (h : U16 c) : Bytes (crcT c) := by
  obtain ⟨h1, h2⟩ := h
  intro n hn
  simp only [crcT, List.mem_cons, List.mem_nil_iff, or_false] at hn
  rcases hn with rfl | rfl <;> omega
theorem crcP_bytes {l : List Nat} (h : Bytes l) : Bytes (crcP l) := by
  intro n hn
  rcases List.mem_append.1 hn with hn | hn
  · exact h n hn
  · exact crcT_bytes (crcOf_u16 l) n hn

set_option maxRecDepth 100000 in
set_option maxHeartbeats 1000000 in
theorem crcput_any (l : List Nat) (g o cap : Nat) (w : World) (hl : l.length ≤ 100000) (h0 : 0 < l.length) (hb : Bytes l) (hc : BytesAt w g o l) :
    Calls Tryz.prog 237 #[.slice (some ⟨g, o, none⟩) l.length cap] w (MadeRow 5 1 (crcP l).length (bV (crcP l)) w) := by
  have OF := crcof_any l g o cap w (by omega) h0 hb hc
  have HC := Lib.hid hc
  have HU := Lib.hid (crcOf_u16 l)
  have HE := Lib.hid (show bV (crcT (crcOf l)) = [.int .u8 (crcOf l / 256), .int .u8 (crcOf l % 256)] by
    obtain ⟨h1, h2⟩ := crcOf_u16 l
    simp only [crcT, bV, List.map_cons, List.map_nil]
    rw [show (((crcOf l / 256).toNat : Nat) : Int) = crcOf l / 256 by omega, show (((crcOf l % 256).toNat : Nat) : Int) = crcOf l % 256 by omega])
  clear hc hb
  go_enter Tryz.func237, Tryz.ntmps237
  go_wp2_with fail
  refine (OF).mono ?_
  rintro e w1 ⟨rfl, _t, hw⟩
  have hc1 := named_cell hw
  have hz1 := named_frozen hw
  have hh1 := named_heap hw
  haveI hi1 := named_in hw
  haveI hb1 := named_below (w := w) hw
  clear hw
  go_wp2_with fail
  refine (crcbytes_any _ HU.out _).mono ?_
  rintro e w2 ⟨rfl, _t, hw⟩
  haveI hb2_1 := named_below (w := w1) hw
  have hc2 := named_cell hw
  have hz2 := named_frozen hw
  have hh2 := named_heap hw
  haveI hi2 := named_in hw
  haveI hb2 := named_below (w := w) hw
  clear hw
  go_wp2_with fail
  have B2 := Lib.hid (grown_now (w := w) (W := w2))
  have CT : ∀ W, W = (w2.alloc (.cells #[.int .u8 (crcOf l / 256), .int .u8 (crcOf l % 256)] 347)).alloc (.cells #[.slice (some ⟨g, o, none⟩) l.length cap, .slice (some ⟨w2.heap.size, 0, none⟩) 2 2] 87) →
      Calls Tryz.prog 238 #[.slice (some ⟨w2.heap.size + 1, 0, none⟩) 2 2] W (MadeRow 5 1 (crcP l).length (bV (crcP l)) W) := by
    rintro W rfl
    refine concat2_any l (crcT (crcOf l)) (w2.heap.size + 1) 2 g o cap w2.heap.size 0 2 _ h0 (by simp [crcT]) (by simp [crcT]; omega) ?_ ?_ (HC.out.grown (by exact grown_of)) ?_
    · exact (World.cell?_alloc_at _ _ _ _ (by simp)).trans rfl
    · exact (World.cell?_alloc_at _ _ _ _ (by simp)).trans rfl
    · intro j u hu
      rw [HE.out] at hu
      rw [World.cell?_alloc_past _ _ _ (by simp), World.cell?_alloc_new]
      rw [Nat.zero_add]
      simpa using hu
  have CT1 := CT _ rfl
  clear CT
  refine (CT1).mono ?_
  rintro e w3 ⟨v3, rfl, ho3, _t, hw⟩
  haveI hb3_1 := named_below (w := w1) hw
  haveI hb3_2 := named_below (w := w2) hw
  have hc3 := named_cell hw
  have hz3 := named_frozen hw
  have hh3 := named_heap hw
  haveI hi3 := named_in hw
  haveI hb3 := named_below (w := w) hw
  clear hw
  have O3 := Lib.hid ho3
  clear ho3
  go_wp2_with fail
  go_ret
  exact ⟨_, rfl, owns_base O3.out (by have := B2.out.size; simp; omega), grown_of⟩

set_option maxRecDepth 100000 in
set_option maxHeartbeats 1000000 in
theorem crcgood_any (l : List Nat) (g o cap : Nat) (w : World) (hl : l.length ≤ 100000) (hb : Bytes l) (hc : BytesAt w g o (crcP l)) :
    Calls Tryz.prog 304 #[.slice (some ⟨g, o, none⟩) (crcP l).length cap] w fun e w' => e = .returned (.bool true) ∧ ∃ f, w' = ext w f := by
  have OF := crcof_any (crcP l) g o cap w (by rw [crcP_len]; omega) (by rw [crcP_len]; omega) (crcP_bytes hb) hc
  rw [crcP_zero] at OF
  have h2 : (2 : Int) ≤ ((crcP l).length : Int) := by rw [crcP_len]; omega
  have h3 : ((crcP l).length : Int) ≤ 200000 := by rw [crcP_len]; omega
  clear hb hc
  go_enter Tryz.func304, Tryz.ntmps304
  go_wp2_with fail
  refine (OF).mono ?_
  rintro e w1 ⟨rfl, _t, hw⟩
  have hc1 := named_cell hw
  have hz1 := named_frozen hw
  have hh1 := named_heap hw
  haveI hi1 := named_in hw
  haveI hb1 := named_below (w := w) hw
  clear hw
  go_wp2_with fail
  go_ret
  exact ⟨rfl, grown_of⟩

set_option maxRecDepth 100000 in
set_option maxHeartbeats 1000000 in
theorem crctake_any (l : List Nat) (g o cap : Nat) (w : World) (h0 : 0 < l.length) (hl : l.length ≤ 100000) (hcap : (crcP l).length ≤ cap) (hb : Bytes l) (hc : BytesAt w g o (crcP l)) :
    Calls Tryz.prog 229 #[.slice (some ⟨g, o, none⟩) (crcP l).length cap] w (MadeBytes l w) := by
  have GD := crcgood_any l g o cap w hl hb hc
  have CL := fun W (hW : ∃ f, W = ext w f) => clonebytes_any l g o cap W h0 (by omega) (show BytesAt W g o l from fun j u hu => (hc.grown hW) j u (by
    unfold crcP
    rw [bV_append, List.getElem?_append_left (List.getElem?_eq_some_iff.1 hu).1]
    exact hu))
  have hlen := crcP_len l
  generalize crcP l = p at *
  obtain ⟨n, hn⟩ : ∃ n, n = l.length := ⟨_, rfl⟩
  obtain ⟨m, hm⟩ : ∃ m, m = p.length := ⟨_, rfl⟩
  rw [← hm] at GD hlen hcap ⊢
  rw [← hn] at CL hlen h0 hl
  obtain rfl := hlen
  have HN := Lib.hid hn
  have h3 : (n : Int) ≤ 100000 := by omega
  have h4 : ((n + 2 : Nat) : Int) - 2 = (n : Int) := by omega
  clear hb hc hm hn
  go_enter Tryz.func229, Tryz.ntmps229
  go_wp2_with fail
  refine (GD).mono ?_
  rintro e w1 ⟨rfl, _t, hw⟩
  have hc1 := named_cell hw
  have hz1 := named_frozen hw
  have hh1 := named_heap hw
  haveI hi1 := named_in hw
  haveI hb1 := named_below (w := w) hw
  clear hw
  go_wp2_with fail
  have B1 := Lib.hid (grown_now (w := w) (W := w1))
  refine (CL w1 (ext_of B1.out)).mono ?_
  rintro e w2 ⟨v2, rfl, ho2, _t, hw⟩
  haveI hb2_1 := named_below (w := w1) hw
  have hc2 := named_cell hw
  have hz2 := named_frozen hw
  have hh2 := named_heap hw
  haveI hi2 := named_in hw
  haveI hb2 := named_below (w := w) hw
  clear hw
  have O2 := Lib.hid ho2
  clear ho2
  go_wp2_with fail
  go_ret2
  refine ⟨_, rfl, ?_, grown_of⟩
  rw [← HN.out]
  exact owns_base O2.out B1.out.size
theorem crctake_nil (w : World) : Calls Tryz.prog 229 #[.slice none 0 0] w fun e w' => e = .returned (.tuple #[.slice none 0 0, .int .i64 3]) ∧ w = w' := by
  go_enter Tryz.func229, Tryz.ntmps229
  go_wp2_with fail
  go_ret2
  exact ⟨rfl, rfl⟩
end Go.Proofs.YtnogfelfgclajaaGreatDoor
end
