/-
  DERIVED: THE SHELF's CONTRACTS AT THIS DUMP, IN PLAIN WORDS (tools/lay-plain.mjs out of 'TryzShelf.lean', which tools/lay-shelf.mjs wrote): THE SAME DECLARATIONS UNDER THE SAME NAMES: 'import', 'namespace', 'open', 'def', 'theorem' AND NOTHING ELSE: no command of the shelf's: FOR A HAND-IN. Each laying: the table of numbers ('.._ren') and one theorem, a field a fact of the dump's own or the kernel's comparison; each contract: ONE APPLICATION.
-/
import Derived.Shelf.Strings.Builder1
import Derived.Shelf.Strings.Builder2
import Derived.Shelf.Strings.OnBuilder
import Derived.Shelf.Small.Wraps
import Derived.Shelf.Strings.BuilderF
import Derived.Shelf.Strings.BuilderK
import Derived.Shelf.Strings.Builder2Cap
import Derived.Shelf.Strconv.Itoa0
import Derived.Shelf.Strconv.Itoa1
import Derived.Shelf.LaysM
import Derived.Shelf.Strconv.Itoa2
import Derived.Shelf.Strconv.Itoa3
import Derived.Shelf.Strings.Search1
import Derived.Shelf.Strings.Search2
import Derived.Shelf.Strings.Search3
import Derived.Shelf.Strings.Count
import Derived.Shelf.Strings.Shaped
import Derived.Shelf.Strings.Prefix
import Derived.Shelf.Strings.Split
import Derived.Shelf.Strings.SplitShaped
import Derived.Shelf.Bits.Mul64
import Derived.Shelf.Unicode.DecodeSlow
import Derived.Shelf.Unicode.DecodeAny
import Derived.Shelf.Strings.FieldsFuncAny
import Derived.Shelf.Strings.FieldsFuncGrows
import Derived.Shelf.Strings.BuilderCap
import Derived.Test.YtnogfelfgclajaaGreatDoorProg
section
namespace Go.Proofs
open Go.Shelf
def Tryz.lays169_ren : Go.Shelf.Ren := ⟨fun | 169 => 74 | n => n, fun | 70 => 114 | 9 => 9 | 0 => 0 | 72 => 116 | 37 => 87 | 127 => 181 | 3 => 3 | 5 => 5 | n => n, fun | n => n⟩
theorem Tryz.lays169 : Go.Proofs.Lays.n169 Tryz.prog Tryz.lays169_ren := {
  mixed := by kernel_rfl
  f169 := Tryz.func74.trans (congrArg some (by kernel_rfl))
  t0 := Tryz.underlying0
  a0 := Tryz.isAgg0
  z0 := Tryz.sizeOf0
  v0 := Tryz.zeroValue0
  t3 := Tryz.underlying3
  a3 := Tryz.isAgg3
  z3 := Tryz.sizeOf3
  v3 := Tryz.zeroValue3
  t9 := Tryz.underlying9
  a9 := Tryz.isAgg9
  z9 := Tryz.sizeOf9
  v9 := Tryz.zeroValue9
  t37 := Tryz.underlying87
  a37 := Tryz.isAgg87
  z37 := Tryz.sizeOf87
  v37 := Tryz.zeroValue87
  t70 := Tryz.underlying114
  a70 := Tryz.isAgg114
  z70 := Tryz.sizeOf114
  v70 := Tryz.zeroValue114
  t72 := Tryz.underlying116
  a72 := Tryz.isAgg116
  z72 := Tryz.sizeOf116
  v72 := Tryz.zeroValue116
  t127 := Tryz.underlying181
  a127 := Tryz.isAgg181
  z127 := Tryz.sizeOf181
  v127 := Tryz.zeroValue181 }
theorem Tryz.Builder_Extra_169 : Builder.Extra Tryz.prog Tryz.lays169_ren := {
  sizeBuilder := by kernel_rfl
  liesBuilder := by kernel_rfl
  t5 := Tryz.underlying5
  a5 := Tryz.isAgg5
  z5 := Tryz.sizeOf5
  v5 := Tryz.zeroValue5
  infoByte := by kernel_rfl
  cellsByte := by kernel_rfl
  sizeByte := by kernel_rfl
  neB5 := by decide }
open Go.RowKit in
/-- (*strings.Builder).String: "String returns the accumulated string.": OF A BUILDER THAT HOLDS AT LEAST ONE BYTE. ✋ THE MODEL FREEZES THOSE BYTES IN THE BUFFER (unsafe.String): a later write INTO them ends the model's run without an answer; a later append BEHIND them goes on. The statement's order of evaluation is drawn: one draw. (LAID: no walk: one application.) -/
theorem Tryz.Builder_String (B b : Nat) (l : List UInt8) (w : World) (h : Lib.IsBuilder 116 5 B b (Lib.byteCells l) w) (h0 : l ≠ []) :
    Calls Tryz.prog 74 #[.pointer (some ⟨b, 0, none⟩)] w fun e w' => e = .returned (.string ⟨l.toArray⟩) ∧ Below B w w' := Any.Builder_String Tryz.lays169 Tryz.Builder_Extra_169 B b l w h h0
open Go.RowKit in
/-- (*strings.Builder).String OF A BUILDER THAT HOLDS NO BYTE: the empty string. (Its buffer is nil, or a row of which it has taken nothing yet; where that row has NO capacity the model lays one new block for unsafe.SliceData's 'some address'.) One draw. (LAID: no walk: one application.) -/
theorem Tryz.Builder_String_empty (B b : Nat) (w : World) (h : Lib.IsBuilder 116 5 B b [] w) (hBw : B ≤ w.heap.size) :
    Calls Tryz.prog 74 #[.pointer (some ⟨b, 0, none⟩)] w fun e w' => e = .returned (.string ⟨#[]⟩) ∧ Below B w w' := Any.Builder_String_empty Tryz.lays169 Tryz.Builder_Extra_169 B b w h hBw
open Go.RowKit in
/-- (*strings.Builder).String: "String returns the accumulated string.": WHATEVER THE BUILDER HOLDS. (LAID: no walk: one application.) -/
theorem Tryz.Builder_String_any (B b : Nat) (l : List UInt8) (w : World) (h : Lib.IsBuilder 116 5 B b (Lib.byteCells l) w) (hBw : B ≤ w.heap.size) :
    Calls Tryz.prog 74 #[.pointer (some ⟨b, 0, none⟩)] w fun e w' => e = .returned (.string ⟨l.toArray⟩) ∧ Below B w w' := Any.Builder_String_any Tryz.lays169 Tryz.Builder_Extra_169 B b l w h hBw
def Tryz.lays241_ren : Go.Shelf.Ren := ⟨fun | 241 => 226 | 277 => 302 | n => n, fun | 70 => 114 | 3 => 3 | 0 => 0 | 72 => 116 | 37 => 87 | 5 => 5 | n => n, fun | n => n⟩
theorem Tryz.lays241 : Go.Proofs.Lays.n241 Tryz.prog Tryz.lays241_ren := {
  mixed := by kernel_rfl
  f241 := Tryz.func226.trans (congrArg some (by kernel_rfl))
  f277 := Tryz.func302.trans (congrArg some (by kernel_rfl))
  t0 := Tryz.underlying0
  a0 := Tryz.isAgg0
  z0 := Tryz.sizeOf0
  v0 := Tryz.zeroValue0
  t3 := Tryz.underlying3
  a3 := Tryz.isAgg3
  z3 := Tryz.sizeOf3
  v3 := Tryz.zeroValue3
  t37 := Tryz.underlying87
  a37 := Tryz.isAgg87
  z37 := Tryz.sizeOf87
  v37 := Tryz.zeroValue87
  t70 := Tryz.underlying114
  a70 := Tryz.isAgg114
  z70 := Tryz.sizeOf114
  v70 := Tryz.zeroValue114
  t72 := Tryz.underlying116
  a72 := Tryz.isAgg116
  z72 := Tryz.sizeOf116
  v72 := Tryz.zeroValue116 }
theorem Tryz.Builder_Extra_241 : Builder.Extra Tryz.prog Tryz.lays241_ren := {
  sizeBuilder := by kernel_rfl
  liesBuilder := by kernel_rfl
  t5 := Tryz.underlying5
  a5 := Tryz.isAgg5
  z5 := Tryz.sizeOf5
  v5 := Tryz.zeroValue5
  infoByte := by kernel_rfl
  cellsByte := by kernel_rfl
  sizeByte := by kernel_rfl
  neB5 := by decide }
open Go.RowKit in
/-- (*strings.Builder).grow (no doc but "grow copies the buffer to a new, larger buffer so that there are at least n bytes of capacity beyond len(b.buf)."): AT A BUILDER WITHOUT A BUFFER: a new row of whatever bytes for its buffer, none of them its own yet. Three draws. (LAID: no walk: one application.) -/
theorem Tryz.Builder_grow_fresh (B b n : Nat) (w : World) (hB : B ≤ b) (hbk : w.heap[b]? = some (.cells #[.pointer (some ⟨b, 0, none⟩), .slice none 0 0] 116 (0, 0))) (hBw : B ≤ w.heap.size) (hn : n ≤ 281474976710656) :
    Calls Tryz.prog 226 #[.pointer (some ⟨b, 0, none⟩), .int .i64 n] w fun e w' => e = .returned (.tuple #[]) ∧ (Lib.BuilderAt 116 5 B b (.pointer (some ⟨b, 0, none⟩)) [] w' ∧ Below B w w') := Any.Builder_grow_fresh Tryz.lays241 Tryz.Builder_Extra_241 B b n w hB hbk hBw hn
def Tryz.lays165_ren : Go.Shelf.Ren := ⟨fun | 165 => 177 | 240 => 123 | 241 => 226 | 276 => 172 | 277 => 302 | n => n, fun | 70 => 114 | 3 => 3 | 0 => 0 | 4 => 4 | 9 => 9 | 20 => 20 | 72 => 116 | 37 => 87 | 164 => 232 | 5 => 5 | n => n, fun | n => n⟩
theorem Tryz.lays165 : Go.Proofs.Lays.n165 Tryz.prog Tryz.lays165_ren := {
  mixed := by kernel_rfl
  f165 := Tryz.func177.trans (congrArg some (by kernel_rfl))
  f240 := Tryz.func123.trans (congrArg some (by kernel_rfl))
  f241 := Tryz.func226.trans (congrArg some (by kernel_rfl))
  f276 := Tryz.func172.trans (congrArg some (by kernel_rfl))
  f277 := Tryz.func302.trans (congrArg some (by kernel_rfl))
  t0 := Tryz.underlying0
  a0 := Tryz.isAgg0
  z0 := Tryz.sizeOf0
  v0 := Tryz.zeroValue0
  t3 := Tryz.underlying3
  a3 := Tryz.isAgg3
  z3 := Tryz.sizeOf3
  v3 := Tryz.zeroValue3
  t4 := Tryz.underlying4
  a4 := Tryz.isAgg4
  z4 := Tryz.sizeOf4
  v4 := Tryz.zeroValue4
  t9 := Tryz.underlying9
  a9 := Tryz.isAgg9
  z9 := Tryz.sizeOf9
  v9 := Tryz.zeroValue9
  t20 := Tryz.underlying20
  a20 := Tryz.isAgg20
  z20 := Tryz.sizeOf20
  v20 := Tryz.zeroValue20
  t37 := Tryz.underlying87
  a37 := Tryz.isAgg87
  z37 := Tryz.sizeOf87
  v37 := Tryz.zeroValue87
  t70 := Tryz.underlying114
  a70 := Tryz.isAgg114
  z70 := Tryz.sizeOf114
  v70 := Tryz.zeroValue114
  t72 := Tryz.underlying116
  a72 := Tryz.isAgg116
  z72 := Tryz.sizeOf116
  v72 := Tryz.zeroValue116
  t164 := Tryz.underlying232
  a164 := Tryz.isAgg232
  z164 := Tryz.sizeOf232
  v164 := Tryz.zeroValue232 }
theorem Tryz.Builder_Extra_165 : Builder.Extra Tryz.prog Tryz.lays165_ren := {
  sizeBuilder := by kernel_rfl
  liesBuilder := by kernel_rfl
  t5 := Tryz.underlying5
  a5 := Tryz.isAgg5
  z5 := Tryz.sizeOf5
  v5 := Tryz.zeroValue5
  infoByte := by kernel_rfl
  cellsByte := by kernel_rfl
  sizeByte := by kernel_rfl
  neB5 := by decide }
open Go.RowKit in
/-- (*strings.Builder).Grow AT A BUILDER THAT HAS NOT BEEN WRITTEN ('var b strings.Builder; b.Grow(n)'): "Grow grows b's capacity, if necessary, to guarantee space for another n bytes.": it holds no byte behind it as before it. (LAID: no walk: one application.) -/
theorem Tryz.Builder_Grow_fresh (B b n : Nat) (w : World) (hB : B ≤ b) (hbk : w.heap[b]? = some (.cells #[.pointer none, .slice none 0 0] 116 (0, 0))) (hBw : B ≤ w.heap.size) (hn : n ≤ 281474976710656) :
    Calls Tryz.prog 177 #[.pointer (some ⟨b, 0, none⟩), .int .i64 n] w fun e w' => e = .returned (.tuple #[]) ∧ (Lib.BuilderAt 116 5 B b (.pointer (some ⟨b, 0, none⟩)) [] w' ∧ Below B w w') := Any.Builder_Grow_fresh Tryz.lays165 Tryz.Builder_Extra_165 B b n w hB hbk hBw hn
def Tryz.lays156_ren : Go.Shelf.Ren := ⟨fun | 156 => 134 | 165 => 177 | 166 => 73 | 169 => 74 | 240 => 123 | 241 => 226 | 276 => 172 | 277 => 302 | n => n, fun | 31 => 38 | 9 => 9 | 3 => 3 | 4 => 4 | 0 => 0 | 20 => 20 | 72 => 116 | 76 => 120 | 70 => 114 | 37 => 87 | 75 => 119 | 127 => 181 | 164 => 232 | 5 => 5 | 80 => 85 | n => n, fun | n => n⟩
theorem Tryz.lays156 : Go.Proofs.Lays.n156 Tryz.prog Tryz.lays156_ren := {
  mixed := by kernel_rfl
  f156 := Tryz.func134.trans (congrArg some (by kernel_rfl))
  f165 := Tryz.func177.trans (congrArg some (by kernel_rfl))
  f166 := Tryz.func73.trans (congrArg some (by kernel_rfl))
  f169 := Tryz.func74.trans (congrArg some (by kernel_rfl))
  f240 := Tryz.func123.trans (congrArg some (by kernel_rfl))
  f241 := Tryz.func226.trans (congrArg some (by kernel_rfl))
  f276 := Tryz.func172.trans (congrArg some (by kernel_rfl))
  f277 := Tryz.func302.trans (congrArg some (by kernel_rfl))
  t0 := Tryz.underlying0
  a0 := Tryz.isAgg0
  z0 := Tryz.sizeOf0
  v0 := Tryz.zeroValue0
  t3 := Tryz.underlying3
  a3 := Tryz.isAgg3
  z3 := Tryz.sizeOf3
  v3 := Tryz.zeroValue3
  t4 := Tryz.underlying4
  a4 := Tryz.isAgg4
  z4 := Tryz.sizeOf4
  v4 := Tryz.zeroValue4
  t9 := Tryz.underlying9
  a9 := Tryz.isAgg9
  z9 := Tryz.sizeOf9
  v9 := Tryz.zeroValue9
  t20 := Tryz.underlying20
  a20 := Tryz.isAgg20
  z20 := Tryz.sizeOf20
  v20 := Tryz.zeroValue20
  t31 := Tryz.underlying38
  a31 := Tryz.isAgg38
  z31 := Tryz.sizeOf38
  v31 := Tryz.zeroValue38
  t37 := Tryz.underlying87
  a37 := Tryz.isAgg87
  z37 := Tryz.sizeOf87
  v37 := Tryz.zeroValue87
  t70 := Tryz.underlying114
  a70 := Tryz.isAgg114
  z70 := Tryz.sizeOf114
  v70 := Tryz.zeroValue114
  t72 := Tryz.underlying116
  a72 := Tryz.isAgg116
  z72 := Tryz.sizeOf116
  v72 := Tryz.zeroValue116
  t75 := Tryz.underlying119
  a75 := Tryz.isAgg119
  z75 := Tryz.sizeOf119
  v75 := Tryz.zeroValue119
  t76 := Tryz.underlying120
  a76 := Tryz.isAgg120
  z76 := Tryz.sizeOf120
  v76 := Tryz.zeroValue120
  t127 := Tryz.underlying181
  a127 := Tryz.isAgg181
  z127 := Tryz.sizeOf181
  v127 := Tryz.zeroValue181
  t164 := Tryz.underlying232
  a164 := Tryz.isAgg232
  z164 := Tryz.sizeOf232
  v164 := Tryz.zeroValue232 }
theorem Tryz.Builder_Extra_156 : Builder.Extra Tryz.prog Tryz.lays156_ren := {
  sizeBuilder := by kernel_rfl
  liesBuilder := by kernel_rfl
  t5 := Tryz.underlying5
  a5 := Tryz.isAgg5
  z5 := Tryz.sizeOf5
  v5 := Tryz.zeroValue5
  infoByte := by kernel_rfl
  cellsByte := by kernel_rfl
  sizeByte := by kernel_rfl
  neB5 := by decide }
open Go.RowKit in
/-- No element: the empty string; the world is as it was. (Whatever the slice's address and capacity: a nil slice too.) (LAID: no walk: one application.) -/
theorem Tryz.strings_Join_none (a : Option Addr) (c : Nat) (sep : ByteArray) (w : World) :
    Calls Tryz.prog 134 #[.slice a 0 c, .string sep] w fun e w' => e = .returned (.string ⟨#[]⟩) ∧ w' = w := Any.strings_Join_none Tryz.lays156 Tryz.Builder_Extra_156 a c sep w
open Go.RowKit in
/-- strings.Join: "Join concatenates the elements of its first argument to create a single string. The separator string sep is placed between elements in the resulting string.": HOWEVER MANY ELEMENTS. Below the heap's end the world is as it was. (LAID: no walk: one application.) -/
theorem Tryz.strings_Join (bk o c : Nat) (xs : List ByteArray) (sep : ByteArray) (w : World) (hcells : ∀ (j : Nat) x, xs[j]? = some x → w.cell? ⟨bk, o + j, none⟩ = some (.string x)) (hbk : bk < w.heap.size) (hN : xs.length ≤ 140737488355328) (hcap : xs.length ≤ c) (hlen : (Lib.join (xs.map (·.data.toList)) sep.data.toList).length ≤ 140737488355328) :
    Calls Tryz.prog 134 #[.slice (some ⟨bk, o, none⟩) xs.length c, .string sep] w fun e w' => e = .returned (.string ⟨(Lib.join (xs.map (·.data.toList)) sep.data.toList).toArray⟩) ∧ Below w.heap.size w w' := Any.strings_Join Tryz.lays156 Tryz.Builder_Extra_156 bk o c xs sep w hcells hbk hN hcap hlen
def Tryz.lays210_ren : Go.Shelf.Ren := ⟨fun | 210 => 224 | 206 => 297 | n => n, fun | 9 => 9 | 4 => 4 | 3 => 3 | n => n, fun | n => n⟩
theorem Tryz.lays210 : Go.Proofs.Lays.n210 Tryz.prog Tryz.lays210_ren := {
  mixed := by kernel_rfl
  f206 := Tryz.func297.trans (congrArg some (by kernel_rfl))
  f210 := Tryz.func224.trans (congrArg some (by kernel_rfl))
  t3 := Tryz.underlying3
  a3 := Tryz.isAgg3
  z3 := Tryz.sizeOf3
  v3 := Tryz.zeroValue3
  t4 := Tryz.underlying4
  a4 := Tryz.isAgg4
  z4 := Tryz.sizeOf4
  v4 := Tryz.zeroValue4
  t9 := Tryz.underlying9
  a9 := Tryz.isAgg9
  z9 := Tryz.sizeOf9
  v9 := Tryz.zeroValue9 }
open Go.RowKit in
/-- internal/stringslite.CutPrefix (what strings.CutPrefix calls). (LAID: no walk: one application.) -/
theorem Tryz.stringslite_CutPrefix (s p : ByteArray) (w : World) :
    Calls Tryz.prog 224 #[.string s, .string p] w fun e w' => e = .returned (.tuple #[.string ⟨(Lib.trimPrefix s.data.toList p.data.toList).toArray⟩, .bool (Lib.hasPrefix s.data.toList p.data.toList)]) ∧ w' = w := Any.stringslite_CutPrefix Tryz.lays210 s p w
def Tryz.lays103_ren : Go.Shelf.Ren := ⟨fun | 103 => 175 | 210 => 224 | 206 => 297 | n => n, fun | 9 => 9 | 4 => 4 | 24 => 237 | 3 => 3 | n => n, fun | n => n⟩
theorem Tryz.lays103 : Go.Proofs.Lays.n103 Tryz.prog Tryz.lays103_ren := {
  mixed := by kernel_rfl
  f103 := Tryz.func175.trans (congrArg some (by kernel_rfl))
  f206 := Tryz.func297.trans (congrArg some (by kernel_rfl))
  f210 := Tryz.func224.trans (congrArg some (by kernel_rfl))
  t3 := Tryz.underlying3
  a3 := Tryz.isAgg3
  z3 := Tryz.sizeOf3
  v3 := Tryz.zeroValue3
  t4 := Tryz.underlying4
  a4 := Tryz.isAgg4
  z4 := Tryz.sizeOf4
  v4 := Tryz.zeroValue4
  t9 := Tryz.underlying9
  a9 := Tryz.isAgg9
  z9 := Tryz.sizeOf9
  v9 := Tryz.zeroValue9
  t24 := Tryz.underlying237
  a24 := Tryz.isAgg237
  z24 := Tryz.sizeOf237
  v24 := Tryz.zeroValue237 }
open Go.RowKit in
/-- strings.CutPrefix: "CutPrefix returns s without the provided leading prefix string and reports whether it found the prefix. If s doesn't start with prefix, CutPrefix returns s, false. If prefix is the empty string, CutPrefix returns s, true.": IT RETURNS '(Lib.trimPrefix s p, Lib.hasPrefix s p)'; the world is as it was. (LAID: no walk: one application.) -/
theorem Tryz.strings_CutPrefix (s p : ByteArray) (w : World) :
    Calls Tryz.prog 175 #[.string s, .string p] w fun e w' => e = .returned (.tuple #[.string ⟨(Lib.trimPrefix s.data.toList p.data.toList).toArray⟩, .bool (Lib.hasPrefix s.data.toList p.data.toList)]) ∧ w' = w := Any.strings_CutPrefix Tryz.lays103 s p w
def Tryz.lays215_ren : Go.Shelf.Ren := ⟨fun | 215 => 365 | n => n, fun | 3 => 3 | 4 => 4 | n => n, fun | n => n⟩
theorem Tryz.lays215 : Go.Proofs.Lays.n215 Tryz.prog Tryz.lays215_ren := {
  mixed := by kernel_rfl
  f215 := Tryz.func365.trans (congrArg some (by kernel_rfl))
  t3 := Tryz.underlying3
  a3 := Tryz.isAgg3
  z3 := Tryz.sizeOf3
  v3 := Tryz.zeroValue3
  t4 := Tryz.underlying4
  a4 := Tryz.isAgg4
  z4 := Tryz.sizeOf4
  v4 := Tryz.zeroValue4 }
open Go.RowKit in
/-- cmp.isNaN at int: 'x != x': false. (LAID: no walk: one application.) -/
theorem Tryz.cmp_isNaN_int (x : Int) (w : World) :
    Calls Tryz.prog 365 #[.int .i64 x] w fun e w' => e = .returned (.bool false) ∧ w' = w := Any.cmp_isNaN_int Tryz.lays215 x w
def Tryz.lays122_ren : Go.Shelf.Ren := ⟨fun | 122 => 350 | 215 => 365 | n => n, fun | 3 => 3 | 4 => 4 | n => n, fun | n => n⟩
theorem Tryz.lays122 : Go.Proofs.Lays.n122 Tryz.prog Tryz.lays122_ren := {
  mixed := by kernel_rfl
  f122 := Tryz.func350.trans (congrArg some (by kernel_rfl))
  f215 := Tryz.func365.trans (congrArg some (by kernel_rfl))
  t3 := Tryz.underlying3
  a3 := Tryz.isAgg3
  z3 := Tryz.sizeOf3
  v3 := Tryz.zeroValue3
  t4 := Tryz.underlying4
  a4 := Tryz.isAgg4
  z4 := Tryz.sizeOf4
  v4 := Tryz.zeroValue4 }
open Go.RowKit in
/-- cmp.Compare at int: "Compare returns -1 if x is less than y, 0 if x equals y, +1 if x is greater than y.": IT RETURNS 'Lib.compareInt x y'; the world is as it was. (LAID: no walk: one application.) -/
theorem Tryz.cmp_Compare_int (x y : Int) (w : World) :
    Calls Tryz.prog 350 #[.int .i64 x, .int .i64 y] w fun e w' => e = .returned (.int .i64 (Lib.compareInt x y)) ∧ w' = w := Any.cmp_Compare_int Tryz.lays122 x y w
open Go.RowKit in
/-- (*strings.Builder).String: "String returns the accumulated string.": OF A BUILDER THAT HOLDS AT LEAST ONE BYTE. ✋ THE MODEL FREEZES THOSE BYTES IN THE BUFFER (unsafe.String): a later write INTO them ends the model's run without an answer; a later append BEHIND them goes on. The statement's order of evaluation is drawn: one draw. THE FORM '_f': IT SAYS BESIDES THAT THE BUILDER IS A BUILDER STILL ('Lib.IsBuilderF', the same bytes): SO IT CAN BE WRITTEN ON: 'b.WriteString(b.String()[:k])'. (LAID: no walk: one application.) -/
theorem Tryz.Builder_String_f (B b : Nat) (l : List UInt8) (w : World) (h : Lib.IsBuilderF 116 5 B b (Lib.byteCells l) w) (h0 : l ≠ []) :
    Calls Tryz.prog 74 #[.pointer (some ⟨b, 0, none⟩)] w fun e w' => e = .returned (.string ⟨l.toArray⟩) ∧ (Lib.IsBuilderF 116 5 B b (Lib.byteCells l) w' ∧ Below B w w') := Any.Builder_String_f Tryz.lays169 Tryz.Builder_Extra_169 B b l w h h0
open Go.RowKit in
/-- (*strings.Builder).String OF A BUILDER THAT HOLDS NO BYTE: the empty string; THE FORM '_f': a builder still. (LAID: no walk: one application.) -/
theorem Tryz.Builder_String_empty_f (B b : Nat) (w : World) (h : Lib.IsBuilderF 116 5 B b [] w) (hBw : B ≤ w.heap.size) :
    Calls Tryz.prog 74 #[.pointer (some ⟨b, 0, none⟩)] w fun e w' => e = .returned (.string ⟨#[]⟩) ∧ (Lib.IsBuilderF 116 5 B b [] w' ∧ Below B w w') := Any.Builder_String_empty_f Tryz.lays169 Tryz.Builder_Extra_169 B b w h hBw
open Go.RowKit in
/-- (*strings.Builder).String: "String returns the accumulated string.": WHATEVER THE BUILDER HOLDS; THE FORM '_f': OF A BUILDER THAT MAY HAVE BEEN READ BEFORE; AND IT IS A BUILDER STILL, holding the same bytes: it can be written on. (LAID: no walk: one application.) -/
theorem Tryz.Builder_String_any_f (B b : Nat) (l : List UInt8) (w : World) (h : Lib.IsBuilderF 116 5 B b (Lib.byteCells l) w) (hBw : B ≤ w.heap.size) :
    Calls Tryz.prog 74 #[.pointer (some ⟨b, 0, none⟩)] w fun e w' => e = .returned (.string ⟨l.toArray⟩) ∧ (Lib.IsBuilderF 116 5 B b (Lib.byteCells l) w' ∧ Below B w w') := Any.Builder_String_any_f Tryz.lays169 Tryz.Builder_Extra_169 B b l w h hBw
open Go.RowKit in
/-- (*strings.Builder).String: "String returns the accumulated string.": OF A BUILDER THAT HOLDS AT LEAST ONE BYTE. ✋ THE MODEL FREEZES THOSE BYTES IN THE BUFFER (unsafe.String): a later write INTO them ends the model's run without an answer; a later append BEHIND them goes on. The statement's order of evaluation is drawn: one draw. THE FORM '_k': OVER 'Lib.IsBuilderF' (a builder that 'String()' may have read), AND WITH THE FRAME THAT REACHES ABOVE THE BUILDER: 'Lib.OthersKept': every block that is not b and is no row of uint8's stands as it stood: the iterator of a range among them. (LAID: no walk: one application.) -/
theorem Tryz.Builder_String_k (B b : Nat) (l : List UInt8) (w : World) (h : Lib.IsBuilderF 116 5 B b (Lib.byteCells l) w) (h0 : l ≠ []) :
    Calls Tryz.prog 74 #[.pointer (some ⟨b, 0, none⟩)] w fun e w' => e = .returned (.string ⟨l.toArray⟩) ∧ (Lib.IsBuilderF 116 5 B b (Lib.byteCells l) w' ∧ Below B w w' ∧ Lib.OthersKept 5 (some b) w w') := Any.Builder_String_k Tryz.lays169 Tryz.Builder_Extra_169 B b l w h h0
open Go.RowKit in
/-- (*strings.Builder).String OF A BUILDER THAT HOLDS NO BYTE: the empty string; THE FORM '_k': OVER 'Lib.IsBuilderF' (a builder that 'String()' may have read), AND WITH THE FRAME THAT REACHES ABOVE THE BUILDER: 'Lib.OthersKept': every block that is not b and is no row of uint8's stands as it stood: the iterator of a range among them. (LAID: no walk: one application.) -/
theorem Tryz.Builder_String_empty_k (B b : Nat) (w : World) (h : Lib.IsBuilderF 116 5 B b [] w) (hBw : B ≤ w.heap.size) :
    Calls Tryz.prog 74 #[.pointer (some ⟨b, 0, none⟩)] w fun e w' => e = .returned (.string ⟨#[]⟩) ∧ (Lib.IsBuilderF 116 5 B b [] w' ∧ Below B w w' ∧ Lib.OthersKept 5 (some b) w w') := Any.Builder_String_empty_k Tryz.lays169 Tryz.Builder_Extra_169 B b w h hBw
open Go.RowKit in
/-- (*strings.Builder).String: "String returns the accumulated string.": WHATEVER THE BUILDER HOLDS; THE FORM '_k': OVER 'Lib.IsBuilderF' (a builder that 'String()' may have read), AND WITH THE FRAME THAT REACHES ABOVE THE BUILDER: 'Lib.OthersKept': every block that is not b and is no row of uint8's stands as it stood: the iterator of a range among them. (LAID: no walk: one application.) -/
theorem Tryz.Builder_String_any_k (B b : Nat) (l : List UInt8) (w : World) (h : Lib.IsBuilderF 116 5 B b (Lib.byteCells l) w) (hBw : B ≤ w.heap.size) :
    Calls Tryz.prog 74 #[.pointer (some ⟨b, 0, none⟩)] w fun e w' => e = .returned (.string ⟨l.toArray⟩) ∧ (Lib.IsBuilderF 116 5 B b (Lib.byteCells l) w' ∧ Below B w w' ∧ Lib.OthersKept 5 (some b) w w') := Any.Builder_String_any_k Tryz.lays169 Tryz.Builder_Extra_169 B b l w h hBw
open Go.RowKit in
/-- (*strings.Builder).grow (no doc but "grow copies the buffer to a new, larger buffer so that there are at least n bytes of capacity beyond len(b.buf)."): AT A BUILDER WITHOUT A BUFFER: a new row of whatever bytes for its buffer, none of them its own yet. Three draws. (LAID: no walk: one application.) -/
theorem Tryz.Builder_grow_fresh_cap (B b n : Nat) (w : World) (hB : B ≤ b) (hbk : w.heap[b]? = some (.cells #[.pointer (some ⟨b, 0, none⟩), .slice none 0 0] 116 (0, 0))) (hBw : B ≤ w.heap.size) (hn : n ≤ 281474976710656) :
    Calls Tryz.prog 226 #[.pointer (some ⟨b, 0, none⟩), .int .i64 n] w fun e w' => e = .returned (.tuple #[]) ∧ (Lib.BuilderAt 116 5 B b (.pointer (some ⟨b, 0, none⟩)) [] w' ∧ Below B w w') ∧ ∃ p cap, w'.cell? ⟨b, 1, none⟩ = some (.slice p 0 cap) ∧ n ≤ cap := Any.Builder_grow_fresh_cap Tryz.lays241 Tryz.Builder_Extra_241 B b n w hB hbk hBw hn
open Go.RowKit in
/-- (*strings.Builder).Grow AT A BUILDER THAT HAS NOT BEEN WRITTEN ('var b strings.Builder; b.Grow(n)'): "Grow grows b's capacity, if necessary, to guarantee space for another n bytes.": it holds no byte behind it as before it. (LAID: no walk: one application.) -/
theorem Tryz.Builder_Grow_fresh_cap (B b n : Nat) (w : World) (hB : B ≤ b) (hbk : w.heap[b]? = some (.cells #[.pointer none, .slice none 0 0] 116 (0, 0))) (hBw : B ≤ w.heap.size) (hn : n ≤ 281474976710656) :
    Calls Tryz.prog 177 #[.pointer (some ⟨b, 0, none⟩), .int .i64 n] w fun e w' => e = .returned (.tuple #[]) ∧ (Lib.BuilderAt 116 5 B b (.pointer (some ⟨b, 0, none⟩)) [] w' ∧ Below B w w') ∧ ∃ p cap, w'.cell? ⟨b, 1, none⟩ = some (.slice p 0 cap) ∧ n ≤ cap := Any.Builder_Grow_fresh_cap Tryz.lays165 Tryz.Builder_Extra_165 B b n w hB hbk hBw hn
def Tryz.lays129_ren : Go.Shelf.Ren := ⟨fun | 129 => 338 | n => n, fun | 53 => 178 | 3 => 3 | 4 => 4 | 46 => 262 | 5 => 5 | 9 => 9 | n => n, fun | n => n⟩
theorem Tryz.lays129 : Go.Proofs.Lays.n129 Tryz.prog Tryz.lays129_ren := {
  mixed := by kernel_rfl
  f129 := Tryz.func338.trans (congrArg some (by kernel_rfl))
  t3 := Tryz.underlying3
  a3 := Tryz.isAgg3
  z3 := Tryz.sizeOf3
  v3 := Tryz.zeroValue3
  t4 := Tryz.underlying4
  a4 := Tryz.isAgg4
  z4 := Tryz.sizeOf4
  v4 := Tryz.zeroValue4
  t5 := Tryz.underlying5
  a5 := Tryz.isAgg5
  z5 := Tryz.sizeOf5
  v5 := Tryz.zeroValue5
  t9 := Tryz.underlying9
  a9 := Tryz.isAgg9
  z9 := Tryz.sizeOf9
  v9 := Tryz.zeroValue9
  t46 := Tryz.underlying262
  a46 := Tryz.isAgg262
  z46 := Tryz.sizeOf262
  v46 := Tryz.zeroValue262
  t53 := Tryz.underlying178
  a53 := Tryz.isAgg178
  z53 := Tryz.sizeOf178
  v53 := Tryz.zeroValue178 }
/-- bits.Len64: "Len64 returns the minimum number of bits required to represent x; the result is 0 for x == 0.": IT RETURNS 'Lib.bitLen x'; the world is as it was. ('h0', 'h1': x is a uint64.) (LAID: no walk: one application.) -/
theorem Tryz.bits_Len64 (x : Int) (w : World) (h0 : 0 ≤ x) (h1 : x ≤ 18446744073709551615) :
    Calls Tryz.prog 338 #[.int .u64 x] w fun e w' => e = .returned (.int .i64 (Lib.bitLen x.toNat)) ∧ w' = w := Any.bits_Len64 Tryz.lays129 x w h0 h1
def Tryz.lays317_ren : Go.Shelf.Ren := ⟨fun | 317 => 337 | n => n, fun | 3 => 3 | 46 => 262 | n => n, fun | n => n⟩
theorem Tryz.lays317 : Go.Proofs.Lays.n317 Tryz.prog Tryz.lays317_ren := {
  mixed := by kernel_rfl
  f317 := Tryz.func337.trans (congrArg some (by kernel_rfl))
  t3 := Tryz.underlying3
  a3 := Tryz.isAgg3
  z3 := Tryz.sizeOf3
  v3 := Tryz.zeroValue3
  t46 := Tryz.underlying262
  a46 := Tryz.isAgg262
  z46 := Tryz.sizeOf262
  v46 := Tryz.zeroValue262 }
open Go.Lib in
/-- internal/strconv.log10Pow2: "log10Pow2(x) returns ⌊log₁₀ 2**x⌋ = ⌊x * log₁₀ 2⌋.": '(x * 78913) >> 18', at an x up to 64 (a length in bits). The world is as it was. (LAID: no walk: one application.) -/
theorem Tryz.internal_strconv_log10Pow2 (x : Nat) (h : x ≤ 64) (w : World) :
    Calls Tryz.prog 337 #[.int .i64 x] w fun e w' => e = .returned (.int .i64 (Lib.l10 x)) ∧ w' = w := Any.internal_strconv_log10Pow2 Tryz.lays317 x h w
def Tryz.lays318_ren : Go.Shelf.Ren := ⟨fun | 318 => 339 | n => n, fun | 3 => 3 | 4 => 4 | n => n, fun | n => n⟩
theorem Tryz.lays318 : Go.Proofs.Lays.n318 Tryz.prog Tryz.lays318_ren := {
  mixed := by kernel_rfl
  f318 := Tryz.func339.trans (congrArg some (by kernel_rfl))
  t3 := Tryz.underlying3
  a3 := Tryz.isAgg3
  z3 := Tryz.sizeOf3
  v3 := Tryz.zeroValue3
  t4 := Tryz.underlying4
  a4 := Tryz.isAgg4
  z4 := Tryz.sizeOf4
  v4 := Tryz.zeroValue4 }
open Go.Lib in
/-- internal/strconv.bool2: "bool2 converts b to an integer: 1 for true, 0 for false." The world is as it was. (LAID: no walk: one application.) -/
theorem Tryz.internal_strconv_bool2_int (b : Bool) (w : World) :
    Calls Tryz.prog 339 #[.bool b] w fun e w' => e = .returned (.int .i64 (if b then 1 else 0)) ∧ w' = w := Any.internal_strconv_bool2_int Tryz.lays318 b w
def Tryz.lays283_ren : Go.Shelf.Ren := ⟨fun | 283 => 298 | n => n, fun | 3 => 3 | 9 => 9 | 4 => 4 | n => n, fun | n => n⟩
theorem Tryz.lays283 : Go.Proofs.Lays.n283 Tryz.prog Tryz.lays283_ren := {
  mixed := by kernel_rfl
  f283 := Tryz.func298.trans (congrArg some (by kernel_rfl))
  t3 := Tryz.underlying3
  a3 := Tryz.isAgg3
  z3 := Tryz.sizeOf3
  v3 := Tryz.zeroValue3
  t4 := Tryz.underlying4
  a4 := Tryz.isAgg4
  z4 := Tryz.sizeOf4
  v4 := Tryz.zeroValue4
  t9 := Tryz.underlying9
  a9 := Tryz.isAgg9
  z9 := Tryz.sizeOf9
  v9 := Tryz.zeroValue9 }
open Go.Lib in
/-- internal/strconv.small: "small returns the string for an i with 0 <= i < nSmalls.": i's decimal numeral. The world is as it was. (LAID: no walk: one application.) -/
theorem Tryz.internal_strconv_small (i : Nat) (h : i < 100) (w : World) :
    Calls Tryz.prog 298 #[.int .i64 i] w fun e w' => e = .returned (.string ⟨(Lib.decDigits i).toArray⟩) ∧ w' = w := Any.internal_strconv_small Tryz.lays283 i h w
def Tryz.laysM284_ren : Go.Shelf.Ren := ⟨fun | 284 => 299 | 129 => 338 | 317 => 337 | 318 => 339 | n => n, fun | 53 => 178 | 3 => 3 | 212 => 380 | 0 => 0 | 4 => 4 | 46 => 262 | 5 => 5 | 9 => 9 | n => n, fun | 17 => 3 | n => n⟩
theorem Tryz.laysM284 : Go.Proofs.LaysM.n284 Tryz.prog Tryz.laysM284_ren := {
  mixed := by kernel_rfl
  f129 := Tryz.func338.trans (congrArg some (by kernel_rfl))
  f284 := Tryz.func299.trans (congrArg some (by kernel_rfl))
  f317 := Tryz.func337.trans (congrArg some (by kernel_rfl))
  f318 := Tryz.func339.trans (congrArg some (by kernel_rfl))
  t0 := Tryz.underlying0
  a0 := Tryz.isAgg0
  z0 := Tryz.sizeOf0
  v0 := Tryz.zeroValue0
  t3 := Tryz.underlying3
  a3 := Tryz.isAgg3
  z3 := Tryz.sizeOf3
  v3 := Tryz.zeroValue3
  t4 := Tryz.underlying4
  a4 := Tryz.isAgg4
  z4 := Tryz.sizeOf4
  v4 := Tryz.zeroValue4
  t5 := Tryz.underlying5
  a5 := Tryz.isAgg5
  z5 := Tryz.sizeOf5
  v5 := Tryz.zeroValue5
  t9 := Tryz.underlying9
  a9 := Tryz.isAgg9
  z9 := Tryz.sizeOf9
  v9 := Tryz.zeroValue9
  t46 := Tryz.underlying262
  a46 := Tryz.isAgg262
  z46 := Tryz.sizeOf262
  v46 := Tryz.zeroValue262
  t53 := Tryz.underlying178
  a53 := Tryz.isAgg178
  z53 := Tryz.sizeOf178
  v53 := Tryz.zeroValue178
  t212 := Tryz.underlying380
  a212 := Tryz.isAgg380
  z212 := Tryz.sizeOf380
  v212 := Tryz.zeroValue380
  g17 := by kernel_rfl
  i0 := by kernel_rfl
  i3 := by kernel_rfl
  i4 := by kernel_rfl
  i5 := by kernel_rfl
  i9 := by kernel_rfl
  i46 := by kernel_rfl
  i53 := by kernel_rfl
  i212 := by kernel_rfl
  m17 := by kernel_rfl }
open Go.Lib in
/-- internal/strconv.numDigits, at a d that is not 0: THE NUMBER OF d's DECIMAL DIGITS. The world is as it was. (LAID: no walk: one application.) -/
theorem Tryz.internal_strconv_numDigits (u : Nat) (h1 : 1 ≤ u) (h2 : u < 18446744073709551616) (w : World) (htab : Lib.TabIs Tryz.prog w "internal/strconv.uint64pow10" .u64 Lib.pow10Tab) :
    Calls Tryz.prog 299 #[.int .u64 u] w fun e w' => e = .returned (.int .i64 (Lib.nDigits u)) ∧ w' = w := Any.internal_strconv_numDigits Tryz.laysM284 u h1 h2 w htab
def Tryz.lays285_ren : Go.Shelf.Ren := ⟨fun | 285 => 300 | n => n, fun | 37 => 87 | 53 => 178 | 3 => 3 | 4 => 4 | 51 => 376 | 9 => 9 | 5 => 5 | 0 => 0 | n => n, fun | n => n⟩
theorem Tryz.lays285 : Go.Proofs.Lays.n285 Tryz.prog Tryz.lays285_ren := {
  mixed := by kernel_rfl
  f285 := Tryz.func300.trans (congrArg some (by kernel_rfl))
  t0 := Tryz.underlying0
  a0 := Tryz.isAgg0
  z0 := Tryz.sizeOf0
  v0 := Tryz.zeroValue0
  t3 := Tryz.underlying3
  a3 := Tryz.isAgg3
  z3 := Tryz.sizeOf3
  v3 := Tryz.zeroValue3
  t4 := Tryz.underlying4
  a4 := Tryz.isAgg4
  z4 := Tryz.sizeOf4
  v4 := Tryz.zeroValue4
  t5 := Tryz.underlying5
  a5 := Tryz.isAgg5
  z5 := Tryz.sizeOf5
  v5 := Tryz.zeroValue5
  t9 := Tryz.underlying9
  a9 := Tryz.isAgg9
  z9 := Tryz.sizeOf9
  v9 := Tryz.zeroValue9
  t37 := Tryz.underlying87
  a37 := Tryz.isAgg87
  z37 := Tryz.sizeOf87
  v37 := Tryz.zeroValue87
  t51 := Tryz.underlying376
  a51 := Tryz.isAgg376
  z51 := Tryz.sizeOf376
  v51 := Tryz.zeroValue376
  t53 := Tryz.underlying178
  a53 := Tryz.isAgg178
  z53 := Tryz.sizeOf178
  v53 := Tryz.zeroValue178 }
open Go.RowKit Go.Sort Go.Lib in
/-- internal/strconv.formatBase10: "formatBase10 formats the decimal representation of u into a. The caller is responsible for ensuring that a is big enough to hold u. If a is too big, leading zeros will be filled in as needed.": THE ROW HOLDS u's DIGITS ('FmtInv .. 0 ..': every place t holds 'dg u (len - 1 - t)'); all else is as it was but for the count of draws. (LAID: no walk: one application.) -/
theorem Tryz.internal_strconv_formatBase10 (blk off cap : Nat) (u : Nat) (d : Array UInt8) (w : World) (hH : Holds (fun (b : UInt8) => Value.int .u8 (b.toNat : Int)) w blk off d) (hu : u < 10 ^ d.size) (hu64 : u < 18446744073709551616) (hsz : d.size < 4611686018427387904) :
    Calls Tryz.prog 300 #[.slice (some ⟨blk, off, none⟩) d.size cap, .int .u64 u] w fun e w' =>
      e = .returned (.tuple #[]) ∧ ∃ (n v' : Nat) (dk : Array UInt8), w' = (putRow (fun (b : UInt8) => Value.int .u8 (b.toNat : Int)) w blk off dk).drewN n ∧ FmtInv d.size u 0 v' dk := Any.internal_strconv_formatBase10 Tryz.lays285 blk off cap u d w hH hu hu64 hsz
def Tryz.laysM246_ren : Go.Shelf.Ren := ⟨fun | 246 => 225 | 283 => 298 | 284 => 299 | 285 => 300 | 286 => 301 | 129 => 338 | 317 => 337 | 318 => 339 | 319 => 340 | 320 => 341 | 337 => 361 | 338 => 362 | n => n, fun | 2 => 2 | 3 => 3 | 9 => 9 | 4 => 4 | 171 => 340 | 0 => 0 | 53 => 178 | 37 => 87 | 5 => 5 | 173 => 343 | 212 => 380 | 51 => 376 | 20 => 20 | 213 => 381 | 46 => 262 | 232 => 410 | 233 => 411 | n => n, fun | 17 => 3 | 18 => 4 | 19 => 5 | n => n⟩
theorem Tryz.laysM246 : Go.Proofs.LaysM.n246 Tryz.prog Tryz.laysM246_ren := {
  mixed := by kernel_rfl
  f129 := Tryz.func338.trans (congrArg some (by kernel_rfl))
  f246 := Tryz.func225.trans (congrArg some (by kernel_rfl))
  f283 := Tryz.func298.trans (congrArg some (by kernel_rfl))
  f284 := Tryz.func299.trans (congrArg some (by kernel_rfl))
  f285 := Tryz.func300.trans (congrArg some (by kernel_rfl))
  f286 := Tryz.func301.trans (congrArg some (by kernel_rfl))
  f317 := Tryz.func337.trans (congrArg some (by kernel_rfl))
  f318 := Tryz.func339.trans (congrArg some (by kernel_rfl))
  f319 := Tryz.func340.trans (congrArg some (by kernel_rfl))
  f320 := Tryz.func341.trans (congrArg some (by kernel_rfl))
  f337 := Tryz.func361.trans (congrArg some (by kernel_rfl))
  f338 := Tryz.func362.trans (congrArg some (by kernel_rfl))
  t0 := Tryz.underlying0
  a0 := Tryz.isAgg0
  z0 := Tryz.sizeOf0
  v0 := Tryz.zeroValue0
  t2 := Tryz.underlying2
  a2 := Tryz.isAgg2
  z2 := Tryz.sizeOf2
  v2 := Tryz.zeroValue2
  t3 := Tryz.underlying3
  a3 := Tryz.isAgg3
  z3 := Tryz.sizeOf3
  v3 := Tryz.zeroValue3
  t4 := Tryz.underlying4
  a4 := Tryz.isAgg4
  z4 := Tryz.sizeOf4
  v4 := Tryz.zeroValue4
  t5 := Tryz.underlying5
  a5 := Tryz.isAgg5
  z5 := Tryz.sizeOf5
  v5 := Tryz.zeroValue5
  t9 := Tryz.underlying9
  a9 := Tryz.isAgg9
  z9 := Tryz.sizeOf9
  v9 := Tryz.zeroValue9
  t20 := Tryz.underlying20
  a20 := Tryz.isAgg20
  z20 := Tryz.sizeOf20
  v20 := Tryz.zeroValue20
  t37 := Tryz.underlying87
  a37 := Tryz.isAgg87
  z37 := Tryz.sizeOf87
  v37 := Tryz.zeroValue87
  t46 := Tryz.underlying262
  a46 := Tryz.isAgg262
  z46 := Tryz.sizeOf262
  v46 := Tryz.zeroValue262
  t51 := Tryz.underlying376
  a51 := Tryz.isAgg376
  z51 := Tryz.sizeOf376
  v51 := Tryz.zeroValue376
  t53 := Tryz.underlying178
  a53 := Tryz.isAgg178
  z53 := Tryz.sizeOf178
  v53 := Tryz.zeroValue178
  t171 := Tryz.underlying340
  a171 := Tryz.isAgg340
  z171 := Tryz.sizeOf340
  v171 := Tryz.zeroValue340
  t173 := Tryz.underlying343
  a173 := Tryz.isAgg343
  z173 := Tryz.sizeOf343
  v173 := Tryz.zeroValue343
  t212 := Tryz.underlying380
  a212 := Tryz.isAgg380
  z212 := Tryz.sizeOf380
  v212 := Tryz.zeroValue380
  t213 := Tryz.underlying381
  a213 := Tryz.isAgg381
  z213 := Tryz.sizeOf381
  t232 := Tryz.underlying410
  a232 := Tryz.isAgg410
  z232 := Tryz.sizeOf410
  v232 := Tryz.zeroValue410
  t233 := Tryz.underlying411
  a233 := Tryz.isAgg411
  z233 := Tryz.sizeOf411
  v233 := Tryz.zeroValue411
  g17 := by kernel_rfl
  g18 := by kernel_rfl
  g19 := by kernel_rfl
  i0 := by kernel_rfl
  i2 := by kernel_rfl
  i3 := by kernel_rfl
  i4 := by kernel_rfl
  i5 := by kernel_rfl
  i9 := by kernel_rfl
  i20 := by kernel_rfl
  i37 := by kernel_rfl
  i46 := by kernel_rfl
  i51 := by kernel_rfl
  i53 := by kernel_rfl
  i171 := by kernel_rfl
  i173 := by kernel_rfl
  i212 := by kernel_rfl
  i232 := by kernel_rfl
  i233 := by kernel_rfl
  m17 := by kernel_rfl
  m18 := by kernel_rfl
  m19 := by kernel_rfl }
open Go.RowKit Go.Sort Go.Lib in
/-- internal/strconv.FormatInt: "FormatInt returns the string representation of i in the given base": AT BASE 10: i's decimal numeral, for every int64. The world behind the call: the world before it, new blocks behind the heap, draws. (LAID: no walk: one application.) -/
theorem Tryz.internal_strconv_FormatInt_10 (n : Int) (h0 : -9223372036854775808 ≤ n) (h1 : n ≤ 9223372036854775807) (w : World) (htab : Lib.TabIs Tryz.prog w "internal/strconv.uint64pow10" .u64 Lib.pow10Tab) :
    Calls Tryz.prog 225 #[.int .i64 n, .int .i64 10] w fun e w' => e = .returned (.string ⟨(Lib.itoa n).toArray⟩) ∧ ∃ k os, w' = grow (w.drewN k) os := Any.internal_strconv_FormatInt_10 Tryz.laysM246 n h0 h1 w htab
def Tryz.lays246_ren : Go.Shelf.Ren := ⟨fun | 246 => 225 | 283 => 298 | 284 => 299 | 285 => 300 | 286 => 301 | 129 => 338 | 317 => 337 | 318 => 339 | 319 => 340 | 320 => 341 | 337 => 361 | 338 => 362 | n => n, fun | 2 => 2 | 3 => 3 | 9 => 9 | 4 => 4 | 171 => 340 | 0 => 0 | 53 => 178 | 37 => 87 | 5 => 5 | 173 => 343 | 212 => 380 | 51 => 376 | 20 => 20 | 213 => 381 | 46 => 262 | 232 => 410 | 233 => 411 | n => n, fun | 17 => 3 | 18 => 4 | 19 => 5 | n => n⟩
theorem Tryz.lays246 : Go.Proofs.Lays.n246 Tryz.prog Tryz.lays246_ren := {
  mixed := by kernel_rfl
  f129 := Tryz.func338.trans (congrArg some (by kernel_rfl))
  f246 := Tryz.func225.trans (congrArg some (by kernel_rfl))
  f283 := Tryz.func298.trans (congrArg some (by kernel_rfl))
  f284 := Tryz.func299.trans (congrArg some (by kernel_rfl))
  f285 := Tryz.func300.trans (congrArg some (by kernel_rfl))
  f286 := Tryz.func301.trans (congrArg some (by kernel_rfl))
  f317 := Tryz.func337.trans (congrArg some (by kernel_rfl))
  f318 := Tryz.func339.trans (congrArg some (by kernel_rfl))
  f319 := Tryz.func340.trans (congrArg some (by kernel_rfl))
  f320 := Tryz.func341.trans (congrArg some (by kernel_rfl))
  f337 := Tryz.func361.trans (congrArg some (by kernel_rfl))
  f338 := Tryz.func362.trans (congrArg some (by kernel_rfl))
  t0 := Tryz.underlying0
  a0 := Tryz.isAgg0
  z0 := Tryz.sizeOf0
  v0 := Tryz.zeroValue0
  t2 := Tryz.underlying2
  a2 := Tryz.isAgg2
  z2 := Tryz.sizeOf2
  v2 := Tryz.zeroValue2
  t3 := Tryz.underlying3
  a3 := Tryz.isAgg3
  z3 := Tryz.sizeOf3
  v3 := Tryz.zeroValue3
  t4 := Tryz.underlying4
  a4 := Tryz.isAgg4
  z4 := Tryz.sizeOf4
  v4 := Tryz.zeroValue4
  t5 := Tryz.underlying5
  a5 := Tryz.isAgg5
  z5 := Tryz.sizeOf5
  v5 := Tryz.zeroValue5
  t9 := Tryz.underlying9
  a9 := Tryz.isAgg9
  z9 := Tryz.sizeOf9
  v9 := Tryz.zeroValue9
  t20 := Tryz.underlying20
  a20 := Tryz.isAgg20
  z20 := Tryz.sizeOf20
  v20 := Tryz.zeroValue20
  t37 := Tryz.underlying87
  a37 := Tryz.isAgg87
  z37 := Tryz.sizeOf87
  v37 := Tryz.zeroValue87
  t46 := Tryz.underlying262
  a46 := Tryz.isAgg262
  z46 := Tryz.sizeOf262
  v46 := Tryz.zeroValue262
  t51 := Tryz.underlying376
  a51 := Tryz.isAgg376
  z51 := Tryz.sizeOf376
  v51 := Tryz.zeroValue376
  t53 := Tryz.underlying178
  a53 := Tryz.isAgg178
  z53 := Tryz.sizeOf178
  v53 := Tryz.zeroValue178
  t171 := Tryz.underlying340
  a171 := Tryz.isAgg340
  z171 := Tryz.sizeOf340
  v171 := Tryz.zeroValue340
  t173 := Tryz.underlying343
  a173 := Tryz.isAgg343
  z173 := Tryz.sizeOf343
  v173 := Tryz.zeroValue343
  t212 := Tryz.underlying380
  a212 := Tryz.isAgg380
  z212 := Tryz.sizeOf380
  v212 := Tryz.zeroValue380
  t213 := Tryz.underlying381
  a213 := Tryz.isAgg381
  z213 := Tryz.sizeOf381
  t232 := Tryz.underlying410
  a232 := Tryz.isAgg410
  z232 := Tryz.sizeOf410
  v232 := Tryz.zeroValue410
  t233 := Tryz.underlying411
  a233 := Tryz.isAgg411
  z233 := Tryz.sizeOf411
  v233 := Tryz.zeroValue411
  g17 := by kernel_rfl
  g18 := by kernel_rfl
  g19 := by kernel_rfl }
open Go.RowKit Go.Sort Go.Lib in
/-- THE ROAD WITHOUT THE TABLE: 0 <= i < 100: two constants are read, nothing is laid: no premise on the world, and the world is as it was. (LAID: no walk: one application.) -/
theorem Tryz.internal_strconv_FormatInt_10_small (i : Nat) (hi : i < 100) (w : World) :
    Calls Tryz.prog 225 #[.int .i64 i, .int .i64 10] w fun e w' => e = .returned (.string ⟨(Lib.decDigits i).toArray⟩) ∧ w' = w := Any.internal_strconv_FormatInt_10_small Tryz.lays246 i hi w
def Tryz.laysM243_ren : Go.Shelf.Ren := ⟨fun | 243 => 176 | 246 => 225 | 283 => 298 | 284 => 299 | 285 => 300 | 286 => 301 | 129 => 338 | 317 => 337 | 318 => 339 | 319 => 340 | 320 => 341 | 337 => 361 | 338 => 362 | n => n, fun | 3 => 3 | 9 => 9 | 2 => 2 | 4 => 4 | 171 => 340 | 0 => 0 | 53 => 178 | 37 => 87 | 5 => 5 | 173 => 343 | 212 => 380 | 51 => 376 | 20 => 20 | 213 => 381 | 46 => 262 | 232 => 410 | 233 => 411 | n => n, fun | 17 => 3 | 18 => 4 | 19 => 5 | n => n⟩
theorem Tryz.laysM243 : Go.Proofs.LaysM.n243 Tryz.prog Tryz.laysM243_ren := {
  mixed := by kernel_rfl
  f129 := Tryz.func338.trans (congrArg some (by kernel_rfl))
  f243 := Tryz.func176.trans (congrArg some (by kernel_rfl))
  f246 := Tryz.func225.trans (congrArg some (by kernel_rfl))
  f283 := Tryz.func298.trans (congrArg some (by kernel_rfl))
  f284 := Tryz.func299.trans (congrArg some (by kernel_rfl))
  f285 := Tryz.func300.trans (congrArg some (by kernel_rfl))
  f286 := Tryz.func301.trans (congrArg some (by kernel_rfl))
  f317 := Tryz.func337.trans (congrArg some (by kernel_rfl))
  f318 := Tryz.func339.trans (congrArg some (by kernel_rfl))
  f319 := Tryz.func340.trans (congrArg some (by kernel_rfl))
  f320 := Tryz.func341.trans (congrArg some (by kernel_rfl))
  f337 := Tryz.func361.trans (congrArg some (by kernel_rfl))
  f338 := Tryz.func362.trans (congrArg some (by kernel_rfl))
  t0 := Tryz.underlying0
  a0 := Tryz.isAgg0
  z0 := Tryz.sizeOf0
  v0 := Tryz.zeroValue0
  t2 := Tryz.underlying2
  a2 := Tryz.isAgg2
  z2 := Tryz.sizeOf2
  v2 := Tryz.zeroValue2
  t3 := Tryz.underlying3
  a3 := Tryz.isAgg3
  z3 := Tryz.sizeOf3
  v3 := Tryz.zeroValue3
  t4 := Tryz.underlying4
  a4 := Tryz.isAgg4
  z4 := Tryz.sizeOf4
  v4 := Tryz.zeroValue4
  t5 := Tryz.underlying5
  a5 := Tryz.isAgg5
  z5 := Tryz.sizeOf5
  v5 := Tryz.zeroValue5
  t9 := Tryz.underlying9
  a9 := Tryz.isAgg9
  z9 := Tryz.sizeOf9
  v9 := Tryz.zeroValue9
  t20 := Tryz.underlying20
  a20 := Tryz.isAgg20
  z20 := Tryz.sizeOf20
  v20 := Tryz.zeroValue20
  t37 := Tryz.underlying87
  a37 := Tryz.isAgg87
  z37 := Tryz.sizeOf87
  v37 := Tryz.zeroValue87
  t46 := Tryz.underlying262
  a46 := Tryz.isAgg262
  z46 := Tryz.sizeOf262
  v46 := Tryz.zeroValue262
  t51 := Tryz.underlying376
  a51 := Tryz.isAgg376
  z51 := Tryz.sizeOf376
  v51 := Tryz.zeroValue376
  t53 := Tryz.underlying178
  a53 := Tryz.isAgg178
  z53 := Tryz.sizeOf178
  v53 := Tryz.zeroValue178
  t171 := Tryz.underlying340
  a171 := Tryz.isAgg340
  z171 := Tryz.sizeOf340
  v171 := Tryz.zeroValue340
  t173 := Tryz.underlying343
  a173 := Tryz.isAgg343
  z173 := Tryz.sizeOf343
  v173 := Tryz.zeroValue343
  t212 := Tryz.underlying380
  a212 := Tryz.isAgg380
  z212 := Tryz.sizeOf380
  v212 := Tryz.zeroValue380
  t213 := Tryz.underlying381
  a213 := Tryz.isAgg381
  z213 := Tryz.sizeOf381
  t232 := Tryz.underlying410
  a232 := Tryz.isAgg410
  z232 := Tryz.sizeOf410
  v232 := Tryz.zeroValue410
  t233 := Tryz.underlying411
  a233 := Tryz.isAgg411
  z233 := Tryz.sizeOf411
  v233 := Tryz.zeroValue411
  g17 := by kernel_rfl
  g18 := by kernel_rfl
  g19 := by kernel_rfl
  i0 := by kernel_rfl
  i2 := by kernel_rfl
  i3 := by kernel_rfl
  i4 := by kernel_rfl
  i5 := by kernel_rfl
  i9 := by kernel_rfl
  i20 := by kernel_rfl
  i37 := by kernel_rfl
  i46 := by kernel_rfl
  i51 := by kernel_rfl
  i53 := by kernel_rfl
  i171 := by kernel_rfl
  i173 := by kernel_rfl
  i212 := by kernel_rfl
  i232 := by kernel_rfl
  i233 := by kernel_rfl
  m17 := by kernel_rfl
  m18 := by kernel_rfl
  m19 := by kernel_rfl }
open Go.RowKit Go.Sort Go.Lib in
/-- internal/strconv.Itoa: "Itoa is equivalent to FormatInt(int64(i), 10).": i's decimal numeral, for every int. (LAID: no walk: one application.) -/
theorem Tryz.internal_strconv_Itoa (n : Int) (h0 : -9223372036854775808 ≤ n) (h1 : n ≤ 9223372036854775807) (w : World) (htab : Lib.TabIs Tryz.prog w "internal/strconv.uint64pow10" .u64 Lib.pow10Tab) :
    Calls Tryz.prog 176 #[.int .i64 n] w fun e w' => e = .returned (.string ⟨(Lib.itoa n).toArray⟩) ∧ ∃ k os, w' = grow (w.drewN k) os := Any.internal_strconv_Itoa Tryz.laysM243 n h0 h1 w htab
def Tryz.lays243_ren : Go.Shelf.Ren := ⟨fun | 243 => 176 | 246 => 225 | 283 => 298 | 284 => 299 | 285 => 300 | 286 => 301 | 129 => 338 | 317 => 337 | 318 => 339 | 319 => 340 | 320 => 341 | 337 => 361 | 338 => 362 | n => n, fun | 3 => 3 | 9 => 9 | 2 => 2 | 4 => 4 | 171 => 340 | 0 => 0 | 53 => 178 | 37 => 87 | 5 => 5 | 173 => 343 | 212 => 380 | 51 => 376 | 20 => 20 | 213 => 381 | 46 => 262 | 232 => 410 | 233 => 411 | n => n, fun | 17 => 3 | 18 => 4 | 19 => 5 | n => n⟩
theorem Tryz.lays243 : Go.Proofs.Lays.n243 Tryz.prog Tryz.lays243_ren := {
  mixed := by kernel_rfl
  f129 := Tryz.func338.trans (congrArg some (by kernel_rfl))
  f243 := Tryz.func176.trans (congrArg some (by kernel_rfl))
  f246 := Tryz.func225.trans (congrArg some (by kernel_rfl))
  f283 := Tryz.func298.trans (congrArg some (by kernel_rfl))
  f284 := Tryz.func299.trans (congrArg some (by kernel_rfl))
  f285 := Tryz.func300.trans (congrArg some (by kernel_rfl))
  f286 := Tryz.func301.trans (congrArg some (by kernel_rfl))
  f317 := Tryz.func337.trans (congrArg some (by kernel_rfl))
  f318 := Tryz.func339.trans (congrArg some (by kernel_rfl))
  f319 := Tryz.func340.trans (congrArg some (by kernel_rfl))
  f320 := Tryz.func341.trans (congrArg some (by kernel_rfl))
  f337 := Tryz.func361.trans (congrArg some (by kernel_rfl))
  f338 := Tryz.func362.trans (congrArg some (by kernel_rfl))
  t0 := Tryz.underlying0
  a0 := Tryz.isAgg0
  z0 := Tryz.sizeOf0
  v0 := Tryz.zeroValue0
  t2 := Tryz.underlying2
  a2 := Tryz.isAgg2
  z2 := Tryz.sizeOf2
  v2 := Tryz.zeroValue2
  t3 := Tryz.underlying3
  a3 := Tryz.isAgg3
  z3 := Tryz.sizeOf3
  v3 := Tryz.zeroValue3
  t4 := Tryz.underlying4
  a4 := Tryz.isAgg4
  z4 := Tryz.sizeOf4
  v4 := Tryz.zeroValue4
  t5 := Tryz.underlying5
  a5 := Tryz.isAgg5
  z5 := Tryz.sizeOf5
  v5 := Tryz.zeroValue5
  t9 := Tryz.underlying9
  a9 := Tryz.isAgg9
  z9 := Tryz.sizeOf9
  v9 := Tryz.zeroValue9
  t20 := Tryz.underlying20
  a20 := Tryz.isAgg20
  z20 := Tryz.sizeOf20
  v20 := Tryz.zeroValue20
  t37 := Tryz.underlying87
  a37 := Tryz.isAgg87
  z37 := Tryz.sizeOf87
  v37 := Tryz.zeroValue87
  t46 := Tryz.underlying262
  a46 := Tryz.isAgg262
  z46 := Tryz.sizeOf262
  v46 := Tryz.zeroValue262
  t51 := Tryz.underlying376
  a51 := Tryz.isAgg376
  z51 := Tryz.sizeOf376
  v51 := Tryz.zeroValue376
  t53 := Tryz.underlying178
  a53 := Tryz.isAgg178
  z53 := Tryz.sizeOf178
  v53 := Tryz.zeroValue178
  t171 := Tryz.underlying340
  a171 := Tryz.isAgg340
  z171 := Tryz.sizeOf340
  v171 := Tryz.zeroValue340
  t173 := Tryz.underlying343
  a173 := Tryz.isAgg343
  z173 := Tryz.sizeOf343
  v173 := Tryz.zeroValue343
  t212 := Tryz.underlying380
  a212 := Tryz.isAgg380
  z212 := Tryz.sizeOf380
  v212 := Tryz.zeroValue380
  t213 := Tryz.underlying381
  a213 := Tryz.isAgg381
  z213 := Tryz.sizeOf381
  t232 := Tryz.underlying410
  a232 := Tryz.isAgg410
  z232 := Tryz.sizeOf410
  v232 := Tryz.zeroValue410
  t233 := Tryz.underlying411
  a233 := Tryz.isAgg411
  z233 := Tryz.sizeOf411
  v233 := Tryz.zeroValue411
  g17 := by kernel_rfl
  g18 := by kernel_rfl
  g19 := by kernel_rfl }
open Go.RowKit Go.Sort Go.Lib in
/-- THE ROAD WITHOUT THE TABLE: 0 <= i < 100. (LAID: no walk: one application.) -/
theorem Tryz.internal_strconv_Itoa_small (i : Nat) (hi : i < 100) (w : World) :
    Calls Tryz.prog 176 #[.int .i64 i] w fun e w' => e = .returned (.string ⟨(Lib.decDigits i).toArray⟩) ∧ w' = w := Any.internal_strconv_Itoa_small Tryz.lays243 i hi w
def Tryz.laysM171_ren : Go.Shelf.Ren := ⟨fun | 171 => 132 | 243 => 176 | 246 => 225 | 283 => 298 | 284 => 299 | 285 => 300 | 286 => 301 | 129 => 338 | 317 => 337 | 318 => 339 | 319 => 340 | 320 => 341 | 337 => 361 | 338 => 362 | n => n, fun | 3 => 3 | 9 => 9 | 2 => 2 | 4 => 4 | 171 => 340 | 0 => 0 | 53 => 178 | 37 => 87 | 5 => 5 | 173 => 343 | 212 => 380 | 51 => 376 | 20 => 20 | 213 => 381 | 46 => 262 | 232 => 410 | 233 => 411 | n => n, fun | 17 => 3 | 18 => 4 | 19 => 5 | n => n⟩
theorem Tryz.laysM171 : Go.Proofs.LaysM.n171 Tryz.prog Tryz.laysM171_ren := {
  mixed := by kernel_rfl
  f129 := Tryz.func338.trans (congrArg some (by kernel_rfl))
  f171 := Tryz.func132.trans (congrArg some (by kernel_rfl))
  f243 := Tryz.func176.trans (congrArg some (by kernel_rfl))
  f246 := Tryz.func225.trans (congrArg some (by kernel_rfl))
  f283 := Tryz.func298.trans (congrArg some (by kernel_rfl))
  f284 := Tryz.func299.trans (congrArg some (by kernel_rfl))
  f285 := Tryz.func300.trans (congrArg some (by kernel_rfl))
  f286 := Tryz.func301.trans (congrArg some (by kernel_rfl))
  f317 := Tryz.func337.trans (congrArg some (by kernel_rfl))
  f318 := Tryz.func339.trans (congrArg some (by kernel_rfl))
  f319 := Tryz.func340.trans (congrArg some (by kernel_rfl))
  f320 := Tryz.func341.trans (congrArg some (by kernel_rfl))
  f337 := Tryz.func361.trans (congrArg some (by kernel_rfl))
  f338 := Tryz.func362.trans (congrArg some (by kernel_rfl))
  t0 := Tryz.underlying0
  a0 := Tryz.isAgg0
  z0 := Tryz.sizeOf0
  v0 := Tryz.zeroValue0
  t2 := Tryz.underlying2
  a2 := Tryz.isAgg2
  z2 := Tryz.sizeOf2
  v2 := Tryz.zeroValue2
  t3 := Tryz.underlying3
  a3 := Tryz.isAgg3
  z3 := Tryz.sizeOf3
  v3 := Tryz.zeroValue3
  t4 := Tryz.underlying4
  a4 := Tryz.isAgg4
  z4 := Tryz.sizeOf4
  v4 := Tryz.zeroValue4
  t5 := Tryz.underlying5
  a5 := Tryz.isAgg5
  z5 := Tryz.sizeOf5
  v5 := Tryz.zeroValue5
  t9 := Tryz.underlying9
  a9 := Tryz.isAgg9
  z9 := Tryz.sizeOf9
  v9 := Tryz.zeroValue9
  t20 := Tryz.underlying20
  a20 := Tryz.isAgg20
  z20 := Tryz.sizeOf20
  v20 := Tryz.zeroValue20
  t37 := Tryz.underlying87
  a37 := Tryz.isAgg87
  z37 := Tryz.sizeOf87
  v37 := Tryz.zeroValue87
  t46 := Tryz.underlying262
  a46 := Tryz.isAgg262
  z46 := Tryz.sizeOf262
  v46 := Tryz.zeroValue262
  t51 := Tryz.underlying376
  a51 := Tryz.isAgg376
  z51 := Tryz.sizeOf376
  v51 := Tryz.zeroValue376
  t53 := Tryz.underlying178
  a53 := Tryz.isAgg178
  z53 := Tryz.sizeOf178
  v53 := Tryz.zeroValue178
  t171 := Tryz.underlying340
  a171 := Tryz.isAgg340
  z171 := Tryz.sizeOf340
  v171 := Tryz.zeroValue340
  t173 := Tryz.underlying343
  a173 := Tryz.isAgg343
  z173 := Tryz.sizeOf343
  v173 := Tryz.zeroValue343
  t212 := Tryz.underlying380
  a212 := Tryz.isAgg380
  z212 := Tryz.sizeOf380
  v212 := Tryz.zeroValue380
  t213 := Tryz.underlying381
  a213 := Tryz.isAgg381
  z213 := Tryz.sizeOf381
  t232 := Tryz.underlying410
  a232 := Tryz.isAgg410
  z232 := Tryz.sizeOf410
  v232 := Tryz.zeroValue410
  t233 := Tryz.underlying411
  a233 := Tryz.isAgg411
  z233 := Tryz.sizeOf411
  v233 := Tryz.zeroValue411
  g17 := by kernel_rfl
  g18 := by kernel_rfl
  g19 := by kernel_rfl
  i0 := by kernel_rfl
  i2 := by kernel_rfl
  i3 := by kernel_rfl
  i4 := by kernel_rfl
  i5 := by kernel_rfl
  i9 := by kernel_rfl
  i20 := by kernel_rfl
  i37 := by kernel_rfl
  i46 := by kernel_rfl
  i51 := by kernel_rfl
  i53 := by kernel_rfl
  i171 := by kernel_rfl
  i173 := by kernel_rfl
  i212 := by kernel_rfl
  i232 := by kernel_rfl
  i233 := by kernel_rfl
  m17 := by kernel_rfl
  m18 := by kernel_rfl
  m19 := by kernel_rfl }
open Go.RowKit Go.Sort Go.Lib in
/-- strconv.Itoa: "Itoa is equivalent to FormatInt(int64(i), 10).": i's DECIMAL NUMERAL ('Lib.itoa': a '-' where i is negative, then the digits), FOR EVERY int. The world behind the call: the world before it, new blocks behind the heap (the library's 'var a [24]byte'), draws. (LAID: no walk: one application.) -/
theorem Tryz.strconv_Itoa (n : Int) (h0 : -9223372036854775808 ≤ n) (h1 : n ≤ 9223372036854775807) (w : World) (htab : Lib.TabIs Tryz.prog w "internal/strconv.uint64pow10" .u64 Lib.pow10Tab) :
    Calls Tryz.prog 132 #[.int .i64 n] w fun e w' => e = .returned (.string ⟨(Lib.itoa n).toArray⟩) ∧ ∃ k os, w' = grow (w.drewN k) os := Any.strconv_Itoa Tryz.laysM171 n h0 h1 w htab
def Tryz.lays171_ren : Go.Shelf.Ren := ⟨fun | 171 => 132 | 243 => 176 | 246 => 225 | 283 => 298 | 284 => 299 | 285 => 300 | 286 => 301 | 129 => 338 | 317 => 337 | 318 => 339 | 319 => 340 | 320 => 341 | 337 => 361 | 338 => 362 | n => n, fun | 3 => 3 | 9 => 9 | 2 => 2 | 4 => 4 | 171 => 340 | 0 => 0 | 53 => 178 | 37 => 87 | 5 => 5 | 173 => 343 | 212 => 380 | 51 => 376 | 20 => 20 | 213 => 381 | 46 => 262 | 232 => 410 | 233 => 411 | n => n, fun | 17 => 3 | 18 => 4 | 19 => 5 | n => n⟩
theorem Tryz.lays171 : Go.Proofs.Lays.n171 Tryz.prog Tryz.lays171_ren := {
  mixed := by kernel_rfl
  f129 := Tryz.func338.trans (congrArg some (by kernel_rfl))
  f171 := Tryz.func132.trans (congrArg some (by kernel_rfl))
  f243 := Tryz.func176.trans (congrArg some (by kernel_rfl))
  f246 := Tryz.func225.trans (congrArg some (by kernel_rfl))
  f283 := Tryz.func298.trans (congrArg some (by kernel_rfl))
  f284 := Tryz.func299.trans (congrArg some (by kernel_rfl))
  f285 := Tryz.func300.trans (congrArg some (by kernel_rfl))
  f286 := Tryz.func301.trans (congrArg some (by kernel_rfl))
  f317 := Tryz.func337.trans (congrArg some (by kernel_rfl))
  f318 := Tryz.func339.trans (congrArg some (by kernel_rfl))
  f319 := Tryz.func340.trans (congrArg some (by kernel_rfl))
  f320 := Tryz.func341.trans (congrArg some (by kernel_rfl))
  f337 := Tryz.func361.trans (congrArg some (by kernel_rfl))
  f338 := Tryz.func362.trans (congrArg some (by kernel_rfl))
  t0 := Tryz.underlying0
  a0 := Tryz.isAgg0
  z0 := Tryz.sizeOf0
  v0 := Tryz.zeroValue0
  t2 := Tryz.underlying2
  a2 := Tryz.isAgg2
  z2 := Tryz.sizeOf2
  v2 := Tryz.zeroValue2
  t3 := Tryz.underlying3
  a3 := Tryz.isAgg3
  z3 := Tryz.sizeOf3
  v3 := Tryz.zeroValue3
  t4 := Tryz.underlying4
  a4 := Tryz.isAgg4
  z4 := Tryz.sizeOf4
  v4 := Tryz.zeroValue4
  t5 := Tryz.underlying5
  a5 := Tryz.isAgg5
  z5 := Tryz.sizeOf5
  v5 := Tryz.zeroValue5
  t9 := Tryz.underlying9
  a9 := Tryz.isAgg9
  z9 := Tryz.sizeOf9
  v9 := Tryz.zeroValue9
  t20 := Tryz.underlying20
  a20 := Tryz.isAgg20
  z20 := Tryz.sizeOf20
  v20 := Tryz.zeroValue20
  t37 := Tryz.underlying87
  a37 := Tryz.isAgg87
  z37 := Tryz.sizeOf87
  v37 := Tryz.zeroValue87
  t46 := Tryz.underlying262
  a46 := Tryz.isAgg262
  z46 := Tryz.sizeOf262
  v46 := Tryz.zeroValue262
  t51 := Tryz.underlying376
  a51 := Tryz.isAgg376
  z51 := Tryz.sizeOf376
  v51 := Tryz.zeroValue376
  t53 := Tryz.underlying178
  a53 := Tryz.isAgg178
  z53 := Tryz.sizeOf178
  v53 := Tryz.zeroValue178
  t171 := Tryz.underlying340
  a171 := Tryz.isAgg340
  z171 := Tryz.sizeOf340
  v171 := Tryz.zeroValue340
  t173 := Tryz.underlying343
  a173 := Tryz.isAgg343
  z173 := Tryz.sizeOf343
  v173 := Tryz.zeroValue343
  t212 := Tryz.underlying380
  a212 := Tryz.isAgg380
  z212 := Tryz.sizeOf380
  v212 := Tryz.zeroValue380
  t213 := Tryz.underlying381
  a213 := Tryz.isAgg381
  z213 := Tryz.sizeOf381
  t232 := Tryz.underlying410
  a232 := Tryz.isAgg410
  z232 := Tryz.sizeOf410
  v232 := Tryz.zeroValue410
  t233 := Tryz.underlying411
  a233 := Tryz.isAgg411
  z233 := Tryz.sizeOf411
  v233 := Tryz.zeroValue411
  g17 := by kernel_rfl
  g18 := by kernel_rfl
  g19 := by kernel_rfl }
open Go.RowKit Go.Sort Go.Lib in
/-- THE ROAD WITHOUT THE TABLE: 0 <= i < 100: NO PREMISE ON THE WORLD, AND THE WORLD IS AS IT WAS: a row that keeps its argument in that range need list no table ('laid = []'). (LAID: no walk: one application.) -/
theorem Tryz.strconv_Itoa_small (i : Nat) (hi : i < 100) (w : World) :
    Calls Tryz.prog 132 #[.int .i64 i] w fun e w' => e = .returned (.string ⟨(Lib.decDigits i).toArray⟩) ∧ w' = w := Any.strconv_Itoa_small Tryz.lays171 i hi w
def Tryz.lays217_ren : Go.Shelf.Ren := ⟨fun | 217 => 293 | 266 => 335 | n => n, fun | 9 => 9 | 5 => 5 | 3 => 3 | n => n, fun | n => n⟩
theorem Tryz.lays217 : Go.Proofs.Lays.n217 Tryz.prog Tryz.lays217_ren := {
  mixed := by kernel_rfl
  f217 := Tryz.func293.trans (congrArg some (by kernel_rfl))
  f266 := Tryz.func335.trans (congrArg some (by kernel_rfl))
  t3 := Tryz.underlying3
  a3 := Tryz.isAgg3
  z3 := Tryz.sizeOf3
  v3 := Tryz.zeroValue3
  t5 := Tryz.underlying5
  a5 := Tryz.isAgg5
  z5 := Tryz.sizeOf5
  v5 := Tryz.zeroValue5
  t9 := Tryz.underlying9
  a9 := Tryz.isAgg9
  z9 := Tryz.sizeOf9
  v9 := Tryz.zeroValue9 }
open Go.RowKit Go.Lib in
/-- internal/stringslite.IndexByte (what strings.IndexByte calls): IT RETURNS 'Lib.indexByte s c'; the world is as it was. (LAID: no walk: one application.) -/
theorem Tryz.stringslite_IndexByte (s : ByteArray) (c : Int) (w : World) :
    Calls Tryz.prog 293 #[.string s, .int .u8 c] w fun e w' => e = .returned (.int .i64 (Lib.indexByte s.data.toList c.toNat.toUInt8)) ∧ w' = w := Any.stringslite_IndexByte Tryz.lays217 s c w
def Tryz.lays224_ren : Go.Shelf.Ren := ⟨fun | 224 => 295 | n => n, fun | 3 => 3 | n => n, fun | n => n⟩
theorem Tryz.lays224 : Go.Proofs.Lays.n224 Tryz.prog Tryz.lays224_ren := {
  mixed := by kernel_rfl
  f224 := Tryz.func295.trans (congrArg some (by kernel_rfl))
  t3 := Tryz.underlying3
  a3 := Tryz.isAgg3
  z3 := Tryz.sizeOf3
  v3 := Tryz.zeroValue3 }
open Go.RowKit Go.Lib in
/-- internal/bytealg.Cutover: "Cutover reports the number of failures of IndexByte we should tolerate before switching over to Index. n is the number of bytes processed so far.": on amd64: (n + 16) / 8. (LAID: no walk: one application.) -/
theorem Tryz.bytealg_Cutover (n : Int) (h0 : 0 ≤ n) (h1 : n < 4611686018427387904) (w : World) :
    Calls Tryz.prog 295 #[.int .i64 n] w fun e w' => e = .returned (.int .i64 ((n + 16) / 8)) ∧ w' = w := Any.bytealg_Cutover Tryz.lays224 n h0 h1 w
def Tryz.lays314_ren : Go.Shelf.Ren := ⟨fun | 314 => 336 | n => n, fun | 9 => 9 | 51 => 376 | 3 => 3 | 4 => 4 | 5 => 5 | 46 => 262 | n => n, fun | n => n⟩
theorem Tryz.lays314 : Go.Proofs.Lays.n314 Tryz.prog Tryz.lays314_ren := {
  mixed := by kernel_rfl
  f314 := Tryz.func336.trans (congrArg some (by kernel_rfl))
  t3 := Tryz.underlying3
  a3 := Tryz.isAgg3
  z3 := Tryz.sizeOf3
  v3 := Tryz.zeroValue3
  t4 := Tryz.underlying4
  a4 := Tryz.isAgg4
  z4 := Tryz.sizeOf4
  v4 := Tryz.zeroValue4
  t5 := Tryz.underlying5
  a5 := Tryz.isAgg5
  z5 := Tryz.sizeOf5
  v5 := Tryz.zeroValue5
  t9 := Tryz.underlying9
  a9 := Tryz.isAgg9
  z9 := Tryz.sizeOf9
  v9 := Tryz.zeroValue9
  t46 := Tryz.underlying262
  a46 := Tryz.isAgg262
  z46 := Tryz.sizeOf262
  v46 := Tryz.zeroValue262
  t51 := Tryz.underlying376
  a51 := Tryz.isAgg376
  z51 := Tryz.sizeOf376
  v51 := Tryz.zeroValue376 }
open Go.RowKit Go.Lib in
/-- hashStr: "returns the hash and the appropriate multiplicative factor for use in Rabin-Karp algorithm": THE HASH OF ALL OF sep, AND 16777619 ^ len(sep), both in uint32. (LAID: no walk: one application.) -/
theorem Tryz.bytealg_hashStr (sep : ByteArray) (hs : sep.size < 4294967281) (w : World) :
    Calls Tryz.prog 336 #[.string sep] w fun e w' => e = .returned (.tuple #[.int .u32 (RK.H sep.data.toList % 4294967296), .int .u32 (16777619 ^ sep.size % 4294967296)]) ∧ w' = w := Any.bytealg_hashStr Tryz.lays314 sep hs w
def Tryz.lays267_ren : Go.Shelf.Ren := ⟨fun | 267 => 296 | 314 => 336 | n => n, fun | 9 => 9 | 3 => 3 | 146 => 377 | 51 => 376 | 4 => 4 | 5 => 5 | 46 => 262 | n => n, fun | n => n⟩
theorem Tryz.lays267 : Go.Proofs.Lays.n267 Tryz.prog Tryz.lays267_ren := {
  mixed := by kernel_rfl
  f267 := Tryz.func296.trans (congrArg some (by kernel_rfl))
  f314 := Tryz.func336.trans (congrArg some (by kernel_rfl))
  t3 := Tryz.underlying3
  a3 := Tryz.isAgg3
  z3 := Tryz.sizeOf3
  v3 := Tryz.zeroValue3
  t4 := Tryz.underlying4
  a4 := Tryz.isAgg4
  z4 := Tryz.sizeOf4
  v4 := Tryz.zeroValue4
  t5 := Tryz.underlying5
  a5 := Tryz.isAgg5
  z5 := Tryz.sizeOf5
  v5 := Tryz.zeroValue5
  t9 := Tryz.underlying9
  a9 := Tryz.isAgg9
  z9 := Tryz.sizeOf9
  v9 := Tryz.zeroValue9
  t46 := Tryz.underlying262
  a46 := Tryz.isAgg262
  z46 := Tryz.sizeOf262
  v46 := Tryz.zeroValue262
  t51 := Tryz.underlying376
  a51 := Tryz.isAgg376
  z51 := Tryz.sizeOf376
  v51 := Tryz.zeroValue376
  t146 := Tryz.underlying377
  a146 := Tryz.isAgg377
  z146 := Tryz.sizeOf377
  v146 := Tryz.zeroValue377 }
open Go.RowKit Go.Lib in
theorem Tryz.bytealg_IndexRabinKarp (s sep : ByteArray) (h1 : 1 ≤ sep.size) (h2 : sep.size ≤ s.size) (hs : s.size < 4294967281) (w : World) :
    Calls Tryz.prog 296 #[.string s, .string sep] w fun e w' => e = .returned (.int .i64 (Lib.index s.data.toList sep.data.toList)) ∧ w' = w := Any.bytealg_IndexRabinKarp Tryz.lays267 s sep h1 h2 hs w
def Tryz.lays219_ren : Go.Shelf.Ren := ⟨fun | 219 => 222 | 217 => 293 | 225 => 294 | 224 => 295 | 267 => 296 | 266 => 335 | 314 => 336 | n => n, fun | 9 => 9 | 3 => 3 | 4 => 4 | 5 => 5 | 46 => 262 | 146 => 377 | 51 => 376 | n => n, fun | 1 => 0 | n => n⟩
theorem Tryz.lays219 : Go.Proofs.Lays.n219 Tryz.prog Tryz.lays219_ren := {
  mixed := by kernel_rfl
  f217 := Tryz.func293.trans (congrArg some (by kernel_rfl))
  f219 := Tryz.func222.trans (congrArg some (by kernel_rfl))
  f224 := Tryz.func295.trans (congrArg some (by kernel_rfl))
  f225 := Tryz.func294.trans (congrArg some (by kernel_rfl))
  f266 := Tryz.func335.trans (congrArg some (by kernel_rfl))
  f267 := Tryz.func296.trans (congrArg some (by kernel_rfl))
  f314 := Tryz.func336.trans (congrArg some (by kernel_rfl))
  t3 := Tryz.underlying3
  a3 := Tryz.isAgg3
  z3 := Tryz.sizeOf3
  v3 := Tryz.zeroValue3
  t4 := Tryz.underlying4
  a4 := Tryz.isAgg4
  z4 := Tryz.sizeOf4
  v4 := Tryz.zeroValue4
  t5 := Tryz.underlying5
  a5 := Tryz.isAgg5
  z5 := Tryz.sizeOf5
  v5 := Tryz.zeroValue5
  t9 := Tryz.underlying9
  a9 := Tryz.isAgg9
  z9 := Tryz.sizeOf9
  v9 := Tryz.zeroValue9
  t46 := Tryz.underlying262
  a46 := Tryz.isAgg262
  z46 := Tryz.sizeOf262
  v46 := Tryz.zeroValue262
  t51 := Tryz.underlying376
  a51 := Tryz.isAgg376
  z51 := Tryz.sizeOf376
  v51 := Tryz.zeroValue376
  t146 := Tryz.underlying377
  a146 := Tryz.isAgg377
  z146 := Tryz.sizeOf377
  v146 := Tryz.zeroValue377
  g1 := by kernel_rfl }
open Go.RowKit Go.Lib in
/-- internal/stringslite.Index (what strings.Index calls) AT A substr OF ONE BYTE c: IT RETURNS 'Lib.indexByte s c'; the world is as it was. (LAID: no walk: one application.) -/
theorem Tryz.stringslite_Index_one (s : ByteArray) (c : UInt8) (w : World) :
    Calls Tryz.prog 222 #[.string s, .string ⟨#[c]⟩] w fun e w' => e = .returned (.int .i64 (Lib.indexByte s.data.toList c)) ∧ w' = w := Any.stringslite_Index_one Tryz.lays219 s c w
open Go.RowKit Go.Lib in
/-- internal/stringslite.Index (what strings.Index calls) AT A substr OF WHATEVER LENGTH: IT RETURNS 'Lib.index s substr'; the world is as it was. 'm': what internal/bytealg.MaxLen holds: whatever. (LAID: no walk: one application.) -/
theorem Tryz.stringslite_Index (s sub : ByteArray) (m : Int) (w : World) (hs : s.size < 4294967281) (hm : w.cell? ⟨0, 0, none⟩ = some (.int .i64 m)) :
    Calls Tryz.prog 222 #[.string s, .string sub] w fun e w' => e = .returned (.int .i64 (Lib.index s.data.toList sub.data.toList)) ∧ w' = w := Any.stringslite_Index Tryz.lays219 s sub m w hs hm
def Tryz.lays143_ren : Go.Shelf.Ren := ⟨fun | 143 => 171 | 219 => 222 | 217 => 293 | 225 => 294 | 224 => 295 | 267 => 296 | 266 => 335 | 314 => 336 | n => n, fun | 9 => 9 | 3 => 3 | 4 => 4 | 5 => 5 | 46 => 262 | 146 => 377 | 51 => 376 | n => n, fun | 1 => 0 | n => n⟩
theorem Tryz.lays143 : Go.Proofs.Lays.n143 Tryz.prog Tryz.lays143_ren := {
  mixed := by kernel_rfl
  f143 := Tryz.func171.trans (congrArg some (by kernel_rfl))
  f217 := Tryz.func293.trans (congrArg some (by kernel_rfl))
  f219 := Tryz.func222.trans (congrArg some (by kernel_rfl))
  f224 := Tryz.func295.trans (congrArg some (by kernel_rfl))
  f225 := Tryz.func294.trans (congrArg some (by kernel_rfl))
  f266 := Tryz.func335.trans (congrArg some (by kernel_rfl))
  f267 := Tryz.func296.trans (congrArg some (by kernel_rfl))
  f314 := Tryz.func336.trans (congrArg some (by kernel_rfl))
  t3 := Tryz.underlying3
  a3 := Tryz.isAgg3
  z3 := Tryz.sizeOf3
  v3 := Tryz.zeroValue3
  t4 := Tryz.underlying4
  a4 := Tryz.isAgg4
  z4 := Tryz.sizeOf4
  v4 := Tryz.zeroValue4
  t5 := Tryz.underlying5
  a5 := Tryz.isAgg5
  z5 := Tryz.sizeOf5
  v5 := Tryz.zeroValue5
  t9 := Tryz.underlying9
  a9 := Tryz.isAgg9
  z9 := Tryz.sizeOf9
  v9 := Tryz.zeroValue9
  t46 := Tryz.underlying262
  a46 := Tryz.isAgg262
  z46 := Tryz.sizeOf262
  v46 := Tryz.zeroValue262
  t51 := Tryz.underlying376
  a51 := Tryz.isAgg376
  z51 := Tryz.sizeOf376
  v51 := Tryz.zeroValue376
  t146 := Tryz.underlying377
  a146 := Tryz.isAgg377
  z146 := Tryz.sizeOf377
  v146 := Tryz.zeroValue377
  g1 := by kernel_rfl }
open Go.RowKit Go.Lib in
/-- strings.Index: "Index returns the index of the first instance of substr in s, or -1 if substr is not present in s.": AT A substr OF ONE BYTE c: IT RETURNS 'Lib.indexByte s c'; the world is as it was. (LAID: no walk: one application.) -/
theorem Tryz.strings_Index_one (s : ByteArray) (c : UInt8) (w : World) :
    Calls Tryz.prog 171 #[.string s, .string ⟨#[c]⟩] w fun e w' => e = .returned (.int .i64 (Lib.indexByte s.data.toList c)) ∧ w' = w := Any.strings_Index_one Tryz.lays143 s c w
open Go.RowKit Go.Lib in
/-- strings.Index: "Index returns the index of the first instance of substr in s, or -1 if substr is not present in s.": IT RETURNS 'Lib.index s substr'; the world is as it was. (LAID: no walk: one application.) -/
theorem Tryz.strings_Index (s sub : ByteArray) (m : Int) (w : World) (hs : s.size < 4294967281) (hm : w.cell? ⟨0, 0, none⟩ = some (.int .i64 m)) :
    Calls Tryz.prog 171 #[.string s, .string sub] w fun e w' => e = .returned (.int .i64 (Lib.index s.data.toList sub.data.toList)) ∧ w' = w := Any.strings_Index Tryz.lays143 s sub m w hs hm
def Tryz.lays138_ren : Go.Shelf.Ren := ⟨fun | 138 => 170 | 195 => 219 | 218 => 221 | 143 => 171 | 219 => 222 | 217 => 293 | 225 => 294 | 224 => 295 | 267 => 296 | 266 => 335 | 314 => 336 | n => n, fun | 9 => 9 | 3 => 3 | 4 => 4 | 5 => 5 | 0 => 0 | 46 => 262 | 146 => 377 | 51 => 376 | n => n, fun | 1 => 0 | n => n⟩
theorem Tryz.lays138 : Go.Proofs.Lays.n138 Tryz.prog Tryz.lays138_ren := {
  mixed := by kernel_rfl
  f138 := Tryz.func170.trans (congrArg some (by kernel_rfl))
  f143 := Tryz.func171.trans (congrArg some (by kernel_rfl))
  f195 := Tryz.func219.trans (congrArg some (by kernel_rfl))
  f217 := Tryz.func293.trans (congrArg some (by kernel_rfl))
  f218 := Tryz.func221.trans (congrArg some (by kernel_rfl))
  f219 := Tryz.func222.trans (congrArg some (by kernel_rfl))
  f224 := Tryz.func295.trans (congrArg some (by kernel_rfl))
  f225 := Tryz.func294.trans (congrArg some (by kernel_rfl))
  f266 := Tryz.func335.trans (congrArg some (by kernel_rfl))
  f267 := Tryz.func296.trans (congrArg some (by kernel_rfl))
  f314 := Tryz.func336.trans (congrArg some (by kernel_rfl))
  t0 := Tryz.underlying0
  a0 := Tryz.isAgg0
  z0 := Tryz.sizeOf0
  v0 := Tryz.zeroValue0
  t3 := Tryz.underlying3
  a3 := Tryz.isAgg3
  z3 := Tryz.sizeOf3
  v3 := Tryz.zeroValue3
  t4 := Tryz.underlying4
  a4 := Tryz.isAgg4
  z4 := Tryz.sizeOf4
  v4 := Tryz.zeroValue4
  t5 := Tryz.underlying5
  a5 := Tryz.isAgg5
  z5 := Tryz.sizeOf5
  v5 := Tryz.zeroValue5
  t9 := Tryz.underlying9
  a9 := Tryz.isAgg9
  z9 := Tryz.sizeOf9
  v9 := Tryz.zeroValue9
  t46 := Tryz.underlying262
  a46 := Tryz.isAgg262
  z46 := Tryz.sizeOf262
  v46 := Tryz.zeroValue262
  t51 := Tryz.underlying376
  a51 := Tryz.isAgg376
  z51 := Tryz.sizeOf376
  v51 := Tryz.zeroValue376
  t146 := Tryz.underlying377
  a146 := Tryz.isAgg377
  z146 := Tryz.sizeOf377
  v146 := Tryz.zeroValue377
  g1 := by kernel_rfl }
open Go.RowKit Go.Lib in
/-- strings.Count AT A substr OF ONE BYTE ('hp'): "Count counts the number of non-overlapping instances of substr in s.": IT RETURNS 'Lib.countByte s (that byte)'; the world is as it was. ✋ NO CONTRACT HERE YET at an empty substr (utf8.RuneCountInString) or at a longer one (a loop over strings.Index). (LAID: no walk: one application.) -/
theorem Tryz.strings_Count_one (s : ByteArray) (c : UInt8) (w : World) :
    Calls Tryz.prog 170 #[.string s, .string ⟨#[c]⟩] w fun e w' => e = .returned (.int .i64 (Lib.countByte s.data.toList c)) ∧ w' = w := Any.strings_Count_one Tryz.lays138 s c w
open Go.RowKit Go.Lib in
/-- strings.Count AT A substr OF TWO BYTES OR MORE: "Count counts the number of non-overlapping instances of substr in s.": IT RETURNS 'Lib.count s substr'; the world is as it was. (LAID: no walk: one application.) -/
theorem Tryz.strings_Count (s sub : ByteArray) (m : Int) (w : World) (hs : s.size < 4294967281) (hm : w.cell? ⟨0, 0, none⟩ = some (.int .i64 m)) (h2 : 2 ≤ sub.size) :
    Calls Tryz.prog 170 #[.string s, .string sub] w fun e w' => e = .returned (.int .i64 (Lib.countB s sub)) ∧ w' = w := Any.strings_Count Tryz.lays138 s sub m w hs hm h2
def Tryz.laysM219_ren : Go.Shelf.Ren := ⟨fun | 219 => 222 | 217 => 293 | 225 => 294 | 224 => 295 | 267 => 296 | 266 => 335 | 314 => 336 | n => n, fun | 9 => 9 | 3 => 3 | 4 => 4 | 5 => 5 | 46 => 262 | 146 => 377 | 51 => 376 | n => n, fun | 1 => 0 | n => n⟩
theorem Tryz.laysM219 : Go.Proofs.LaysM.n219 Tryz.prog Tryz.laysM219_ren := {
  mixed := by kernel_rfl
  f217 := Tryz.func293.trans (congrArg some (by kernel_rfl))
  f219 := Tryz.func222.trans (congrArg some (by kernel_rfl))
  f224 := Tryz.func295.trans (congrArg some (by kernel_rfl))
  f225 := Tryz.func294.trans (congrArg some (by kernel_rfl))
  f266 := Tryz.func335.trans (congrArg some (by kernel_rfl))
  f267 := Tryz.func296.trans (congrArg some (by kernel_rfl))
  f314 := Tryz.func336.trans (congrArg some (by kernel_rfl))
  t3 := Tryz.underlying3
  a3 := Tryz.isAgg3
  z3 := Tryz.sizeOf3
  v3 := Tryz.zeroValue3
  t4 := Tryz.underlying4
  a4 := Tryz.isAgg4
  z4 := Tryz.sizeOf4
  v4 := Tryz.zeroValue4
  t5 := Tryz.underlying5
  a5 := Tryz.isAgg5
  z5 := Tryz.sizeOf5
  v5 := Tryz.zeroValue5
  t9 := Tryz.underlying9
  a9 := Tryz.isAgg9
  z9 := Tryz.sizeOf9
  v9 := Tryz.zeroValue9
  t46 := Tryz.underlying262
  a46 := Tryz.isAgg262
  z46 := Tryz.sizeOf262
  v46 := Tryz.zeroValue262
  t51 := Tryz.underlying376
  a51 := Tryz.isAgg376
  z51 := Tryz.sizeOf376
  v51 := Tryz.zeroValue376
  t146 := Tryz.underlying377
  a146 := Tryz.isAgg377
  z146 := Tryz.sizeOf377
  v146 := Tryz.zeroValue377
  g1 := by kernel_rfl
  i3 := by kernel_rfl
  i4 := by kernel_rfl
  i5 := by kernel_rfl
  i9 := by kernel_rfl
  i46 := by kernel_rfl
  i51 := by kernel_rfl
  i146 := by kernel_rfl
  m1 := by kernel_rfl
  s1_3 := fun w h => Go.Proofs.cell_of_shapedOpen_int (zero := #[.int .i64 0]) (t := 3) h (of_decide_eq_true (by kernel_rfl)) (by kernel_rfl) rfl (by kernel_rfl) (by kernel_rfl) Tryz.underlying3 }
open Go.RowKit Go.Lib in
theorem Tryz.stringslite_Index_shaped (s sub : ByteArray) (w : World) (h : w.ShapedOpen Tryz.prog) (hs : s.size < 4294967281) :
    Calls Tryz.prog 222 #[.string s, .string sub] w fun e w' => e = .returned (.int .i64 (Lib.index s.data.toList sub.data.toList)) ∧ w' = w := Any.stringslite_Index_shaped Tryz.laysM219 s sub w h hs
def Tryz.laysM143_ren : Go.Shelf.Ren := ⟨fun | 143 => 171 | 219 => 222 | 217 => 293 | 225 => 294 | 224 => 295 | 267 => 296 | 266 => 335 | 314 => 336 | n => n, fun | 9 => 9 | 3 => 3 | 4 => 4 | 5 => 5 | 46 => 262 | 146 => 377 | 51 => 376 | n => n, fun | 1 => 0 | n => n⟩
theorem Tryz.laysM143 : Go.Proofs.LaysM.n143 Tryz.prog Tryz.laysM143_ren := {
  mixed := by kernel_rfl
  f143 := Tryz.func171.trans (congrArg some (by kernel_rfl))
  f217 := Tryz.func293.trans (congrArg some (by kernel_rfl))
  f219 := Tryz.func222.trans (congrArg some (by kernel_rfl))
  f224 := Tryz.func295.trans (congrArg some (by kernel_rfl))
  f225 := Tryz.func294.trans (congrArg some (by kernel_rfl))
  f266 := Tryz.func335.trans (congrArg some (by kernel_rfl))
  f267 := Tryz.func296.trans (congrArg some (by kernel_rfl))
  f314 := Tryz.func336.trans (congrArg some (by kernel_rfl))
  t3 := Tryz.underlying3
  a3 := Tryz.isAgg3
  z3 := Tryz.sizeOf3
  v3 := Tryz.zeroValue3
  t4 := Tryz.underlying4
  a4 := Tryz.isAgg4
  z4 := Tryz.sizeOf4
  v4 := Tryz.zeroValue4
  t5 := Tryz.underlying5
  a5 := Tryz.isAgg5
  z5 := Tryz.sizeOf5
  v5 := Tryz.zeroValue5
  t9 := Tryz.underlying9
  a9 := Tryz.isAgg9
  z9 := Tryz.sizeOf9
  v9 := Tryz.zeroValue9
  t46 := Tryz.underlying262
  a46 := Tryz.isAgg262
  z46 := Tryz.sizeOf262
  v46 := Tryz.zeroValue262
  t51 := Tryz.underlying376
  a51 := Tryz.isAgg376
  z51 := Tryz.sizeOf376
  v51 := Tryz.zeroValue376
  t146 := Tryz.underlying377
  a146 := Tryz.isAgg377
  z146 := Tryz.sizeOf377
  v146 := Tryz.zeroValue377
  g1 := by kernel_rfl
  i3 := by kernel_rfl
  i4 := by kernel_rfl
  i5 := by kernel_rfl
  i9 := by kernel_rfl
  i46 := by kernel_rfl
  i51 := by kernel_rfl
  i146 := by kernel_rfl
  m1 := by kernel_rfl
  s1_3 := fun w h => Go.Proofs.cell_of_shapedOpen_int (zero := #[.int .i64 0]) (t := 3) h (of_decide_eq_true (by kernel_rfl)) (by kernel_rfl) rfl (by kernel_rfl) (by kernel_rfl) Tryz.underlying3 }
open Go.RowKit Go.Lib in
theorem Tryz.strings_Index_shaped (s sub : ByteArray) (w : World) (h : w.ShapedOpen Tryz.prog) (hs : s.size < 4294967281) :
    Calls Tryz.prog 171 #[.string s, .string sub] w fun e w' => e = .returned (.int .i64 (Lib.index s.data.toList sub.data.toList)) ∧ w' = w := Any.strings_Index_shaped Tryz.laysM143 s sub w h hs
def Tryz.laysM138_ren : Go.Shelf.Ren := ⟨fun | 138 => 170 | 195 => 219 | 218 => 221 | 143 => 171 | 219 => 222 | 217 => 293 | 225 => 294 | 224 => 295 | 267 => 296 | 266 => 335 | 314 => 336 | n => n, fun | 9 => 9 | 3 => 3 | 4 => 4 | 5 => 5 | 0 => 0 | 46 => 262 | 146 => 377 | 51 => 376 | n => n, fun | 1 => 0 | n => n⟩
theorem Tryz.laysM138 : Go.Proofs.LaysM.n138 Tryz.prog Tryz.laysM138_ren := {
  mixed := by kernel_rfl
  f138 := Tryz.func170.trans (congrArg some (by kernel_rfl))
  f143 := Tryz.func171.trans (congrArg some (by kernel_rfl))
  f195 := Tryz.func219.trans (congrArg some (by kernel_rfl))
  f217 := Tryz.func293.trans (congrArg some (by kernel_rfl))
  f218 := Tryz.func221.trans (congrArg some (by kernel_rfl))
  f219 := Tryz.func222.trans (congrArg some (by kernel_rfl))
  f224 := Tryz.func295.trans (congrArg some (by kernel_rfl))
  f225 := Tryz.func294.trans (congrArg some (by kernel_rfl))
  f266 := Tryz.func335.trans (congrArg some (by kernel_rfl))
  f267 := Tryz.func296.trans (congrArg some (by kernel_rfl))
  f314 := Tryz.func336.trans (congrArg some (by kernel_rfl))
  t0 := Tryz.underlying0
  a0 := Tryz.isAgg0
  z0 := Tryz.sizeOf0
  v0 := Tryz.zeroValue0
  t3 := Tryz.underlying3
  a3 := Tryz.isAgg3
  z3 := Tryz.sizeOf3
  v3 := Tryz.zeroValue3
  t4 := Tryz.underlying4
  a4 := Tryz.isAgg4
  z4 := Tryz.sizeOf4
  v4 := Tryz.zeroValue4
  t5 := Tryz.underlying5
  a5 := Tryz.isAgg5
  z5 := Tryz.sizeOf5
  v5 := Tryz.zeroValue5
  t9 := Tryz.underlying9
  a9 := Tryz.isAgg9
  z9 := Tryz.sizeOf9
  v9 := Tryz.zeroValue9
  t46 := Tryz.underlying262
  a46 := Tryz.isAgg262
  z46 := Tryz.sizeOf262
  v46 := Tryz.zeroValue262
  t51 := Tryz.underlying376
  a51 := Tryz.isAgg376
  z51 := Tryz.sizeOf376
  v51 := Tryz.zeroValue376
  t146 := Tryz.underlying377
  a146 := Tryz.isAgg377
  z146 := Tryz.sizeOf377
  v146 := Tryz.zeroValue377
  g1 := by kernel_rfl
  i0 := by kernel_rfl
  i3 := by kernel_rfl
  i4 := by kernel_rfl
  i5 := by kernel_rfl
  i9 := by kernel_rfl
  i46 := by kernel_rfl
  i51 := by kernel_rfl
  i146 := by kernel_rfl
  m1 := by kernel_rfl
  s1_3 := fun w h => Go.Proofs.cell_of_shapedOpen_int (zero := #[.int .i64 0]) (t := 3) h (of_decide_eq_true (by kernel_rfl)) (by kernel_rfl) rfl (by kernel_rfl) (by kernel_rfl) Tryz.underlying3 }
open Go.RowKit Go.Lib in
theorem Tryz.strings_Count_shaped (s sub : ByteArray) (w : World) (h : w.ShapedOpen Tryz.prog) (hs : s.size < 4294967281) (h2 : 2 ≤ sub.size) :
    Calls Tryz.prog 170 #[.string s, .string sub] w fun e w' => e = .returned (.int .i64 (Lib.countB s sub)) ∧ w' = w := Any.strings_Count_shaped Tryz.laysM138 s sub w h hs h2
def Tryz.lays206_ren : Go.Shelf.Ren := ⟨fun | 206 => 297 | n => n, fun | 9 => 9 | 4 => 4 | 3 => 3 | n => n, fun | n => n⟩
theorem Tryz.lays206 : Go.Proofs.Lays.n206 Tryz.prog Tryz.lays206_ren := {
  mixed := by kernel_rfl
  f206 := Tryz.func297.trans (congrArg some (by kernel_rfl))
  t3 := Tryz.underlying3
  a3 := Tryz.isAgg3
  z3 := Tryz.sizeOf3
  v3 := Tryz.zeroValue3
  t4 := Tryz.underlying4
  a4 := Tryz.isAgg4
  z4 := Tryz.sizeOf4
  v4 := Tryz.zeroValue4
  t9 := Tryz.underlying9
  a9 := Tryz.isAgg9
  z9 := Tryz.sizeOf9
  v9 := Tryz.zeroValue9 }
open Go.RowKit Go.Lib in
/-- internal/stringslite.HasPrefix (what strings.HasPrefix calls). (LAID: no walk: one application.) -/
theorem Tryz.stringslite_HasPrefix (s p : ByteArray) (w : World) :
    Calls Tryz.prog 297 #[.string s, .string p] w fun e w' => e = .returned (.bool (Lib.hasPrefix s.data.toList p.data.toList)) ∧ w' = w := Any.stringslite_HasPrefix Tryz.lays206 s p w
open Go.RowKit Go.Lib in
/-- strings.Count at whatever sep that is not empty: the two roads under one statement. (LAID: no walk: one application.) -/
theorem Tryz.strings_Count_any (s sep : ByteArray) (m : Int) (w : World) (hs : s.size < 4294967281) (hm : w.cell? ⟨0, 0, none⟩ = some (.int .i64 m)) (h1 : 1 ≤ sep.size) :
    Calls Tryz.prog 170 #[.string s, .string sep] w fun e w' => e = .returned (.int .i64 (Lib.countB s sep)) ∧ w' = w := Any.strings_Count_any Tryz.lays138 s sep m w hs hm h1
def Tryz.lays221_ren : Go.Shelf.Ren := ⟨fun | 221 => 122 | 268 => 169 | 138 => 170 | 143 => 171 | 195 => 219 | 197 => 220 | 218 => 221 | 219 => 222 | 260 => 292 | 217 => 293 | 225 => 294 | 224 => 295 | 267 => 296 | 266 => 335 | 314 => 336 | n => n, fun | 9 => 9 | 3 => 3 | 31 => 38 | 4 => 4 | 0 => 0 | 105 => 288 | 21 => 21 | 5 => 5 | 46 => 262 | 119 => 372 | 139 => 375 | 138 => 374 | 146 => 377 | 51 => 376 | n => n, fun | 1 => 0 | 3 => 1 | 4 => 2 | n => n⟩
theorem Tryz.lays221 : Go.Proofs.Lays.n221 Tryz.prog Tryz.lays221_ren := {
  mixed := by kernel_rfl
  f138 := Tryz.func170.trans (congrArg some (by kernel_rfl))
  f143 := Tryz.func171.trans (congrArg some (by kernel_rfl))
  f195 := Tryz.func219.trans (congrArg some (by kernel_rfl))
  f197 := Tryz.func220.trans (congrArg some (by kernel_rfl))
  f217 := Tryz.func293.trans (congrArg some (by kernel_rfl))
  f218 := Tryz.func221.trans (congrArg some (by kernel_rfl))
  f219 := Tryz.func222.trans (congrArg some (by kernel_rfl))
  f221 := Tryz.func122.trans (congrArg some (by kernel_rfl))
  f224 := Tryz.func295.trans (congrArg some (by kernel_rfl))
  f225 := Tryz.func294.trans (congrArg some (by kernel_rfl))
  f260 := Tryz.func292.trans (congrArg some (by kernel_rfl))
  f266 := Tryz.func335.trans (congrArg some (by kernel_rfl))
  f267 := Tryz.func296.trans (congrArg some (by kernel_rfl))
  f268 := Tryz.func169.trans (congrArg some (by kernel_rfl))
  f314 := Tryz.func336.trans (congrArg some (by kernel_rfl))
  t0 := Tryz.underlying0
  a0 := Tryz.isAgg0
  z0 := Tryz.sizeOf0
  v0 := Tryz.zeroValue0
  t3 := Tryz.underlying3
  a3 := Tryz.isAgg3
  z3 := Tryz.sizeOf3
  v3 := Tryz.zeroValue3
  t4 := Tryz.underlying4
  a4 := Tryz.isAgg4
  z4 := Tryz.sizeOf4
  v4 := Tryz.zeroValue4
  t5 := Tryz.underlying5
  a5 := Tryz.isAgg5
  z5 := Tryz.sizeOf5
  v5 := Tryz.zeroValue5
  t9 := Tryz.underlying9
  a9 := Tryz.isAgg9
  z9 := Tryz.sizeOf9
  v9 := Tryz.zeroValue9
  t21 := Tryz.underlying21
  a21 := Tryz.isAgg21
  z21 := Tryz.sizeOf21
  v21 := Tryz.zeroValue21
  t31 := Tryz.underlying38
  a31 := Tryz.isAgg38
  z31 := Tryz.sizeOf38
  v31 := Tryz.zeroValue38
  t46 := Tryz.underlying262
  a46 := Tryz.isAgg262
  z46 := Tryz.sizeOf262
  v46 := Tryz.zeroValue262
  t51 := Tryz.underlying376
  a51 := Tryz.isAgg376
  z51 := Tryz.sizeOf376
  v51 := Tryz.zeroValue376
  t105 := Tryz.underlying288
  a105 := Tryz.isAgg288
  z105 := Tryz.sizeOf288
  v105 := Tryz.zeroValue288
  t119 := Tryz.underlying372
  a119 := Tryz.isAgg372
  z119 := Tryz.sizeOf372
  t138 := Tryz.underlying374
  a138 := Tryz.isAgg374
  z138 := Tryz.sizeOf374
  v138 := Tryz.zeroValue374
  t139 := Tryz.underlying375
  a139 := Tryz.isAgg375
  z139 := Tryz.sizeOf375
  v139 := Tryz.zeroValue375
  t146 := Tryz.underlying377
  a146 := Tryz.isAgg377
  z146 := Tryz.sizeOf377
  v146 := Tryz.zeroValue377
  g1 := by kernel_rfl
  g3 := by kernel_rfl
  g4 := by kernel_rfl }
open Go.RowKit Go.Lib in
theorem Tryz.strings_genSplit (s sep : ByteArray) (sv : Nat) (n : Int) (N : Nat) (m : Int) (w : World) (hs : s.size < 4294967281) (hm : w.cell? ⟨0, 0, none⟩ = some (.int .i64 m)) (h1 : 1 ≤ sep.size) (hsv : sv ≤ sep.size) (hn0 : n ≠ 0) (hn63 : n ≤ 9223372036854775807) (hN : (N : Int) = min (if n < 0 then (Lib.countB s sep : Int) + 1 else n) ((s.size : Int) + 1)) :
    Calls Tryz.prog 122 #[.string s, .string sep, .int .i64 sv, .int .i64 n] w fun e w' =>
      e = .returned (.slice (some ⟨w.heap.size, 0, none⟩) (Lib.splitB sep sv (N - 1) s).length N) ∧ w' = w.alloc (.cells (Lib.cellsOf (Lib.splitB sep sv (N - 1) s) N) 9) := Any.strings_genSplit Tryz.lays221 (by kernel_rfl) s sep sv n N m w hs hm h1 hsv hn0 hn63 hN
def Tryz.lays146_ren : Go.Shelf.Ren := ⟨fun | 146 => 72 | 221 => 122 | 268 => 169 | 138 => 170 | 143 => 171 | 195 => 219 | 197 => 220 | 218 => 221 | 219 => 222 | 260 => 292 | 217 => 293 | 225 => 294 | 224 => 295 | 267 => 296 | 266 => 335 | 314 => 336 | n => n, fun | 9 => 9 | 31 => 38 | 3 => 3 | 4 => 4 | 0 => 0 | 105 => 288 | 21 => 21 | 5 => 5 | 46 => 262 | 119 => 372 | 139 => 375 | 138 => 374 | 146 => 377 | 51 => 376 | n => n, fun | 1 => 0 | 3 => 1 | 4 => 2 | n => n⟩
theorem Tryz.lays146 : Go.Proofs.Lays.n146 Tryz.prog Tryz.lays146_ren := {
  mixed := by kernel_rfl
  f138 := Tryz.func170.trans (congrArg some (by kernel_rfl))
  f143 := Tryz.func171.trans (congrArg some (by kernel_rfl))
  f146 := Tryz.func72.trans (congrArg some (by kernel_rfl))
  f195 := Tryz.func219.trans (congrArg some (by kernel_rfl))
  f197 := Tryz.func220.trans (congrArg some (by kernel_rfl))
  f217 := Tryz.func293.trans (congrArg some (by kernel_rfl))
  f218 := Tryz.func221.trans (congrArg some (by kernel_rfl))
  f219 := Tryz.func222.trans (congrArg some (by kernel_rfl))
  f221 := Tryz.func122.trans (congrArg some (by kernel_rfl))
  f224 := Tryz.func295.trans (congrArg some (by kernel_rfl))
  f225 := Tryz.func294.trans (congrArg some (by kernel_rfl))
  f260 := Tryz.func292.trans (congrArg some (by kernel_rfl))
  f266 := Tryz.func335.trans (congrArg some (by kernel_rfl))
  f267 := Tryz.func296.trans (congrArg some (by kernel_rfl))
  f268 := Tryz.func169.trans (congrArg some (by kernel_rfl))
  f314 := Tryz.func336.trans (congrArg some (by kernel_rfl))
  t0 := Tryz.underlying0
  a0 := Tryz.isAgg0
  z0 := Tryz.sizeOf0
  v0 := Tryz.zeroValue0
  t3 := Tryz.underlying3
  a3 := Tryz.isAgg3
  z3 := Tryz.sizeOf3
  v3 := Tryz.zeroValue3
  t4 := Tryz.underlying4
  a4 := Tryz.isAgg4
  z4 := Tryz.sizeOf4
  v4 := Tryz.zeroValue4
  t5 := Tryz.underlying5
  a5 := Tryz.isAgg5
  z5 := Tryz.sizeOf5
  v5 := Tryz.zeroValue5
  t9 := Tryz.underlying9
  a9 := Tryz.isAgg9
  z9 := Tryz.sizeOf9
  v9 := Tryz.zeroValue9
  t21 := Tryz.underlying21
  a21 := Tryz.isAgg21
  z21 := Tryz.sizeOf21
  v21 := Tryz.zeroValue21
  t31 := Tryz.underlying38
  a31 := Tryz.isAgg38
  z31 := Tryz.sizeOf38
  v31 := Tryz.zeroValue38
  t46 := Tryz.underlying262
  a46 := Tryz.isAgg262
  z46 := Tryz.sizeOf262
  v46 := Tryz.zeroValue262
  t51 := Tryz.underlying376
  a51 := Tryz.isAgg376
  z51 := Tryz.sizeOf376
  v51 := Tryz.zeroValue376
  t105 := Tryz.underlying288
  a105 := Tryz.isAgg288
  z105 := Tryz.sizeOf288
  v105 := Tryz.zeroValue288
  t119 := Tryz.underlying372
  a119 := Tryz.isAgg372
  z119 := Tryz.sizeOf372
  t138 := Tryz.underlying374
  a138 := Tryz.isAgg374
  z138 := Tryz.sizeOf374
  v138 := Tryz.zeroValue374
  t139 := Tryz.underlying375
  a139 := Tryz.isAgg375
  z139 := Tryz.sizeOf375
  v139 := Tryz.zeroValue375
  t146 := Tryz.underlying377
  a146 := Tryz.isAgg377
  z146 := Tryz.sizeOf377
  v146 := Tryz.zeroValue377
  g1 := by kernel_rfl
  g3 := by kernel_rfl
  g4 := by kernel_rfl }
open Go.RowKit Go.Lib in
/-- strings.Split. (LAID: no walk: one application.) -/
theorem Tryz.strings_Split (s sep : ByteArray) (m : Int) (w : World) (hs : s.size < 4294967281) (hm : w.cell? ⟨0, 0, none⟩ = some (.int .i64 m)) (h1 : 1 ≤ sep.size) :
    Calls Tryz.prog 72 #[.string s, .string sep] w fun e w' =>
      e = .returned (.slice (some ⟨w.heap.size, 0, none⟩) (Lib.countB s sep + 1) (Lib.countB s sep + 1)) ∧ w' = w.alloc (.cells ((Lib.splitB sep 0 (Lib.countB s sep) s).map Value.string).toArray 9) := Any.strings_Split Tryz.lays146 (by kernel_rfl) s sep m w hs hm h1
def Tryz.laysM146_ren : Go.Shelf.Ren := ⟨fun | 146 => 72 | 221 => 122 | 268 => 169 | 138 => 170 | 143 => 171 | 195 => 219 | 197 => 220 | 218 => 221 | 219 => 222 | 260 => 292 | 217 => 293 | 225 => 294 | 224 => 295 | 267 => 296 | 266 => 335 | 314 => 336 | n => n, fun | 9 => 9 | 31 => 38 | 3 => 3 | 4 => 4 | 0 => 0 | 105 => 288 | 21 => 21 | 5 => 5 | 46 => 262 | 119 => 372 | 139 => 375 | 138 => 374 | 146 => 377 | 51 => 376 | n => n, fun | 1 => 0 | 3 => 1 | 4 => 2 | n => n⟩
theorem Tryz.laysM146 : Go.Proofs.LaysM.n146 Tryz.prog Tryz.laysM146_ren := {
  mixed := by kernel_rfl
  f138 := Tryz.func170.trans (congrArg some (by kernel_rfl))
  f143 := Tryz.func171.trans (congrArg some (by kernel_rfl))
  f146 := Tryz.func72.trans (congrArg some (by kernel_rfl))
  f195 := Tryz.func219.trans (congrArg some (by kernel_rfl))
  f197 := Tryz.func220.trans (congrArg some (by kernel_rfl))
  f217 := Tryz.func293.trans (congrArg some (by kernel_rfl))
  f218 := Tryz.func221.trans (congrArg some (by kernel_rfl))
  f219 := Tryz.func222.trans (congrArg some (by kernel_rfl))
  f221 := Tryz.func122.trans (congrArg some (by kernel_rfl))
  f224 := Tryz.func295.trans (congrArg some (by kernel_rfl))
  f225 := Tryz.func294.trans (congrArg some (by kernel_rfl))
  f260 := Tryz.func292.trans (congrArg some (by kernel_rfl))
  f266 := Tryz.func335.trans (congrArg some (by kernel_rfl))
  f267 := Tryz.func296.trans (congrArg some (by kernel_rfl))
  f268 := Tryz.func169.trans (congrArg some (by kernel_rfl))
  f314 := Tryz.func336.trans (congrArg some (by kernel_rfl))
  t0 := Tryz.underlying0
  a0 := Tryz.isAgg0
  z0 := Tryz.sizeOf0
  v0 := Tryz.zeroValue0
  t3 := Tryz.underlying3
  a3 := Tryz.isAgg3
  z3 := Tryz.sizeOf3
  v3 := Tryz.zeroValue3
  t4 := Tryz.underlying4
  a4 := Tryz.isAgg4
  z4 := Tryz.sizeOf4
  v4 := Tryz.zeroValue4
  t5 := Tryz.underlying5
  a5 := Tryz.isAgg5
  z5 := Tryz.sizeOf5
  v5 := Tryz.zeroValue5
  t9 := Tryz.underlying9
  a9 := Tryz.isAgg9
  z9 := Tryz.sizeOf9
  v9 := Tryz.zeroValue9
  t21 := Tryz.underlying21
  a21 := Tryz.isAgg21
  z21 := Tryz.sizeOf21
  v21 := Tryz.zeroValue21
  t31 := Tryz.underlying38
  a31 := Tryz.isAgg38
  z31 := Tryz.sizeOf38
  v31 := Tryz.zeroValue38
  t46 := Tryz.underlying262
  a46 := Tryz.isAgg262
  z46 := Tryz.sizeOf262
  v46 := Tryz.zeroValue262
  t51 := Tryz.underlying376
  a51 := Tryz.isAgg376
  z51 := Tryz.sizeOf376
  v51 := Tryz.zeroValue376
  t105 := Tryz.underlying288
  a105 := Tryz.isAgg288
  z105 := Tryz.sizeOf288
  v105 := Tryz.zeroValue288
  t119 := Tryz.underlying372
  a119 := Tryz.isAgg372
  z119 := Tryz.sizeOf372
  t138 := Tryz.underlying374
  a138 := Tryz.isAgg374
  z138 := Tryz.sizeOf374
  v138 := Tryz.zeroValue374
  t139 := Tryz.underlying375
  a139 := Tryz.isAgg375
  z139 := Tryz.sizeOf375
  v139 := Tryz.zeroValue375
  t146 := Tryz.underlying377
  a146 := Tryz.isAgg377
  z146 := Tryz.sizeOf377
  v146 := Tryz.zeroValue377
  g1 := by kernel_rfl
  g3 := by kernel_rfl
  g4 := by kernel_rfl
  i0 := by kernel_rfl
  i3 := by kernel_rfl
  i4 := by kernel_rfl
  i5 := by kernel_rfl
  i9 := by kernel_rfl
  i21 := by kernel_rfl
  i31 := by kernel_rfl
  i46 := by kernel_rfl
  i51 := by kernel_rfl
  i105 := by kernel_rfl
  i138 := by kernel_rfl
  i139 := by kernel_rfl
  i146 := by kernel_rfl
  m1 := by kernel_rfl
  s1_3 := fun w h => Go.Proofs.cell_of_shapedOpen_int (zero := #[.int .i64 0]) (t := 3) h (of_decide_eq_true (by kernel_rfl)) (by kernel_rfl) rfl (by kernel_rfl) (by kernel_rfl) Tryz.underlying3
  m3 := by kernel_rfl
  m4 := by kernel_rfl }
open Go.RowKit Go.Lib in
/-- strings.Split, sep not empty. (LAID: no walk: one application.) -/
theorem Tryz.strings_Split_shaped (s sep : ByteArray) (w : World) (h : w.ShapedOpen Tryz.prog) (hs : s.size < 4294967281) (h1 : 1 ≤ sep.size) :
    Calls Tryz.prog 72 #[.string s, .string sep] w fun e w' =>
      e = .returned (.slice (some ⟨w.heap.size, 0, none⟩) (Lib.countB s sep + 1) (Lib.countB s sep + 1)) ∧ w' = w.alloc (.cells ((Lib.splitB sep 0 (Lib.countB s sep) s).map Value.string).toArray 9) := Any.strings_Split_shaped Tryz.laysM146 s sep w h hs h1
def Tryz.lays264_ren : Go.Shelf.Ren := ⟨fun | 264 => 327 | n => n, fun | 53 => 178 | 46 => 262 | n => n, fun | n => n⟩
theorem Tryz.lays264 : Go.Proofs.Lays.n264 Tryz.prog Tryz.lays264_ren := {
  mixed := by kernel_rfl
  f264 := Tryz.func327.trans (congrArg some (by kernel_rfl))
  t46 := Tryz.underlying262
  a46 := Tryz.isAgg262
  z46 := Tryz.sizeOf262
  v46 := Tryz.zeroValue262
  t53 := Tryz.underlying178
  a53 := Tryz.isAgg178
  z53 := Tryz.sizeOf178
  v53 := Tryz.zeroValue178 }
open Go.RowKit Go.Lib in
theorem Tryz.bits_Mul64 (x y : Nat) (hx : x < 18446744073709551616) (hy : y < 18446744073709551616) (w : World) :
    Calls Tryz.prog 327 #[.int .u64 x, .int .u64 y] w fun e w' => e = .returned (.tuple #[.int .u64 ((x * y / 18446744073709551616 : Nat) : Int), .int .u64 ((x * y % 18446744073709551616 : Nat) : Int)]) ∧ w' = w := Any.bits_Mul64 Tryz.lays264 x y hx hy w
def Tryz.lays260_ren : Go.Shelf.Ren := ⟨fun | 260 => 292 | n => n, fun | 9 => 9 | 21 => 21 | 3 => 3 | 4 => 4 | 5 => 5 | 119 => 372 | 0 => 0 | 46 => 262 | 139 => 375 | 138 => 374 | n => n, fun | 3 => 1 | 4 => 2 | n => n⟩
theorem Tryz.lays260 : Go.Proofs.Lays.n260 Tryz.prog Tryz.lays260_ren := {
  mixed := by kernel_rfl
  f260 := Tryz.func292.trans (congrArg some (by kernel_rfl))
  t0 := Tryz.underlying0
  a0 := Tryz.isAgg0
  z0 := Tryz.sizeOf0
  v0 := Tryz.zeroValue0
  t3 := Tryz.underlying3
  a3 := Tryz.isAgg3
  z3 := Tryz.sizeOf3
  v3 := Tryz.zeroValue3
  t4 := Tryz.underlying4
  a4 := Tryz.isAgg4
  z4 := Tryz.sizeOf4
  v4 := Tryz.zeroValue4
  t5 := Tryz.underlying5
  a5 := Tryz.isAgg5
  z5 := Tryz.sizeOf5
  v5 := Tryz.zeroValue5
  t9 := Tryz.underlying9
  a9 := Tryz.isAgg9
  z9 := Tryz.sizeOf9
  v9 := Tryz.zeroValue9
  t21 := Tryz.underlying21
  a21 := Tryz.isAgg21
  z21 := Tryz.sizeOf21
  v21 := Tryz.zeroValue21
  t46 := Tryz.underlying262
  a46 := Tryz.isAgg262
  z46 := Tryz.sizeOf262
  v46 := Tryz.zeroValue262
  t119 := Tryz.underlying372
  a119 := Tryz.isAgg372
  z119 := Tryz.sizeOf372
  t138 := Tryz.underlying374
  a138 := Tryz.isAgg374
  z138 := Tryz.sizeOf374
  v138 := Tryz.zeroValue374
  t139 := Tryz.underlying375
  a139 := Tryz.isAgg375
  z139 := Tryz.sizeOf375
  v139 := Tryz.zeroValue375
  g3 := by kernel_rfl
  g4 := by kernel_rfl }
open Go.RowKit Go.Lib in
theorem Tryz.utf8_decodeRuneInStringSlow (s : ByteArray) (w : World) (hT : Lib.Utf8Tabs 1 2 w) :
    Calls Tryz.prog 292 #[.string s] w fun e w' => e = .returned (.tuple #[.int .i32 (Lib.decodeGo s).1, .int .i64 (Lib.decodeGo s).2]) ∧ Below w.heap.size w w' := Any.utf8_decodeRuneInStringSlow Tryz.lays260 s w hT
def Tryz.lays197_ren : Go.Shelf.Ren := ⟨fun | 197 => 220 | 260 => 292 | n => n, fun | 9 => 9 | 21 => 21 | 3 => 3 | 4 => 4 | 5 => 5 | 105 => 288 | 119 => 372 | 0 => 0 | 46 => 262 | 139 => 375 | 138 => 374 | n => n, fun | 3 => 1 | 4 => 2 | n => n⟩
theorem Tryz.lays197 : Go.Proofs.Lays.n197 Tryz.prog Tryz.lays197_ren := {
  mixed := by kernel_rfl
  f197 := Tryz.func220.trans (congrArg some (by kernel_rfl))
  f260 := Tryz.func292.trans (congrArg some (by kernel_rfl))
  t0 := Tryz.underlying0
  a0 := Tryz.isAgg0
  z0 := Tryz.sizeOf0
  v0 := Tryz.zeroValue0
  t3 := Tryz.underlying3
  a3 := Tryz.isAgg3
  z3 := Tryz.sizeOf3
  v3 := Tryz.zeroValue3
  t4 := Tryz.underlying4
  a4 := Tryz.isAgg4
  z4 := Tryz.sizeOf4
  v4 := Tryz.zeroValue4
  t5 := Tryz.underlying5
  a5 := Tryz.isAgg5
  z5 := Tryz.sizeOf5
  v5 := Tryz.zeroValue5
  t9 := Tryz.underlying9
  a9 := Tryz.isAgg9
  z9 := Tryz.sizeOf9
  v9 := Tryz.zeroValue9
  t21 := Tryz.underlying21
  a21 := Tryz.isAgg21
  z21 := Tryz.sizeOf21
  v21 := Tryz.zeroValue21
  t46 := Tryz.underlying262
  a46 := Tryz.isAgg262
  z46 := Tryz.sizeOf262
  v46 := Tryz.zeroValue262
  t105 := Tryz.underlying288
  a105 := Tryz.isAgg288
  z105 := Tryz.sizeOf288
  v105 := Tryz.zeroValue288
  t119 := Tryz.underlying372
  a119 := Tryz.isAgg372
  z119 := Tryz.sizeOf372
  t138 := Tryz.underlying374
  a138 := Tryz.isAgg374
  z138 := Tryz.sizeOf374
  v138 := Tryz.zeroValue374
  t139 := Tryz.underlying375
  a139 := Tryz.isAgg375
  z139 := Tryz.sizeOf375
  v139 := Tryz.zeroValue375
  g3 := by kernel_rfl
  g4 := by kernel_rfl }
open Go.RowKit Go.Lib in
/-- **unicode/utf8.DecodeRuneInString AT EVERY STRING.** (LAID: no walk: one application.) -/
theorem Tryz.utf8_DecodeRuneInString (s : ByteArray) (w : World) (hT : Lib.Utf8Tabs 1 2 w) :
    Calls Tryz.prog 220 #[.string s] w fun e w' => e = .returned (.tuple #[.int .i32 (Lib.decodeGo s).1, .int .i64 (Lib.decodeGo s).2]) ∧ Below w.heap.size w w' := Any.utf8_DecodeRuneInString Tryz.lays197 s w hT
def Tryz.lays229_ren : Go.Shelf.Ren := ⟨fun | 229 => 44 | n => n, fun | 9 => 9 | 40 => 110 | 31 => 38 | 152 => 137 | 3 => 3 | 0 => 0 | 4 => 4 | 21 => 21 | 154 => 139 | n => n, fun | n => n⟩
theorem Tryz.lays229 : Go.Proofs.Lays.n229 Tryz.prog Tryz.lays229_ren := {
  mixed := by kernel_rfl
  f229 := Tryz.func44.trans (congrArg some (by kernel_rfl))
  t0 := Tryz.underlying0
  a0 := Tryz.isAgg0
  z0 := Tryz.sizeOf0
  v0 := Tryz.zeroValue0
  t3 := Tryz.underlying3
  a3 := Tryz.isAgg3
  z3 := Tryz.sizeOf3
  v3 := Tryz.zeroValue3
  t4 := Tryz.underlying4
  a4 := Tryz.isAgg4
  z4 := Tryz.sizeOf4
  v4 := Tryz.zeroValue4
  t9 := Tryz.underlying9
  a9 := Tryz.isAgg9
  z9 := Tryz.sizeOf9
  v9 := Tryz.zeroValue9
  t21 := Tryz.underlying21
  a21 := Tryz.isAgg21
  z21 := Tryz.sizeOf21
  v21 := Tryz.zeroValue21
  t31 := Tryz.underlying38
  a31 := Tryz.isAgg38
  z31 := Tryz.sizeOf38
  v31 := Tryz.zeroValue38
  t40 := Tryz.underlying110
  a40 := Tryz.isAgg110
  z40 := Tryz.sizeOf110
  v40 := Tryz.zeroValue110
  t152 := Tryz.underlying137
  a152 := Tryz.isAgg137
  z152 := Tryz.sizeOf137
  v152 := Tryz.zeroValue137
  t154 := Tryz.underlying139
  a154 := Tryz.isAgg139
  z154 := Tryz.sizeOf139
  v154 := Tryz.zeroValue139 }
open Go.RowKit Go.Lib in
theorem Tryz.strings_FieldsFunc_runes (g : Nat) (lb : Array Value) (eg : ∀ args w, (callFunc g args).run Tryz.prog w = .ok (.enter g args) w) (p : Nat → Bool) (s : ByteArray) (w : World) (hs : s.size ≤ 4294967296) (hp : PredAtRunes Tryz.prog g lb p w) :
    Calls Tryz.prog 44 #[.string s, .func (.func g) #[] lb] w fun e w' => ∃ A, e = .returned (.slice (some ⟨A, 0, none⟩) (Lib.goFieldsP p s).length (Lib.goFieldsP p s).length) ∧ w.heap.size ≤ A ∧
      w'.ownsRow w.heap.size 9 1 (.slice (some ⟨A, 0, none⟩) (Lib.goFieldsP p s).length (Lib.goFieldsP p s).length) (Lib.goFieldsP p s).length ((Lib.goFieldsP p s).map Value.string) ∧ Below w.heap.size w w' := Any.strings_FieldsFunc_runes Tryz.lays229 g lb eg p s w hs hp (by kernel_rfl) (by kernel_rfl)
open Go.RowKit Go.Lib in
/-- .. over a hand of the authors' house's premise as it stands. (LAID: no walk: one application.) -/
theorem Tryz.strings_FieldsFunc (g : Nat) (lb : Array Value) (eg : ∀ args w, (callFunc g args).run Tryz.prog w = .ok (.enter g args) w) (p : Nat → Bool) (s : ByteArray) (w : World) (hs : s.size ≤ 4294967296) (hp : PredAt Tryz.prog g lb encR p w) :
    Calls Tryz.prog 44 #[.string s, .func (.func g) #[] lb] w fun e w' => ∃ A, e = .returned (.slice (some ⟨A, 0, none⟩) (Lib.goFieldsP p s).length (Lib.goFieldsP p s).length) ∧ w.heap.size ≤ A ∧
      w'.ownsRow w.heap.size 9 1 (.slice (some ⟨A, 0, none⟩) (Lib.goFieldsP p s).length (Lib.goFieldsP p s).length) (Lib.goFieldsP p s).length ((Lib.goFieldsP p s).map Value.string) ∧ Below w.heap.size w w' := Any.strings_FieldsFunc Tryz.lays229 g lb eg p s w hs hp (by kernel_rfl) (by kernel_rfl)
open Go.RowKit Go.Lib in
theorem Tryz.strings_FieldsFunc_grows (g : Nat) (lb : Array Value) (eg : ∀ args w, (callFunc g args).run Tryz.prog w = .ok (.enter g args) w) (p : Nat → Bool) (s : ByteArray) (w : World) (hs : s.size ≤ 4294967296) (hp : PredGrows Tryz.prog g lb p w) :
    Calls Tryz.prog 44 #[.string s, .func (.func g) #[] lb] w fun e w' => ∃ A, e = .returned (.slice (some ⟨A, 0, none⟩) (Lib.goFieldsP p s).length (Lib.goFieldsP p s).length) ∧ w.heap.size ≤ A ∧
      w'.ownsRow w.heap.size 9 1 (.slice (some ⟨A, 0, none⟩) (Lib.goFieldsP p s).length (Lib.goFieldsP p s).length) (Lib.goFieldsP p s).length ((Lib.goFieldsP p s).map Value.string) ∧ Below w.heap.size w w' := Any.strings_FieldsFunc_grows Tryz.lays229 g lb eg p s w hs hp (by kernel_rfl) (by kernel_rfl)
end Go.Proofs
end
