/-
  No cell of these rows narrows 'for every input' (looked for: loops, veiled, ifaces, maps, wideKeys, modest, calm, conditions, laid).
  DERIVED. THE GIVEN ROWS OF THIS SEAT. 8 by the template 'for every input the law returns true; each argument reads behind the call as it read before'; 0 by the template 'total and deterministic' (their statements: YtdlapfpjbcjaeaaTotals.lean).
  GIVEN WITH THE SEED: the statements are not yours to turn. If you find one false, say at which input.
  Laid BY PROGRAM, IN A SANDBOX (cutbox-rows.mjs): the forced cells as the released guide's own fill.sh prints them over the translation 497592ddf2ee023b… (all of the seat's roots in one cut). By AI agents, Wed Nov 11 2026. No macro, syntax, notation, axiom, sorry.
-/
import Derived.Test.YtdlapfpjbcjaeaaChecked
import GoSem.Claim
import GoSem.ClaimJoined
import GoSem.ClaimMapViews
import Derived.JoinedTies
import Derived.KernelRfl
namespace Go.Proofs.Ytdlapfpjbcjaeaa
/- THE CELL 'sum', in the pinned program and in every row, IS THE sha256 OF THE DUMP (.gsa) THAT YtdlapfpjbcjaeaaProg.lean LOADS. Nothing in Lean hashes anything: it is a label: what it is worth is what the hold of that sum in a sandbox is worth. -/
noncomputable def Try.pinned : Pinned := { name := "ytdlapfpjbcjaeaa", sum := "497592ddf2ee023bbb4b28d9cd6fcb3e0e5511a7daf3ceb9e676c7fa6fa78185", checked := Try.checked }
namespace Rows
def none {H : Type} : Left H := { results := [], args := [] }

/-- 'breccialaw03.CellDivs': WHATEVER THE INPUT: true; the input reads as it did. -/
def cellDivsSpec : ChangeSpec := { name := "cellDivs", fn := fun _ => fun
  | [d1, d2] => { results := [.lit (.bool true)], args := [d1, d2] }
  | _ => none }
def cellDivsRow : OpenClaim := { program := "ytdlapfpjbcjaeaa", sum := "497592ddf2ee023bbb4b28d9cd6fcb3e0e5511a7daf3ceb9e676c7fa6fa78185", func := "breccia/breccialaw03.CellDivs", spec := "cellDivs", apart := false }
def CellDivsSaid : Prop := cellDivsRow.holds Try.pinned (OpenSpec.ofChange cellDivsSpec)

/-- ITS FALSE NEIGHBOUR: 'it returns false'. Refute it at one input. -/
def cellDivsWrong : ChangeSpec := { name := "cellDivs", fn := fun _ => fun
  | [d1, d2] => { results := [.lit (.bool false)], args := [d1, d2] }
  | _ => none }
def CellDivsWrongFalsely : Prop := cellDivsRow.holds Try.pinned (OpenSpec.ofChange cellDivsWrong)

/-- 'breccialaw03.CellIndices': WHATEVER THE INPUT: true; the input reads as it did. -/
def cellIndicesSpec : ChangeSpec := { name := "cellIndices", fn := fun _ => fun
  | [d1, d2, d3] => { results := [.lit (.bool true)], args := [d1, d2, d3] }
  | _ => none }
def cellIndicesRow : OpenClaim := { program := "ytdlapfpjbcjaeaa", sum := "497592ddf2ee023bbb4b28d9cd6fcb3e0e5511a7daf3ceb9e676c7fa6fa78185", func := "breccia/breccialaw03.CellIndices", spec := "cellIndices", apart := false }
def CellIndicesSaid : Prop := cellIndicesRow.holds Try.pinned (OpenSpec.ofChange cellIndicesSpec)

/-- ITS FALSE NEIGHBOUR: 'it returns false'. Refute it at one input. -/
def cellIndicesWrong : ChangeSpec := { name := "cellIndices", fn := fun _ => fun
  | [d1, d2, d3] => { results := [.lit (.bool false)], args := [d1, d2, d3] }
  | _ => none }
def CellIndicesWrongFalsely : Prop := cellIndicesRow.holds Try.pinned (OpenSpec.ofChange cellIndicesWrong)

/-- 'breccialaw03.CellNear': WHATEVER THE INPUT: true; the input reads as it did. -/
def cellNearSpec : ChangeSpec := { name := "cellNear", fn := fun _ => fun
  | [d1, d2] => { results := [.lit (.bool true)], args := [d1, d2] }
  | _ => none }
def cellNearRow : OpenClaim := { program := "ytdlapfpjbcjaeaa", sum := "497592ddf2ee023bbb4b28d9cd6fcb3e0e5511a7daf3ceb9e676c7fa6fa78185", func := "breccia/breccialaw03.CellNear", spec := "cellNear", unfollowed := true, recurses := true, apart := false }
def CellNearSaid : Prop := cellNearRow.holds Try.pinned (OpenSpec.ofChange cellNearSpec)

/-- ITS FALSE NEIGHBOUR: 'it returns false'. Refute it at one input. -/
def cellNearWrong : ChangeSpec := { name := "cellNear", fn := fun _ => fun
  | [d1, d2] => { results := [.lit (.bool false)], args := [d1, d2] }
  | _ => none }
def CellNearWrongFalsely : Prop := cellNearRow.holds Try.pinned (OpenSpec.ofChange cellNearWrong)

/-- 'breccialaw03.CellChunks': WHATEVER THE INPUT: true; the input reads as it did. -/
def cellChunksSpec : ChangeSpec := { name := "cellChunks", fn := fun _ => fun
  | [d1, d2] => { results := [.lit (.bool true)], args := [d1, d2] }
  | _ => none }
def cellChunksRow : OpenClaim := { program := "ytdlapfpjbcjaeaa", sum := "497592ddf2ee023bbb4b28d9cd6fcb3e0e5511a7daf3ceb9e676c7fa6fa78185", func := "breccia/breccialaw03.CellChunks", spec := "cellChunks", unfollowed := true, recurses := true, apart := false }
def CellChunksSaid : Prop := cellChunksRow.holds Try.pinned (OpenSpec.ofChange cellChunksSpec)

/-- ITS FALSE NEIGHBOUR: 'it returns false'. Refute it at one input. -/
def cellChunksWrong : ChangeSpec := { name := "cellChunks", fn := fun _ => fun
  | [d1, d2] => { results := [.lit (.bool false)], args := [d1, d2] }
  | _ => none }
def CellChunksWrongFalsely : Prop := cellChunksRow.holds Try.pinned (OpenSpec.ofChange cellChunksWrong)

/-- 'breccialaw03.CellOf': WHATEVER THE INPUT: true; the input reads as it did. -/
def cellOfSpec : ChangeSpec := { name := "cellOf", fn := fun _ => fun
  | [d1, d2] => { results := [.lit (.bool true)], args := [d1, d2] }
  | _ => none }
def cellOfRow : OpenClaim := { program := "ytdlapfpjbcjaeaa", sum := "497592ddf2ee023bbb4b28d9cd6fcb3e0e5511a7daf3ceb9e676c7fa6fa78185", func := "breccia/breccialaw03.CellOf", spec := "cellOf", unfollowed := true, recurses := true, apart := false }
def CellOfSaid : Prop := cellOfRow.holds Try.pinned (OpenSpec.ofChange cellOfSpec)

/-- ITS FALSE NEIGHBOUR: 'it returns false'. Refute it at one input. -/
def cellOfWrong : ChangeSpec := { name := "cellOf", fn := fun _ => fun
  | [d1, d2] => { results := [.lit (.bool false)], args := [d1, d2] }
  | _ => none }
def CellOfWrongFalsely : Prop := cellOfRow.holds Try.pinned (OpenSpec.ofChange cellOfWrong)

/-- 'breccialaw03.CellRow': WHATEVER THE INPUT: true; the input reads as it did. -/
def cellRowSpec : ChangeSpec := { name := "cellRow", fn := fun _ => fun
  | [d1, d2, d3] => { results := [.lit (.bool true)], args := [d1, d2, d3] }
  | _ => none }
def cellRowRow : OpenClaim := { program := "ytdlapfpjbcjaeaa", sum := "497592ddf2ee023bbb4b28d9cd6fcb3e0e5511a7daf3ceb9e676c7fa6fa78185", func := "breccia/breccialaw03.CellRow", spec := "cellRow", apart := false }
def CellRowSaid : Prop := cellRowRow.holds Try.pinned (OpenSpec.ofChange cellRowSpec)

/-- ITS FALSE NEIGHBOUR: 'it returns false'. Refute it at one input. -/
def cellRowWrong : ChangeSpec := { name := "cellRow", fn := fun _ => fun
  | [d1, d2, d3] => { results := [.lit (.bool false)], args := [d1, d2, d3] }
  | _ => none }
def CellRowWrongFalsely : Prop := cellRowRow.holds Try.pinned (OpenSpec.ofChange cellRowWrong)

/-- 'breccialaw03.CellSpans': WHATEVER THE INPUT: true; the input reads as it did. -/
def cellSpansSpec : ChangeSpec := { name := "cellSpans", fn := fun _ => fun
  | [d1, d2] => { results := [.lit (.bool true)], args := [d1, d2] }
  | _ => none }
def cellSpansRow : OpenClaim := { program := "ytdlapfpjbcjaeaa", sum := "497592ddf2ee023bbb4b28d9cd6fcb3e0e5511a7daf3ceb9e676c7fa6fa78185", func := "breccia/breccialaw03.CellSpans", spec := "cellSpans", unfollowed := true, recurses := true, apart := false }
def CellSpansSaid : Prop := cellSpansRow.holds Try.pinned (OpenSpec.ofChange cellSpansSpec)

/-- ITS FALSE NEIGHBOUR: 'it returns false'. Refute it at one input. -/
def cellSpansWrong : ChangeSpec := { name := "cellSpans", fn := fun _ => fun
  | [d1, d2] => { results := [.lit (.bool false)], args := [d1, d2] }
  | _ => none }
def CellSpansWrongFalsely : Prop := cellSpansRow.holds Try.pinned (OpenSpec.ofChange cellSpansWrong)

/-- 'breccialaw03.CellApart': WHATEVER THE INPUT: true; the input reads as it did. -/
def cellApartSpec : ChangeSpec := { name := "cellApart", fn := fun _ => fun
  | [d1, d2] => { results := [.lit (.bool true)], args := [d1, d2] }
  | _ => none }
def cellApartRow : OpenClaim := { program := "ytdlapfpjbcjaeaa", sum := "497592ddf2ee023bbb4b28d9cd6fcb3e0e5511a7daf3ceb9e676c7fa6fa78185", func := "breccia/breccialaw03.CellApart", spec := "cellApart", unfollowed := true, recurses := true, apart := false }
def CellApartSaid : Prop := cellApartRow.holds Try.pinned (OpenSpec.ofChange cellApartSpec)

/-- ITS FALSE NEIGHBOUR: 'it returns false'. Refute it at one input. -/
def cellApartWrong : ChangeSpec := { name := "cellApart", fn := fun _ => fun
  | [d1, d2] => { results := [.lit (.bool false)], args := [d1, d2] }
  | _ => none }
def CellApartWrongFalsely : Prop := cellApartRow.holds Try.pinned (OpenSpec.ofChange cellApartWrong)

/- THE SECOND FORM. 'bulk': how many values and letters a reading holds, each counted each time it is reached (what is shared counts as often as it is met; a slice's spare places count too). A statement '..UptoSaid' is the law's where the arguments, and the package variables that the reading takes, are together of bulk at most 1048576: NARROWER than '..Said'. Prove '..Said' where nothing that the law and all that it calls make is longer than what came in: it says more and counts as full. Else prove '..UptoSaid'. A law counts once. -/
mutual
def uptoBulk {H : Type} : DataW H → Nat
  | .lit (.string bytes) => bytes.length + 1
  | .lit _ => 1
  | .nil => 1
  | .ptr d => uptoBulk d + 1
  | .slice elems spare => uptoBulkAll elems + uptoBulkAll spare + 1
  | .agg parts => uptoBulkAll parts + 1
  | .iface _ d => uptoBulk d + 1
  | .map entries => uptoBulkEntries entries + 1
  | .held _ => 1
def uptoBulkAll {H : Type} : List (DataW H) → Nat
  | [] => 0
  | d :: r => uptoBulk d + uptoBulkAll r
def uptoBulkEntries {H : Type} : List (Lit × DataW H) → Nat
  | [] => 0
  | x :: r => uptoBulkEntry x + uptoBulkEntries r
def uptoBulkEntry {H : Type} : Lit × DataW H → Nat
  | (.string bytes, d) => bytes.length + uptoBulk d + 1
  | (_, d) => uptoBulk d + 1
 end
def uptoSmall : (H : Type) → List (DataW H) → Bool := fun _ ds => decide (uptoBulkAll ds ≤ 1048576)
def OpenSpec.upto (s : _root_.Go.ChangeSpec) : _root_.Go.OpenSpec := { _root_.Go.OpenSpec.ofChange s with cond := some uptoSmall }

/-- 'breccialaw03.CellDivs', WHERE WHAT IT READS IS OF BULK AT MOST 1048576: true; the input reads as it did. -/
def cellDivsUptoRow : OpenClaim := { program := "ytdlapfpjbcjaeaa", sum := "497592ddf2ee023bbb4b28d9cd6fcb3e0e5511a7daf3ceb9e676c7fa6fa78185", func := "breccia/breccialaw03.CellDivs", spec := "cellDivs", apart := false, narrowed := true }
def CellDivsUptoSaid : Prop := cellDivsUptoRow.holds Try.pinned (OpenSpec.upto cellDivsSpec)

/-- 'breccialaw03.CellIndices', WHERE WHAT IT READS IS OF BULK AT MOST 1048576: true; the input reads as it did. -/
def cellIndicesUptoRow : OpenClaim := { program := "ytdlapfpjbcjaeaa", sum := "497592ddf2ee023bbb4b28d9cd6fcb3e0e5511a7daf3ceb9e676c7fa6fa78185", func := "breccia/breccialaw03.CellIndices", spec := "cellIndices", apart := false, narrowed := true }
def CellIndicesUptoSaid : Prop := cellIndicesUptoRow.holds Try.pinned (OpenSpec.upto cellIndicesSpec)

/-- 'breccialaw03.CellNear', WHERE WHAT IT READS IS OF BULK AT MOST 1048576: true; the input reads as it did. -/
def cellNearUptoRow : OpenClaim := { program := "ytdlapfpjbcjaeaa", sum := "497592ddf2ee023bbb4b28d9cd6fcb3e0e5511a7daf3ceb9e676c7fa6fa78185", func := "breccia/breccialaw03.CellNear", spec := "cellNear", unfollowed := true, recurses := true, apart := false, narrowed := true }
def CellNearUptoSaid : Prop := cellNearUptoRow.holds Try.pinned (OpenSpec.upto cellNearSpec)

/-- 'breccialaw03.CellChunks', WHERE WHAT IT READS IS OF BULK AT MOST 1048576: true; the input reads as it did. -/
def cellChunksUptoRow : OpenClaim := { program := "ytdlapfpjbcjaeaa", sum := "497592ddf2ee023bbb4b28d9cd6fcb3e0e5511a7daf3ceb9e676c7fa6fa78185", func := "breccia/breccialaw03.CellChunks", spec := "cellChunks", unfollowed := true, recurses := true, apart := false, narrowed := true }
def CellChunksUptoSaid : Prop := cellChunksUptoRow.holds Try.pinned (OpenSpec.upto cellChunksSpec)

/-- 'breccialaw03.CellOf', WHERE WHAT IT READS IS OF BULK AT MOST 1048576: true; the input reads as it did. -/
def cellOfUptoRow : OpenClaim := { program := "ytdlapfpjbcjaeaa", sum := "497592ddf2ee023bbb4b28d9cd6fcb3e0e5511a7daf3ceb9e676c7fa6fa78185", func := "breccia/breccialaw03.CellOf", spec := "cellOf", unfollowed := true, recurses := true, apart := false, narrowed := true }
def CellOfUptoSaid : Prop := cellOfUptoRow.holds Try.pinned (OpenSpec.upto cellOfSpec)

/-- 'breccialaw03.CellRow', WHERE WHAT IT READS IS OF BULK AT MOST 1048576: true; the input reads as it did. -/
def cellRowUptoRow : OpenClaim := { program := "ytdlapfpjbcjaeaa", sum := "497592ddf2ee023bbb4b28d9cd6fcb3e0e5511a7daf3ceb9e676c7fa6fa78185", func := "breccia/breccialaw03.CellRow", spec := "cellRow", apart := false, narrowed := true }
def CellRowUptoSaid : Prop := cellRowUptoRow.holds Try.pinned (OpenSpec.upto cellRowSpec)

/-- 'breccialaw03.CellSpans', WHERE WHAT IT READS IS OF BULK AT MOST 1048576: true; the input reads as it did. -/
def cellSpansUptoRow : OpenClaim := { program := "ytdlapfpjbcjaeaa", sum := "497592ddf2ee023bbb4b28d9cd6fcb3e0e5511a7daf3ceb9e676c7fa6fa78185", func := "breccia/breccialaw03.CellSpans", spec := "cellSpans", unfollowed := true, recurses := true, apart := false, narrowed := true }
def CellSpansUptoSaid : Prop := cellSpansUptoRow.holds Try.pinned (OpenSpec.upto cellSpansSpec)

/-- 'breccialaw03.CellApart', WHERE WHAT IT READS IS OF BULK AT MOST 1048576: true; the input reads as it did. -/
def cellApartUptoRow : OpenClaim := { program := "ytdlapfpjbcjaeaa", sum := "497592ddf2ee023bbb4b28d9cd6fcb3e0e5511a7daf3ceb9e676c7fa6fa78185", func := "breccia/breccialaw03.CellApart", spec := "cellApart", unfollowed := true, recurses := true, apart := false, narrowed := true }
def CellApartUptoSaid : Prop := cellApartUptoRow.holds Try.pinned (OpenSpec.upto cellApartSpec)

end Rows
end Go.Proofs.Ytdlapfpjbcjaeaa
