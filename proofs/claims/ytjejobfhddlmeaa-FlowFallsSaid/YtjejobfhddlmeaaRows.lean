/-
  No cell of these rows narrows 'for every input' (looked for: loops, veiled, ifaces, maps, wideKeys, modest, calm, conditions, laid).
  DERIVED. THE GIVEN ROWS OF THIS SEAT. 6 by the template 'for every input the law returns true; each argument reads behind the call as it read before'; 0 by the template 'total and deterministic' (their statements: YtjejobfhddlmeaaTotals.lean).
  GIVEN WITH THE SEED: the statements are not yours to turn. If you find one false, say at which input.
  Laid BY PROGRAM, IN A SANDBOX (cutbox-rows.mjs): the forced cells as the released guide's own fill.sh prints them over the translation a78a43265da7cf5d… (all of the seat's roots in one cut). By AI agents, Wed Nov 11 2026. No macro, syntax, notation, axiom, sorry.
-/
import Derived.Test.YtjejobfhddlmeaaChecked
import GoSem.Claim
import GoSem.ClaimJoined
import GoSem.ClaimMapViews
import Derived.JoinedTies
import Derived.KernelRfl
namespace Go.Proofs.Ytjejobfhddlmeaa
/- THE CELL 'sum', in the pinned program and in every row, IS THE sha256 OF THE DUMP (.gsa) THAT YtjejobfhddlmeaaProg.lean LOADS. Nothing in Lean hashes anything: it is a label: what it is worth is what the hold of that sum in a sandbox is worth. -/
noncomputable def Try.pinned : Pinned := { name := "ytjejobfhddlmeaa", sum := "a78a43265da7cf5da9e45b2532426c7528e3ccf79a5c64080583ee86c3198ac3", checked := Try.checked }
namespace Rows
def none {H : Type} : Left H := { results := [], args := [] }

/-- 'breccialaw18.FlowKeeps': WHATEVER THE INPUT: true; the input reads as it did. -/
def flowKeepsSpec : ChangeSpec := { name := "flowKeeps", fn := fun _ => fun
  | [d1, d2] => { results := [.lit (.bool true)], args := [d1, d2] }
  | _ => none }
def flowKeepsRow : OpenClaim := { program := "ytjejobfhddlmeaa", sum := "a78a43265da7cf5da9e45b2532426c7528e3ccf79a5c64080583ee86c3198ac3", func := "breccia/breccialaw18.FlowKeeps", spec := "flowKeeps", unfollowed := true, recurses := true, plainKeys := false, apart := false }
def FlowKeepsSaid : Prop := flowKeepsRow.holds Try.pinned (OpenSpec.ofChange flowKeepsSpec)

/-- ITS FALSE NEIGHBOUR: 'it returns false'. Refute it at one input. -/
def flowKeepsWrong : ChangeSpec := { name := "flowKeeps", fn := fun _ => fun
  | [d1, d2] => { results := [.lit (.bool false)], args := [d1, d2] }
  | _ => none }
def FlowKeepsWrongFalsely : Prop := flowKeepsRow.holds Try.pinned (OpenSpec.ofChange flowKeepsWrong)

/-- 'breccialaw18.FlowLays': WHATEVER THE INPUT: true; the input reads as it did. -/
def flowLaysSpec : ChangeSpec := { name := "flowLays", fn := fun _ => fun
  | [d1, d2, d3] => { results := [.lit (.bool true)], args := [d1, d2, d3] }
  | _ => none }
def flowLaysRow : OpenClaim := { program := "ytjejobfhddlmeaa", sum := "a78a43265da7cf5da9e45b2532426c7528e3ccf79a5c64080583ee86c3198ac3", func := "breccia/breccialaw18.FlowLays", spec := "flowLays", unfollowed := true, recurses := true, plainKeys := false, apart := false }
def FlowLaysSaid : Prop := flowLaysRow.holds Try.pinned (OpenSpec.ofChange flowLaysSpec)

/-- ITS FALSE NEIGHBOUR: 'it returns false'. Refute it at one input. -/
def flowLaysWrong : ChangeSpec := { name := "flowLays", fn := fun _ => fun
  | [d1, d2, d3] => { results := [.lit (.bool false)], args := [d1, d2, d3] }
  | _ => none }
def FlowLaysWrongFalsely : Prop := flowLaysRow.holds Try.pinned (OpenSpec.ofChange flowLaysWrong)

/-- 'breccialaw18.FlowFalls': WHATEVER THE INPUT: true; the input reads as it did. -/
def flowFallsSpec : ChangeSpec := { name := "flowFalls", fn := fun _ => fun
  | [d] => { results := [.lit (.bool true)], args := [d] }
  | _ => none }
def flowFallsRow : OpenClaim := { program := "ytjejobfhddlmeaa", sum := "a78a43265da7cf5da9e45b2532426c7528e3ccf79a5c64080583ee86c3198ac3", func := "breccia/breccialaw18.FlowFalls", spec := "flowFalls", unfollowed := true, recurses := true, plainKeys := false, apart := false }
def FlowFallsSaid : Prop := flowFallsRow.holds Try.pinned (OpenSpec.ofChange flowFallsSpec)

/-- ITS FALSE NEIGHBOUR: 'it returns false'. Refute it at one input. -/
def flowFallsWrong : ChangeSpec := { name := "flowFalls", fn := fun _ => fun
  | [d] => { results := [.lit (.bool false)], args := [d] }
  | _ => none }
def FlowFallsWrongFalsely : Prop := flowFallsRow.holds Try.pinned (OpenSpec.ofChange flowFallsWrong)

/-- 'breccialaw18.FlowSources': WHATEVER THE INPUT: true; the input reads as it did. -/
def flowSourcesSpec : ChangeSpec := { name := "flowSources", fn := fun _ => fun
  | [d1, d2] => { results := [.lit (.bool true)], args := [d1, d2] }
  | _ => none }
def flowSourcesRow : OpenClaim := { program := "ytjejobfhddlmeaa", sum := "a78a43265da7cf5da9e45b2532426c7528e3ccf79a5c64080583ee86c3198ac3", func := "breccia/breccialaw18.FlowSources", spec := "flowSources", unfollowed := true, recurses := true, plainKeys := false, apart := false }
def FlowSourcesSaid : Prop := flowSourcesRow.holds Try.pinned (OpenSpec.ofChange flowSourcesSpec)

/-- ITS FALSE NEIGHBOUR: 'it returns false'. Refute it at one input. -/
def flowSourcesWrong : ChangeSpec := { name := "flowSources", fn := fun _ => fun
  | [d1, d2] => { results := [.lit (.bool false)], args := [d1, d2] }
  | _ => none }
def FlowSourcesWrongFalsely : Prop := flowSourcesRow.holds Try.pinned (OpenSpec.ofChange flowSourcesWrong)

/-- 'breccialaw18.FlowNext': WHATEVER THE INPUT: true; the input reads as it did. -/
def flowNextSpec : ChangeSpec := { name := "flowNext", fn := fun _ => fun
  | [d1, d2] => { results := [.lit (.bool true)], args := [d1, d2] }
  | _ => none }
def flowNextRow : OpenClaim := { program := "ytjejobfhddlmeaa", sum := "a78a43265da7cf5da9e45b2532426c7528e3ccf79a5c64080583ee86c3198ac3", func := "breccia/breccialaw18.FlowNext", spec := "flowNext", unfollowed := true, recurses := true, plainKeys := false, apart := false }
def FlowNextSaid : Prop := flowNextRow.holds Try.pinned (OpenSpec.ofChange flowNextSpec)

/-- ITS FALSE NEIGHBOUR: 'it returns false'. Refute it at one input. -/
def flowNextWrong : ChangeSpec := { name := "flowNext", fn := fun _ => fun
  | [d1, d2] => { results := [.lit (.bool false)], args := [d1, d2] }
  | _ => none }
def FlowNextWrongFalsely : Prop := flowNextRow.holds Try.pinned (OpenSpec.ofChange flowNextWrong)

/-- 'breccialaw18.FlowWakes': WHATEVER THE INPUT: true; the input reads as it did. -/
def flowWakesSpec : ChangeSpec := { name := "flowWakes", fn := fun _ => fun
  | [d1, d2, d3] => { results := [.lit (.bool true)], args := [d1, d2, d3] }
  | _ => none }
def flowWakesRow : OpenClaim := { program := "ytjejobfhddlmeaa", sum := "a78a43265da7cf5da9e45b2532426c7528e3ccf79a5c64080583ee86c3198ac3", func := "breccia/breccialaw18.FlowWakes", spec := "flowWakes", unfollowed := true, recurses := true, plainKeys := false, apart := false }
def FlowWakesSaid : Prop := flowWakesRow.holds Try.pinned (OpenSpec.ofChange flowWakesSpec)

/-- ITS FALSE NEIGHBOUR: 'it returns false'. Refute it at one input. -/
def flowWakesWrong : ChangeSpec := { name := "flowWakes", fn := fun _ => fun
  | [d1, d2, d3] => { results := [.lit (.bool false)], args := [d1, d2, d3] }
  | _ => none }
def FlowWakesWrongFalsely : Prop := flowWakesRow.holds Try.pinned (OpenSpec.ofChange flowWakesWrong)

/- THE SECOND FORM. 'bulk': how many values and letters a reading holds, each counted each time it is reached (what is shared counts as often as it is met; a slice's spare places count too). A statement '..UptoSaid' is the law's where the arguments, and the package variables that the reading takes, are together of bulk at most 1048576: NARROWER than '..Said'. Prove '..Said' where nothing that the law and all that it calls make is longer than what came in: it says more and counts as full. Else prove '..UptoSaid'. A law counts once. -/
mutual
def uptoBulk {H : Type} : DataW H → Nat
  | .lit (.string bytes) => bytes.length + 1
  | .lit _ => 1
  | .nil => 1
  | .ptr d => uptoBulk d + 1
  | .slice elems spare => uptoBulkAll elems + uptoBulkAll spare + 1
  | .agg parts => uptoBulkAll parts + 1
  | .iface _ d => uptoBulk d + 1
  | .map entries => uptoBulkEntries entries + 1
  | .held _ => 1
def uptoBulkAll {H : Type} : List (DataW H) → Nat
  | [] => 0
  | d :: r => uptoBulk d + uptoBulkAll r
def uptoBulkEntries {H : Type} : List (Lit × DataW H) → Nat
  | [] => 0
  | x :: r => uptoBulkEntry x + uptoBulkEntries r
def uptoBulkEntry {H : Type} : Lit × DataW H → Nat
  | (.string bytes, d) => bytes.length + uptoBulk d + 1
  | (_, d) => uptoBulk d + 1
 end
def uptoSmall : (H : Type) → List (DataW H) → Bool := fun _ ds => decide (uptoBulkAll ds ≤ 1048576)
def OpenSpec.upto (s : _root_.Go.ChangeSpec) : _root_.Go.OpenSpec := { _root_.Go.OpenSpec.ofChange s with cond := some uptoSmall }

/-- 'breccialaw18.FlowKeeps', WHERE WHAT IT READS IS OF BULK AT MOST 1048576: true; the input reads as it did. -/
def flowKeepsUptoRow : OpenClaim := { program := "ytjejobfhddlmeaa", sum := "a78a43265da7cf5da9e45b2532426c7528e3ccf79a5c64080583ee86c3198ac3", func := "breccia/breccialaw18.FlowKeeps", spec := "flowKeeps", unfollowed := true, recurses := true, plainKeys := false, apart := false, narrowed := true }
def FlowKeepsUptoSaid : Prop := flowKeepsUptoRow.holds Try.pinned (OpenSpec.upto flowKeepsSpec)

/-- 'breccialaw18.FlowLays', WHERE WHAT IT READS IS OF BULK AT MOST 1048576: true; the input reads as it did. -/
def flowLaysUptoRow : OpenClaim := { program := "ytjejobfhddlmeaa", sum := "a78a43265da7cf5da9e45b2532426c7528e3ccf79a5c64080583ee86c3198ac3", func := "breccia/breccialaw18.FlowLays", spec := "flowLays", unfollowed := true, recurses := true, plainKeys := false, apart := false, narrowed := true }
def FlowLaysUptoSaid : Prop := flowLaysUptoRow.holds Try.pinned (OpenSpec.upto flowLaysSpec)

/-- 'breccialaw18.FlowFalls', WHERE WHAT IT READS IS OF BULK AT MOST 1048576: true; the input reads as it did. -/
def flowFallsUptoRow : OpenClaim := { program := "ytjejobfhddlmeaa", sum := "a78a43265da7cf5da9e45b2532426c7528e3ccf79a5c64080583ee86c3198ac3", func := "breccia/breccialaw18.FlowFalls", spec := "flowFalls", unfollowed := true, recurses := true, plainKeys := false, apart := false, narrowed := true }
def FlowFallsUptoSaid : Prop := flowFallsUptoRow.holds Try.pinned (OpenSpec.upto flowFallsSpec)

/-- 'breccialaw18.FlowSources', WHERE WHAT IT READS IS OF BULK AT MOST 1048576: true; the input reads as it did. -/
def flowSourcesUptoRow : OpenClaim := { program := "ytjejobfhddlmeaa", sum := "a78a43265da7cf5da9e45b2532426c7528e3ccf79a5c64080583ee86c3198ac3", func := "breccia/breccialaw18.FlowSources", spec := "flowSources", unfollowed := true, recurses := true, plainKeys := false, apart := false, narrowed := true }
def FlowSourcesUptoSaid : Prop := flowSourcesUptoRow.holds Try.pinned (OpenSpec.upto flowSourcesSpec)

/-- 'breccialaw18.FlowNext', WHERE WHAT IT READS IS OF BULK AT MOST 1048576: true; the input reads as it did. -/
def flowNextUptoRow : OpenClaim := { program := "ytjejobfhddlmeaa", sum := "a78a43265da7cf5da9e45b2532426c7528e3ccf79a5c64080583ee86c3198ac3", func := "breccia/breccialaw18.FlowNext", spec := "flowNext", unfollowed := true, recurses := true, plainKeys := false, apart := false, narrowed := true }
def FlowNextUptoSaid : Prop := flowNextUptoRow.holds Try.pinned (OpenSpec.upto flowNextSpec)

/-- 'breccialaw18.FlowWakes', WHERE WHAT IT READS IS OF BULK AT MOST 1048576: true; the input reads as it did. -/
def flowWakesUptoRow : OpenClaim := { program := "ytjejobfhddlmeaa", sum := "a78a43265da7cf5da9e45b2532426c7528e3ccf79a5c64080583ee86c3198ac3", func := "breccia/breccialaw18.FlowWakes", spec := "flowWakes", unfollowed := true, recurses := true, plainKeys := false, apart := false, narrowed := true }
def FlowWakesUptoSaid : Prop := flowWakesUptoRow.holds Try.pinned (OpenSpec.upto flowWakesSpec)

end Rows
end Go.Proofs.Ytjejobfhddlmeaa
