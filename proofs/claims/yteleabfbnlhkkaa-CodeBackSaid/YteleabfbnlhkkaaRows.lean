/-
  No cell of these rows narrows 'for every input' (looked for: loops, veiled, ifaces, maps, wideKeys, modest, calm, conditions, laid).
  DERIVED. THE GIVEN ROWS OF THIS SEAT. 8 by the template 'for every input the law returns true; each argument reads behind the call as it read before'; 0 by the template 'total and deterministic' (their statements: YteleabfbnlhkkaaTotals.lean).
  GIVEN WITH THE SEED: the statements are not yours to turn. If you find one false, say at which input.
  Laid BY PROGRAM, IN A SANDBOX (cutbox-rows.mjs): the forced cells as the released guide's own fill.sh prints them over the translation b91fc2bee596303c… (all of the seat's roots in one cut). By AI agents, Wed Nov 11 2026. No macro, syntax, notation, axiom, sorry.
-/
import Derived.Test.YteleabfbnlhkkaaChecked
import GoSem.Claim
import GoSem.ClaimJoined
import GoSem.ClaimMapViews
import Derived.JoinedTies
import Derived.KernelRfl
namespace Go.Proofs.Yteleabfbnlhkkaa
/- THE CELL 'sum', in the pinned program and in every row, IS THE sha256 OF THE DUMP (.gsa) THAT YteleabfbnlhkkaaProg.lean LOADS. Nothing in Lean hashes anything: it is a label: what it is worth is what the hold of that sum in a sandbox is worth. -/
noncomputable def Try.pinned : Pinned := { name := "yteleabfbnlhkkaa", sum := "b91fc2bee596303c4650fd77cbb61b9f48898c4bb8551033dd4bbc4513a378cc", checked := Try.checked }
namespace Rows
def none {H : Type} : Left H := { results := [], args := [] }

/-- 'comitialaw1.CodeWrites': WHATEVER THE INPUT: true; the input reads as it did. -/
def codeWritesSpec : ChangeSpec := { name := "codeWrites", fn := fun _ => fun
  | [d1, d2, d3] => { results := [.lit (.bool true)], args := [d1, d2, d3] }
  | _ => none }
def codeWritesRow : OpenClaim := { program := "yteleabfbnlhkkaa", sum := "b91fc2bee596303c4650fd77cbb61b9f48898c4bb8551033dd4bbc4513a378cc", func := "comitia/comitialaw1.CodeWrites", spec := "codeWrites", apart := false }
def CodeWritesSaid : Prop := codeWritesRow.holds Try.pinned (OpenSpec.ofChange codeWritesSpec)

/-- ITS FALSE NEIGHBOUR: 'it returns false'. Refute it at one input. -/
def codeWritesWrong : ChangeSpec := { name := "codeWrites", fn := fun _ => fun
  | [d1, d2, d3] => { results := [.lit (.bool false)], args := [d1, d2, d3] }
  | _ => none }
def CodeWritesWrongFalsely : Prop := codeWritesRow.holds Try.pinned (OpenSpec.ofChange codeWritesWrong)

/-- 'comitialaw1.CodeOrder': WHATEVER THE INPUT: true; the input reads as it did. -/
def codeOrderSpec : ChangeSpec := { name := "codeOrder", fn := fun _ => fun
  | [d1, d2, d3, d4] => { results := [.lit (.bool true)], args := [d1, d2, d3, d4] }
  | _ => none }
def codeOrderRow : OpenClaim := { program := "yteleabfbnlhkkaa", sum := "b91fc2bee596303c4650fd77cbb61b9f48898c4bb8551033dd4bbc4513a378cc", func := "comitia/comitialaw1.CodeOrder", spec := "codeOrder", apart := false }
def CodeOrderSaid : Prop := codeOrderRow.holds Try.pinned (OpenSpec.ofChange codeOrderSpec)

/-- ITS FALSE NEIGHBOUR: 'it returns false'. Refute it at one input. -/
def codeOrderWrong : ChangeSpec := { name := "codeOrder", fn := fun _ => fun
  | [d1, d2, d3, d4] => { results := [.lit (.bool false)], args := [d1, d2, d3, d4] }
  | _ => none }
def CodeOrderWrongFalsely : Prop := codeOrderRow.holds Try.pinned (OpenSpec.ofChange codeOrderWrong)

/-- 'comitialaw1.CodeEnds': WHATEVER THE INPUT: true; the input reads as it did. -/
def codeEndsSpec : ChangeSpec := { name := "codeEnds", fn := fun _ => fun
  | [d1, d2] => { results := [.lit (.bool true)], args := [d1, d2] }
  | _ => none }
def codeEndsRow : OpenClaim := { program := "yteleabfbnlhkkaa", sum := "b91fc2bee596303c4650fd77cbb61b9f48898c4bb8551033dd4bbc4513a378cc", func := "comitia/comitialaw1.CodeEnds", spec := "codeEnds", apart := false }
def CodeEndsSaid : Prop := codeEndsRow.holds Try.pinned (OpenSpec.ofChange codeEndsSpec)

/-- ITS FALSE NEIGHBOUR: 'it returns false'. Refute it at one input. -/
def codeEndsWrong : ChangeSpec := { name := "codeEnds", fn := fun _ => fun
  | [d1, d2] => { results := [.lit (.bool false)], args := [d1, d2] }
  | _ => none }
def CodeEndsWrongFalsely : Prop := codeEndsRow.holds Try.pinned (OpenSpec.ofChange codeEndsWrong)

/-- 'comitialaw1.CodeLong': WHATEVER THE INPUT: true; the input reads as it did. -/
def codeLongSpec : ChangeSpec := { name := "codeLong", fn := fun _ => fun
  | [d1, d2] => { results := [.lit (.bool true)], args := [d1, d2] }
  | _ => none }
def codeLongRow : OpenClaim := { program := "yteleabfbnlhkkaa", sum := "b91fc2bee596303c4650fd77cbb61b9f48898c4bb8551033dd4bbc4513a378cc", func := "comitia/comitialaw1.CodeLong", spec := "codeLong", unfollowed := true, recurses := true, apart := false }
def CodeLongSaid : Prop := codeLongRow.holds Try.pinned (OpenSpec.ofChange codeLongSpec)

/-- ITS FALSE NEIGHBOUR: 'it returns false'. Refute it at one input. -/
def codeLongWrong : ChangeSpec := { name := "codeLong", fn := fun _ => fun
  | [d1, d2] => { results := [.lit (.bool false)], args := [d1, d2] }
  | _ => none }
def CodeLongWrongFalsely : Prop := codeLongRow.holds Try.pinned (OpenSpec.ofChange codeLongWrong)

/-- 'comitialaw1.CodeLess': WHATEVER THE INPUT: true; the input reads as it did. -/
def codeLessSpec : ChangeSpec := { name := "codeLess", fn := fun _ => fun
  | [d1, d2] => { results := [.lit (.bool true)], args := [d1, d2] }
  | _ => none }
def codeLessRow : OpenClaim := { program := "yteleabfbnlhkkaa", sum := "b91fc2bee596303c4650fd77cbb61b9f48898c4bb8551033dd4bbc4513a378cc", func := "comitia/comitialaw1.CodeLess", spec := "codeLess", unfollowed := true, recurses := true, apart := false }
def CodeLessSaid : Prop := codeLessRow.holds Try.pinned (OpenSpec.ofChange codeLessSpec)

/-- ITS FALSE NEIGHBOUR: 'it returns false'. Refute it at one input. -/
def codeLessWrong : ChangeSpec := { name := "codeLess", fn := fun _ => fun
  | [d1, d2] => { results := [.lit (.bool false)], args := [d1, d2] }
  | _ => none }
def CodeLessWrongFalsely : Prop := codeLessRow.holds Try.pinned (OpenSpec.ofChange codeLessWrong)

/-- 'comitialaw1.CodeReads': WHATEVER THE INPUT: true; the input reads as it did. -/
def codeReadsSpec : ChangeSpec := { name := "codeReads", fn := fun _ => fun
  | [d1, d2] => { results := [.lit (.bool true)], args := [d1, d2] }
  | _ => none }
def codeReadsRow : OpenClaim := { program := "yteleabfbnlhkkaa", sum := "b91fc2bee596303c4650fd77cbb61b9f48898c4bb8551033dd4bbc4513a378cc", func := "comitia/comitialaw1.CodeReads", spec := "codeReads", unfollowed := true, recurses := true, apart := false }
def CodeReadsSaid : Prop := codeReadsRow.holds Try.pinned (OpenSpec.ofChange codeReadsSpec)

/-- ITS FALSE NEIGHBOUR: 'it returns false'. Refute it at one input. -/
def codeReadsWrong : ChangeSpec := { name := "codeReads", fn := fun _ => fun
  | [d1, d2] => { results := [.lit (.bool false)], args := [d1, d2] }
  | _ => none }
def CodeReadsWrongFalsely : Prop := codeReadsRow.holds Try.pinned (OpenSpec.ofChange codeReadsWrong)

/-- 'comitialaw1.CodeFails': WHATEVER THE INPUT: true; the input reads as it did. -/
def codeFailsSpec : ChangeSpec := { name := "codeFails", fn := fun _ => fun
  | [d1, d2, d3] => { results := [.lit (.bool true)], args := [d1, d2, d3] }
  | _ => none }
def codeFailsRow : OpenClaim := { program := "yteleabfbnlhkkaa", sum := "b91fc2bee596303c4650fd77cbb61b9f48898c4bb8551033dd4bbc4513a378cc", func := "comitia/comitialaw1.CodeFails", spec := "codeFails", unfollowed := true, recurses := true, apart := false }
def CodeFailsSaid : Prop := codeFailsRow.holds Try.pinned (OpenSpec.ofChange codeFailsSpec)

/-- ITS FALSE NEIGHBOUR: 'it returns false'. Refute it at one input. -/
def codeFailsWrong : ChangeSpec := { name := "codeFails", fn := fun _ => fun
  | [d1, d2, d3] => { results := [.lit (.bool false)], args := [d1, d2, d3] }
  | _ => none }
def CodeFailsWrongFalsely : Prop := codeFailsRow.holds Try.pinned (OpenSpec.ofChange codeFailsWrong)

/-- 'comitialaw1.CodeBack': WHATEVER THE INPUT: true; the input reads as it did. -/
def codeBackSpec : ChangeSpec := { name := "codeBack", fn := fun _ => fun
  | [d1, d2] => { results := [.lit (.bool true)], args := [d1, d2] }
  | _ => none }
def codeBackRow : OpenClaim := { program := "yteleabfbnlhkkaa", sum := "b91fc2bee596303c4650fd77cbb61b9f48898c4bb8551033dd4bbc4513a378cc", func := "comitia/comitialaw1.CodeBack", spec := "codeBack", unfollowed := true, recurses := true, apart := false }
def CodeBackSaid : Prop := codeBackRow.holds Try.pinned (OpenSpec.ofChange codeBackSpec)

/-- ITS FALSE NEIGHBOUR: 'it returns false'. Refute it at one input. -/
def codeBackWrong : ChangeSpec := { name := "codeBack", fn := fun _ => fun
  | [d1, d2] => { results := [.lit (.bool false)], args := [d1, d2] }
  | _ => none }
def CodeBackWrongFalsely : Prop := codeBackRow.holds Try.pinned (OpenSpec.ofChange codeBackWrong)

/- THE SECOND FORM. 'bulk': how many values and letters a reading holds, each counted each time it is reached (what is shared counts as often as it is met; a slice's spare places count too). A statement '..UptoSaid' is the law's where the arguments, and the package variables that the reading takes, are together of bulk at most 1048576: NARROWER than '..Said'. Prove '..Said' where nothing that the law and all that it calls make is longer than what came in: it says more and counts as full. Else prove '..UptoSaid'. A law counts once. -/
mutual
def uptoBulk {H : Type} : DataW H → Nat
  | .lit (.string bytes) => bytes.length + 1
  | .lit _ => 1
  | .nil => 1
  | .ptr d => uptoBulk d + 1
  | .slice elems spare => uptoBulkAll elems + uptoBulkAll spare + 1
  | .agg parts => uptoBulkAll parts + 1
  | .iface _ d => uptoBulk d + 1
  | .map entries => uptoBulkEntries entries + 1
  | .held _ => 1
def uptoBulkAll {H : Type} : List (DataW H) → Nat
  | [] => 0
  | d :: r => uptoBulk d + uptoBulkAll r
def uptoBulkEntries {H : Type} : List (Lit × DataW H) → Nat
  | [] => 0
  | x :: r => uptoBulkEntry x + uptoBulkEntries r
def uptoBulkEntry {H : Type} : Lit × DataW H → Nat
  | (.string bytes, d) => bytes.length + uptoBulk d + 1
  | (_, d) => uptoBulk d + 1
 end
def uptoSmall : (H : Type) → List (DataW H) → Bool := fun _ ds => decide (uptoBulkAll ds ≤ 1048576)
def OpenSpec.upto (s : _root_.Go.ChangeSpec) : _root_.Go.OpenSpec := { _root_.Go.OpenSpec.ofChange s with cond := some uptoSmall }

/-- 'comitialaw1.CodeWrites', WHERE WHAT IT READS IS OF BULK AT MOST 1048576: true; the input reads as it did. -/
def codeWritesUptoRow : OpenClaim := { program := "yteleabfbnlhkkaa", sum := "b91fc2bee596303c4650fd77cbb61b9f48898c4bb8551033dd4bbc4513a378cc", func := "comitia/comitialaw1.CodeWrites", spec := "codeWrites", apart := false, narrowed := true }
def CodeWritesUptoSaid : Prop := codeWritesUptoRow.holds Try.pinned (OpenSpec.upto codeWritesSpec)

/-- 'comitialaw1.CodeOrder', WHERE WHAT IT READS IS OF BULK AT MOST 1048576: true; the input reads as it did. -/
def codeOrderUptoRow : OpenClaim := { program := "yteleabfbnlhkkaa", sum := "b91fc2bee596303c4650fd77cbb61b9f48898c4bb8551033dd4bbc4513a378cc", func := "comitia/comitialaw1.CodeOrder", spec := "codeOrder", apart := false, narrowed := true }
def CodeOrderUptoSaid : Prop := codeOrderUptoRow.holds Try.pinned (OpenSpec.upto codeOrderSpec)

/-- 'comitialaw1.CodeEnds', WHERE WHAT IT READS IS OF BULK AT MOST 1048576: true; the input reads as it did. -/
def codeEndsUptoRow : OpenClaim := { program := "yteleabfbnlhkkaa", sum := "b91fc2bee596303c4650fd77cbb61b9f48898c4bb8551033dd4bbc4513a378cc", func := "comitia/comitialaw1.CodeEnds", spec := "codeEnds", apart := false, narrowed := true }
def CodeEndsUptoSaid : Prop := codeEndsUptoRow.holds Try.pinned (OpenSpec.upto codeEndsSpec)

/-- 'comitialaw1.CodeLong', WHERE WHAT IT READS IS OF BULK AT MOST 1048576: true; the input reads as it did. -/
def codeLongUptoRow : OpenClaim := { program := "yteleabfbnlhkkaa", sum := "b91fc2bee596303c4650fd77cbb61b9f48898c4bb8551033dd4bbc4513a378cc", func := "comitia/comitialaw1.CodeLong", spec := "codeLong", unfollowed := true, recurses := true, apart := false, narrowed := true }
def CodeLongUptoSaid : Prop := codeLongUptoRow.holds Try.pinned (OpenSpec.upto codeLongSpec)

/-- 'comitialaw1.CodeLess', WHERE WHAT IT READS IS OF BULK AT MOST 1048576: true; the input reads as it did. -/
def codeLessUptoRow : OpenClaim := { program := "yteleabfbnlhkkaa", sum := "b91fc2bee596303c4650fd77cbb61b9f48898c4bb8551033dd4bbc4513a378cc", func := "comitia/comitialaw1.CodeLess", spec := "codeLess", unfollowed := true, recurses := true, apart := false, narrowed := true }
def CodeLessUptoSaid : Prop := codeLessUptoRow.holds Try.pinned (OpenSpec.upto codeLessSpec)

/-- 'comitialaw1.CodeReads', WHERE WHAT IT READS IS OF BULK AT MOST 1048576: true; the input reads as it did. -/
def codeReadsUptoRow : OpenClaim := { program := "yteleabfbnlhkkaa", sum := "b91fc2bee596303c4650fd77cbb61b9f48898c4bb8551033dd4bbc4513a378cc", func := "comitia/comitialaw1.CodeReads", spec := "codeReads", unfollowed := true, recurses := true, apart := false, narrowed := true }
def CodeReadsUptoSaid : Prop := codeReadsUptoRow.holds Try.pinned (OpenSpec.upto codeReadsSpec)

/-- 'comitialaw1.CodeFails', WHERE WHAT IT READS IS OF BULK AT MOST 1048576: true; the input reads as it did. -/
def codeFailsUptoRow : OpenClaim := { program := "yteleabfbnlhkkaa", sum := "b91fc2bee596303c4650fd77cbb61b9f48898c4bb8551033dd4bbc4513a378cc", func := "comitia/comitialaw1.CodeFails", spec := "codeFails", unfollowed := true, recurses := true, apart := false, narrowed := true }
def CodeFailsUptoSaid : Prop := codeFailsUptoRow.holds Try.pinned (OpenSpec.upto codeFailsSpec)

/-- 'comitialaw1.CodeBack', WHERE WHAT IT READS IS OF BULK AT MOST 1048576: true; the input reads as it did. -/
def codeBackUptoRow : OpenClaim := { program := "yteleabfbnlhkkaa", sum := "b91fc2bee596303c4650fd77cbb61b9f48898c4bb8551033dd4bbc4513a378cc", func := "comitia/comitialaw1.CodeBack", spec := "codeBack", unfollowed := true, recurses := true, apart := false, narrowed := true }
def CodeBackUptoSaid : Prop := codeBackUptoRow.holds Try.pinned (OpenSpec.upto codeBackSpec)

end Rows
end Go.Proofs.Yteleabfbnlhkkaa
