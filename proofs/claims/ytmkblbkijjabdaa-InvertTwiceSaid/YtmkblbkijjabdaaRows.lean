/-
  No cell of these rows narrows 'for every input' (looked for: loops, veiled, ifaces, maps, wideKeys, modest, calm, conditions, laid).
  DERIVED. THE GIVEN ROWS OF THIS SEAT. 6 by the template 'for every input the law returns true; each argument reads behind the call as it read before'; 0 by the template 'total and deterministic' (their statements: YtmkblbkijjabdaaTotals.lean).
  GIVEN WITH THE SEED: the statements are not yours to turn. If you find one false, say at which input.
  Laid BY PROGRAM, IN A SANDBOX (cutbox-rows.mjs): the forced cells as the released guide's own fill.sh prints them over the translation c0a08a36659c819d… (all of the seat's roots in one cut). By AI agents, Wed Nov 11 2026. No macro, syntax, notation, axiom, sorry.
-/
import Derived.Test.YtmkblbkijjabdaaChecked
import GoSem.Claim
import GoSem.ClaimJoined
import GoSem.ClaimMapViews
import Derived.JoinedTies
import Derived.KernelRfl
namespace Go.Proofs.Ytmkblbkijjabdaa
/- THE CELL 'sum', in the pinned program and in every row, IS THE sha256 OF THE DUMP (.gsa) THAT YtmkblbkijjabdaaProg.lean LOADS. Nothing in Lean hashes anything: it is a label: what it is worth is what the hold of that sum in a sandbox is worth. -/
noncomputable def Try.pinned : Pinned := { name := "ytmkblbkijjabdaa", sum := "c0a08a36659c819d16e7bd754e6e12c6678e3ed025f360dbe29dc6488773604d", checked := Try.checked }
namespace Rows
def none {H : Type} : Left H := { results := [], args := [] }

/-- 'comitialaw6.InvertAll': WHATEVER THE INPUT: true; the input reads as it did. -/
def invertAllSpec : ChangeSpec := { name := "invertAll", fn := fun _ => fun
  | [d1, d2, d3] => { results := [.lit (.bool true)], args := [d1, d2, d3] }
  | _ => none }
def invertAllRow : OpenClaim := { program := "ytmkblbkijjabdaa", sum := "c0a08a36659c819d16e7bd754e6e12c6678e3ed025f360dbe29dc6488773604d", func := "comitia/comitialaw6.InvertAll", spec := "invertAll", apart := false }
def InvertAllSaid : Prop := invertAllRow.holds Try.pinned (OpenSpec.ofChange invertAllSpec)

/-- ITS FALSE NEIGHBOUR: 'it returns false'. Refute it at one input. -/
def invertAllWrong : ChangeSpec := { name := "invertAll", fn := fun _ => fun
  | [d1, d2, d3] => { results := [.lit (.bool false)], args := [d1, d2, d3] }
  | _ => none }
def InvertAllWrongFalsely : Prop := invertAllRow.holds Try.pinned (OpenSpec.ofChange invertAllWrong)

/-- 'comitialaw6.InvertBack': WHATEVER THE INPUT: true; the input reads as it did. -/
def invertBackSpec : ChangeSpec := { name := "invertBack", fn := fun _ => fun
  | [d1, d2] => { results := [.lit (.bool true)], args := [d1, d2] }
  | _ => none }
def invertBackRow : OpenClaim := { program := "ytmkblbkijjabdaa", sum := "c0a08a36659c819d16e7bd754e6e12c6678e3ed025f360dbe29dc6488773604d", func := "comitia/comitialaw6.InvertBack", spec := "invertBack", apart := false }
def InvertBackSaid : Prop := invertBackRow.holds Try.pinned (OpenSpec.ofChange invertBackSpec)

/-- ITS FALSE NEIGHBOUR: 'it returns false'. Refute it at one input. -/
def invertBackWrong : ChangeSpec := { name := "invertBack", fn := fun _ => fun
  | [d1, d2] => { results := [.lit (.bool false)], args := [d1, d2] }
  | _ => none }
def InvertBackWrongFalsely : Prop := invertBackRow.holds Try.pinned (OpenSpec.ofChange invertBackWrong)

/-- 'comitialaw6.InvertTwice': WHATEVER THE INPUT: true; the input reads as it did. -/
def invertTwiceSpec : ChangeSpec := { name := "invertTwice", fn := fun _ => fun
  | [d1, d2, d3] => { results := [.lit (.bool true)], args := [d1, d2, d3] }
  | _ => none }
def invertTwiceRow : OpenClaim := { program := "ytmkblbkijjabdaa", sum := "c0a08a36659c819d16e7bd754e6e12c6678e3ed025f360dbe29dc6488773604d", func := "comitia/comitialaw6.InvertTwice", spec := "invertTwice", apart := false }
def InvertTwiceSaid : Prop := invertTwiceRow.holds Try.pinned (OpenSpec.ofChange invertTwiceSpec)

/-- ITS FALSE NEIGHBOUR: 'it returns false'. Refute it at one input. -/
def invertTwiceWrong : ChangeSpec := { name := "invertTwice", fn := fun _ => fun
  | [d1, d2, d3] => { results := [.lit (.bool false)], args := [d1, d2, d3] }
  | _ => none }
def InvertTwiceWrongFalsely : Prop := invertTwiceRow.holds Try.pinned (OpenSpec.ofChange invertTwiceWrong)

/-- 'comitialaw6.InvertParts': WHATEVER THE INPUT: true; the input reads as it did. -/
def invertPartsSpec : ChangeSpec := { name := "invertParts", fn := fun _ => fun
  | [d1, d2, d3] => { results := [.lit (.bool true)], args := [d1, d2, d3] }
  | _ => none }
def invertPartsRow : OpenClaim := { program := "ytmkblbkijjabdaa", sum := "c0a08a36659c819d16e7bd754e6e12c6678e3ed025f360dbe29dc6488773604d", func := "comitia/comitialaw6.InvertParts", spec := "invertParts", apart := false }
def InvertPartsSaid : Prop := invertPartsRow.holds Try.pinned (OpenSpec.ofChange invertPartsSpec)

/-- ITS FALSE NEIGHBOUR: 'it returns false'. Refute it at one input. -/
def invertPartsWrong : ChangeSpec := { name := "invertParts", fn := fun _ => fun
  | [d1, d2, d3] => { results := [.lit (.bool false)], args := [d1, d2, d3] }
  | _ => none }
def InvertPartsWrongFalsely : Prop := invertPartsRow.holds Try.pinned (OpenSpec.ofChange invertPartsWrong)

/-- 'comitialaw6.InvertNone': WHATEVER THE INPUT: true; the input reads as it did. -/
def invertNoneSpec : ChangeSpec := { name := "invertNone", fn := fun _ => fun
  | [d1, d2] => { results := [.lit (.bool true)], args := [d1, d2] }
  | _ => none }
def invertNoneRow : OpenClaim := { program := "ytmkblbkijjabdaa", sum := "c0a08a36659c819d16e7bd754e6e12c6678e3ed025f360dbe29dc6488773604d", func := "comitia/comitialaw6.InvertNone", spec := "invertNone", apart := false }
def InvertNoneSaid : Prop := invertNoneRow.holds Try.pinned (OpenSpec.ofChange invertNoneSpec)

/-- ITS FALSE NEIGHBOUR: 'it returns false'. Refute it at one input. -/
def invertNoneWrong : ChangeSpec := { name := "invertNone", fn := fun _ => fun
  | [d1, d2] => { results := [.lit (.bool false)], args := [d1, d2] }
  | _ => none }
def InvertNoneWrongFalsely : Prop := invertNoneRow.holds Try.pinned (OpenSpec.ofChange invertNoneWrong)

/-- 'comitialaw6.InvertLengths': WHATEVER THE INPUT: true; the input reads as it did. -/
def invertLengthsSpec : ChangeSpec := { name := "invertLengths", fn := fun _ => fun
  | [d1, d2] => { results := [.lit (.bool true)], args := [d1, d2] }
  | _ => none }
def invertLengthsRow : OpenClaim := { program := "ytmkblbkijjabdaa", sum := "c0a08a36659c819d16e7bd754e6e12c6678e3ed025f360dbe29dc6488773604d", func := "comitia/comitialaw6.InvertLengths", spec := "invertLengths", apart := false }
def InvertLengthsSaid : Prop := invertLengthsRow.holds Try.pinned (OpenSpec.ofChange invertLengthsSpec)

/-- ITS FALSE NEIGHBOUR: 'it returns false'. Refute it at one input. -/
def invertLengthsWrong : ChangeSpec := { name := "invertLengths", fn := fun _ => fun
  | [d1, d2] => { results := [.lit (.bool false)], args := [d1, d2] }
  | _ => none }
def InvertLengthsWrongFalsely : Prop := invertLengthsRow.holds Try.pinned (OpenSpec.ofChange invertLengthsWrong)

/- THE SECOND FORM. 'bulk': how many values and letters a reading holds, each counted each time it is reached (what is shared counts as often as it is met; a slice's spare places count too). A statement '..UptoSaid' is the law's where the arguments, and the package variables that the reading takes, are together of bulk at most 1048576: NARROWER than '..Said'. Prove '..Said' where nothing that the law and all that it calls make is longer than what came in: it says more and counts as full. Else prove '..UptoSaid'. A law counts once. -/
mutual
def uptoBulk {H : Type} : DataW H → Nat
  | .lit (.string bytes) => bytes.length + 1
  | .lit _ => 1
  | .nil => 1
  | .ptr d => uptoBulk d + 1
  | .slice elems spare => uptoBulkAll elems + uptoBulkAll spare + 1
  | .agg parts => uptoBulkAll parts + 1
  | .iface _ d => uptoBulk d + 1
  | .map entries => uptoBulkEntries entries + 1
  | .held _ => 1
def uptoBulkAll {H : Type} : List (DataW H) → Nat
  | [] => 0
  | d :: r => uptoBulk d + uptoBulkAll r
def uptoBulkEntries {H : Type} : List (Lit × DataW H) → Nat
  | [] => 0
  | x :: r => uptoBulkEntry x + uptoBulkEntries r
def uptoBulkEntry {H : Type} : Lit × DataW H → Nat
  | (.string bytes, d) => bytes.length + uptoBulk d + 1
  | (_, d) => uptoBulk d + 1
 end
def uptoSmall : (H : Type) → List (DataW H) → Bool := fun _ ds => decide (uptoBulkAll ds ≤ 1048576)
def OpenSpec.upto (s : _root_.Go.ChangeSpec) : _root_.Go.OpenSpec := { _root_.Go.OpenSpec.ofChange s with cond := some uptoSmall }

/-- 'comitialaw6.InvertAll', WHERE WHAT IT READS IS OF BULK AT MOST 1048576: true; the input reads as it did. -/
def invertAllUptoRow : OpenClaim := { program := "ytmkblbkijjabdaa", sum := "c0a08a36659c819d16e7bd754e6e12c6678e3ed025f360dbe29dc6488773604d", func := "comitia/comitialaw6.InvertAll", spec := "invertAll", apart := false, narrowed := true }
def InvertAllUptoSaid : Prop := invertAllUptoRow.holds Try.pinned (OpenSpec.upto invertAllSpec)

/-- 'comitialaw6.InvertBack', WHERE WHAT IT READS IS OF BULK AT MOST 1048576: true; the input reads as it did. -/
def invertBackUptoRow : OpenClaim := { program := "ytmkblbkijjabdaa", sum := "c0a08a36659c819d16e7bd754e6e12c6678e3ed025f360dbe29dc6488773604d", func := "comitia/comitialaw6.InvertBack", spec := "invertBack", apart := false, narrowed := true }
def InvertBackUptoSaid : Prop := invertBackUptoRow.holds Try.pinned (OpenSpec.upto invertBackSpec)

/-- 'comitialaw6.InvertTwice', WHERE WHAT IT READS IS OF BULK AT MOST 1048576: true; the input reads as it did. -/
def invertTwiceUptoRow : OpenClaim := { program := "ytmkblbkijjabdaa", sum := "c0a08a36659c819d16e7bd754e6e12c6678e3ed025f360dbe29dc6488773604d", func := "comitia/comitialaw6.InvertTwice", spec := "invertTwice", apart := false, narrowed := true }
def InvertTwiceUptoSaid : Prop := invertTwiceUptoRow.holds Try.pinned (OpenSpec.upto invertTwiceSpec)

/-- 'comitialaw6.InvertParts', WHERE WHAT IT READS IS OF BULK AT MOST 1048576: true; the input reads as it did. -/
def invertPartsUptoRow : OpenClaim := { program := "ytmkblbkijjabdaa", sum := "c0a08a36659c819d16e7bd754e6e12c6678e3ed025f360dbe29dc6488773604d", func := "comitia/comitialaw6.InvertParts", spec := "invertParts", apart := false, narrowed := true }
def InvertPartsUptoSaid : Prop := invertPartsUptoRow.holds Try.pinned (OpenSpec.upto invertPartsSpec)

/-- 'comitialaw6.InvertNone', WHERE WHAT IT READS IS OF BULK AT MOST 1048576: true; the input reads as it did. -/
def invertNoneUptoRow : OpenClaim := { program := "ytmkblbkijjabdaa", sum := "c0a08a36659c819d16e7bd754e6e12c6678e3ed025f360dbe29dc6488773604d", func := "comitia/comitialaw6.InvertNone", spec := "invertNone", apart := false, narrowed := true }
def InvertNoneUptoSaid : Prop := invertNoneUptoRow.holds Try.pinned (OpenSpec.upto invertNoneSpec)

/-- 'comitialaw6.InvertLengths', WHERE WHAT IT READS IS OF BULK AT MOST 1048576: true; the input reads as it did. -/
def invertLengthsUptoRow : OpenClaim := { program := "ytmkblbkijjabdaa", sum := "c0a08a36659c819d16e7bd754e6e12c6678e3ed025f360dbe29dc6488773604d", func := "comitia/comitialaw6.InvertLengths", spec := "invertLengths", apart := false, narrowed := true }
def InvertLengthsUptoSaid : Prop := invertLengthsUptoRow.holds Try.pinned (OpenSpec.upto invertLengthsSpec)

end Rows
end Go.Proofs.Ytmkblbkijjabdaa
