/-
  No cell of these rows narrows 'for every input' (looked for: loops, veiled, ifaces, maps, wideKeys, modest, calm, conditions, laid).
  DERIVED. THE GIVEN ROWS OF THIS SEAT. 7 by the template 'for every input the law returns true; each argument reads behind the call as it read before'; 0 by the template 'total and deterministic' (their statements: YtmblpbaefoapaaaTotals.lean).
  GIVEN WITH THE SEED: the statements are not yours to turn. If you find one false, say at which input.
  Laid BY PROGRAM, IN A SANDBOX (cutbox-rows.mjs): the forced cells as the released guide's own fill.sh prints them over the translation 37339405075352f5… (all of the seat's roots in one cut). By AI agents, Wed Nov 11 2026. No macro, syntax, notation, axiom, sorry.
-/
import Derived.Test.YtmblpbaefoapaaaChecked
import GoSem.Claim
import GoSem.ClaimJoined
import GoSem.ClaimMapViews
import Derived.JoinedTies
import Derived.KernelRfl
namespace Go.Proofs.Ytmblpbaefoapaaa
/- THE CELL 'sum', in the pinned program and in every row, IS THE sha256 OF THE DUMP (.gsa) THAT YtmblpbaefoapaaaProg.lean LOADS. Nothing in Lean hashes anything: it is a label: what it is worth is what the hold of that sum in a sandbox is worth. -/
noncomputable def Try.pinned : Pinned := { name := "ytmblpbaefoapaaa", sum := "37339405075352f579183224649eceae3881c4808a0ef9bb441972cd4fb0dd6c", checked := Try.checked }
namespace Rows
def none {H : Type} : Left H := { results := [], args := [] }

/-- 'comitialaw5.ComposeTwo': WHATEVER THE INPUT: true; the input reads as it did. -/
def composeTwoSpec : ChangeSpec := { name := "composeTwo", fn := fun _ => fun
  | [d1, d2, d3, d4] => { results := [.lit (.bool true)], args := [d1, d2, d3, d4] }
  | _ => none }
def composeTwoRow : OpenClaim := { program := "ytmblpbaefoapaaa", sum := "37339405075352f579183224649eceae3881c4808a0ef9bb441972cd4fb0dd6c", func := "comitia/comitialaw5.ComposeTwo", spec := "composeTwo", apart := false }
def ComposeTwoSaid : Prop := composeTwoRow.holds Try.pinned (OpenSpec.ofChange composeTwoSpec)

/-- ITS FALSE NEIGHBOUR: 'it returns false'. Refute it at one input. -/
def composeTwoWrong : ChangeSpec := { name := "composeTwo", fn := fun _ => fun
  | [d1, d2, d3, d4] => { results := [.lit (.bool false)], args := [d1, d2, d3, d4] }
  | _ => none }
def ComposeTwoWrongFalsely : Prop := composeTwoRow.holds Try.pinned (OpenSpec.ofChange composeTwoWrong)

/-- 'comitialaw5.ComposeDoes': WHATEVER THE INPUT: true; the input reads as it did. -/
def composeDoesSpec : ChangeSpec := { name := "composeDoes", fn := fun _ => fun
  | [d1, d2, d3] => { results := [.lit (.bool true)], args := [d1, d2, d3] }
  | _ => none }
def composeDoesRow : OpenClaim := { program := "ytmblpbaefoapaaa", sum := "37339405075352f579183224649eceae3881c4808a0ef9bb441972cd4fb0dd6c", func := "comitia/comitialaw5.ComposeDoes", spec := "composeDoes", apart := false }
def ComposeDoesSaid : Prop := composeDoesRow.holds Try.pinned (OpenSpec.ofChange composeDoesSpec)

/-- ITS FALSE NEIGHBOUR: 'it returns false'. Refute it at one input. -/
def composeDoesWrong : ChangeSpec := { name := "composeDoes", fn := fun _ => fun
  | [d1, d2, d3] => { results := [.lit (.bool false)], args := [d1, d2, d3] }
  | _ => none }
def ComposeDoesWrongFalsely : Prop := composeDoesRow.holds Try.pinned (OpenSpec.ofChange composeDoesWrong)

/-- 'comitialaw5.ComposeNormal': WHATEVER THE INPUT: true; the input reads as it did. -/
def composeNormalSpec : ChangeSpec := { name := "composeNormal", fn := fun _ => fun
  | [d1, d2, d3] => { results := [.lit (.bool true)], args := [d1, d2, d3] }
  | _ => none }
def composeNormalRow : OpenClaim := { program := "ytmblpbaefoapaaa", sum := "37339405075352f579183224649eceae3881c4808a0ef9bb441972cd4fb0dd6c", func := "comitia/comitialaw5.ComposeNormal", spec := "composeNormal", apart := false }
def ComposeNormalSaid : Prop := composeNormalRow.holds Try.pinned (OpenSpec.ofChange composeNormalSpec)

/-- ITS FALSE NEIGHBOUR: 'it returns false'. Refute it at one input. -/
def composeNormalWrong : ChangeSpec := { name := "composeNormal", fn := fun _ => fun
  | [d1, d2, d3] => { results := [.lit (.bool false)], args := [d1, d2, d3] }
  | _ => none }
def ComposeNormalWrongFalsely : Prop := composeNormalRow.holds Try.pinned (OpenSpec.ofChange composeNormalWrong)

/-- 'comitialaw5.ComposeAll': WHATEVER THE INPUT: true; the input reads as it did. -/
def composeAllSpec : ChangeSpec := { name := "composeAll", fn := fun _ => fun
  | [d1, d2, d3, d4] => { results := [.lit (.bool true)], args := [d1, d2, d3, d4] }
  | _ => none }
def composeAllRow : OpenClaim := { program := "ytmblpbaefoapaaa", sum := "37339405075352f579183224649eceae3881c4808a0ef9bb441972cd4fb0dd6c", func := "comitia/comitialaw5.ComposeAll", spec := "composeAll", apart := false }
def ComposeAllSaid : Prop := composeAllRow.holds Try.pinned (OpenSpec.ofChange composeAllSpec)

/-- ITS FALSE NEIGHBOUR: 'it returns false'. Refute it at one input. -/
def composeAllWrong : ChangeSpec := { name := "composeAll", fn := fun _ => fun
  | [d1, d2, d3, d4] => { results := [.lit (.bool false)], args := [d1, d2, d3, d4] }
  | _ => none }
def ComposeAllWrongFalsely : Prop := composeAllRow.holds Try.pinned (OpenSpec.ofChange composeAllWrong)

/-- 'comitialaw5.ComposeNone': WHATEVER THE INPUT: true; the input reads as it did. -/
def composeNoneSpec : ChangeSpec := { name := "composeNone", fn := fun _ => fun
  | [d1, d2, d3] => { results := [.lit (.bool true)], args := [d1, d2, d3] }
  | _ => none }
def composeNoneRow : OpenClaim := { program := "ytmblpbaefoapaaa", sum := "37339405075352f579183224649eceae3881c4808a0ef9bb441972cd4fb0dd6c", func := "comitia/comitialaw5.ComposeNone", spec := "composeNone", apart := false }
def ComposeNoneSaid : Prop := composeNoneRow.holds Try.pinned (OpenSpec.ofChange composeNoneSpec)

/-- ITS FALSE NEIGHBOUR: 'it returns false'. Refute it at one input. -/
def composeNoneWrong : ChangeSpec := { name := "composeNone", fn := fun _ => fun
  | [d1, d2, d3] => { results := [.lit (.bool false)], args := [d1, d2, d3] }
  | _ => none }
def ComposeNoneWrongFalsely : Prop := composeNoneRow.holds Try.pinned (OpenSpec.ofChange composeNoneWrong)

/-- 'comitialaw5.ComposeRows': WHATEVER THE INPUT: true; the input reads as it did. -/
def composeRowsSpec : ChangeSpec := { name := "composeRows", fn := fun _ => fun
  | [d1, d2, d3, d4] => { results := [.lit (.bool true)], args := [d1, d2, d3, d4] }
  | _ => none }
def composeRowsRow : OpenClaim := { program := "ytmblpbaefoapaaa", sum := "37339405075352f579183224649eceae3881c4808a0ef9bb441972cd4fb0dd6c", func := "comitia/comitialaw5.ComposeRows", spec := "composeRows", apart := false }
def ComposeRowsSaid : Prop := composeRowsRow.holds Try.pinned (OpenSpec.ofChange composeRowsSpec)

/-- ITS FALSE NEIGHBOUR: 'it returns false'. Refute it at one input. -/
def composeRowsWrong : ChangeSpec := { name := "composeRows", fn := fun _ => fun
  | [d1, d2, d3, d4] => { results := [.lit (.bool false)], args := [d1, d2, d3, d4] }
  | _ => none }
def ComposeRowsWrongFalsely : Prop := composeRowsRow.holds Try.pinned (OpenSpec.ofChange composeRowsWrong)

/-- 'comitialaw5.ComposeLengths': WHATEVER THE INPUT: true; the input reads as it did. -/
def composeLengthsSpec : ChangeSpec := { name := "composeLengths", fn := fun _ => fun
  | [d1, d2, d3, d4] => { results := [.lit (.bool true)], args := [d1, d2, d3, d4] }
  | _ => none }
def composeLengthsRow : OpenClaim := { program := "ytmblpbaefoapaaa", sum := "37339405075352f579183224649eceae3881c4808a0ef9bb441972cd4fb0dd6c", func := "comitia/comitialaw5.ComposeLengths", spec := "composeLengths", apart := false }
def ComposeLengthsSaid : Prop := composeLengthsRow.holds Try.pinned (OpenSpec.ofChange composeLengthsSpec)

/-- ITS FALSE NEIGHBOUR: 'it returns false'. Refute it at one input. -/
def composeLengthsWrong : ChangeSpec := { name := "composeLengths", fn := fun _ => fun
  | [d1, d2, d3, d4] => { results := [.lit (.bool false)], args := [d1, d2, d3, d4] }
  | _ => none }
def ComposeLengthsWrongFalsely : Prop := composeLengthsRow.holds Try.pinned (OpenSpec.ofChange composeLengthsWrong)

/- THE SECOND FORM. 'bulk': how many values and letters a reading holds, each counted each time it is reached (what is shared counts as often as it is met; a slice's spare places count too). A statement '..UptoSaid' is the law's where the arguments, and the package variables that the reading takes, are together of bulk at most 1048576: NARROWER than '..Said'. Prove '..Said' where nothing that the law and all that it calls make is longer than what came in: it says more and counts as full. Else prove '..UptoSaid'. A law counts once. -/
mutual
def uptoBulk {H : Type} : DataW H → Nat
  | .lit (.string bytes) => bytes.length + 1
  | .lit _ => 1
  | .nil => 1
  | .ptr d => uptoBulk d + 1
  | .slice elems spare => uptoBulkAll elems + uptoBulkAll spare + 1
  | .agg parts => uptoBulkAll parts + 1
  | .iface _ d => uptoBulk d + 1
  | .map entries => uptoBulkEntries entries + 1
  | .held _ => 1
def uptoBulkAll {H : Type} : List (DataW H) → Nat
  | [] => 0
  | d :: r => uptoBulk d + uptoBulkAll r
def uptoBulkEntries {H : Type} : List (Lit × DataW H) → Nat
  | [] => 0
  | x :: r => uptoBulkEntry x + uptoBulkEntries r
def uptoBulkEntry {H : Type} : Lit × DataW H → Nat
  | (.string bytes, d) => bytes.length + uptoBulk d + 1
  | (_, d) => uptoBulk d + 1
 end
def uptoSmall : (H : Type) → List (DataW H) → Bool := fun _ ds => decide (uptoBulkAll ds ≤ 1048576)
def OpenSpec.upto (s : _root_.Go.ChangeSpec) : _root_.Go.OpenSpec := { _root_.Go.OpenSpec.ofChange s with cond := some uptoSmall }

/-- 'comitialaw5.ComposeTwo', WHERE WHAT IT READS IS OF BULK AT MOST 1048576: true; the input reads as it did. -/
def composeTwoUptoRow : OpenClaim := { program := "ytmblpbaefoapaaa", sum := "37339405075352f579183224649eceae3881c4808a0ef9bb441972cd4fb0dd6c", func := "comitia/comitialaw5.ComposeTwo", spec := "composeTwo", apart := false, narrowed := true }
def ComposeTwoUptoSaid : Prop := composeTwoUptoRow.holds Try.pinned (OpenSpec.upto composeTwoSpec)

/-- 'comitialaw5.ComposeDoes', WHERE WHAT IT READS IS OF BULK AT MOST 1048576: true; the input reads as it did. -/
def composeDoesUptoRow : OpenClaim := { program := "ytmblpbaefoapaaa", sum := "37339405075352f579183224649eceae3881c4808a0ef9bb441972cd4fb0dd6c", func := "comitia/comitialaw5.ComposeDoes", spec := "composeDoes", apart := false, narrowed := true }
def ComposeDoesUptoSaid : Prop := composeDoesUptoRow.holds Try.pinned (OpenSpec.upto composeDoesSpec)

/-- 'comitialaw5.ComposeNormal', WHERE WHAT IT READS IS OF BULK AT MOST 1048576: true; the input reads as it did. -/
def composeNormalUptoRow : OpenClaim := { program := "ytmblpbaefoapaaa", sum := "37339405075352f579183224649eceae3881c4808a0ef9bb441972cd4fb0dd6c", func := "comitia/comitialaw5.ComposeNormal", spec := "composeNormal", apart := false, narrowed := true }
def ComposeNormalUptoSaid : Prop := composeNormalUptoRow.holds Try.pinned (OpenSpec.upto composeNormalSpec)

/-- 'comitialaw5.ComposeAll', WHERE WHAT IT READS IS OF BULK AT MOST 1048576: true; the input reads as it did. -/
def composeAllUptoRow : OpenClaim := { program := "ytmblpbaefoapaaa", sum := "37339405075352f579183224649eceae3881c4808a0ef9bb441972cd4fb0dd6c", func := "comitia/comitialaw5.ComposeAll", spec := "composeAll", apart := false, narrowed := true }
def ComposeAllUptoSaid : Prop := composeAllUptoRow.holds Try.pinned (OpenSpec.upto composeAllSpec)

/-- 'comitialaw5.ComposeNone', WHERE WHAT IT READS IS OF BULK AT MOST 1048576: true; the input reads as it did. -/
def composeNoneUptoRow : OpenClaim := { program := "ytmblpbaefoapaaa", sum := "37339405075352f579183224649eceae3881c4808a0ef9bb441972cd4fb0dd6c", func := "comitia/comitialaw5.ComposeNone", spec := "composeNone", apart := false, narrowed := true }
def ComposeNoneUptoSaid : Prop := composeNoneUptoRow.holds Try.pinned (OpenSpec.upto composeNoneSpec)

/-- 'comitialaw5.ComposeRows', WHERE WHAT IT READS IS OF BULK AT MOST 1048576: true; the input reads as it did. -/
def composeRowsUptoRow : OpenClaim := { program := "ytmblpbaefoapaaa", sum := "37339405075352f579183224649eceae3881c4808a0ef9bb441972cd4fb0dd6c", func := "comitia/comitialaw5.ComposeRows", spec := "composeRows", apart := false, narrowed := true }
def ComposeRowsUptoSaid : Prop := composeRowsUptoRow.holds Try.pinned (OpenSpec.upto composeRowsSpec)

/-- 'comitialaw5.ComposeLengths', WHERE WHAT IT READS IS OF BULK AT MOST 1048576: true; the input reads as it did. -/
def composeLengthsUptoRow : OpenClaim := { program := "ytmblpbaefoapaaa", sum := "37339405075352f579183224649eceae3881c4808a0ef9bb441972cd4fb0dd6c", func := "comitia/comitialaw5.ComposeLengths", spec := "composeLengths", apart := false, narrowed := true }
def ComposeLengthsUptoSaid : Prop := composeLengthsUptoRow.holds Try.pinned (OpenSpec.upto composeLengthsSpec)

end Rows
end Go.Proofs.Ytmblpbaefoapaaa
