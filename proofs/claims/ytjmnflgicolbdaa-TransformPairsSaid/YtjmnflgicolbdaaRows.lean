/-
  No cell of these rows narrows 'for every input' (looked for: loops, veiled, ifaces, maps, wideKeys, modest, calm, conditions, laid).
  DERIVED. THE GIVEN ROWS OF THIS SEAT. 9 by the template 'for every input the law returns true; each argument reads behind the call as it read before'; 0 by the template 'total and deterministic' (their statements: YtjmnflgicolbdaaTotals.lean).
  GIVEN WITH THE SEED: the statements are not yours to turn. If you find one false, say at which input.
  Laid BY PROGRAM, IN A SANDBOX (cutbox-rows.mjs): the forced cells as the released guide's own fill.sh prints them over the translation 8b4bc81d5a997474… (all of the seat's roots in one cut). By AI agents, Wed Nov 11 2026. No macro, syntax, notation, axiom, sorry.
-/
import Derived.Test.YtjmnflgicolbdaaChecked
import GoSem.Claim
import GoSem.ClaimJoined
import GoSem.ClaimMapViews
import Derived.JoinedTies
import Derived.KernelRfl
namespace Go.Proofs.Ytjmnflgicolbdaa
/- THE CELL 'sum', in the pinned program and in every row, IS THE sha256 OF THE DUMP (.gsa) THAT YtjmnflgicolbdaaProg.lean LOADS. Nothing in Lean hashes anything: it is a label: what it is worth is what the hold of that sum in a sandbox is worth. -/
noncomputable def Try.pinned : Pinned := { name := "ytjmnflgicolbdaa", sum := "8b4bc81d5a9974746ed4b697f11b254d0d69c532176f7e01a89c7b26cb05fb45", checked := Try.checked }
namespace Rows
def none {H : Type} : Left H := { results := [], args := [] }

/-- 'comitialaw7.TransformPairs': WHATEVER THE INPUT: true; the input reads as it did. -/
def transformPairsSpec : ChangeSpec := { name := "transformPairs", fn := fun _ => fun
  | [d1, d2, d3, d4] => { results := [.lit (.bool true)], args := [d1, d2, d3, d4] }
  | _ => none }
def transformPairsRow : OpenClaim := { program := "ytjmnflgicolbdaa", sum := "8b4bc81d5a9974746ed4b697f11b254d0d69c532176f7e01a89c7b26cb05fb45", func := "comitia/comitialaw7.TransformPairs", spec := "transformPairs", apart := false }
def TransformPairsSaid : Prop := transformPairsRow.holds Try.pinned (OpenSpec.ofChange transformPairsSpec)

/-- ITS FALSE NEIGHBOUR: 'it returns false'. Refute it at one input. -/
def transformPairsWrong : ChangeSpec := { name := "transformPairs", fn := fun _ => fun
  | [d1, d2, d3, d4] => { results := [.lit (.bool false)], args := [d1, d2, d3, d4] }
  | _ => none }
def TransformPairsWrongFalsely : Prop := transformPairsRow.holds Try.pinned (OpenSpec.ofChange transformPairsWrong)

/-- 'comitialaw7.TransformMeets': WHATEVER THE INPUT: true; the input reads as it did. -/
def transformMeetsSpec : ChangeSpec := { name := "transformMeets", fn := fun _ => fun
  | [d1, d2, d3] => { results := [.lit (.bool true)], args := [d1, d2, d3] }
  | _ => none }
def transformMeetsRow : OpenClaim := { program := "ytjmnflgicolbdaa", sum := "8b4bc81d5a9974746ed4b697f11b254d0d69c532176f7e01a89c7b26cb05fb45", func := "comitia/comitialaw7.TransformMeets", spec := "transformMeets", apart := false }
def TransformMeetsSaid : Prop := transformMeetsRow.holds Try.pinned (OpenSpec.ofChange transformMeetsSpec)

/-- ITS FALSE NEIGHBOUR: 'it returns false'. Refute it at one input. -/
def transformMeetsWrong : ChangeSpec := { name := "transformMeets", fn := fun _ => fun
  | [d1, d2, d3] => { results := [.lit (.bool false)], args := [d1, d2, d3] }
  | _ => none }
def TransformMeetsWrongFalsely : Prop := transformMeetsRow.holds Try.pinned (OpenSpec.ofChange transformMeetsWrong)

/-- 'comitialaw7.TransformFirst': WHATEVER THE INPUT: true; the input reads as it did. -/
def transformFirstSpec : ChangeSpec := { name := "transformFirst", fn := fun _ => fun
  | [d1, d2, d3, d4] => { results := [.lit (.bool true)], args := [d1, d2, d3, d4] }
  | _ => none }
def transformFirstRow : OpenClaim := { program := "ytjmnflgicolbdaa", sum := "8b4bc81d5a9974746ed4b697f11b254d0d69c532176f7e01a89c7b26cb05fb45", func := "comitia/comitialaw7.TransformFirst", spec := "transformFirst", apart := false }
def TransformFirstSaid : Prop := transformFirstRow.holds Try.pinned (OpenSpec.ofChange transformFirstSpec)

/-- ITS FALSE NEIGHBOUR: 'it returns false'. Refute it at one input. -/
def transformFirstWrong : ChangeSpec := { name := "transformFirst", fn := fun _ => fun
  | [d1, d2, d3, d4] => { results := [.lit (.bool false)], args := [d1, d2, d3, d4] }
  | _ => none }
def TransformFirstWrongFalsely : Prop := transformFirstRow.holds Try.pinned (OpenSpec.ofChange transformFirstWrong)

/-- 'comitialaw7.TransformSelf': WHATEVER THE INPUT: true; the input reads as it did. -/
def transformSelfSpec : ChangeSpec := { name := "transformSelf", fn := fun _ => fun
  | [d1, d2] => { results := [.lit (.bool true)], args := [d1, d2] }
  | _ => none }
def transformSelfRow : OpenClaim := { program := "ytjmnflgicolbdaa", sum := "8b4bc81d5a9974746ed4b697f11b254d0d69c532176f7e01a89c7b26cb05fb45", func := "comitia/comitialaw7.TransformSelf", spec := "transformSelf", apart := false }
def TransformSelfSaid : Prop := transformSelfRow.holds Try.pinned (OpenSpec.ofChange transformSelfSpec)

/-- ITS FALSE NEIGHBOUR: 'it returns false'. Refute it at one input. -/
def transformSelfWrong : ChangeSpec := { name := "transformSelf", fn := fun _ => fun
  | [d1, d2] => { results := [.lit (.bool false)], args := [d1, d2] }
  | _ => none }
def TransformSelfWrongFalsely : Prop := transformSelfRow.holds Try.pinned (OpenSpec.ofChange transformSelfWrong)

/-- 'comitialaw7.TransformLengths': WHATEVER THE INPUT: true; the input reads as it did. -/
def transformLengthsSpec : ChangeSpec := { name := "transformLengths", fn := fun _ => fun
  | [d1, d2, d3] => { results := [.lit (.bool true)], args := [d1, d2, d3] }
  | _ => none }
def transformLengthsRow : OpenClaim := { program := "ytjmnflgicolbdaa", sum := "8b4bc81d5a9974746ed4b697f11b254d0d69c532176f7e01a89c7b26cb05fb45", func := "comitia/comitialaw7.TransformLengths", spec := "transformLengths", apart := false }
def TransformLengthsSaid : Prop := transformLengthsRow.holds Try.pinned (OpenSpec.ofChange transformLengthsSpec)

/-- ITS FALSE NEIGHBOUR: 'it returns false'. Refute it at one input. -/
def transformLengthsWrong : ChangeSpec := { name := "transformLengths", fn := fun _ => fun
  | [d1, d2, d3] => { results := [.lit (.bool false)], args := [d1, d2, d3] }
  | _ => none }
def TransformLengthsWrongFalsely : Prop := transformLengthsRow.holds Try.pinned (OpenSpec.ofChange transformLengthsWrong)

/-- 'comitialaw7.TransformForm': WHATEVER THE INPUT: true; the input reads as it did. -/
def transformFormSpec : ChangeSpec := { name := "transformForm", fn := fun _ => fun
  | [d1, d2, d3] => { results := [.lit (.bool true)], args := [d1, d2, d3] }
  | _ => none }
def transformFormRow : OpenClaim := { program := "ytjmnflgicolbdaa", sum := "8b4bc81d5a9974746ed4b697f11b254d0d69c532176f7e01a89c7b26cb05fb45", func := "comitia/comitialaw7.TransformForm", spec := "transformForm", apart := false }
def TransformFormSaid : Prop := transformFormRow.holds Try.pinned (OpenSpec.ofChange transformFormSpec)

/-- ITS FALSE NEIGHBOUR: 'it returns false'. Refute it at one input. -/
def transformFormWrong : ChangeSpec := { name := "transformForm", fn := fun _ => fun
  | [d1, d2, d3] => { results := [.lit (.bool false)], args := [d1, d2, d3] }
  | _ => none }
def TransformFormWrongFalsely : Prop := transformFormRow.holds Try.pinned (OpenSpec.ofChange transformFormWrong)

/-- 'comitialaw7.TransformCuts': WHATEVER THE INPUT: true; the input reads as it did. -/
def transformCutsSpec : ChangeSpec := { name := "transformCuts", fn := fun _ => fun
  | [d1, d2, d3, d4, d5] => { results := [.lit (.bool true)], args := [d1, d2, d3, d4, d5] }
  | _ => none }
def transformCutsRow : OpenClaim := { program := "ytjmnflgicolbdaa", sum := "8b4bc81d5a9974746ed4b697f11b254d0d69c532176f7e01a89c7b26cb05fb45", func := "comitia/comitialaw7.TransformCuts", spec := "transformCuts", apart := false }
def TransformCutsSaid : Prop := transformCutsRow.holds Try.pinned (OpenSpec.ofChange transformCutsSpec)

/-- ITS FALSE NEIGHBOUR: 'it returns false'. Refute it at one input. -/
def transformCutsWrong : ChangeSpec := { name := "transformCuts", fn := fun _ => fun
  | [d1, d2, d3, d4, d5] => { results := [.lit (.bool false)], args := [d1, d2, d3, d4, d5] }
  | _ => none }
def TransformCutsWrongFalsely : Prop := transformCutsRow.holds Try.pinned (OpenSpec.ofChange transformCutsWrong)

/-- 'comitialaw7.TransformNone': WHATEVER THE INPUT: true; the input reads as it did. -/
def transformNoneSpec : ChangeSpec := { name := "transformNone", fn := fun _ => fun
  | [d1, d2] => { results := [.lit (.bool true)], args := [d1, d2] }
  | _ => none }
def transformNoneRow : OpenClaim := { program := "ytjmnflgicolbdaa", sum := "8b4bc81d5a9974746ed4b697f11b254d0d69c532176f7e01a89c7b26cb05fb45", func := "comitia/comitialaw7.TransformNone", spec := "transformNone", apart := false }
def TransformNoneSaid : Prop := transformNoneRow.holds Try.pinned (OpenSpec.ofChange transformNoneSpec)

/-- ITS FALSE NEIGHBOUR: 'it returns false'. Refute it at one input. -/
def transformNoneWrong : ChangeSpec := { name := "transformNone", fn := fun _ => fun
  | [d1, d2] => { results := [.lit (.bool false)], args := [d1, d2] }
  | _ => none }
def TransformNoneWrongFalsely : Prop := transformNoneRow.holds Try.pinned (OpenSpec.ofChange transformNoneWrong)

/-- 'comitialaw7.TransformUndo': WHATEVER THE INPUT: true; the input reads as it did. -/
def transformUndoSpec : ChangeSpec := { name := "transformUndo", fn := fun _ => fun
  | [d1, d2, d3] => { results := [.lit (.bool true)], args := [d1, d2, d3] }
  | _ => none }
def transformUndoRow : OpenClaim := { program := "ytjmnflgicolbdaa", sum := "8b4bc81d5a9974746ed4b697f11b254d0d69c532176f7e01a89c7b26cb05fb45", func := "comitia/comitialaw7.TransformUndo", spec := "transformUndo", apart := false }
def TransformUndoSaid : Prop := transformUndoRow.holds Try.pinned (OpenSpec.ofChange transformUndoSpec)

/-- ITS FALSE NEIGHBOUR: 'it returns false'. Refute it at one input. -/
def transformUndoWrong : ChangeSpec := { name := "transformUndo", fn := fun _ => fun
  | [d1, d2, d3] => { results := [.lit (.bool false)], args := [d1, d2, d3] }
  | _ => none }
def TransformUndoWrongFalsely : Prop := transformUndoRow.holds Try.pinned (OpenSpec.ofChange transformUndoWrong)

/- THE SECOND FORM. 'bulk': how many values and letters a reading holds, each counted each time it is reached (what is shared counts as often as it is met; a slice's spare places count too). A statement '..UptoSaid' is the law's where the arguments, and the package variables that the reading takes, are together of bulk at most 1048576: NARROWER than '..Said'. Prove '..Said' where nothing that the law and all that it calls make is longer than what came in: it says more and counts as full. Else prove '..UptoSaid'. A law counts once. -/
mutual
def uptoBulk {H : Type} : DataW H → Nat
  | .lit (.string bytes) => bytes.length + 1
  | .lit _ => 1
  | .nil => 1
  | .ptr d => uptoBulk d + 1
  | .slice elems spare => uptoBulkAll elems + uptoBulkAll spare + 1
  | .agg parts => uptoBulkAll parts + 1
  | .iface _ d => uptoBulk d + 1
  | .map entries => uptoBulkEntries entries + 1
  | .held _ => 1
def uptoBulkAll {H : Type} : List (DataW H) → Nat
  | [] => 0
  | d :: r => uptoBulk d + uptoBulkAll r
def uptoBulkEntries {H : Type} : List (Lit × DataW H) → Nat
  | [] => 0
  | x :: r => uptoBulkEntry x + uptoBulkEntries r
def uptoBulkEntry {H : Type} : Lit × DataW H → Nat
  | (.string bytes, d) => bytes.length + uptoBulk d + 1
  | (_, d) => uptoBulk d + 1
 end
def uptoSmall : (H : Type) → List (DataW H) → Bool := fun _ ds => decide (uptoBulkAll ds ≤ 1048576)
def OpenSpec.upto (s : _root_.Go.ChangeSpec) : _root_.Go.OpenSpec := { _root_.Go.OpenSpec.ofChange s with cond := some uptoSmall }

/-- 'comitialaw7.TransformPairs', WHERE WHAT IT READS IS OF BULK AT MOST 1048576: true; the input reads as it did. -/
def transformPairsUptoRow : OpenClaim := { program := "ytjmnflgicolbdaa", sum := "8b4bc81d5a9974746ed4b697f11b254d0d69c532176f7e01a89c7b26cb05fb45", func := "comitia/comitialaw7.TransformPairs", spec := "transformPairs", apart := false, narrowed := true }
def TransformPairsUptoSaid : Prop := transformPairsUptoRow.holds Try.pinned (OpenSpec.upto transformPairsSpec)

/-- 'comitialaw7.TransformMeets', WHERE WHAT IT READS IS OF BULK AT MOST 1048576: true; the input reads as it did. -/
def transformMeetsUptoRow : OpenClaim := { program := "ytjmnflgicolbdaa", sum := "8b4bc81d5a9974746ed4b697f11b254d0d69c532176f7e01a89c7b26cb05fb45", func := "comitia/comitialaw7.TransformMeets", spec := "transformMeets", apart := false, narrowed := true }
def TransformMeetsUptoSaid : Prop := transformMeetsUptoRow.holds Try.pinned (OpenSpec.upto transformMeetsSpec)

/-- 'comitialaw7.TransformFirst', WHERE WHAT IT READS IS OF BULK AT MOST 1048576: true; the input reads as it did. -/
def transformFirstUptoRow : OpenClaim := { program := "ytjmnflgicolbdaa", sum := "8b4bc81d5a9974746ed4b697f11b254d0d69c532176f7e01a89c7b26cb05fb45", func := "comitia/comitialaw7.TransformFirst", spec := "transformFirst", apart := false, narrowed := true }
def TransformFirstUptoSaid : Prop := transformFirstUptoRow.holds Try.pinned (OpenSpec.upto transformFirstSpec)

/-- 'comitialaw7.TransformSelf', WHERE WHAT IT READS IS OF BULK AT MOST 1048576: true; the input reads as it did. -/
def transformSelfUptoRow : OpenClaim := { program := "ytjmnflgicolbdaa", sum := "8b4bc81d5a9974746ed4b697f11b254d0d69c532176f7e01a89c7b26cb05fb45", func := "comitia/comitialaw7.TransformSelf", spec := "transformSelf", apart := false, narrowed := true }
def TransformSelfUptoSaid : Prop := transformSelfUptoRow.holds Try.pinned (OpenSpec.upto transformSelfSpec)

/-- 'comitialaw7.TransformLengths', WHERE WHAT IT READS IS OF BULK AT MOST 1048576: true; the input reads as it did. -/
def transformLengthsUptoRow : OpenClaim := { program := "ytjmnflgicolbdaa", sum := "8b4bc81d5a9974746ed4b697f11b254d0d69c532176f7e01a89c7b26cb05fb45", func := "comitia/comitialaw7.TransformLengths", spec := "transformLengths", apart := false, narrowed := true }
def TransformLengthsUptoSaid : Prop := transformLengthsUptoRow.holds Try.pinned (OpenSpec.upto transformLengthsSpec)

/-- 'comitialaw7.TransformForm', WHERE WHAT IT READS IS OF BULK AT MOST 1048576: true; the input reads as it did. -/
def transformFormUptoRow : OpenClaim := { program := "ytjmnflgicolbdaa", sum := "8b4bc81d5a9974746ed4b697f11b254d0d69c532176f7e01a89c7b26cb05fb45", func := "comitia/comitialaw7.TransformForm", spec := "transformForm", apart := false, narrowed := true }
def TransformFormUptoSaid : Prop := transformFormUptoRow.holds Try.pinned (OpenSpec.upto transformFormSpec)

/-- 'comitialaw7.TransformCuts', WHERE WHAT IT READS IS OF BULK AT MOST 1048576: true; the input reads as it did. -/
def transformCutsUptoRow : OpenClaim := { program := "ytjmnflgicolbdaa", sum := "8b4bc81d5a9974746ed4b697f11b254d0d69c532176f7e01a89c7b26cb05fb45", func := "comitia/comitialaw7.TransformCuts", spec := "transformCuts", apart := false, narrowed := true }
def TransformCutsUptoSaid : Prop := transformCutsUptoRow.holds Try.pinned (OpenSpec.upto transformCutsSpec)

/-- 'comitialaw7.TransformNone', WHERE WHAT IT READS IS OF BULK AT MOST 1048576: true; the input reads as it did. -/
def transformNoneUptoRow : OpenClaim := { program := "ytjmnflgicolbdaa", sum := "8b4bc81d5a9974746ed4b697f11b254d0d69c532176f7e01a89c7b26cb05fb45", func := "comitia/comitialaw7.TransformNone", spec := "transformNone", apart := false, narrowed := true }
def TransformNoneUptoSaid : Prop := transformNoneUptoRow.holds Try.pinned (OpenSpec.upto transformNoneSpec)

/-- 'comitialaw7.TransformUndo', WHERE WHAT IT READS IS OF BULK AT MOST 1048576: true; the input reads as it did. -/
def transformUndoUptoRow : OpenClaim := { program := "ytjmnflgicolbdaa", sum := "8b4bc81d5a9974746ed4b697f11b254d0d69c532176f7e01a89c7b26cb05fb45", func := "comitia/comitialaw7.TransformUndo", spec := "transformUndo", apart := false, narrowed := true }
def TransformUndoUptoSaid : Prop := transformUndoUptoRow.holds Try.pinned (OpenSpec.upto transformUndoSpec)

end Rows
end Go.Proofs.Ytjmnflgicolbdaa
