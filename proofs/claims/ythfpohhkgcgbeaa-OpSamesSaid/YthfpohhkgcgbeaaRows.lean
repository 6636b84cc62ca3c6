/-
  No cell of these rows narrows 'for every input' (looked for: loops, veiled, ifaces, maps, wideKeys, modest, calm, conditions, laid).
  DERIVED. THE GIVEN ROWS OF THIS SEAT. 8 by the template 'for every input the law returns true; each argument reads behind the call as it read before'; 0 by the template 'total and deterministic' (their statements: YthfpohhkgcgbeaaTotals.lean).
  GIVEN WITH THE SEED: the statements are not yours to turn. If you find one false, say at which input.
  Laid BY PROGRAM, IN A SANDBOX (cutbox-rows.mjs): the forced cells as the released guide's own fill.sh prints them over the translation 3ef466e472bb4e4f… (all of the seat's roots in one cut). By AI agents, Wed Nov 11 2026. No macro, syntax, notation, axiom, sorry.
-/
import Derived.Test.YthfpohhkgcgbeaaChecked
import GoSem.Claim
import GoSem.ClaimJoined
import GoSem.ClaimMapViews
import Derived.JoinedTies
import Derived.KernelRfl
namespace Go.Proofs.Ythfpohhkgcgbeaa
/- THE CELL 'sum', in the pinned program and in every row, IS THE sha256 OF THE DUMP (.gsa) THAT YthfpohhkgcgbeaaProg.lean LOADS. Nothing in Lean hashes anything: it is a label: what it is worth is what the hold of that sum in a sandbox is worth. -/
noncomputable def Try.pinned : Pinned := { name := "ythfpohhkgcgbeaa", sum := "3ef466e472bb4e4f9e94ee1beb85d6f35063c92dca0940954bc1722c6e5c13b7", checked := Try.checked }
namespace Rows
def none {H : Type} : Left H := { results := [], args := [] }

/-- 'comitialaw4.OpForms': WHATEVER THE INPUT: true; the input reads as it did. -/
def opFormsSpec : ChangeSpec := { name := "opForms", fn := fun _ => fun
  | [d1, d2, d3] => { results := [.lit (.bool true)], args := [d1, d2, d3] }
  | _ => none }
def opFormsRow : OpenClaim := { program := "ythfpohhkgcgbeaa", sum := "3ef466e472bb4e4f9e94ee1beb85d6f35063c92dca0940954bc1722c6e5c13b7", func := "comitia/comitialaw4.OpForms", spec := "opForms", apart := false }
def OpFormsSaid : Prop := opFormsRow.holds Try.pinned (OpenSpec.ofChange opFormsSpec)

/-- ITS FALSE NEIGHBOUR: 'it returns false'. Refute it at one input. -/
def opFormsWrong : ChangeSpec := { name := "opForms", fn := fun _ => fun
  | [d1, d2, d3] => { results := [.lit (.bool false)], args := [d1, d2, d3] }
  | _ => none }
def OpFormsWrongFalsely : Prop := opFormsRow.holds Try.pinned (OpenSpec.ofChange opFormsWrong)

/-- 'comitialaw4.OpSames': WHATEVER THE INPUT: true; the input reads as it did. -/
def opSamesSpec : ChangeSpec := { name := "opSames", fn := fun _ => fun
  | [d1, d2, d3] => { results := [.lit (.bool true)], args := [d1, d2, d3] }
  | _ => none }
def opSamesRow : OpenClaim := { program := "ythfpohhkgcgbeaa", sum := "3ef466e472bb4e4f9e94ee1beb85d6f35063c92dca0940954bc1722c6e5c13b7", func := "comitia/comitialaw4.OpSames", spec := "opSames", apart := false }
def OpSamesSaid : Prop := opSamesRow.holds Try.pinned (OpenSpec.ofChange opSamesSpec)

/-- ITS FALSE NEIGHBOUR: 'it returns false'. Refute it at one input. -/
def opSamesWrong : ChangeSpec := { name := "opSames", fn := fun _ => fun
  | [d1, d2, d3] => { results := [.lit (.bool false)], args := [d1, d2, d3] }
  | _ => none }
def OpSamesWrongFalsely : Prop := opSamesRow.holds Try.pinned (OpenSpec.ofChange opSamesWrong)

/-- 'comitialaw4.OpRows': WHATEVER THE INPUT: true; the input reads as it did. -/
def opRowsSpec : ChangeSpec := { name := "opRows", fn := fun _ => fun
  | [d1, d2] => { results := [.lit (.bool true)], args := [d1, d2] }
  | _ => none }
def opRowsRow : OpenClaim := { program := "ythfpohhkgcgbeaa", sum := "3ef466e472bb4e4f9e94ee1beb85d6f35063c92dca0940954bc1722c6e5c13b7", func := "comitia/comitialaw4.OpRows", spec := "opRows", apart := false }
def OpRowsSaid : Prop := opRowsRow.holds Try.pinned (OpenSpec.ofChange opRowsSpec)

/-- ITS FALSE NEIGHBOUR: 'it returns false'. Refute it at one input. -/
def opRowsWrong : ChangeSpec := { name := "opRows", fn := fun _ => fun
  | [d1, d2] => { results := [.lit (.bool false)], args := [d1, d2] }
  | _ => none }
def OpRowsWrongFalsely : Prop := opRowsRow.holds Try.pinned (OpenSpec.ofChange opRowsWrong)

/-- 'comitialaw4.OpLong': WHATEVER THE INPUT: true; the input reads as it did. -/
def opLongSpec : ChangeSpec := { name := "opLong", fn := fun _ => fun
  | [d1, d2] => { results := [.lit (.bool true)], args := [d1, d2] }
  | _ => none }
def opLongRow : OpenClaim := { program := "ythfpohhkgcgbeaa", sum := "3ef466e472bb4e4f9e94ee1beb85d6f35063c92dca0940954bc1722c6e5c13b7", func := "comitia/comitialaw4.OpLong", spec := "opLong", apart := false }
def OpLongSaid : Prop := opLongRow.holds Try.pinned (OpenSpec.ofChange opLongSpec)

/-- ITS FALSE NEIGHBOUR: 'it returns false'. Refute it at one input. -/
def opLongWrong : ChangeSpec := { name := "opLong", fn := fun _ => fun
  | [d1, d2] => { results := [.lit (.bool false)], args := [d1, d2] }
  | _ => none }
def OpLongWrongFalsely : Prop := opLongRow.holds Try.pinned (OpenSpec.ofChange opLongWrong)

/-- 'comitialaw4.OpApplies': WHATEVER THE INPUT: true; the input reads as it did. -/
def opAppliesSpec : ChangeSpec := { name := "opApplies", fn := fun _ => fun
  | [d1, d2, d3] => { results := [.lit (.bool true)], args := [d1, d2, d3] }
  | _ => none }
def opAppliesRow : OpenClaim := { program := "ythfpohhkgcgbeaa", sum := "3ef466e472bb4e4f9e94ee1beb85d6f35063c92dca0940954bc1722c6e5c13b7", func := "comitia/comitialaw4.OpApplies", spec := "opApplies", apart := false }
def OpAppliesSaid : Prop := opAppliesRow.holds Try.pinned (OpenSpec.ofChange opAppliesSpec)

/-- ITS FALSE NEIGHBOUR: 'it returns false'. Refute it at one input. -/
def opAppliesWrong : ChangeSpec := { name := "opApplies", fn := fun _ => fun
  | [d1, d2, d3] => { results := [.lit (.bool false)], args := [d1, d2, d3] }
  | _ => none }
def OpAppliesWrongFalsely : Prop := opAppliesRow.holds Try.pinned (OpenSpec.ofChange opAppliesWrong)

/-- 'comitialaw4.OpBeside': WHATEVER THE INPUT: true; the input reads as it did. -/
def opBesideSpec : ChangeSpec := { name := "opBeside", fn := fun _ => fun
  | [d1, d2, d3, d4] => { results := [.lit (.bool true)], args := [d1, d2, d3, d4] }
  | _ => none }
def opBesideRow : OpenClaim := { program := "ythfpohhkgcgbeaa", sum := "3ef466e472bb4e4f9e94ee1beb85d6f35063c92dca0940954bc1722c6e5c13b7", func := "comitia/comitialaw4.OpBeside", spec := "opBeside", apart := false }
def OpBesideSaid : Prop := opBesideRow.holds Try.pinned (OpenSpec.ofChange opBesideSpec)

/-- ITS FALSE NEIGHBOUR: 'it returns false'. Refute it at one input. -/
def opBesideWrong : ChangeSpec := { name := "opBeside", fn := fun _ => fun
  | [d1, d2, d3, d4] => { results := [.lit (.bool false)], args := [d1, d2, d3, d4] }
  | _ => none }
def OpBesideWrongFalsely : Prop := opBesideRow.holds Try.pinned (OpenSpec.ofChange opBesideWrong)

/-- 'comitialaw4.OpBytes': WHATEVER THE INPUT: true; the input reads as it did. -/
def opBytesSpec : ChangeSpec := { name := "opBytes", fn := fun _ => fun
  | [d1, d2, d3, d4] => { results := [.lit (.bool true)], args := [d1, d2, d3, d4] }
  | _ => none }
def opBytesRow : OpenClaim := { program := "ythfpohhkgcgbeaa", sum := "3ef466e472bb4e4f9e94ee1beb85d6f35063c92dca0940954bc1722c6e5c13b7", func := "comitia/comitialaw4.OpBytes", spec := "opBytes", apart := false }
def OpBytesSaid : Prop := opBytesRow.holds Try.pinned (OpenSpec.ofChange opBytesSpec)

/-- ITS FALSE NEIGHBOUR: 'it returns false'. Refute it at one input. -/
def opBytesWrong : ChangeSpec := { name := "opBytes", fn := fun _ => fun
  | [d1, d2, d3, d4] => { results := [.lit (.bool false)], args := [d1, d2, d3, d4] }
  | _ => none }
def OpBytesWrongFalsely : Prop := opBytesRow.holds Try.pinned (OpenSpec.ofChange opBytesWrong)

/-- 'comitialaw4.OpNormals': WHATEVER THE INPUT: true; the input reads as it did. -/
def opNormalsSpec : ChangeSpec := { name := "opNormals", fn := fun _ => fun
  | [d1, d2] => { results := [.lit (.bool true)], args := [d1, d2] }
  | _ => none }
def opNormalsRow : OpenClaim := { program := "ythfpohhkgcgbeaa", sum := "3ef466e472bb4e4f9e94ee1beb85d6f35063c92dca0940954bc1722c6e5c13b7", func := "comitia/comitialaw4.OpNormals", spec := "opNormals", apart := false }
def OpNormalsSaid : Prop := opNormalsRow.holds Try.pinned (OpenSpec.ofChange opNormalsSpec)

/-- ITS FALSE NEIGHBOUR: 'it returns false'. Refute it at one input. -/
def opNormalsWrong : ChangeSpec := { name := "opNormals", fn := fun _ => fun
  | [d1, d2] => { results := [.lit (.bool false)], args := [d1, d2] }
  | _ => none }
def OpNormalsWrongFalsely : Prop := opNormalsRow.holds Try.pinned (OpenSpec.ofChange opNormalsWrong)

/- THE SECOND FORM. 'bulk': how many values and letters a reading holds, each counted each time it is reached (what is shared counts as often as it is met; a slice's spare places count too). A statement '..UptoSaid' is the law's where the arguments, and the package variables that the reading takes, are together of bulk at most 1048576: NARROWER than '..Said'. Prove '..Said' where nothing that the law and all that it calls make is longer than what came in: it says more and counts as full. Else prove '..UptoSaid'. A law counts once. -/
mutual
def uptoBulk {H : Type} : DataW H → Nat
  | .lit (.string bytes) => bytes.length + 1
  | .lit _ => 1
  | .nil => 1
  | .ptr d => uptoBulk d + 1
  | .slice elems spare => uptoBulkAll elems + uptoBulkAll spare + 1
  | .agg parts => uptoBulkAll parts + 1
  | .iface _ d => uptoBulk d + 1
  | .map entries => uptoBulkEntries entries + 1
  | .held _ => 1
def uptoBulkAll {H : Type} : List (DataW H) → Nat
  | [] => 0
  | d :: r => uptoBulk d + uptoBulkAll r
def uptoBulkEntries {H : Type} : List (Lit × DataW H) → Nat
  | [] => 0
  | x :: r => uptoBulkEntry x + uptoBulkEntries r
def uptoBulkEntry {H : Type} : Lit × DataW H → Nat
  | (.string bytes, d) => bytes.length + uptoBulk d + 1
  | (_, d) => uptoBulk d + 1
 end
def uptoSmall : (H : Type) → List (DataW H) → Bool := fun _ ds => decide (uptoBulkAll ds ≤ 1048576)
def OpenSpec.upto (s : _root_.Go.ChangeSpec) : _root_.Go.OpenSpec := { _root_.Go.OpenSpec.ofChange s with cond := some uptoSmall }

/-- 'comitialaw4.OpForms', WHERE WHAT IT READS IS OF BULK AT MOST 1048576: true; the input reads as it did. -/
def opFormsUptoRow : OpenClaim := { program := "ythfpohhkgcgbeaa", sum := "3ef466e472bb4e4f9e94ee1beb85d6f35063c92dca0940954bc1722c6e5c13b7", func := "comitia/comitialaw4.OpForms", spec := "opForms", apart := false, narrowed := true }
def OpFormsUptoSaid : Prop := opFormsUptoRow.holds Try.pinned (OpenSpec.upto opFormsSpec)

/-- 'comitialaw4.OpSames', WHERE WHAT IT READS IS OF BULK AT MOST 1048576: true; the input reads as it did. -/
def opSamesUptoRow : OpenClaim := { program := "ythfpohhkgcgbeaa", sum := "3ef466e472bb4e4f9e94ee1beb85d6f35063c92dca0940954bc1722c6e5c13b7", func := "comitia/comitialaw4.OpSames", spec := "opSames", apart := false, narrowed := true }
def OpSamesUptoSaid : Prop := opSamesUptoRow.holds Try.pinned (OpenSpec.upto opSamesSpec)

/-- 'comitialaw4.OpRows', WHERE WHAT IT READS IS OF BULK AT MOST 1048576: true; the input reads as it did. -/
def opRowsUptoRow : OpenClaim := { program := "ythfpohhkgcgbeaa", sum := "3ef466e472bb4e4f9e94ee1beb85d6f35063c92dca0940954bc1722c6e5c13b7", func := "comitia/comitialaw4.OpRows", spec := "opRows", apart := false, narrowed := true }
def OpRowsUptoSaid : Prop := opRowsUptoRow.holds Try.pinned (OpenSpec.upto opRowsSpec)

/-- 'comitialaw4.OpLong', WHERE WHAT IT READS IS OF BULK AT MOST 1048576: true; the input reads as it did. -/
def opLongUptoRow : OpenClaim := { program := "ythfpohhkgcgbeaa", sum := "3ef466e472bb4e4f9e94ee1beb85d6f35063c92dca0940954bc1722c6e5c13b7", func := "comitia/comitialaw4.OpLong", spec := "opLong", apart := false, narrowed := true }
def OpLongUptoSaid : Prop := opLongUptoRow.holds Try.pinned (OpenSpec.upto opLongSpec)

/-- 'comitialaw4.OpApplies', WHERE WHAT IT READS IS OF BULK AT MOST 1048576: true; the input reads as it did. -/
def opAppliesUptoRow : OpenClaim := { program := "ythfpohhkgcgbeaa", sum := "3ef466e472bb4e4f9e94ee1beb85d6f35063c92dca0940954bc1722c6e5c13b7", func := "comitia/comitialaw4.OpApplies", spec := "opApplies", apart := false, narrowed := true }
def OpAppliesUptoSaid : Prop := opAppliesUptoRow.holds Try.pinned (OpenSpec.upto opAppliesSpec)

/-- 'comitialaw4.OpBeside', WHERE WHAT IT READS IS OF BULK AT MOST 1048576: true; the input reads as it did. -/
def opBesideUptoRow : OpenClaim := { program := "ythfpohhkgcgbeaa", sum := "3ef466e472bb4e4f9e94ee1beb85d6f35063c92dca0940954bc1722c6e5c13b7", func := "comitia/comitialaw4.OpBeside", spec := "opBeside", apart := false, narrowed := true }
def OpBesideUptoSaid : Prop := opBesideUptoRow.holds Try.pinned (OpenSpec.upto opBesideSpec)

/-- 'comitialaw4.OpBytes', WHERE WHAT IT READS IS OF BULK AT MOST 1048576: true; the input reads as it did. -/
def opBytesUptoRow : OpenClaim := { program := "ythfpohhkgcgbeaa", sum := "3ef466e472bb4e4f9e94ee1beb85d6f35063c92dca0940954bc1722c6e5c13b7", func := "comitia/comitialaw4.OpBytes", spec := "opBytes", apart := false, narrowed := true }
def OpBytesUptoSaid : Prop := opBytesUptoRow.holds Try.pinned (OpenSpec.upto opBytesSpec)

/-- 'comitialaw4.OpNormals', WHERE WHAT IT READS IS OF BULK AT MOST 1048576: true; the input reads as it did. -/
def opNormalsUptoRow : OpenClaim := { program := "ythfpohhkgcgbeaa", sum := "3ef466e472bb4e4f9e94ee1beb85d6f35063c92dca0940954bc1722c6e5c13b7", func := "comitia/comitialaw4.OpNormals", spec := "opNormals", apart := false, narrowed := true }
def OpNormalsUptoSaid : Prop := opNormalsUptoRow.holds Try.pinned (OpenSpec.upto opNormalsSpec)

end Rows
end Go.Proofs.Ythfpohhkgcgbeaa
