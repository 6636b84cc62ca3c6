/-
  No cell of these rows narrows 'for every input' (looked for: loops, veiled, ifaces, maps, wideKeys, modest, calm, conditions, laid).
  DERIVED. THE GIVEN ROWS OF THIS SEAT. 6 by the template 'for every input the law returns true; each argument reads behind the call as it read before'; 0 by the template 'total and deterministic' (their statements: YtpcgamgjgfdpaaaTotals.lean).
  GIVEN WITH THE SEED: the statements are not yours to turn. If you find one false, say at which input.
  Laid BY PROGRAM, IN A SANDBOX (cutbox-rows.mjs): the forced cells as the released guide's own fill.sh prints them over the translation 5317a4ec1251932a… (all of the seat's roots in one cut). By AI agents, Wed Nov 11 2026. No macro, syntax, notation, axiom, sorry.
-/
import Derived.Test.YtpcgamgjgfdpaaaChecked
import GoSem.Claim
import GoSem.ClaimJoined
import GoSem.ClaimMapViews
import Derived.JoinedTies
import Derived.KernelRfl
namespace Go.Proofs.Ytpcgamgjgfdpaaa
/- THE CELL 'sum', in the pinned program and in every row, IS THE sha256 OF THE DUMP (.gsa) THAT YtpcgamgjgfdpaaaProg.lean LOADS. Nothing in Lean hashes anything: it is a label: what it is worth is what the hold of that sum in a sandbox is worth. -/
noncomputable def Try.pinned : Pinned := { name := "ytpcgamgjgfdpaaa", sum := "5317a4ec1251932ab839b8ebdbd1468508918a0999aecad5fd054ca2d87b11c9", checked := Try.checked }
namespace Rows
def none {H : Type} : Left H := { results := [], args := [] }

/-- 'comitialaw8.DeltaRows': WHATEVER THE INPUT: true; the input reads as it did. -/
def deltaRowsSpec : ChangeSpec := { name := "deltaRows", fn := fun _ => fun
  | [d1, d2] => { results := [.lit (.bool true)], args := [d1, d2] }
  | _ => none }
def deltaRowsRow : OpenClaim := { program := "ytpcgamgjgfdpaaa", sum := "5317a4ec1251932ab839b8ebdbd1468508918a0999aecad5fd054ca2d87b11c9", func := "comitia/comitialaw8.DeltaRows", spec := "deltaRows", apart := false }
def DeltaRowsSaid : Prop := deltaRowsRow.holds Try.pinned (OpenSpec.ofChange deltaRowsSpec)

/-- ITS FALSE NEIGHBOUR: 'it returns false'. Refute it at one input. -/
def deltaRowsWrong : ChangeSpec := { name := "deltaRows", fn := fun _ => fun
  | [d1, d2] => { results := [.lit (.bool false)], args := [d1, d2] }
  | _ => none }
def DeltaRowsWrongFalsely : Prop := deltaRowsRow.holds Try.pinned (OpenSpec.ofChange deltaRowsWrong)

/-- 'comitialaw8.DeltaKinds': WHATEVER THE INPUT: true; the input reads as it did. -/
def deltaKindsSpec : ChangeSpec := { name := "deltaKinds", fn := fun _ => fun
  | [d1, d2] => { results := [.lit (.bool true)], args := [d1, d2] }
  | _ => none }
def deltaKindsRow : OpenClaim := { program := "ytpcgamgjgfdpaaa", sum := "5317a4ec1251932ab839b8ebdbd1468508918a0999aecad5fd054ca2d87b11c9", func := "comitia/comitialaw8.DeltaKinds", spec := "deltaKinds", apart := false }
def DeltaKindsSaid : Prop := deltaKindsRow.holds Try.pinned (OpenSpec.ofChange deltaKindsSpec)

/-- ITS FALSE NEIGHBOUR: 'it returns false'. Refute it at one input. -/
def deltaKindsWrong : ChangeSpec := { name := "deltaKinds", fn := fun _ => fun
  | [d1, d2] => { results := [.lit (.bool false)], args := [d1, d2] }
  | _ => none }
def DeltaKindsWrongFalsely : Prop := deltaKindsRow.holds Try.pinned (OpenSpec.ofChange deltaKindsWrong)

/-- 'comitialaw8.DeltaMany': WHATEVER THE INPUT: true; the input reads as it did. -/
def deltaManySpec : ChangeSpec := { name := "deltaMany", fn := fun _ => fun
  | [d] => { results := [.lit (.bool true)], args := [d] }
  | _ => none }
def deltaManyRow : OpenClaim := { program := "ytpcgamgjgfdpaaa", sum := "5317a4ec1251932ab839b8ebdbd1468508918a0999aecad5fd054ca2d87b11c9", func := "comitia/comitialaw8.DeltaMany", spec := "deltaMany", unfollowed := true, recurses := true, apart := false }
def DeltaManySaid : Prop := deltaManyRow.holds Try.pinned (OpenSpec.ofChange deltaManySpec)

/-- ITS FALSE NEIGHBOUR: 'it returns false'. Refute it at one input. -/
def deltaManyWrong : ChangeSpec := { name := "deltaMany", fn := fun _ => fun
  | [d] => { results := [.lit (.bool false)], args := [d] }
  | _ => none }
def DeltaManyWrongFalsely : Prop := deltaManyRow.holds Try.pinned (OpenSpec.ofChange deltaManyWrong)

/-- 'comitialaw8.DeltaSizes': WHATEVER THE INPUT: true; the input reads as it did. -/
def deltaSizesSpec : ChangeSpec := { name := "deltaSizes", fn := fun _ => fun
  | [d1, d2, d3] => { results := [.lit (.bool true)], args := [d1, d2, d3] }
  | _ => none }
def deltaSizesRow : OpenClaim := { program := "ytpcgamgjgfdpaaa", sum := "5317a4ec1251932ab839b8ebdbd1468508918a0999aecad5fd054ca2d87b11c9", func := "comitia/comitialaw8.DeltaSizes", spec := "deltaSizes", apart := false }
def DeltaSizesSaid : Prop := deltaSizesRow.holds Try.pinned (OpenSpec.ofChange deltaSizesSpec)

/-- ITS FALSE NEIGHBOUR: 'it returns false'. Refute it at one input. -/
def deltaSizesWrong : ChangeSpec := { name := "deltaSizes", fn := fun _ => fun
  | [d1, d2, d3] => { results := [.lit (.bool false)], args := [d1, d2, d3] }
  | _ => none }
def DeltaSizesWrongFalsely : Prop := deltaSizesRow.holds Try.pinned (OpenSpec.ofChange deltaSizesWrong)

/-- 'comitialaw8.DeltaOps': WHATEVER THE INPUT: true; the input reads as it did. -/
def deltaOpsSpec : ChangeSpec := { name := "deltaOps", fn := fun _ => fun
  | [d1, d2, d3] => { results := [.lit (.bool true)], args := [d1, d2, d3] }
  | _ => none }
def deltaOpsRow : OpenClaim := { program := "ytpcgamgjgfdpaaa", sum := "5317a4ec1251932ab839b8ebdbd1468508918a0999aecad5fd054ca2d87b11c9", func := "comitia/comitialaw8.DeltaOps", spec := "deltaOps", unfollowed := true, recurses := true, apart := false }
def DeltaOpsSaid : Prop := deltaOpsRow.holds Try.pinned (OpenSpec.ofChange deltaOpsSpec)

/-- ITS FALSE NEIGHBOUR: 'it returns false'. Refute it at one input. -/
def deltaOpsWrong : ChangeSpec := { name := "deltaOps", fn := fun _ => fun
  | [d1, d2, d3] => { results := [.lit (.bool false)], args := [d1, d2, d3] }
  | _ => none }
def DeltaOpsWrongFalsely : Prop := deltaOpsRow.holds Try.pinned (OpenSpec.ofChange deltaOpsWrong)

/-- 'comitialaw8.DeltaReads': WHATEVER THE INPUT: true; the input reads as it did. -/
def deltaReadsSpec : ChangeSpec := { name := "deltaReads", fn := fun _ => fun
  | [d1, d2, d3, d4, d5, d6, d7] => { results := [.lit (.bool true)], args := [d1, d2, d3, d4, d5, d6, d7] }
  | _ => none }
def deltaReadsRow : OpenClaim := { program := "ytpcgamgjgfdpaaa", sum := "5317a4ec1251932ab839b8ebdbd1468508918a0999aecad5fd054ca2d87b11c9", func := "comitia/comitialaw8.DeltaReads", spec := "deltaReads", unfollowed := true, recurses := true, apart := false }
def DeltaReadsSaid : Prop := deltaReadsRow.holds Try.pinned (OpenSpec.ofChange deltaReadsSpec)

/-- ITS FALSE NEIGHBOUR: 'it returns false'. Refute it at one input. -/
def deltaReadsWrong : ChangeSpec := { name := "deltaReads", fn := fun _ => fun
  | [d1, d2, d3, d4, d5, d6, d7] => { results := [.lit (.bool false)], args := [d1, d2, d3, d4, d5, d6, d7] }
  | _ => none }
def DeltaReadsWrongFalsely : Prop := deltaReadsRow.holds Try.pinned (OpenSpec.ofChange deltaReadsWrong)

/- THE SECOND FORM. 'bulk': how many values and letters a reading holds, each counted each time it is reached (what is shared counts as often as it is met; a slice's spare places count too). A statement '..UptoSaid' is the law's where the arguments, and the package variables that the reading takes, are together of bulk at most 1048576: NARROWER than '..Said'. Prove '..Said' where nothing that the law and all that it calls make is longer than what came in: it says more and counts as full. Else prove '..UptoSaid'. A law counts once. -/
mutual
def uptoBulk {H : Type} : DataW H → Nat
  | .lit (.string bytes) => bytes.length + 1
  | .lit _ => 1
  | .nil => 1
  | .ptr d => uptoBulk d + 1
  | .slice elems spare => uptoBulkAll elems + uptoBulkAll spare + 1
  | .agg parts => uptoBulkAll parts + 1
  | .iface _ d => uptoBulk d + 1
  | .map entries => uptoBulkEntries entries + 1
  | .held _ => 1
def uptoBulkAll {H : Type} : List (DataW H) → Nat
  | [] => 0
  | d :: r => uptoBulk d + uptoBulkAll r
def uptoBulkEntries {H : Type} : List (Lit × DataW H) → Nat
  | [] => 0
  | x :: r => uptoBulkEntry x + uptoBulkEntries r
def uptoBulkEntry {H : Type} : Lit × DataW H → Nat
  | (.string bytes, d) => bytes.length + uptoBulk d + 1
  | (_, d) => uptoBulk d + 1
 end
def uptoSmall : (H : Type) → List (DataW H) → Bool := fun _ ds => decide (uptoBulkAll ds ≤ 1048576)
def OpenSpec.upto (s : _root_.Go.ChangeSpec) : _root_.Go.OpenSpec := { _root_.Go.OpenSpec.ofChange s with cond := some uptoSmall }

/-- 'comitialaw8.DeltaRows', WHERE WHAT IT READS IS OF BULK AT MOST 1048576: true; the input reads as it did. -/
def deltaRowsUptoRow : OpenClaim := { program := "ytpcgamgjgfdpaaa", sum := "5317a4ec1251932ab839b8ebdbd1468508918a0999aecad5fd054ca2d87b11c9", func := "comitia/comitialaw8.DeltaRows", spec := "deltaRows", apart := false, narrowed := true }
def DeltaRowsUptoSaid : Prop := deltaRowsUptoRow.holds Try.pinned (OpenSpec.upto deltaRowsSpec)

/-- 'comitialaw8.DeltaKinds', WHERE WHAT IT READS IS OF BULK AT MOST 1048576: true; the input reads as it did. -/
def deltaKindsUptoRow : OpenClaim := { program := "ytpcgamgjgfdpaaa", sum := "5317a4ec1251932ab839b8ebdbd1468508918a0999aecad5fd054ca2d87b11c9", func := "comitia/comitialaw8.DeltaKinds", spec := "deltaKinds", apart := false, narrowed := true }
def DeltaKindsUptoSaid : Prop := deltaKindsUptoRow.holds Try.pinned (OpenSpec.upto deltaKindsSpec)

/-- 'comitialaw8.DeltaMany', WHERE WHAT IT READS IS OF BULK AT MOST 1048576: true; the input reads as it did. -/
def deltaManyUptoRow : OpenClaim := { program := "ytpcgamgjgfdpaaa", sum := "5317a4ec1251932ab839b8ebdbd1468508918a0999aecad5fd054ca2d87b11c9", func := "comitia/comitialaw8.DeltaMany", spec := "deltaMany", unfollowed := true, recurses := true, apart := false, narrowed := true }
def DeltaManyUptoSaid : Prop := deltaManyUptoRow.holds Try.pinned (OpenSpec.upto deltaManySpec)

/-- 'comitialaw8.DeltaSizes', WHERE WHAT IT READS IS OF BULK AT MOST 1048576: true; the input reads as it did. -/
def deltaSizesUptoRow : OpenClaim := { program := "ytpcgamgjgfdpaaa", sum := "5317a4ec1251932ab839b8ebdbd1468508918a0999aecad5fd054ca2d87b11c9", func := "comitia/comitialaw8.DeltaSizes", spec := "deltaSizes", apart := false, narrowed := true }
def DeltaSizesUptoSaid : Prop := deltaSizesUptoRow.holds Try.pinned (OpenSpec.upto deltaSizesSpec)

/-- 'comitialaw8.DeltaOps', WHERE WHAT IT READS IS OF BULK AT MOST 1048576: true; the input reads as it did. -/
def deltaOpsUptoRow : OpenClaim := { program := "ytpcgamgjgfdpaaa", sum := "5317a4ec1251932ab839b8ebdbd1468508918a0999aecad5fd054ca2d87b11c9", func := "comitia/comitialaw8.DeltaOps", spec := "deltaOps", unfollowed := true, recurses := true, apart := false, narrowed := true }
def DeltaOpsUptoSaid : Prop := deltaOpsUptoRow.holds Try.pinned (OpenSpec.upto deltaOpsSpec)

/-- 'comitialaw8.DeltaReads', WHERE WHAT IT READS IS OF BULK AT MOST 1048576: true; the input reads as it did. -/
def deltaReadsUptoRow : OpenClaim := { program := "ytpcgamgjgfdpaaa", sum := "5317a4ec1251932ab839b8ebdbd1468508918a0999aecad5fd054ca2d87b11c9", func := "comitia/comitialaw8.DeltaReads", spec := "deltaReads", unfollowed := true, recurses := true, apart := false, narrowed := true }
def DeltaReadsUptoSaid : Prop := deltaReadsUptoRow.holds Try.pinned (OpenSpec.upto deltaReadsSpec)

end Rows
end Go.Proofs.Ytpcgamgjgfdpaaa
