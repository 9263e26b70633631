/-
  No cell of these rows narrows 'for every input' (looked for: loops, veiled, ifaces, maps, wideKeys, modest, calm, conditions, laid).
  DERIVED. THE GIVEN ROWS OF THIS SEAT. 7 by the template 'for every input the law returns true; each argument reads behind the call as it read before'; 0 by the template 'total and deterministic' (their statements: YtmdcalknhbhlcaaTotals.lean).
  GIVEN WITH THE SEED: the statements are not yours to turn. If you find one false, say at which input.
  Laid BY PROGRAM, IN A SANDBOX (cutbox-rows.mjs): the forced cells as the released guide's own fill.sh prints them over the translation a445b1e07bc20a50… (all of the seat's roots in one cut). By AI agents, Wed Nov 11 2026. No macro, syntax, notation, axiom, sorry.
-/
import Derived.Test.YtmdcalknhbhlcaaChecked
import GoSem.Claim
import GoSem.ClaimJoined
import GoSem.ClaimMapViews
import Derived.JoinedTies
import Derived.KernelRfl
namespace Go.Proofs.Ytmdcalknhbhlcaa
/- THE CELL 'sum', in the pinned program and in every row, IS THE sha256 OF THE DUMP (.gsa) THAT YtmdcalknhbhlcaaProg.lean LOADS. Nothing in Lean hashes anything: it is a label: what it is worth is what the hold of that sum in a sandbox is worth. -/
noncomputable def Try.pinned : Pinned := { name := "ytmdcalknhbhlcaa", sum := "a445b1e07bc20a50a3b6cf5536b819c1fff51f6c4d4de411bc587bac197ab7b4", checked := Try.checked }
namespace Rows
def none {H : Type} : Left H := { results := [], args := [] }

/-- 'matryoshkalaw01.FieldTells': WHATEVER THE INPUT: true; the input reads as it did. -/
def fieldTellsSpec : ChangeSpec := { name := "fieldTells", fn := fun _ => fun
  | [d1, d2, d3] => { results := [.lit (.bool true)], args := [d1, d2, d3] }
  | _ => none }
def fieldTellsRow : OpenClaim := { program := "ytmdcalknhbhlcaa", sum := "a445b1e07bc20a50a3b6cf5536b819c1fff51f6c4d4de411bc587bac197ab7b4", func := "matryoshka/matryoshkalaw01.FieldTells", spec := "fieldTells", unfollowed := true, recurses := true, apart := false }
def FieldTellsSaid : Prop := fieldTellsRow.holds Try.pinned (OpenSpec.ofChange fieldTellsSpec)

/-- ITS FALSE NEIGHBOUR: 'it returns false'. Refute it at one input. -/
def fieldTellsWrong : ChangeSpec := { name := "fieldTells", fn := fun _ => fun
  | [d1, d2, d3] => { results := [.lit (.bool false)], args := [d1, d2, d3] }
  | _ => none }
def FieldTellsWrongFalsely : Prop := fieldTellsRow.holds Try.pinned (OpenSpec.ofChange fieldTellsWrong)

/-- 'matryoshkalaw01.FieldSplits': WHATEVER THE INPUT: true; the input reads as it did. -/
def fieldSplitsSpec : ChangeSpec := { name := "fieldSplits", fn := fun _ => fun
  | [d1, d2, d3] => { results := [.lit (.bool true)], args := [d1, d2, d3] }
  | _ => none }
def fieldSplitsRow : OpenClaim := { program := "ytmdcalknhbhlcaa", sum := "a445b1e07bc20a50a3b6cf5536b819c1fff51f6c4d4de411bc587bac197ab7b4", func := "matryoshka/matryoshkalaw01.FieldSplits", spec := "fieldSplits", unfollowed := true, recurses := true, apart := false }
def FieldSplitsSaid : Prop := fieldSplitsRow.holds Try.pinned (OpenSpec.ofChange fieldSplitsSpec)

/-- ITS FALSE NEIGHBOUR: 'it returns false'. Refute it at one input. -/
def fieldSplitsWrong : ChangeSpec := { name := "fieldSplits", fn := fun _ => fun
  | [d1, d2, d3] => { results := [.lit (.bool false)], args := [d1, d2, d3] }
  | _ => none }
def FieldSplitsWrongFalsely : Prop := fieldSplitsRow.holds Try.pinned (OpenSpec.ofChange fieldSplitsWrong)

/-- 'matryoshkalaw01.FieldBack': WHATEVER THE INPUT: true; the input reads as it did. -/
def fieldBackSpec : ChangeSpec := { name := "fieldBack", fn := fun _ => fun
  | [d1, d2, d3] => { results := [.lit (.bool true)], args := [d1, d2, d3] }
  | _ => none }
def fieldBackRow : OpenClaim := { program := "ytmdcalknhbhlcaa", sum := "a445b1e07bc20a50a3b6cf5536b819c1fff51f6c4d4de411bc587bac197ab7b4", func := "matryoshka/matryoshkalaw01.FieldBack", spec := "fieldBack", unfollowed := true, recurses := true, apart := false }
def FieldBackSaid : Prop := fieldBackRow.holds Try.pinned (OpenSpec.ofChange fieldBackSpec)

/-- ITS FALSE NEIGHBOUR: 'it returns false'. Refute it at one input. -/
def fieldBackWrong : ChangeSpec := { name := "fieldBack", fn := fun _ => fun
  | [d1, d2, d3] => { results := [.lit (.bool false)], args := [d1, d2, d3] }
  | _ => none }
def FieldBackWrongFalsely : Prop := fieldBackRow.holds Try.pinned (OpenSpec.ofChange fieldBackWrong)

/-- 'matryoshkalaw01.FieldPacks': WHATEVER THE INPUT: true; the input reads as it did. -/
def fieldPacksSpec : ChangeSpec := { name := "fieldPacks", fn := fun _ => fun
  | [d1, d2] => { results := [.lit (.bool true)], args := [d1, d2] }
  | _ => none }
def fieldPacksRow : OpenClaim := { program := "ytmdcalknhbhlcaa", sum := "a445b1e07bc20a50a3b6cf5536b819c1fff51f6c4d4de411bc587bac197ab7b4", func := "matryoshka/matryoshkalaw01.FieldPacks", spec := "fieldPacks", unfollowed := true, recurses := true, apart := false }
def FieldPacksSaid : Prop := fieldPacksRow.holds Try.pinned (OpenSpec.ofChange fieldPacksSpec)

/-- ITS FALSE NEIGHBOUR: 'it returns false'. Refute it at one input. -/
def fieldPacksWrong : ChangeSpec := { name := "fieldPacks", fn := fun _ => fun
  | [d1, d2] => { results := [.lit (.bool false)], args := [d1, d2] }
  | _ => none }
def FieldPacksWrongFalsely : Prop := fieldPacksRow.holds Try.pinned (OpenSpec.ofChange fieldPacksWrong)

/-- 'matryoshkalaw01.FieldOnes': WHATEVER THE INPUT: true; the input reads as it did. -/
def fieldOnesSpec : ChangeSpec := { name := "fieldOnes", fn := fun _ => fun
  | [d1, d2] => { results := [.lit (.bool true)], args := [d1, d2] }
  | _ => none }
def fieldOnesRow : OpenClaim := { program := "ytmdcalknhbhlcaa", sum := "a445b1e07bc20a50a3b6cf5536b819c1fff51f6c4d4de411bc587bac197ab7b4", func := "matryoshka/matryoshkalaw01.FieldOnes", spec := "fieldOnes", unfollowed := true, recurses := true, apart := false }
def FieldOnesSaid : Prop := fieldOnesRow.holds Try.pinned (OpenSpec.ofChange fieldOnesSpec)

/-- ITS FALSE NEIGHBOUR: 'it returns false'. Refute it at one input. -/
def fieldOnesWrong : ChangeSpec := { name := "fieldOnes", fn := fun _ => fun
  | [d1, d2] => { results := [.lit (.bool false)], args := [d1, d2] }
  | _ => none }
def FieldOnesWrongFalsely : Prop := fieldOnesRow.holds Try.pinned (OpenSpec.ofChange fieldOnesWrong)

/-- 'matryoshkalaw01.FieldApart': WHATEVER THE INPUT: true; the input reads as it did. -/
def fieldApartSpec : ChangeSpec := { name := "fieldApart", fn := fun _ => fun
  | [d1, d2, d3] => { results := [.lit (.bool true)], args := [d1, d2, d3] }
  | _ => none }
def fieldApartRow : OpenClaim := { program := "ytmdcalknhbhlcaa", sum := "a445b1e07bc20a50a3b6cf5536b819c1fff51f6c4d4de411bc587bac197ab7b4", func := "matryoshka/matryoshkalaw01.FieldApart", spec := "fieldApart", unfollowed := true, recurses := true, apart := false }
def FieldApartSaid : Prop := fieldApartRow.holds Try.pinned (OpenSpec.ofChange fieldApartSpec)

/-- ITS FALSE NEIGHBOUR: 'it returns false'. Refute it at one input. -/
def fieldApartWrong : ChangeSpec := { name := "fieldApart", fn := fun _ => fun
  | [d1, d2, d3] => { results := [.lit (.bool false)], args := [d1, d2, d3] }
  | _ => none }
def FieldApartWrongFalsely : Prop := fieldApartRow.holds Try.pinned (OpenSpec.ofChange fieldApartWrong)

/-- 'matryoshkalaw01.FieldMasks': WHATEVER THE INPUT: true; the input reads as it did. -/
def fieldMasksSpec : ChangeSpec := { name := "fieldMasks", fn := fun _ => fun
  | [d] => { results := [.lit (.bool true)], args := [d] }
  | _ => none }
def fieldMasksRow : OpenClaim := { program := "ytmdcalknhbhlcaa", sum := "a445b1e07bc20a50a3b6cf5536b819c1fff51f6c4d4de411bc587bac197ab7b4", func := "matryoshka/matryoshkalaw01.FieldMasks", spec := "fieldMasks", unfollowed := true, recurses := true, apart := false }
def FieldMasksSaid : Prop := fieldMasksRow.holds Try.pinned (OpenSpec.ofChange fieldMasksSpec)

/-- ITS FALSE NEIGHBOUR: 'it returns false'. Refute it at one input. -/
def fieldMasksWrong : ChangeSpec := { name := "fieldMasks", fn := fun _ => fun
  | [d] => { results := [.lit (.bool false)], args := [d] }
  | _ => none }
def FieldMasksWrongFalsely : Prop := fieldMasksRow.holds Try.pinned (OpenSpec.ofChange fieldMasksWrong)

/- THE SECOND FORM. 'bulk': how many values and letters a reading holds, each counted each time it is reached (what is shared counts as often as it is met; a slice's spare places count too). A statement '..UptoSaid' is the law's where the arguments, and the package variables that the reading takes, are together of bulk at most 1048576: NARROWER than '..Said'. Prove '..Said' where nothing that the law and all that it calls make is longer than what came in: it says more and counts as full. Else prove '..UptoSaid'. A law counts once. -/
mutual
def uptoBulk {H : Type} : DataW H → Nat
  | .lit (.string bytes) => bytes.length + 1
  | .lit _ => 1
  | .nil => 1
  | .ptr d => uptoBulk d + 1
  | .slice elems spare => uptoBulkAll elems + uptoBulkAll spare + 1
  | .agg parts => uptoBulkAll parts + 1
  | .iface _ d => uptoBulk d + 1
  | .map entries => uptoBulkEntries entries + 1
  | .held _ => 1
def uptoBulkAll {H : Type} : List (DataW H) → Nat
  | [] => 0
  | d :: r => uptoBulk d + uptoBulkAll r
def uptoBulkEntries {H : Type} : List (Lit × DataW H) → Nat
  | [] => 0
  | x :: r => uptoBulkEntry x + uptoBulkEntries r
def uptoBulkEntry {H : Type} : Lit × DataW H → Nat
  | (.string bytes, d) => bytes.length + uptoBulk d + 1
  | (_, d) => uptoBulk d + 1
 end
def uptoSmall : (H : Type) → List (DataW H) → Bool := fun _ ds => decide (uptoBulkAll ds ≤ 1048576)
def OpenSpec.upto (s : _root_.Go.ChangeSpec) : _root_.Go.OpenSpec := { _root_.Go.OpenSpec.ofChange s with cond := some uptoSmall }

/-- 'matryoshkalaw01.FieldTells', WHERE WHAT IT READS IS OF BULK AT MOST 1048576: true; the input reads as it did. -/
def fieldTellsUptoRow : OpenClaim := { program := "ytmdcalknhbhlcaa", sum := "a445b1e07bc20a50a3b6cf5536b819c1fff51f6c4d4de411bc587bac197ab7b4", func := "matryoshka/matryoshkalaw01.FieldTells", spec := "fieldTells", unfollowed := true, recurses := true, apart := false, narrowed := true }
def FieldTellsUptoSaid : Prop := fieldTellsUptoRow.holds Try.pinned (OpenSpec.upto fieldTellsSpec)

/-- 'matryoshkalaw01.FieldSplits', WHERE WHAT IT READS IS OF BULK AT MOST 1048576: true; the input reads as it did. -/
def fieldSplitsUptoRow : OpenClaim := { program := "ytmdcalknhbhlcaa", sum := "a445b1e07bc20a50a3b6cf5536b819c1fff51f6c4d4de411bc587bac197ab7b4", func := "matryoshka/matryoshkalaw01.FieldSplits", spec := "fieldSplits", unfollowed := true, recurses := true, apart := false, narrowed := true }
def FieldSplitsUptoSaid : Prop := fieldSplitsUptoRow.holds Try.pinned (OpenSpec.upto fieldSplitsSpec)

/-- 'matryoshkalaw01.FieldBack', WHERE WHAT IT READS IS OF BULK AT MOST 1048576: true; the input reads as it did. -/
def fieldBackUptoRow : OpenClaim := { program := "ytmdcalknhbhlcaa", sum := "a445b1e07bc20a50a3b6cf5536b819c1fff51f6c4d4de411bc587bac197ab7b4", func := "matryoshka/matryoshkalaw01.FieldBack", spec := "fieldBack", unfollowed := true, recurses := true, apart := false, narrowed := true }
def FieldBackUptoSaid : Prop := fieldBackUptoRow.holds Try.pinned (OpenSpec.upto fieldBackSpec)

/-- 'matryoshkalaw01.FieldPacks', WHERE WHAT IT READS IS OF BULK AT MOST 1048576: true; the input reads as it did. -/
def fieldPacksUptoRow : OpenClaim := { program := "ytmdcalknhbhlcaa", sum := "a445b1e07bc20a50a3b6cf5536b819c1fff51f6c4d4de411bc587bac197ab7b4", func := "matryoshka/matryoshkalaw01.FieldPacks", spec := "fieldPacks", unfollowed := true, recurses := true, apart := false, narrowed := true }
def FieldPacksUptoSaid : Prop := fieldPacksUptoRow.holds Try.pinned (OpenSpec.upto fieldPacksSpec)

/-- 'matryoshkalaw01.FieldOnes', WHERE WHAT IT READS IS OF BULK AT MOST 1048576: true; the input reads as it did. -/
def fieldOnesUptoRow : OpenClaim := { program := "ytmdcalknhbhlcaa", sum := "a445b1e07bc20a50a3b6cf5536b819c1fff51f6c4d4de411bc587bac197ab7b4", func := "matryoshka/matryoshkalaw01.FieldOnes", spec := "fieldOnes", unfollowed := true, recurses := true, apart := false, narrowed := true }
def FieldOnesUptoSaid : Prop := fieldOnesUptoRow.holds Try.pinned (OpenSpec.upto fieldOnesSpec)

/-- 'matryoshkalaw01.FieldApart', WHERE WHAT IT READS IS OF BULK AT MOST 1048576: true; the input reads as it did. -/
def fieldApartUptoRow : OpenClaim := { program := "ytmdcalknhbhlcaa", sum := "a445b1e07bc20a50a3b6cf5536b819c1fff51f6c4d4de411bc587bac197ab7b4", func := "matryoshka/matryoshkalaw01.FieldApart", spec := "fieldApart", unfollowed := true, recurses := true, apart := false, narrowed := true }
def FieldApartUptoSaid : Prop := fieldApartUptoRow.holds Try.pinned (OpenSpec.upto fieldApartSpec)

/-- 'matryoshkalaw01.FieldMasks', WHERE WHAT IT READS IS OF BULK AT MOST 1048576: true; the input reads as it did. -/
def fieldMasksUptoRow : OpenClaim := { program := "ytmdcalknhbhlcaa", sum := "a445b1e07bc20a50a3b6cf5536b819c1fff51f6c4d4de411bc587bac197ab7b4", func := "matryoshka/matryoshkalaw01.FieldMasks", spec := "fieldMasks", unfollowed := true, recurses := true, apart := false, narrowed := true }
def FieldMasksUptoSaid : Prop := fieldMasksUptoRow.holds Try.pinned (OpenSpec.upto fieldMasksSpec)

end Rows
end Go.Proofs.Ytmdcalknhbhlcaa
