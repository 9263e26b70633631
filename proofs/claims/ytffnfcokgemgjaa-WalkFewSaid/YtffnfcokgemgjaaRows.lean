/-
  No cell of these rows narrows 'for every input' (looked for: loops, veiled, ifaces, maps, wideKeys, modest, calm, conditions, laid).
  DERIVED. THE GIVEN ROWS OF THIS SEAT. 5 by the template 'for every input the law returns true; each argument reads behind the call as it read before'; 0 by the template 'total and deterministic' (their statements: YtffnfcokgemgjaaTotals.lean).
  GIVEN WITH THE SEED: the statements are not yours to turn. If you find one false, say at which input.
  Laid BY PROGRAM, IN A SANDBOX (cutbox-rows.mjs): the forced cells as the released guide's own fill.sh prints them over the translation 796b644b46177df0… (all of the seat's roots in one cut). By AI agents, Wed Nov 11 2026. No macro, syntax, notation, axiom, sorry.
-/
import Derived.Test.YtffnfcokgemgjaaChecked
import GoSem.Claim
import GoSem.ClaimJoined
import GoSem.ClaimMapViews
import Derived.JoinedTies
import Derived.KernelRfl
namespace Go.Proofs.Ytffnfcokgemgjaa
/- THE CELL 'sum', in the pinned program and in every row, IS THE sha256 OF THE DUMP (.gsa) THAT YtffnfcokgemgjaaProg.lean LOADS. Nothing in Lean hashes anything: it is a label: what it is worth is what the hold of that sum in a sandbox is worth. -/
noncomputable def Try.pinned : Pinned := { name := "ytffnfcokgemgjaa", sum := "796b644b46177df0d935f1a2180b797bb978edae541f8787996968eb4a9d4564", checked := Try.checked }
namespace Rows
def none {H : Type} : Left H := { results := [], args := [] }

/-- 'matryoshkalaw12.WalkAll': WHATEVER THE INPUT: true; the input reads as it did. -/
def walkAllSpec : ChangeSpec := { name := "walkAll", fn := fun _ => fun
  | [d1, d2] => { results := [.lit (.bool true)], args := [d1, d2] }
  | _ => none }
def walkAllRow : OpenClaim := { program := "ytffnfcokgemgjaa", sum := "796b644b46177df0d935f1a2180b797bb978edae541f8787996968eb4a9d4564", func := "matryoshka/matryoshkalaw12.WalkAll", spec := "walkAll", unfollowed := true, recurses := true, apart := false }
def WalkAllSaid : Prop := walkAllRow.holds Try.pinned (OpenSpec.ofChange walkAllSpec)

/-- ITS FALSE NEIGHBOUR: 'it returns false'. Refute it at one input. -/
def walkAllWrong : ChangeSpec := { name := "walkAll", fn := fun _ => fun
  | [d1, d2] => { results := [.lit (.bool false)], args := [d1, d2] }
  | _ => none }
def WalkAllWrongFalsely : Prop := walkAllRow.holds Try.pinned (OpenSpec.ofChange walkAllWrong)

/-- 'matryoshkalaw12.WalkRights': WHATEVER THE INPUT: true; the input reads as it did. -/
def walkRightsSpec : ChangeSpec := { name := "walkRights", fn := fun _ => fun
  | [d1, d2, d3] => { results := [.lit (.bool true)], args := [d1, d2, d3] }
  | _ => none }
def walkRightsRow : OpenClaim := { program := "ytffnfcokgemgjaa", sum := "796b644b46177df0d935f1a2180b797bb978edae541f8787996968eb4a9d4564", func := "matryoshka/matryoshkalaw12.WalkRights", spec := "walkRights", unfollowed := true, recurses := true, apart := false }
def WalkRightsSaid : Prop := walkRightsRow.holds Try.pinned (OpenSpec.ofChange walkRightsSpec)

/-- ITS FALSE NEIGHBOUR: 'it returns false'. Refute it at one input. -/
def walkRightsWrong : ChangeSpec := { name := "walkRights", fn := fun _ => fun
  | [d1, d2, d3] => { results := [.lit (.bool false)], args := [d1, d2, d3] }
  | _ => none }
def WalkRightsWrongFalsely : Prop := walkRightsRow.holds Try.pinned (OpenSpec.ofChange walkRightsWrong)

/-- 'matryoshkalaw12.WalkNil': WHATEVER THE INPUT: true; the input reads as it did. -/
def walkNilSpec : ChangeSpec := { name := "walkNil", fn := fun _ => fun
  | [d] => { results := [.lit (.bool true)], args := [d] }
  | _ => none }
def walkNilRow : OpenClaim := { program := "ytffnfcokgemgjaa", sum := "796b644b46177df0d935f1a2180b797bb978edae541f8787996968eb4a9d4564", func := "matryoshka/matryoshkalaw12.WalkNil", spec := "walkNil", unfollowed := true, recurses := true, apart := false }
def WalkNilSaid : Prop := walkNilRow.holds Try.pinned (OpenSpec.ofChange walkNilSpec)

/-- ITS FALSE NEIGHBOUR: 'it returns false'. Refute it at one input. -/
def walkNilWrong : ChangeSpec := { name := "walkNil", fn := fun _ => fun
  | [d] => { results := [.lit (.bool false)], args := [d] }
  | _ => none }
def WalkNilWrongFalsely : Prop := walkNilRow.holds Try.pinned (OpenSpec.ofChange walkNilWrong)

/-- 'matryoshkalaw12.WalkFresh': WHATEVER THE INPUT: true; the input reads as it did. -/
def walkFreshSpec : ChangeSpec := { name := "walkFresh", fn := fun _ => fun
  | [d1, d2, d3] => { results := [.lit (.bool true)], args := [d1, d2, d3] }
  | _ => none }
def walkFreshRow : OpenClaim := { program := "ytffnfcokgemgjaa", sum := "796b644b46177df0d935f1a2180b797bb978edae541f8787996968eb4a9d4564", func := "matryoshka/matryoshkalaw12.WalkFresh", spec := "walkFresh", unfollowed := true, recurses := true, apart := false }
def WalkFreshSaid : Prop := walkFreshRow.holds Try.pinned (OpenSpec.ofChange walkFreshSpec)

/-- ITS FALSE NEIGHBOUR: 'it returns false'. Refute it at one input. -/
def walkFreshWrong : ChangeSpec := { name := "walkFresh", fn := fun _ => fun
  | [d1, d2, d3] => { results := [.lit (.bool false)], args := [d1, d2, d3] }
  | _ => none }
def WalkFreshWrongFalsely : Prop := walkFreshRow.holds Try.pinned (OpenSpec.ofChange walkFreshWrong)

/-- 'matryoshkalaw12.WalkFew': WHATEVER THE INPUT: true; the input reads as it did. -/
def walkFewSpec : ChangeSpec := { name := "walkFew", fn := fun _ => fun
  | [d1, d2, d3] => { results := [.lit (.bool true)], args := [d1, d2, d3] }
  | _ => none }
def walkFewRow : OpenClaim := { program := "ytffnfcokgemgjaa", sum := "796b644b46177df0d935f1a2180b797bb978edae541f8787996968eb4a9d4564", func := "matryoshka/matryoshkalaw12.WalkFew", spec := "walkFew", unfollowed := true, recurses := true, apart := false }
def WalkFewSaid : Prop := walkFewRow.holds Try.pinned (OpenSpec.ofChange walkFewSpec)

/-- ITS FALSE NEIGHBOUR: 'it returns false'. Refute it at one input. -/
def walkFewWrong : ChangeSpec := { name := "walkFew", fn := fun _ => fun
  | [d1, d2, d3] => { results := [.lit (.bool false)], args := [d1, d2, d3] }
  | _ => none }
def WalkFewWrongFalsely : Prop := walkFewRow.holds Try.pinned (OpenSpec.ofChange walkFewWrong)

/- THE SECOND FORM. 'bulk': how many values and letters a reading holds, each counted each time it is reached (what is shared counts as often as it is met; a slice's spare places count too). A statement '..UptoSaid' is the law's where the arguments, and the package variables that the reading takes, are together of bulk at most 1048576: NARROWER than '..Said'. Prove '..Said' where nothing that the law and all that it calls make is longer than what came in: it says more and counts as full. Else prove '..UptoSaid'. A law counts once. -/
mutual
def uptoBulk {H : Type} : DataW H → Nat
  | .lit (.string bytes) => bytes.length + 1
  | .lit _ => 1
  | .nil => 1
  | .ptr d => uptoBulk d + 1
  | .slice elems spare => uptoBulkAll elems + uptoBulkAll spare + 1
  | .agg parts => uptoBulkAll parts + 1
  | .iface _ d => uptoBulk d + 1
  | .map entries => uptoBulkEntries entries + 1
  | .held _ => 1
def uptoBulkAll {H : Type} : List (DataW H) → Nat
  | [] => 0
  | d :: r => uptoBulk d + uptoBulkAll r
def uptoBulkEntries {H : Type} : List (Lit × DataW H) → Nat
  | [] => 0
  | x :: r => uptoBulkEntry x + uptoBulkEntries r
def uptoBulkEntry {H : Type} : Lit × DataW H → Nat
  | (.string bytes, d) => bytes.length + uptoBulk d + 1
  | (_, d) => uptoBulk d + 1
 end
def uptoSmall : (H : Type) → List (DataW H) → Bool := fun _ ds => decide (uptoBulkAll ds ≤ 1048576)
def OpenSpec.upto (s : _root_.Go.ChangeSpec) : _root_.Go.OpenSpec := { _root_.Go.OpenSpec.ofChange s with cond := some uptoSmall }

/-- 'matryoshkalaw12.WalkAll', WHERE WHAT IT READS IS OF BULK AT MOST 1048576: true; the input reads as it did. -/
def walkAllUptoRow : OpenClaim := { program := "ytffnfcokgemgjaa", sum := "796b644b46177df0d935f1a2180b797bb978edae541f8787996968eb4a9d4564", func := "matryoshka/matryoshkalaw12.WalkAll", spec := "walkAll", unfollowed := true, recurses := true, apart := false, narrowed := true }
def WalkAllUptoSaid : Prop := walkAllUptoRow.holds Try.pinned (OpenSpec.upto walkAllSpec)

/-- 'matryoshkalaw12.WalkRights', WHERE WHAT IT READS IS OF BULK AT MOST 1048576: true; the input reads as it did. -/
def walkRightsUptoRow : OpenClaim := { program := "ytffnfcokgemgjaa", sum := "796b644b46177df0d935f1a2180b797bb978edae541f8787996968eb4a9d4564", func := "matryoshka/matryoshkalaw12.WalkRights", spec := "walkRights", unfollowed := true, recurses := true, apart := false, narrowed := true }
def WalkRightsUptoSaid : Prop := walkRightsUptoRow.holds Try.pinned (OpenSpec.upto walkRightsSpec)

/-- 'matryoshkalaw12.WalkNil', WHERE WHAT IT READS IS OF BULK AT MOST 1048576: true; the input reads as it did. -/
def walkNilUptoRow : OpenClaim := { program := "ytffnfcokgemgjaa", sum := "796b644b46177df0d935f1a2180b797bb978edae541f8787996968eb4a9d4564", func := "matryoshka/matryoshkalaw12.WalkNil", spec := "walkNil", unfollowed := true, recurses := true, apart := false, narrowed := true }
def WalkNilUptoSaid : Prop := walkNilUptoRow.holds Try.pinned (OpenSpec.upto walkNilSpec)

/-- 'matryoshkalaw12.WalkFresh', WHERE WHAT IT READS IS OF BULK AT MOST 1048576: true; the input reads as it did. -/
def walkFreshUptoRow : OpenClaim := { program := "ytffnfcokgemgjaa", sum := "796b644b46177df0d935f1a2180b797bb978edae541f8787996968eb4a9d4564", func := "matryoshka/matryoshkalaw12.WalkFresh", spec := "walkFresh", unfollowed := true, recurses := true, apart := false, narrowed := true }
def WalkFreshUptoSaid : Prop := walkFreshUptoRow.holds Try.pinned (OpenSpec.upto walkFreshSpec)

/-- 'matryoshkalaw12.WalkFew', WHERE WHAT IT READS IS OF BULK AT MOST 1048576: true; the input reads as it did. -/
def walkFewUptoRow : OpenClaim := { program := "ytffnfcokgemgjaa", sum := "796b644b46177df0d935f1a2180b797bb978edae541f8787996968eb4a9d4564", func := "matryoshka/matryoshkalaw12.WalkFew", spec := "walkFew", unfollowed := true, recurses := true, apart := false, narrowed := true }
def WalkFewUptoSaid : Prop := walkFewUptoRow.holds Try.pinned (OpenSpec.upto walkFewSpec)

end Rows
end Go.Proofs.Ytffnfcokgemgjaa
