/-
  No cell of these rows narrows 'for every input' (looked for: loops, veiled, ifaces, maps, wideKeys, modest, calm, conditions, laid).
  DERIVED. THE GIVEN ROWS OF THIS SEAT. 6 by the template 'for every input the law returns true; each argument reads behind the call as it read before'; 0 by the template 'total and deterministic' (their statements: YtogndkmclingeaaTotals.lean).
  GIVEN WITH THE SEED: the statements are not yours to turn. If you find one false, say at which input.
  Laid BY PROGRAM, IN A SANDBOX (cutbox-rows.mjs): the forced cells as the released guide's own fill.sh prints them over the translation 8e98e4e9805987cc… (all of the seat's roots in one cut). By AI agents, Wed Nov 11 2026. No macro, syntax, notation, axiom, sorry.
-/
import Derived.Test.YtogndkmclingeaaChecked
import GoSem.Claim
import GoSem.ClaimJoined
import GoSem.ClaimMapViews
import Derived.JoinedTies
import Derived.KernelRfl
namespace Go.Proofs.Ytogndkmclingeaa
/- THE CELL 'sum', in the pinned program and in every row, IS THE sha256 OF THE DUMP (.gsa) THAT YtogndkmclingeaaProg.lean LOADS. Nothing in Lean hashes anything: it is a label: what it is worth is what the hold of that sum in a sandbox is worth. -/
noncomputable def Try.pinned : Pinned := { name := "ytogndkmclingeaa", sum := "8e98e4e9805987ccf0612f060d7af15680b6e05b2f88ca2273b7dac70d40523b", checked := Try.checked }
namespace Rows
def none {H : Type} : Left H := { results := [], args := [] }

/-- 'matryoshkalaw09.PoolParts': WHATEVER THE INPUT: true; the input reads as it did. -/
def poolPartsSpec : ChangeSpec := { name := "poolParts", fn := fun _ => fun
  | [d] => { results := [.lit (.bool true)], args := [d] }
  | _ => none }
def poolPartsRow : OpenClaim := { program := "ytogndkmclingeaa", sum := "8e98e4e9805987ccf0612f060d7af15680b6e05b2f88ca2273b7dac70d40523b", func := "matryoshka/matryoshkalaw09.PoolParts", spec := "poolParts", unfollowed := true, recurses := true, apart := false }
def PoolPartsSaid : Prop := poolPartsRow.holds Try.pinned (OpenSpec.ofChange poolPartsSpec)

/-- ITS FALSE NEIGHBOUR: 'it returns false'. Refute it at one input. -/
def poolPartsWrong : ChangeSpec := { name := "poolParts", fn := fun _ => fun
  | [d] => { results := [.lit (.bool false)], args := [d] }
  | _ => none }
def PoolPartsWrongFalsely : Prop := poolPartsRow.holds Try.pinned (OpenSpec.ofChange poolPartsWrong)

/-- 'matryoshkalaw09.PoolLeast': WHATEVER THE INPUT: true; the input reads as it did. -/
def poolLeastSpec : ChangeSpec := { name := "poolLeast", fn := fun _ => fun
  | [d1, d2] => { results := [.lit (.bool true)], args := [d1, d2] }
  | _ => none }
def poolLeastRow : OpenClaim := { program := "ytogndkmclingeaa", sum := "8e98e4e9805987ccf0612f060d7af15680b6e05b2f88ca2273b7dac70d40523b", func := "matryoshka/matryoshkalaw09.PoolLeast", spec := "poolLeast", unfollowed := true, recurses := true, apart := false }
def PoolLeastSaid : Prop := poolLeastRow.holds Try.pinned (OpenSpec.ofChange poolLeastSpec)

/-- ITS FALSE NEIGHBOUR: 'it returns false'. Refute it at one input. -/
def poolLeastWrong : ChangeSpec := { name := "poolLeast", fn := fun _ => fun
  | [d1, d2] => { results := [.lit (.bool false)], args := [d1, d2] }
  | _ => none }
def PoolLeastWrongFalsely : Prop := poolLeastRow.holds Try.pinned (OpenSpec.ofChange poolLeastWrong)

/-- 'matryoshkalaw09.PoolRefs': WHATEVER THE INPUT: true; the input reads as it did. -/
def poolRefsSpec : ChangeSpec := { name := "poolRefs", fn := fun _ => fun
  | [d1, d2] => { results := [.lit (.bool true)], args := [d1, d2] }
  | _ => none }
def poolRefsRow : OpenClaim := { program := "ytogndkmclingeaa", sum := "8e98e4e9805987ccf0612f060d7af15680b6e05b2f88ca2273b7dac70d40523b", func := "matryoshka/matryoshkalaw09.PoolRefs", spec := "poolRefs", unfollowed := true, recurses := true, apart := false }
def PoolRefsSaid : Prop := poolRefsRow.holds Try.pinned (OpenSpec.ofChange poolRefsSpec)

/-- ITS FALSE NEIGHBOUR: 'it returns false'. Refute it at one input. -/
def poolRefsWrong : ChangeSpec := { name := "poolRefs", fn := fun _ => fun
  | [d1, d2] => { results := [.lit (.bool false)], args := [d1, d2] }
  | _ => none }
def PoolRefsWrongFalsely : Prop := poolRefsRow.holds Try.pinned (OpenSpec.ofChange poolRefsWrong)

/-- 'matryoshkalaw09.PoolOwned': WHATEVER THE INPUT: true; the input reads as it did. -/
def poolOwnedSpec : ChangeSpec := { name := "poolOwned", fn := fun _ => fun
  | [d1, d2] => { results := [.lit (.bool true)], args := [d1, d2] }
  | _ => none }
def poolOwnedRow : OpenClaim := { program := "ytogndkmclingeaa", sum := "8e98e4e9805987ccf0612f060d7af15680b6e05b2f88ca2273b7dac70d40523b", func := "matryoshka/matryoshkalaw09.PoolOwned", spec := "poolOwned", unfollowed := true, recurses := true, apart := false }
def PoolOwnedSaid : Prop := poolOwnedRow.holds Try.pinned (OpenSpec.ofChange poolOwnedSpec)

/-- ITS FALSE NEIGHBOUR: 'it returns false'. Refute it at one input. -/
def poolOwnedWrong : ChangeSpec := { name := "poolOwned", fn := fun _ => fun
  | [d1, d2] => { results := [.lit (.bool false)], args := [d1, d2] }
  | _ => none }
def PoolOwnedWrongFalsely : Prop := poolOwnedRow.holds Try.pinned (OpenSpec.ofChange poolOwnedWrong)

/-- 'matryoshkalaw09.PoolPlays': WHATEVER THE INPUT: true; the input reads as it did. -/
def poolPlaysSpec : ChangeSpec := { name := "poolPlays", fn := fun _ => fun
  | [d1, d2] => { results := [.lit (.bool true)], args := [d1, d2] }
  | _ => none }
def poolPlaysRow : OpenClaim := { program := "ytogndkmclingeaa", sum := "8e98e4e9805987ccf0612f060d7af15680b6e05b2f88ca2273b7dac70d40523b", func := "matryoshka/matryoshkalaw09.PoolPlays", spec := "poolPlays", unfollowed := true, recurses := true, apart := false }
def PoolPlaysSaid : Prop := poolPlaysRow.holds Try.pinned (OpenSpec.ofChange poolPlaysSpec)

/-- ITS FALSE NEIGHBOUR: 'it returns false'. Refute it at one input. -/
def poolPlaysWrong : ChangeSpec := { name := "poolPlays", fn := fun _ => fun
  | [d1, d2] => { results := [.lit (.bool false)], args := [d1, d2] }
  | _ => none }
def PoolPlaysWrongFalsely : Prop := poolPlaysRow.holds Try.pinned (OpenSpec.ofChange poolPlaysWrong)

/-- 'matryoshkalaw09.PoolNil': WHATEVER THE INPUT: true; the input reads as it did. -/
def poolNilSpec : ChangeSpec := { name := "poolNil", fn := fun _ => fun
  | [d] => { results := [.lit (.bool true)], args := [d] }
  | _ => none }
def poolNilRow : OpenClaim := { program := "ytogndkmclingeaa", sum := "8e98e4e9805987ccf0612f060d7af15680b6e05b2f88ca2273b7dac70d40523b", func := "matryoshka/matryoshkalaw09.PoolNil", spec := "poolNil", unfollowed := true, recurses := true, apart := false }
def PoolNilSaid : Prop := poolNilRow.holds Try.pinned (OpenSpec.ofChange poolNilSpec)

/-- ITS FALSE NEIGHBOUR: 'it returns false'. Refute it at one input. -/
def poolNilWrong : ChangeSpec := { name := "poolNil", fn := fun _ => fun
  | [d] => { results := [.lit (.bool false)], args := [d] }
  | _ => none }
def PoolNilWrongFalsely : Prop := poolNilRow.holds Try.pinned (OpenSpec.ofChange poolNilWrong)

/- THE SECOND FORM. 'bulk': how many values and letters a reading holds, each counted each time it is reached (what is shared counts as often as it is met; a slice's spare places count too). A statement '..UptoSaid' is the law's where the arguments, and the package variables that the reading takes, are together of bulk at most 1048576: NARROWER than '..Said'. Prove '..Said' where nothing that the law and all that it calls make is longer than what came in: it says more and counts as full. Else prove '..UptoSaid'. A law counts once. -/
mutual
def uptoBulk {H : Type} : DataW H → Nat
  | .lit (.string bytes) => bytes.length + 1
  | .lit _ => 1
  | .nil => 1
  | .ptr d => uptoBulk d + 1
  | .slice elems spare => uptoBulkAll elems + uptoBulkAll spare + 1
  | .agg parts => uptoBulkAll parts + 1
  | .iface _ d => uptoBulk d + 1
  | .map entries => uptoBulkEntries entries + 1
  | .held _ => 1
def uptoBulkAll {H : Type} : List (DataW H) → Nat
  | [] => 0
  | d :: r => uptoBulk d + uptoBulkAll r
def uptoBulkEntries {H : Type} : List (Lit × DataW H) → Nat
  | [] => 0
  | x :: r => uptoBulkEntry x + uptoBulkEntries r
def uptoBulkEntry {H : Type} : Lit × DataW H → Nat
  | (.string bytes, d) => bytes.length + uptoBulk d + 1
  | (_, d) => uptoBulk d + 1
 end
def uptoSmall : (H : Type) → List (DataW H) → Bool := fun _ ds => decide (uptoBulkAll ds ≤ 1048576)
def OpenSpec.upto (s : _root_.Go.ChangeSpec) : _root_.Go.OpenSpec := { _root_.Go.OpenSpec.ofChange s with cond := some uptoSmall }

/-- 'matryoshkalaw09.PoolParts', WHERE WHAT IT READS IS OF BULK AT MOST 1048576: true; the input reads as it did. -/
def poolPartsUptoRow : OpenClaim := { program := "ytogndkmclingeaa", sum := "8e98e4e9805987ccf0612f060d7af15680b6e05b2f88ca2273b7dac70d40523b", func := "matryoshka/matryoshkalaw09.PoolParts", spec := "poolParts", unfollowed := true, recurses := true, apart := false, narrowed := true }
def PoolPartsUptoSaid : Prop := poolPartsUptoRow.holds Try.pinned (OpenSpec.upto poolPartsSpec)

/-- 'matryoshkalaw09.PoolLeast', WHERE WHAT IT READS IS OF BULK AT MOST 1048576: true; the input reads as it did. -/
def poolLeastUptoRow : OpenClaim := { program := "ytogndkmclingeaa", sum := "8e98e4e9805987ccf0612f060d7af15680b6e05b2f88ca2273b7dac70d40523b", func := "matryoshka/matryoshkalaw09.PoolLeast", spec := "poolLeast", unfollowed := true, recurses := true, apart := false, narrowed := true }
def PoolLeastUptoSaid : Prop := poolLeastUptoRow.holds Try.pinned (OpenSpec.upto poolLeastSpec)

/-- 'matryoshkalaw09.PoolRefs', WHERE WHAT IT READS IS OF BULK AT MOST 1048576: true; the input reads as it did. -/
def poolRefsUptoRow : OpenClaim := { program := "ytogndkmclingeaa", sum := "8e98e4e9805987ccf0612f060d7af15680b6e05b2f88ca2273b7dac70d40523b", func := "matryoshka/matryoshkalaw09.PoolRefs", spec := "poolRefs", unfollowed := true, recurses := true, apart := false, narrowed := true }
def PoolRefsUptoSaid : Prop := poolRefsUptoRow.holds Try.pinned (OpenSpec.upto poolRefsSpec)

/-- 'matryoshkalaw09.PoolOwned', WHERE WHAT IT READS IS OF BULK AT MOST 1048576: true; the input reads as it did. -/
def poolOwnedUptoRow : OpenClaim := { program := "ytogndkmclingeaa", sum := "8e98e4e9805987ccf0612f060d7af15680b6e05b2f88ca2273b7dac70d40523b", func := "matryoshka/matryoshkalaw09.PoolOwned", spec := "poolOwned", unfollowed := true, recurses := true, apart := false, narrowed := true }
def PoolOwnedUptoSaid : Prop := poolOwnedUptoRow.holds Try.pinned (OpenSpec.upto poolOwnedSpec)

/-- 'matryoshkalaw09.PoolPlays', WHERE WHAT IT READS IS OF BULK AT MOST 1048576: true; the input reads as it did. -/
def poolPlaysUptoRow : OpenClaim := { program := "ytogndkmclingeaa", sum := "8e98e4e9805987ccf0612f060d7af15680b6e05b2f88ca2273b7dac70d40523b", func := "matryoshka/matryoshkalaw09.PoolPlays", spec := "poolPlays", unfollowed := true, recurses := true, apart := false, narrowed := true }
def PoolPlaysUptoSaid : Prop := poolPlaysUptoRow.holds Try.pinned (OpenSpec.upto poolPlaysSpec)

/-- 'matryoshkalaw09.PoolNil', WHERE WHAT IT READS IS OF BULK AT MOST 1048576: true; the input reads as it did. -/
def poolNilUptoRow : OpenClaim := { program := "ytogndkmclingeaa", sum := "8e98e4e9805987ccf0612f060d7af15680b6e05b2f88ca2273b7dac70d40523b", func := "matryoshka/matryoshkalaw09.PoolNil", spec := "poolNil", unfollowed := true, recurses := true, apart := false, narrowed := true }
def PoolNilUptoSaid : Prop := poolNilUptoRow.holds Try.pinned (OpenSpec.upto poolNilSpec)

end Rows
end Go.Proofs.Ytogndkmclingeaa
