/-
  No cell of these rows narrows 'for every input' (looked for: loops, veiled, ifaces, maps, wideKeys, modest, calm, conditions, laid).
  DERIVED. THE GIVEN ROWS OF THIS SEAT. 6 by the template 'for every input the law returns true; each argument reads behind the call as it read before'; 0 by the template 'total and deterministic' (their statements: YtkldededdgpmbaaGreatTotals.lean).
  GIVEN WITH THE SEED: the statements are not yours to turn. If you find one false, say at which input.
  Laid BY PROGRAM, IN A SANDBOX (cutbox-rows.mjs): the forced cells as the released guide's own fill.sh prints them over the translation 0f8026dc36e422ae… (all of the seat's roots in one cut). By AI agents, Wed Nov 11 2026. No macro, syntax, notation, axiom, sorry.
-/
import Derived.Test.YtkldededdgpmbaaGreatChecked
import GoSem.Claim
import GoSem.ClaimJoined
import GoSem.ClaimMapViews
import Derived.JoinedTies
import Derived.KernelRfl
namespace Go.Proofs.YtkldededdgpmbaaGreat
/- THE CELL 'sum', in the pinned program and in every row, IS THE sha256 OF THE DUMP (.gsa) THAT YtkldededdgpmbaaGreatProg.lean LOADS. Nothing in Lean hashes anything: it is a label: what it is worth is what the hold of that sum in a sandbox is worth. -/
noncomputable def Tryz.pinned : Pinned := { name := "ytkldededdgpmbaagreat", sum := "0f8026dc36e422aef0d5084bfe28be3eb6d33be787d16a509d7df96f26cf3298", checked := Tryz.checked }
namespace Rows
def none {H : Type} : Left H := { results := [], args := [] }

/-- 'matryoshkalaw13.NptPlays': WHATEVER THE INPUT: true; the input reads as it did. -/
def nptPlaysSpec : ChangeSpec := { name := "nptPlays", fn := fun _ => fun
  | [d1, d2] => { results := [.lit (.bool true)], args := [d1, d2] }
  | _ => none }
def nptPlaysRow : OpenClaim := { program := "ytkldededdgpmbaagreat", sum := "0f8026dc36e422aef0d5084bfe28be3eb6d33be787d16a509d7df96f26cf3298", func := "matryoshka/matryoshkalaw13.NptPlays", spec := "nptPlays", unfollowed := true, recurses := true, apart := false }
def NptPlaysSaid : Prop := nptPlaysRow.holds Tryz.pinned (OpenSpec.ofChange nptPlaysSpec)

/-- ITS FALSE NEIGHBOUR: 'it returns false'. Refute it at one input. -/
def nptPlaysWrong : ChangeSpec := { name := "nptPlays", fn := fun _ => fun
  | [d1, d2] => { results := [.lit (.bool false)], args := [d1, d2] }
  | _ => none }
def NptPlaysWrongFalsely : Prop := nptPlaysRow.holds Tryz.pinned (OpenSpec.ofChange nptPlaysWrong)

/-- 'matryoshkalaw13.NptModel': WHATEVER THE INPUT: true; the input reads as it did. -/
def nptModelSpec : ChangeSpec := { name := "nptModel", fn := fun _ => fun
  | [d1, d2] => { results := [.lit (.bool true)], args := [d1, d2] }
  | _ => none }
def nptModelRow : OpenClaim := { program := "ytkldededdgpmbaagreat", sum := "0f8026dc36e422aef0d5084bfe28be3eb6d33be787d16a509d7df96f26cf3298", func := "matryoshka/matryoshkalaw13.NptModel", spec := "nptModel", unfollowed := true, recurses := true, apart := false }
def NptModelSaid : Prop := nptModelRow.holds Tryz.pinned (OpenSpec.ofChange nptModelSpec)

/-- ITS FALSE NEIGHBOUR: 'it returns false'. Refute it at one input. -/
def nptModelWrong : ChangeSpec := { name := "nptModel", fn := fun _ => fun
  | [d1, d2] => { results := [.lit (.bool false)], args := [d1, d2] }
  | _ => none }
def NptModelWrongFalsely : Prop := nptModelRow.holds Tryz.pinned (OpenSpec.ofChange nptModelWrong)

/-- 'matryoshkalaw13.NptEnds': WHATEVER THE INPUT: true; the input reads as it did. -/
def nptEndsSpec : ChangeSpec := { name := "nptEnds", fn := fun _ => fun
  | [d] => { results := [.lit (.bool true)], args := [d] }
  | _ => none }
def nptEndsRow : OpenClaim := { program := "ytkldededdgpmbaagreat", sum := "0f8026dc36e422aef0d5084bfe28be3eb6d33be787d16a509d7df96f26cf3298", func := "matryoshka/matryoshkalaw13.NptEnds", spec := "nptEnds", unfollowed := true, recurses := true, apart := false }
def NptEndsSaid : Prop := nptEndsRow.holds Tryz.pinned (OpenSpec.ofChange nptEndsSpec)

/-- ITS FALSE NEIGHBOUR: 'it returns false'. Refute it at one input. -/
def nptEndsWrong : ChangeSpec := { name := "nptEnds", fn := fun _ => fun
  | [d] => { results := [.lit (.bool false)], args := [d] }
  | _ => none }
def NptEndsWrongFalsely : Prop := nptEndsRow.holds Tryz.pinned (OpenSpec.ofChange nptEndsWrong)

/-- 'matryoshkalaw13.NptLarge': WHATEVER THE INPUT: true; the input reads as it did. -/
def nptLargeSpec : ChangeSpec := { name := "nptLarge", fn := fun _ => fun
  | [d1, d2] => { results := [.lit (.bool true)], args := [d1, d2] }
  | _ => none }
def nptLargeRow : OpenClaim := { program := "ytkldededdgpmbaagreat", sum := "0f8026dc36e422aef0d5084bfe28be3eb6d33be787d16a509d7df96f26cf3298", func := "matryoshka/matryoshkalaw13.NptLarge", spec := "nptLarge", unfollowed := true, recurses := true, apart := false }
def NptLargeSaid : Prop := nptLargeRow.holds Tryz.pinned (OpenSpec.ofChange nptLargeSpec)

/-- ITS FALSE NEIGHBOUR: 'it returns false'. Refute it at one input. -/
def nptLargeWrong : ChangeSpec := { name := "nptLarge", fn := fun _ => fun
  | [d1, d2] => { results := [.lit (.bool false)], args := [d1, d2] }
  | _ => none }
def NptLargeWrongFalsely : Prop := nptLargeRow.holds Tryz.pinned (OpenSpec.ofChange nptLargeWrong)

/-- 'matryoshkalaw13.NptTwo': WHATEVER THE INPUT: true; the input reads as it did. -/
def nptTwoSpec : ChangeSpec := { name := "nptTwo", fn := fun _ => fun
  | [d1, d2] => { results := [.lit (.bool true)], args := [d1, d2] }
  | _ => none }
def nptTwoRow : OpenClaim := { program := "ytkldededdgpmbaagreat", sum := "0f8026dc36e422aef0d5084bfe28be3eb6d33be787d16a509d7df96f26cf3298", func := "matryoshka/matryoshkalaw13.NptTwo", spec := "nptTwo", unfollowed := true, recurses := true, apart := false }
def NptTwoSaid : Prop := nptTwoRow.holds Tryz.pinned (OpenSpec.ofChange nptTwoSpec)

/-- ITS FALSE NEIGHBOUR: 'it returns false'. Refute it at one input. -/
def nptTwoWrong : ChangeSpec := { name := "nptTwo", fn := fun _ => fun
  | [d1, d2] => { results := [.lit (.bool false)], args := [d1, d2] }
  | _ => none }
def NptTwoWrongFalsely : Prop := nptTwoRow.holds Tryz.pinned (OpenSpec.ofChange nptTwoWrong)

/-- 'matryoshkalaw13.NptFails': WHATEVER THE INPUT: true; the input reads as it did. -/
def nptFailsSpec : ChangeSpec := { name := "nptFails", fn := fun _ => fun
  | [d1, d2] => { results := [.lit (.bool true)], args := [d1, d2] }
  | _ => none }
def nptFailsRow : OpenClaim := { program := "ytkldededdgpmbaagreat", sum := "0f8026dc36e422aef0d5084bfe28be3eb6d33be787d16a509d7df96f26cf3298", func := "matryoshka/matryoshkalaw13.NptFails", spec := "nptFails", unfollowed := true, recurses := true, apart := false }
def NptFailsSaid : Prop := nptFailsRow.holds Tryz.pinned (OpenSpec.ofChange nptFailsSpec)

/-- ITS FALSE NEIGHBOUR: 'it returns false'. Refute it at one input. -/
def nptFailsWrong : ChangeSpec := { name := "nptFails", fn := fun _ => fun
  | [d1, d2] => { results := [.lit (.bool false)], args := [d1, d2] }
  | _ => none }
def NptFailsWrongFalsely : Prop := nptFailsRow.holds Tryz.pinned (OpenSpec.ofChange nptFailsWrong)

/- THE SECOND FORM. 'bulk': how many values and letters a reading holds, each counted each time it is reached (what is shared counts as often as it is met; a slice's spare places count too). A statement '..UptoSaid' is the law's where the arguments, and the package variables that the reading takes, are together of bulk at most 1048576: NARROWER than '..Said'. Prove '..Said' where nothing that the law and all that it calls make is longer than what came in: it says more and counts as full. Else prove '..UptoSaid'. A law counts once. -/
mutual
def uptoBulk {H : Type} : DataW H → Nat
  | .lit (.string bytes) => bytes.length + 1
  | .lit _ => 1
  | .nil => 1
  | .ptr d => uptoBulk d + 1
  | .slice elems spare => uptoBulkAll elems + uptoBulkAll spare + 1
  | .agg parts => uptoBulkAll parts + 1
  | .iface _ d => uptoBulk d + 1
  | .map entries => uptoBulkEntries entries + 1
  | .held _ => 1
def uptoBulkAll {H : Type} : List (DataW H) → Nat
  | [] => 0
  | d :: r => uptoBulk d + uptoBulkAll r
def uptoBulkEntries {H : Type} : List (Lit × DataW H) → Nat
  | [] => 0
  | x :: r => uptoBulkEntry x + uptoBulkEntries r
def uptoBulkEntry {H : Type} : Lit × DataW H → Nat
  | (.string bytes, d) => bytes.length + uptoBulk d + 1
  | (_, d) => uptoBulk d + 1
 end
def uptoSmall : (H : Type) → List (DataW H) → Bool := fun _ ds => decide (uptoBulkAll ds ≤ 1048576)
def OpenSpec.upto (s : _root_.Go.ChangeSpec) : _root_.Go.OpenSpec := { _root_.Go.OpenSpec.ofChange s with cond := some uptoSmall }

/-- 'matryoshkalaw13.NptPlays', WHERE WHAT IT READS IS OF BULK AT MOST 1048576: true; the input reads as it did. -/
def nptPlaysUptoRow : OpenClaim := { program := "ytkldededdgpmbaagreat", sum := "0f8026dc36e422aef0d5084bfe28be3eb6d33be787d16a509d7df96f26cf3298", func := "matryoshka/matryoshkalaw13.NptPlays", spec := "nptPlays", unfollowed := true, recurses := true, apart := false, narrowed := true }
def NptPlaysUptoSaid : Prop := nptPlaysUptoRow.holds Tryz.pinned (OpenSpec.upto nptPlaysSpec)

/-- 'matryoshkalaw13.NptModel', WHERE WHAT IT READS IS OF BULK AT MOST 1048576: true; the input reads as it did. -/
def nptModelUptoRow : OpenClaim := { program := "ytkldededdgpmbaagreat", sum := "0f8026dc36e422aef0d5084bfe28be3eb6d33be787d16a509d7df96f26cf3298", func := "matryoshka/matryoshkalaw13.NptModel", spec := "nptModel", unfollowed := true, recurses := true, apart := false, narrowed := true }
def NptModelUptoSaid : Prop := nptModelUptoRow.holds Tryz.pinned (OpenSpec.upto nptModelSpec)

/-- 'matryoshkalaw13.NptEnds', WHERE WHAT IT READS IS OF BULK AT MOST 1048576: true; the input reads as it did. -/
def nptEndsUptoRow : OpenClaim := { program := "ytkldededdgpmbaagreat", sum := "0f8026dc36e422aef0d5084bfe28be3eb6d33be787d16a509d7df96f26cf3298", func := "matryoshka/matryoshkalaw13.NptEnds", spec := "nptEnds", unfollowed := true, recurses := true, apart := false, narrowed := true }
def NptEndsUptoSaid : Prop := nptEndsUptoRow.holds Tryz.pinned (OpenSpec.upto nptEndsSpec)

/-- 'matryoshkalaw13.NptLarge', WHERE WHAT IT READS IS OF BULK AT MOST 1048576: true; the input reads as it did. -/
def nptLargeUptoRow : OpenClaim := { program := "ytkldededdgpmbaagreat", sum := "0f8026dc36e422aef0d5084bfe28be3eb6d33be787d16a509d7df96f26cf3298", func := "matryoshka/matryoshkalaw13.NptLarge", spec := "nptLarge", unfollowed := true, recurses := true, apart := false, narrowed := true }
def NptLargeUptoSaid : Prop := nptLargeUptoRow.holds Tryz.pinned (OpenSpec.upto nptLargeSpec)

/-- 'matryoshkalaw13.NptTwo', WHERE WHAT IT READS IS OF BULK AT MOST 1048576: true; the input reads as it did. -/
def nptTwoUptoRow : OpenClaim := { program := "ytkldededdgpmbaagreat", sum := "0f8026dc36e422aef0d5084bfe28be3eb6d33be787d16a509d7df96f26cf3298", func := "matryoshka/matryoshkalaw13.NptTwo", spec := "nptTwo", unfollowed := true, recurses := true, apart := false, narrowed := true }
def NptTwoUptoSaid : Prop := nptTwoUptoRow.holds Tryz.pinned (OpenSpec.upto nptTwoSpec)

/-- 'matryoshkalaw13.NptFails', WHERE WHAT IT READS IS OF BULK AT MOST 1048576: true; the input reads as it did. -/
def nptFailsUptoRow : OpenClaim := { program := "ytkldededdgpmbaagreat", sum := "0f8026dc36e422aef0d5084bfe28be3eb6d33be787d16a509d7df96f26cf3298", func := "matryoshka/matryoshkalaw13.NptFails", spec := "nptFails", unfollowed := true, recurses := true, apart := false, narrowed := true }
def NptFailsUptoSaid : Prop := nptFailsUptoRow.holds Tryz.pinned (OpenSpec.upto nptFailsSpec)

end Rows
end Go.Proofs.YtkldededdgpmbaaGreat
