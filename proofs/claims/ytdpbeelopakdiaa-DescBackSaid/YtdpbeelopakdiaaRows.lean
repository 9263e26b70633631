/-
  No cell of these rows narrows 'for every input' (looked for: loops, veiled, ifaces, maps, wideKeys, modest, calm, conditions, laid).
  DERIVED. THE GIVEN ROWS OF THIS SEAT. 5 by the template 'for every input the law returns true; each argument reads behind the call as it read before'; 0 by the template 'total and deterministic' (their statements: YtdpbeelopakdiaaTotals.lean).
  GIVEN WITH THE SEED: the statements are not yours to turn. If you find one false, say at which input.
  Laid BY PROGRAM, IN A SANDBOX (cutbox-rows.mjs): the forced cells as the released guide's own fill.sh prints them over the translation 1b62b647446396f7… (all of the seat's roots in one cut). By AI agents, Wed Nov 11 2026. No macro, syntax, notation, axiom, sorry.
-/
import Derived.Test.YtdpbeelopakdiaaChecked
import GoSem.Claim
import GoSem.ClaimJoined
import GoSem.ClaimMapViews
import Derived.JoinedTies
import Derived.KernelRfl
namespace Go.Proofs.Ytdpbeelopakdiaa
/- THE CELL 'sum', in the pinned program and in every row, IS THE sha256 OF THE DUMP (.gsa) THAT YtdpbeelopakdiaaProg.lean LOADS. Nothing in Lean hashes anything: it is a label: what it is worth is what the hold of that sum in a sandbox is worth. -/
noncomputable def Try.pinned : Pinned := { name := "ytdpbeelopakdiaa", sum := "1b62b647446396f7c210b0b7c7b833d6c1afe9674a3dd96bc03d3a6f5c1057f6", checked := Try.checked }
namespace Rows
def none {H : Type} : Left H := { results := [], args := [] }

/-- 'matryoshkalaw08.DescTells': WHATEVER THE INPUT: true; the input reads as it did. -/
def descTellsSpec : ChangeSpec := { name := "descTells", fn := fun _ => fun
  | [d1, d2] => { results := [.lit (.bool true)], args := [d1, d2] }
  | _ => none }
def descTellsRow : OpenClaim := { program := "ytdpbeelopakdiaa", sum := "1b62b647446396f7c210b0b7c7b833d6c1afe9674a3dd96bc03d3a6f5c1057f6", func := "matryoshka/matryoshkalaw08.DescTells", spec := "descTells", apart := false }
def DescTellsSaid : Prop := descTellsRow.holds Try.pinned (OpenSpec.ofChange descTellsSpec)

/-- ITS FALSE NEIGHBOUR: 'it returns false'. Refute it at one input. -/
def descTellsWrong : ChangeSpec := { name := "descTells", fn := fun _ => fun
  | [d1, d2] => { results := [.lit (.bool false)], args := [d1, d2] }
  | _ => none }
def DescTellsWrongFalsely : Prop := descTellsRow.holds Try.pinned (OpenSpec.ofChange descTellsWrong)

/-- 'matryoshkalaw08.DescChanges': WHATEVER THE INPUT: true; the input reads as it did. -/
def descChangesSpec : ChangeSpec := { name := "descChanges", fn := fun _ => fun
  | [d1, d2, d3] => { results := [.lit (.bool true)], args := [d1, d2, d3] }
  | _ => none }
def descChangesRow : OpenClaim := { program := "ytdpbeelopakdiaa", sum := "1b62b647446396f7c210b0b7c7b833d6c1afe9674a3dd96bc03d3a6f5c1057f6", func := "matryoshka/matryoshkalaw08.DescChanges", spec := "descChanges", apart := false }
def DescChangesSaid : Prop := descChangesRow.holds Try.pinned (OpenSpec.ofChange descChangesSpec)

/-- ITS FALSE NEIGHBOUR: 'it returns false'. Refute it at one input. -/
def descChangesWrong : ChangeSpec := { name := "descChanges", fn := fun _ => fun
  | [d1, d2, d3] => { results := [.lit (.bool false)], args := [d1, d2, d3] }
  | _ => none }
def DescChangesWrongFalsely : Prop := descChangesRow.holds Try.pinned (OpenSpec.ofChange descChangesWrong)

/-- 'matryoshkalaw08.DescBack': WHATEVER THE INPUT: true; the input reads as it did. -/
def descBackSpec : ChangeSpec := { name := "descBack", fn := fun _ => fun
  | [d1, d2] => { results := [.lit (.bool true)], args := [d1, d2] }
  | _ => none }
def descBackRow : OpenClaim := { program := "ytdpbeelopakdiaa", sum := "1b62b647446396f7c210b0b7c7b833d6c1afe9674a3dd96bc03d3a6f5c1057f6", func := "matryoshka/matryoshkalaw08.DescBack", spec := "descBack", apart := false }
def DescBackSaid : Prop := descBackRow.holds Try.pinned (OpenSpec.ofChange descBackSpec)

/-- ITS FALSE NEIGHBOUR: 'it returns false'. Refute it at one input. -/
def descBackWrong : ChangeSpec := { name := "descBack", fn := fun _ => fun
  | [d1, d2] => { results := [.lit (.bool false)], args := [d1, d2] }
  | _ => none }
def DescBackWrongFalsely : Prop := descBackRow.holds Try.pinned (OpenSpec.ofChange descBackWrong)

/-- 'matryoshkalaw08.DescKeeps': WHATEVER THE INPUT: true; the input reads as it did. -/
def descKeepsSpec : ChangeSpec := { name := "descKeeps", fn := fun _ => fun
  | [d1, d2, d3] => { results := [.lit (.bool true)], args := [d1, d2, d3] }
  | _ => none }
def descKeepsRow : OpenClaim := { program := "ytdpbeelopakdiaa", sum := "1b62b647446396f7c210b0b7c7b833d6c1afe9674a3dd96bc03d3a6f5c1057f6", func := "matryoshka/matryoshkalaw08.DescKeeps", spec := "descKeeps", apart := false }
def DescKeepsSaid : Prop := descKeepsRow.holds Try.pinned (OpenSpec.ofChange descKeepsSpec)

/-- ITS FALSE NEIGHBOUR: 'it returns false'. Refute it at one input. -/
def descKeepsWrong : ChangeSpec := { name := "descKeeps", fn := fun _ => fun
  | [d1, d2, d3] => { results := [.lit (.bool false)], args := [d1, d2, d3] }
  | _ => none }
def DescKeepsWrongFalsely : Prop := descKeepsRow.holds Try.pinned (OpenSpec.ofChange descKeepsWrong)

/-- 'matryoshkalaw08.DescRounds': WHATEVER THE INPUT: true; the input reads as it did. -/
def descRoundsSpec : ChangeSpec := { name := "descRounds", fn := fun _ => fun
  | [d1, d2, d3] => { results := [.lit (.bool true)], args := [d1, d2, d3] }
  | _ => none }
def descRoundsRow : OpenClaim := { program := "ytdpbeelopakdiaa", sum := "1b62b647446396f7c210b0b7c7b833d6c1afe9674a3dd96bc03d3a6f5c1057f6", func := "matryoshka/matryoshkalaw08.DescRounds", spec := "descRounds", apart := false }
def DescRoundsSaid : Prop := descRoundsRow.holds Try.pinned (OpenSpec.ofChange descRoundsSpec)

/-- ITS FALSE NEIGHBOUR: 'it returns false'. Refute it at one input. -/
def descRoundsWrong : ChangeSpec := { name := "descRounds", fn := fun _ => fun
  | [d1, d2, d3] => { results := [.lit (.bool false)], args := [d1, d2, d3] }
  | _ => none }
def DescRoundsWrongFalsely : Prop := descRoundsRow.holds Try.pinned (OpenSpec.ofChange descRoundsWrong)

/- THE SECOND FORM. 'bulk': how many values and letters a reading holds, each counted each time it is reached (what is shared counts as often as it is met; a slice's spare places count too). A statement '..UptoSaid' is the law's where the arguments, and the package variables that the reading takes, are together of bulk at most 1048576: NARROWER than '..Said'. Prove '..Said' where nothing that the law and all that it calls make is longer than what came in: it says more and counts as full. Else prove '..UptoSaid'. A law counts once. -/
mutual
def uptoBulk {H : Type} : DataW H → Nat
  | .lit (.string bytes) => bytes.length + 1
  | .lit _ => 1
  | .nil => 1
  | .ptr d => uptoBulk d + 1
  | .slice elems spare => uptoBulkAll elems + uptoBulkAll spare + 1
  | .agg parts => uptoBulkAll parts + 1
  | .iface _ d => uptoBulk d + 1
  | .map entries => uptoBulkEntries entries + 1
  | .held _ => 1
def uptoBulkAll {H : Type} : List (DataW H) → Nat
  | [] => 0
  | d :: r => uptoBulk d + uptoBulkAll r
def uptoBulkEntries {H : Type} : List (Lit × DataW H) → Nat
  | [] => 0
  | x :: r => uptoBulkEntry x + uptoBulkEntries r
def uptoBulkEntry {H : Type} : Lit × DataW H → Nat
  | (.string bytes, d) => bytes.length + uptoBulk d + 1
  | (_, d) => uptoBulk d + 1
 end
def uptoSmall : (H : Type) → List (DataW H) → Bool := fun _ ds => decide (uptoBulkAll ds ≤ 1048576)
def OpenSpec.upto (s : _root_.Go.ChangeSpec) : _root_.Go.OpenSpec := { _root_.Go.OpenSpec.ofChange s with cond := some uptoSmall }

/-- 'matryoshkalaw08.DescTells', WHERE WHAT IT READS IS OF BULK AT MOST 1048576: true; the input reads as it did. -/
def descTellsUptoRow : OpenClaim := { program := "ytdpbeelopakdiaa", sum := "1b62b647446396f7c210b0b7c7b833d6c1afe9674a3dd96bc03d3a6f5c1057f6", func := "matryoshka/matryoshkalaw08.DescTells", spec := "descTells", apart := false, narrowed := true }
def DescTellsUptoSaid : Prop := descTellsUptoRow.holds Try.pinned (OpenSpec.upto descTellsSpec)

/-- 'matryoshkalaw08.DescChanges', WHERE WHAT IT READS IS OF BULK AT MOST 1048576: true; the input reads as it did. -/
def descChangesUptoRow : OpenClaim := { program := "ytdpbeelopakdiaa", sum := "1b62b647446396f7c210b0b7c7b833d6c1afe9674a3dd96bc03d3a6f5c1057f6", func := "matryoshka/matryoshkalaw08.DescChanges", spec := "descChanges", apart := false, narrowed := true }
def DescChangesUptoSaid : Prop := descChangesUptoRow.holds Try.pinned (OpenSpec.upto descChangesSpec)

/-- 'matryoshkalaw08.DescBack', WHERE WHAT IT READS IS OF BULK AT MOST 1048576: true; the input reads as it did. -/
def descBackUptoRow : OpenClaim := { program := "ytdpbeelopakdiaa", sum := "1b62b647446396f7c210b0b7c7b833d6c1afe9674a3dd96bc03d3a6f5c1057f6", func := "matryoshka/matryoshkalaw08.DescBack", spec := "descBack", apart := false, narrowed := true }
def DescBackUptoSaid : Prop := descBackUptoRow.holds Try.pinned (OpenSpec.upto descBackSpec)

/-- 'matryoshkalaw08.DescKeeps', WHERE WHAT IT READS IS OF BULK AT MOST 1048576: true; the input reads as it did. -/
def descKeepsUptoRow : OpenClaim := { program := "ytdpbeelopakdiaa", sum := "1b62b647446396f7c210b0b7c7b833d6c1afe9674a3dd96bc03d3a6f5c1057f6", func := "matryoshka/matryoshkalaw08.DescKeeps", spec := "descKeeps", apart := false, narrowed := true }
def DescKeepsUptoSaid : Prop := descKeepsUptoRow.holds Try.pinned (OpenSpec.upto descKeepsSpec)

/-- 'matryoshkalaw08.DescRounds', WHERE WHAT IT READS IS OF BULK AT MOST 1048576: true; the input reads as it did. -/
def descRoundsUptoRow : OpenClaim := { program := "ytdpbeelopakdiaa", sum := "1b62b647446396f7c210b0b7c7b833d6c1afe9674a3dd96bc03d3a6f5c1057f6", func := "matryoshka/matryoshkalaw08.DescRounds", spec := "descRounds", apart := false, narrowed := true }
def DescRoundsUptoSaid : Prop := descRoundsUptoRow.holds Try.pinned (OpenSpec.upto descRoundsSpec)

end Rows
end Go.Proofs.Ytdpbeelopakdiaa
