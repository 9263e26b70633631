/-
  No cell of these rows narrows 'for every input' (looked for: loops, veiled, ifaces, maps, wideKeys, modest, calm, conditions, laid).
  DERIVED. THE GIVEN ROWS OF THIS SEAT. 3 by the template 'for every input the law returns true; each argument reads behind the call as it read before'; 0 by the template 'total and deterministic' (their statements: YteeflilbnoknnaaGreatTotals.lean).
  GIVEN WITH THE SEED: the statements are not yours to turn. If you find one false, say at which input.
  Laid BY PROGRAM, IN A SANDBOX (cutbox-rows.mjs): the forced cells as the released guide's own fill.sh prints them over the translation eb376feb3b69d36b… (all of the seat's roots in one cut). By AI agents, Wed Nov 11 2026. No macro, syntax, notation, axiom, sorry.
-/
import Derived.Test.YteeflilbnoknnaaGreatChecked
import GoSem.Claim
import GoSem.ClaimJoined
import GoSem.ClaimMapViews
import Derived.JoinedTies
import Derived.KernelRfl
namespace Go.Proofs.YteeflilbnoknnaaGreat
/- THE CELL 'sum', in the pinned program and in every row, IS THE sha256 OF THE DUMP (.gsa) THAT YteeflilbnoknnaaGreatProg.lean LOADS. Nothing in Lean hashes anything: it is a label: what it is worth is what the hold of that sum in a sandbox is worth. -/
noncomputable def Tryz.pinned : Pinned := { name := "yteeflilbnoknnaagreat", sum := "eb376feb3b69d36b001fba6310118a92ac668885d694f196f74781b8772ac5cc", checked := Tryz.checked }
namespace Rows
def none {H : Type} : Left H := { results := [], args := [] }

/-- 'matryoshkalaw23.HvDoes': WHATEVER THE INPUT: true; the input reads as it did. -/
def hvDoesSpec : ChangeSpec := { name := "hvDoes", fn := fun _ => fun
  | [d1, d2] => { results := [.lit (.bool true)], args := [d1, d2] }
  | _ => none }
def hvDoesRow : OpenClaim := { program := "yteeflilbnoknnaagreat", sum := "eb376feb3b69d36b001fba6310118a92ac668885d694f196f74781b8772ac5cc", func := "matryoshka/matryoshkalaw23.HvDoes", spec := "hvDoes", unfollowed := true, recurses := true, apart := false }
def HvDoesSaid : Prop := hvDoesRow.holds Tryz.pinned (OpenSpec.ofChange hvDoesSpec)

/-- ITS FALSE NEIGHBOUR: 'it returns false'. Refute it at one input. -/
def hvDoesWrong : ChangeSpec := { name := "hvDoes", fn := fun _ => fun
  | [d1, d2] => { results := [.lit (.bool false)], args := [d1, d2] }
  | _ => none }
def HvDoesWrongFalsely : Prop := hvDoesRow.holds Tryz.pinned (OpenSpec.ofChange hvDoesWrong)

/-- 'matryoshkalaw23.HvTexts': WHATEVER THE INPUT: true; the input reads as it did. -/
def hvTextsSpec : ChangeSpec := { name := "hvTexts", fn := fun _ => fun
  | [d1, d2] => { results := [.lit (.bool true)], args := [d1, d2] }
  | _ => none }
def hvTextsRow : OpenClaim := { program := "yteeflilbnoknnaagreat", sum := "eb376feb3b69d36b001fba6310118a92ac668885d694f196f74781b8772ac5cc", func := "matryoshka/matryoshkalaw23.HvTexts", spec := "hvTexts", unfollowed := true, recurses := true, apart := false }
def HvTextsSaid : Prop := hvTextsRow.holds Tryz.pinned (OpenSpec.ofChange hvTextsSpec)

/-- ITS FALSE NEIGHBOUR: 'it returns false'. Refute it at one input. -/
def hvTextsWrong : ChangeSpec := { name := "hvTexts", fn := fun _ => fun
  | [d1, d2] => { results := [.lit (.bool false)], args := [d1, d2] }
  | _ => none }
def HvTextsWrongFalsely : Prop := hvTextsRow.holds Tryz.pinned (OpenSpec.ofChange hvTextsWrong)

/-- 'matryoshkalaw24.MultiDoes': WHATEVER THE INPUT: true; the input reads as it did. -/
def multiDoesSpec : ChangeSpec := { name := "multiDoes", fn := fun _ => fun
  | [d1, d2] => { results := [.lit (.bool true)], args := [d1, d2] }
  | _ => none }
def multiDoesRow : OpenClaim := { program := "yteeflilbnoknnaagreat", sum := "eb376feb3b69d36b001fba6310118a92ac668885d694f196f74781b8772ac5cc", func := "matryoshka/matryoshkalaw24.MultiDoes", spec := "multiDoes", unfollowed := true, recurses := true, apart := false }
def MultiDoesSaid : Prop := multiDoesRow.holds Tryz.pinned (OpenSpec.ofChange multiDoesSpec)

/-- ITS FALSE NEIGHBOUR: 'it returns false'. Refute it at one input. -/
def multiDoesWrong : ChangeSpec := { name := "multiDoes", fn := fun _ => fun
  | [d1, d2] => { results := [.lit (.bool false)], args := [d1, d2] }
  | _ => none }
def MultiDoesWrongFalsely : Prop := multiDoesRow.holds Tryz.pinned (OpenSpec.ofChange multiDoesWrong)

/- THE SECOND FORM. 'bulk': how many values and letters a reading holds, each counted each time it is reached (what is shared counts as often as it is met; a slice's spare places count too). A statement '..UptoSaid' is the law's where the arguments, and the package variables that the reading takes, are together of bulk at most 1048576: NARROWER than '..Said'. Prove '..Said' where nothing that the law and all that it calls make is longer than what came in: it says more and counts as full. Else prove '..UptoSaid'. A law counts once. -/
mutual
def uptoBulk {H : Type} : DataW H → Nat
  | .lit (.string bytes) => bytes.length + 1
  | .lit _ => 1
  | .nil => 1
  | .ptr d => uptoBulk d + 1
  | .slice elems spare => uptoBulkAll elems + uptoBulkAll spare + 1
  | .agg parts => uptoBulkAll parts + 1
  | .iface _ d => uptoBulk d + 1
  | .map entries => uptoBulkEntries entries + 1
  | .held _ => 1
def uptoBulkAll {H : Type} : List (DataW H) → Nat
  | [] => 0
  | d :: r => uptoBulk d + uptoBulkAll r
def uptoBulkEntries {H : Type} : List (Lit × DataW H) → Nat
  | [] => 0
  | x :: r => uptoBulkEntry x + uptoBulkEntries r
def uptoBulkEntry {H : Type} : Lit × DataW H → Nat
  | (.string bytes, d) => bytes.length + uptoBulk d + 1
  | (_, d) => uptoBulk d + 1
 end
def uptoSmall : (H : Type) → List (DataW H) → Bool := fun _ ds => decide (uptoBulkAll ds ≤ 1048576)
def OpenSpec.upto (s : _root_.Go.ChangeSpec) : _root_.Go.OpenSpec := { _root_.Go.OpenSpec.ofChange s with cond := some uptoSmall }

/-- 'matryoshkalaw23.HvDoes', WHERE WHAT IT READS IS OF BULK AT MOST 1048576: true; the input reads as it did. -/
def hvDoesUptoRow : OpenClaim := { program := "yteeflilbnoknnaagreat", sum := "eb376feb3b69d36b001fba6310118a92ac668885d694f196f74781b8772ac5cc", func := "matryoshka/matryoshkalaw23.HvDoes", spec := "hvDoes", unfollowed := true, recurses := true, apart := false, narrowed := true }
def HvDoesUptoSaid : Prop := hvDoesUptoRow.holds Tryz.pinned (OpenSpec.upto hvDoesSpec)

/-- 'matryoshkalaw23.HvTexts', WHERE WHAT IT READS IS OF BULK AT MOST 1048576: true; the input reads as it did. -/
def hvTextsUptoRow : OpenClaim := { program := "yteeflilbnoknnaagreat", sum := "eb376feb3b69d36b001fba6310118a92ac668885d694f196f74781b8772ac5cc", func := "matryoshka/matryoshkalaw23.HvTexts", spec := "hvTexts", unfollowed := true, recurses := true, apart := false, narrowed := true }
def HvTextsUptoSaid : Prop := hvTextsUptoRow.holds Tryz.pinned (OpenSpec.upto hvTextsSpec)

/-- 'matryoshkalaw24.MultiDoes', WHERE WHAT IT READS IS OF BULK AT MOST 1048576: true; the input reads as it did. -/
def multiDoesUptoRow : OpenClaim := { program := "yteeflilbnoknnaagreat", sum := "eb376feb3b69d36b001fba6310118a92ac668885d694f196f74781b8772ac5cc", func := "matryoshka/matryoshkalaw24.MultiDoes", spec := "multiDoes", unfollowed := true, recurses := true, apart := false, narrowed := true }
def MultiDoesUptoSaid : Prop := multiDoesUptoRow.holds Tryz.pinned (OpenSpec.upto multiDoesSpec)

end Rows
end Go.Proofs.YteeflilbnoknnaaGreat
