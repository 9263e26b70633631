/-
  No cell of these rows narrows 'for every input' (looked for: loops, veiled, ifaces, maps, wideKeys, modest, calm, conditions, laid).
  DERIVED. THE GIVEN ROWS OF THIS SEAT. 6 by the template 'for every input the law returns true; each argument reads behind the call as it read before'; 0 by the template 'total and deterministic' (their statements: YtmhkofjlkfmncaaTotals.lean).
  GIVEN WITH THE SEED: the statements are not yours to turn. If you find one false, say at which input.
  Laid BY PROGRAM, IN A SANDBOX (cutbox-rows.mjs): the forced cells as the released guide's own fill.sh prints them over the translation 6f3fbc87610c69a8… (all of the seat's roots in one cut). By AI agents, Wed Nov 11 2026. No macro, syntax, notation, axiom, sorry.
-/
import Derived.Test.YtmhkofjlkfmncaaChecked
import GoSem.Claim
import GoSem.ClaimJoined
import GoSem.ClaimMapViews
import Derived.JoinedTies
import Derived.KernelRfl
namespace Go.Proofs.Ytmhkofjlkfmncaa
/- THE CELL 'sum', in the pinned program and in every row, IS THE sha256 OF THE DUMP (.gsa) THAT YtmhkofjlkfmncaaProg.lean LOADS. Nothing in Lean hashes anything: it is a label: what it is worth is what the hold of that sum in a sandbox is worth. -/
noncomputable def Try.pinned : Pinned := { name := "ytmhkofjlkfmncaa", sum := "6f3fbc87610c69a8fce11a71572e4c9002f1697ddb770e81acf02292b586a081", checked := Try.checked }
namespace Rows
def none {H : Type} : Left H := { results := [], args := [] }

/-- 'matryoshkalaw11.PteTells': WHATEVER THE INPUT: true; the input reads as it did. -/
def pteTellsSpec : ChangeSpec := { name := "pteTells", fn := fun _ => fun
  | [d1, d2, d3] => { results := [.lit (.bool true)], args := [d1, d2, d3] }
  | _ => none }
def pteTellsRow : OpenClaim := { program := "ytmhkofjlkfmncaa", sum := "6f3fbc87610c69a8fce11a71572e4c9002f1697ddb770e81acf02292b586a081", func := "matryoshka/matryoshkalaw11.PteTells", spec := "pteTells", apart := false }
def PteTellsSaid : Prop := pteTellsRow.holds Try.pinned (OpenSpec.ofChange pteTellsSpec)

/-- ITS FALSE NEIGHBOUR: 'it returns false'. Refute it at one input. -/
def pteTellsWrong : ChangeSpec := { name := "pteTells", fn := fun _ => fun
  | [d1, d2, d3] => { results := [.lit (.bool false)], args := [d1, d2, d3] }
  | _ => none }
def PteTellsWrongFalsely : Prop := pteTellsRow.holds Try.pinned (OpenSpec.ofChange pteTellsWrong)

/-- 'matryoshkalaw11.PtePlaces': WHATEVER THE INPUT: true; the input reads as it did. -/
def ptePlacesSpec : ChangeSpec := { name := "ptePlaces", fn := fun _ => fun
  | [d1, d2, d3] => { results := [.lit (.bool true)], args := [d1, d2, d3] }
  | _ => none }
def ptePlacesRow : OpenClaim := { program := "ytmhkofjlkfmncaa", sum := "6f3fbc87610c69a8fce11a71572e4c9002f1697ddb770e81acf02292b586a081", func := "matryoshka/matryoshkalaw11.PtePlaces", spec := "ptePlaces", apart := false }
def PtePlacesSaid : Prop := ptePlacesRow.holds Try.pinned (OpenSpec.ofChange ptePlacesSpec)

/-- ITS FALSE NEIGHBOUR: 'it returns false'. Refute it at one input. -/
def ptePlacesWrong : ChangeSpec := { name := "ptePlaces", fn := fun _ => fun
  | [d1, d2, d3] => { results := [.lit (.bool false)], args := [d1, d2, d3] }
  | _ => none }
def PtePlacesWrongFalsely : Prop := ptePlacesRow.holds Try.pinned (OpenSpec.ofChange ptePlacesWrong)

/-- 'matryoshkalaw11.PteBack': WHATEVER THE INPUT: true; the input reads as it did. -/
def pteBackSpec : ChangeSpec := { name := "pteBack", fn := fun _ => fun
  | [d1, d2] => { results := [.lit (.bool true)], args := [d1, d2] }
  | _ => none }
def pteBackRow : OpenClaim := { program := "ytmhkofjlkfmncaa", sum := "6f3fbc87610c69a8fce11a71572e4c9002f1697ddb770e81acf02292b586a081", func := "matryoshka/matryoshkalaw11.PteBack", spec := "pteBack", apart := false }
def PteBackSaid : Prop := pteBackRow.holds Try.pinned (OpenSpec.ofChange pteBackSpec)

/-- ITS FALSE NEIGHBOUR: 'it returns false'. Refute it at one input. -/
def pteBackWrong : ChangeSpec := { name := "pteBack", fn := fun _ => fun
  | [d1, d2] => { results := [.lit (.bool false)], args := [d1, d2] }
  | _ => none }
def PteBackWrongFalsely : Prop := pteBackRow.holds Try.pinned (OpenSpec.ofChange pteBackWrong)

/-- 'matryoshkalaw11.PteDigits': WHATEVER THE INPUT: true; the input reads as it did. -/
def pteDigitsSpec : ChangeSpec := { name := "pteDigits", fn := fun _ => fun
  | [d1, d2] => { results := [.lit (.bool true)], args := [d1, d2] }
  | _ => none }
def pteDigitsRow : OpenClaim := { program := "ytmhkofjlkfmncaa", sum := "6f3fbc87610c69a8fce11a71572e4c9002f1697ddb770e81acf02292b586a081", func := "matryoshka/matryoshkalaw11.PteDigits", spec := "pteDigits", apart := false }
def PteDigitsSaid : Prop := pteDigitsRow.holds Try.pinned (OpenSpec.ofChange pteDigitsSpec)

/-- ITS FALSE NEIGHBOUR: 'it returns false'. Refute it at one input. -/
def pteDigitsWrong : ChangeSpec := { name := "pteDigits", fn := fun _ => fun
  | [d1, d2] => { results := [.lit (.bool false)], args := [d1, d2] }
  | _ => none }
def PteDigitsWrongFalsely : Prop := pteDigitsRow.holds Try.pinned (OpenSpec.ofChange pteDigitsWrong)

/-- 'matryoshkalaw11.PteRights': WHATEVER THE INPUT: true; the input reads as it did. -/
def pteRightsSpec : ChangeSpec := { name := "pteRights", fn := fun _ => fun
  | [d1, d2] => { results := [.lit (.bool true)], args := [d1, d2] }
  | _ => none }
def pteRightsRow : OpenClaim := { program := "ytmhkofjlkfmncaa", sum := "6f3fbc87610c69a8fce11a71572e4c9002f1697ddb770e81acf02292b586a081", func := "matryoshka/matryoshkalaw11.PteRights", spec := "pteRights", apart := false }
def PteRightsSaid : Prop := pteRightsRow.holds Try.pinned (OpenSpec.ofChange pteRightsSpec)

/-- ITS FALSE NEIGHBOUR: 'it returns false'. Refute it at one input. -/
def pteRightsWrong : ChangeSpec := { name := "pteRights", fn := fun _ => fun
  | [d1, d2] => { results := [.lit (.bool false)], args := [d1, d2] }
  | _ => none }
def PteRightsWrongFalsely : Prop := pteRightsRow.holds Try.pinned (OpenSpec.ofChange pteRightsWrong)

/-- 'matryoshkalaw11.PteShares': WHATEVER THE INPUT: true; the input reads as it did. -/
def pteSharesSpec : ChangeSpec := { name := "pteShares", fn := fun _ => fun
  | [d1, d2, d3] => { results := [.lit (.bool true)], args := [d1, d2, d3] }
  | _ => none }
def pteSharesRow : OpenClaim := { program := "ytmhkofjlkfmncaa", sum := "6f3fbc87610c69a8fce11a71572e4c9002f1697ddb770e81acf02292b586a081", func := "matryoshka/matryoshkalaw11.PteShares", spec := "pteShares", apart := false }
def PteSharesSaid : Prop := pteSharesRow.holds Try.pinned (OpenSpec.ofChange pteSharesSpec)

/-- ITS FALSE NEIGHBOUR: 'it returns false'. Refute it at one input. -/
def pteSharesWrong : ChangeSpec := { name := "pteShares", fn := fun _ => fun
  | [d1, d2, d3] => { results := [.lit (.bool false)], args := [d1, d2, d3] }
  | _ => none }
def PteSharesWrongFalsely : Prop := pteSharesRow.holds Try.pinned (OpenSpec.ofChange pteSharesWrong)

/- THE SECOND FORM. 'bulk': how many values and letters a reading holds, each counted each time it is reached (what is shared counts as often as it is met; a slice's spare places count too). A statement '..UptoSaid' is the law's where the arguments, and the package variables that the reading takes, are together of bulk at most 1048576: NARROWER than '..Said'. Prove '..Said' where nothing that the law and all that it calls make is longer than what came in: it says more and counts as full. Else prove '..UptoSaid'. A law counts once. -/
mutual
def uptoBulk {H : Type} : DataW H → Nat
  | .lit (.string bytes) => bytes.length + 1
  | .lit _ => 1
  | .nil => 1
  | .ptr d => uptoBulk d + 1
  | .slice elems spare => uptoBulkAll elems + uptoBulkAll spare + 1
  | .agg parts => uptoBulkAll parts + 1
  | .iface _ d => uptoBulk d + 1
  | .map entries => uptoBulkEntries entries + 1
  | .held _ => 1
def uptoBulkAll {H : Type} : List (DataW H) → Nat
  | [] => 0
  | d :: r => uptoBulk d + uptoBulkAll r
def uptoBulkEntries {H : Type} : List (Lit × DataW H) → Nat
  | [] => 0
  | x :: r => uptoBulkEntry x + uptoBulkEntries r
def uptoBulkEntry {H : Type} : Lit × DataW H → Nat
  | (.string bytes, d) => bytes.length + uptoBulk d + 1
  | (_, d) => uptoBulk d + 1
 end
def uptoSmall : (H : Type) → List (DataW H) → Bool := fun _ ds => decide (uptoBulkAll ds ≤ 1048576)
def OpenSpec.upto (s : _root_.Go.ChangeSpec) : _root_.Go.OpenSpec := { _root_.Go.OpenSpec.ofChange s with cond := some uptoSmall }

/-- 'matryoshkalaw11.PteTells', WHERE WHAT IT READS IS OF BULK AT MOST 1048576: true; the input reads as it did. -/
def pteTellsUptoRow : OpenClaim := { program := "ytmhkofjlkfmncaa", sum := "6f3fbc87610c69a8fce11a71572e4c9002f1697ddb770e81acf02292b586a081", func := "matryoshka/matryoshkalaw11.PteTells", spec := "pteTells", apart := false, narrowed := true }
def PteTellsUptoSaid : Prop := pteTellsUptoRow.holds Try.pinned (OpenSpec.upto pteTellsSpec)

/-- 'matryoshkalaw11.PtePlaces', WHERE WHAT IT READS IS OF BULK AT MOST 1048576: true; the input reads as it did. -/
def ptePlacesUptoRow : OpenClaim := { program := "ytmhkofjlkfmncaa", sum := "6f3fbc87610c69a8fce11a71572e4c9002f1697ddb770e81acf02292b586a081", func := "matryoshka/matryoshkalaw11.PtePlaces", spec := "ptePlaces", apart := false, narrowed := true }
def PtePlacesUptoSaid : Prop := ptePlacesUptoRow.holds Try.pinned (OpenSpec.upto ptePlacesSpec)

/-- 'matryoshkalaw11.PteBack', WHERE WHAT IT READS IS OF BULK AT MOST 1048576: true; the input reads as it did. -/
def pteBackUptoRow : OpenClaim := { program := "ytmhkofjlkfmncaa", sum := "6f3fbc87610c69a8fce11a71572e4c9002f1697ddb770e81acf02292b586a081", func := "matryoshka/matryoshkalaw11.PteBack", spec := "pteBack", apart := false, narrowed := true }
def PteBackUptoSaid : Prop := pteBackUptoRow.holds Try.pinned (OpenSpec.upto pteBackSpec)

/-- 'matryoshkalaw11.PteDigits', WHERE WHAT IT READS IS OF BULK AT MOST 1048576: true; the input reads as it did. -/
def pteDigitsUptoRow : OpenClaim := { program := "ytmhkofjlkfmncaa", sum := "6f3fbc87610c69a8fce11a71572e4c9002f1697ddb770e81acf02292b586a081", func := "matryoshka/matryoshkalaw11.PteDigits", spec := "pteDigits", apart := false, narrowed := true }
def PteDigitsUptoSaid : Prop := pteDigitsUptoRow.holds Try.pinned (OpenSpec.upto pteDigitsSpec)

/-- 'matryoshkalaw11.PteRights', WHERE WHAT IT READS IS OF BULK AT MOST 1048576: true; the input reads as it did. -/
def pteRightsUptoRow : OpenClaim := { program := "ytmhkofjlkfmncaa", sum := "6f3fbc87610c69a8fce11a71572e4c9002f1697ddb770e81acf02292b586a081", func := "matryoshka/matryoshkalaw11.PteRights", spec := "pteRights", apart := false, narrowed := true }
def PteRightsUptoSaid : Prop := pteRightsUptoRow.holds Try.pinned (OpenSpec.upto pteRightsSpec)

/-- 'matryoshkalaw11.PteShares', WHERE WHAT IT READS IS OF BULK AT MOST 1048576: true; the input reads as it did. -/
def pteSharesUptoRow : OpenClaim := { program := "ytmhkofjlkfmncaa", sum := "6f3fbc87610c69a8fce11a71572e4c9002f1697ddb770e81acf02292b586a081", func := "matryoshka/matryoshkalaw11.PteShares", spec := "pteShares", apart := false, narrowed := true }
def PteSharesUptoSaid : Prop := pteSharesUptoRow.holds Try.pinned (OpenSpec.upto pteSharesSpec)

end Rows
end Go.Proofs.Ytmhkofjlkfmncaa
