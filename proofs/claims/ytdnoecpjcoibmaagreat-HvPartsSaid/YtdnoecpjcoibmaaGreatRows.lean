/-
  No cell of these rows narrows 'for every input' (looked for: loops, veiled, ifaces, maps, wideKeys, modest, calm, conditions, laid).
  DERIVED. THE GIVEN ROWS OF THIS SEAT. 9 by the template 'for every input the law returns true; each argument reads behind the call as it read before'; 0 by the template 'total and deterministic' (their statements: YtdnoecpjcoibmaaGreatTotals.lean).
  GIVEN WITH THE SEED: the statements are not yours to turn. If you find one false, say at which input.
  Laid BY PROGRAM, IN A SANDBOX (cutbox-rows.mjs): the forced cells as the released guide's own fill.sh prints them over the translation b1ed738fe4335db9… (all of the seat's roots in one cut). By AI agents, Wed Nov 11 2026. No macro, syntax, notation, axiom, sorry.
-/
import Derived.Test.YtdnoecpjcoibmaaGreatChecked
import GoSem.Claim
import GoSem.ClaimJoined
import GoSem.ClaimMapViews
import Derived.JoinedTies
import Derived.KernelRfl
namespace Go.Proofs.YtdnoecpjcoibmaaGreat
/- THE CELL 'sum', in the pinned program and in every row, IS THE sha256 OF THE DUMP (.gsa) THAT YtdnoecpjcoibmaaGreatProg.lean LOADS. Nothing in Lean hashes anything: it is a label: what it is worth is what the hold of that sum in a sandbox is worth. -/
noncomputable def Tryz.pinned : Pinned := { name := "ytdnoecpjcoibmaagreat", sum := "b1ed738fe4335db92a84281cba7fcee3e2596e0177d19982a5fcceed64f70a8c", checked := Tryz.checked }
namespace Rows
def none {H : Type} : Left H := { results := [], args := [] }

/-- 'matryoshkalaw23.HvApart': WHATEVER THE INPUT: true; the input reads as it did. -/
def hvApartSpec : ChangeSpec := { name := "hvApart", fn := fun _ => fun
  | [d1, d2] => { results := [.lit (.bool true)], args := [d1, d2] }
  | _ => none }
def hvApartRow : OpenClaim := { program := "ytdnoecpjcoibmaagreat", sum := "b1ed738fe4335db92a84281cba7fcee3e2596e0177d19982a5fcceed64f70a8c", func := "matryoshka/matryoshkalaw23.HvApart", spec := "hvApart", unfollowed := true, recurses := true, apart := false }
def HvApartSaid : Prop := hvApartRow.holds Tryz.pinned (OpenSpec.ofChange hvApartSpec)

/-- ITS FALSE NEIGHBOUR: 'it returns false'. Refute it at one input. -/
def hvApartWrong : ChangeSpec := { name := "hvApart", fn := fun _ => fun
  | [d1, d2] => { results := [.lit (.bool false)], args := [d1, d2] }
  | _ => none }
def HvApartWrongFalsely : Prop := hvApartRow.holds Tryz.pinned (OpenSpec.ofChange hvApartWrong)

/-- 'matryoshkalaw23.HvWords': WHATEVER THE INPUT: true; the input reads as it did. -/
def hvWordsSpec : ChangeSpec := { name := "hvWords", fn := fun _ => fun
  | [d1, d2] => { results := [.lit (.bool true)], args := [d1, d2] }
  | _ => none }
def hvWordsRow : OpenClaim := { program := "ytdnoecpjcoibmaagreat", sum := "b1ed738fe4335db92a84281cba7fcee3e2596e0177d19982a5fcceed64f70a8c", func := "matryoshka/matryoshkalaw23.HvWords", spec := "hvWords", unfollowed := true, recurses := true, apart := false }
def HvWordsSaid : Prop := hvWordsRow.holds Tryz.pinned (OpenSpec.ofChange hvWordsSpec)

/-- ITS FALSE NEIGHBOUR: 'it returns false'. Refute it at one input. -/
def hvWordsWrong : ChangeSpec := { name := "hvWords", fn := fun _ => fun
  | [d1, d2] => { results := [.lit (.bool false)], args := [d1, d2] }
  | _ => none }
def HvWordsWrongFalsely : Prop := hvWordsRow.holds Tryz.pinned (OpenSpec.ofChange hvWordsWrong)

/-- 'matryoshkalaw23.HvShares': WHATEVER THE INPUT: true; the input reads as it did. -/
def hvSharesSpec : ChangeSpec := { name := "hvShares", fn := fun _ => fun
  | [d1, d2, d3] => { results := [.lit (.bool true)], args := [d1, d2, d3] }
  | _ => none }
def hvSharesRow : OpenClaim := { program := "ytdnoecpjcoibmaagreat", sum := "b1ed738fe4335db92a84281cba7fcee3e2596e0177d19982a5fcceed64f70a8c", func := "matryoshka/matryoshkalaw23.HvShares", spec := "hvShares", unfollowed := true, recurses := true, apart := false }
def HvSharesSaid : Prop := hvSharesRow.holds Tryz.pinned (OpenSpec.ofChange hvSharesSpec)

/-- ITS FALSE NEIGHBOUR: 'it returns false'. Refute it at one input. -/
def hvSharesWrong : ChangeSpec := { name := "hvShares", fn := fun _ => fun
  | [d1, d2, d3] => { results := [.lit (.bool false)], args := [d1, d2, d3] }
  | _ => none }
def HvSharesWrongFalsely : Prop := hvSharesRow.holds Tryz.pinned (OpenSpec.ofChange hvSharesWrong)

/-- 'matryoshkalaw23.HvParts': WHATEVER THE INPUT: true; the input reads as it did. -/
def hvPartsSpec : ChangeSpec := { name := "hvParts", fn := fun _ => fun
  | [d1, d2] => { results := [.lit (.bool true)], args := [d1, d2] }
  | _ => none }
def hvPartsRow : OpenClaim := { program := "ytdnoecpjcoibmaagreat", sum := "b1ed738fe4335db92a84281cba7fcee3e2596e0177d19982a5fcceed64f70a8c", func := "matryoshka/matryoshkalaw23.HvParts", spec := "hvParts", unfollowed := true, recurses := true, apart := false }
def HvPartsSaid : Prop := hvPartsRow.holds Tryz.pinned (OpenSpec.ofChange hvPartsSpec)

/-- ITS FALSE NEIGHBOUR: 'it returns false'. Refute it at one input. -/
def hvPartsWrong : ChangeSpec := { name := "hvParts", fn := fun _ => fun
  | [d1, d2] => { results := [.lit (.bool false)], args := [d1, d2] }
  | _ => none }
def HvPartsWrongFalsely : Prop := hvPartsRow.holds Tryz.pinned (OpenSpec.ofChange hvPartsWrong)

/-- 'matryoshkalaw23.HvLeaves': WHATEVER THE INPUT: true; the input reads as it did. -/
def hvLeavesSpec : ChangeSpec := { name := "hvLeaves", fn := fun _ => fun
  | [d] => { results := [.lit (.bool true)], args := [d] }
  | _ => none }
def hvLeavesRow : OpenClaim := { program := "ytdnoecpjcoibmaagreat", sum := "b1ed738fe4335db92a84281cba7fcee3e2596e0177d19982a5fcceed64f70a8c", func := "matryoshka/matryoshkalaw23.HvLeaves", spec := "hvLeaves", unfollowed := true, recurses := true, apart := false }
def HvLeavesSaid : Prop := hvLeavesRow.holds Tryz.pinned (OpenSpec.ofChange hvLeavesSpec)

/-- ITS FALSE NEIGHBOUR: 'it returns false'. Refute it at one input. -/
def hvLeavesWrong : ChangeSpec := { name := "hvLeaves", fn := fun _ => fun
  | [d] => { results := [.lit (.bool false)], args := [d] }
  | _ => none }
def HvLeavesWrongFalsely : Prop := hvLeavesRow.holds Tryz.pinned (OpenSpec.ofChange hvLeavesWrong)

/-- 'matryoshkalaw23.HvDoes': WHATEVER THE INPUT: true; the input reads as it did. -/
def hvDoesSpec : ChangeSpec := { name := "hvDoes", fn := fun _ => fun
  | [d1, d2] => { results := [.lit (.bool true)], args := [d1, d2] }
  | _ => none }
def hvDoesRow : OpenClaim := { program := "ytdnoecpjcoibmaagreat", sum := "b1ed738fe4335db92a84281cba7fcee3e2596e0177d19982a5fcceed64f70a8c", func := "matryoshka/matryoshkalaw23.HvDoes", spec := "hvDoes", unfollowed := true, recurses := true, apart := false }
def HvDoesSaid : Prop := hvDoesRow.holds Tryz.pinned (OpenSpec.ofChange hvDoesSpec)

/-- ITS FALSE NEIGHBOUR: 'it returns false'. Refute it at one input. -/
def hvDoesWrong : ChangeSpec := { name := "hvDoes", fn := fun _ => fun
  | [d1, d2] => { results := [.lit (.bool false)], args := [d1, d2] }
  | _ => none }
def HvDoesWrongFalsely : Prop := hvDoesRow.holds Tryz.pinned (OpenSpec.ofChange hvDoesWrong)

/-- 'matryoshkalaw23.HvNil': WHATEVER THE INPUT: true; the input reads as it did. -/
def hvNilSpec : ChangeSpec := { name := "hvNil", fn := fun _ => fun
  | [d1, d2] => { results := [.lit (.bool true)], args := [d1, d2] }
  | _ => none }
def hvNilRow : OpenClaim := { program := "ytdnoecpjcoibmaagreat", sum := "b1ed738fe4335db92a84281cba7fcee3e2596e0177d19982a5fcceed64f70a8c", func := "matryoshka/matryoshkalaw23.HvNil", spec := "hvNil", unfollowed := true, recurses := true, apart := false }
def HvNilSaid : Prop := hvNilRow.holds Tryz.pinned (OpenSpec.ofChange hvNilSpec)

/-- ITS FALSE NEIGHBOUR: 'it returns false'. Refute it at one input. -/
def hvNilWrong : ChangeSpec := { name := "hvNil", fn := fun _ => fun
  | [d1, d2] => { results := [.lit (.bool false)], args := [d1, d2] }
  | _ => none }
def HvNilWrongFalsely : Prop := hvNilRow.holds Tryz.pinned (OpenSpec.ofChange hvNilWrong)

/-- 'matryoshkalaw23.HvFails': WHATEVER THE INPUT: true; the input reads as it did. -/
def hvFailsSpec : ChangeSpec := { name := "hvFails", fn := fun _ => fun
  | [d1, d2] => { results := [.lit (.bool true)], args := [d1, d2] }
  | _ => none }
def hvFailsRow : OpenClaim := { program := "ytdnoecpjcoibmaagreat", sum := "b1ed738fe4335db92a84281cba7fcee3e2596e0177d19982a5fcceed64f70a8c", func := "matryoshka/matryoshkalaw23.HvFails", spec := "hvFails", unfollowed := true, recurses := true, apart := false }
def HvFailsSaid : Prop := hvFailsRow.holds Tryz.pinned (OpenSpec.ofChange hvFailsSpec)

/-- ITS FALSE NEIGHBOUR: 'it returns false'. Refute it at one input. -/
def hvFailsWrong : ChangeSpec := { name := "hvFails", fn := fun _ => fun
  | [d1, d2] => { results := [.lit (.bool false)], args := [d1, d2] }
  | _ => none }
def HvFailsWrongFalsely : Prop := hvFailsRow.holds Tryz.pinned (OpenSpec.ofChange hvFailsWrong)

/-- 'matryoshkalaw23.HvTexts': WHATEVER THE INPUT: true; the input reads as it did. -/
def hvTextsSpec : ChangeSpec := { name := "hvTexts", fn := fun _ => fun
  | [d1, d2] => { results := [.lit (.bool true)], args := [d1, d2] }
  | _ => none }
def hvTextsRow : OpenClaim := { program := "ytdnoecpjcoibmaagreat", sum := "b1ed738fe4335db92a84281cba7fcee3e2596e0177d19982a5fcceed64f70a8c", func := "matryoshka/matryoshkalaw23.HvTexts", spec := "hvTexts", unfollowed := true, recurses := true, apart := false }
def HvTextsSaid : Prop := hvTextsRow.holds Tryz.pinned (OpenSpec.ofChange hvTextsSpec)

/-- ITS FALSE NEIGHBOUR: 'it returns false'. Refute it at one input. -/
def hvTextsWrong : ChangeSpec := { name := "hvTexts", fn := fun _ => fun
  | [d1, d2] => { results := [.lit (.bool false)], args := [d1, d2] }
  | _ => none }
def HvTextsWrongFalsely : Prop := hvTextsRow.holds Tryz.pinned (OpenSpec.ofChange hvTextsWrong)

/- THE SECOND FORM. 'bulk': how many values and letters a reading holds, each counted each time it is reached (what is shared counts as often as it is met; a slice's spare places count too). A statement '..UptoSaid' is the law's where the arguments, and the package variables that the reading takes, are together of bulk at most 1048576: NARROWER than '..Said'. Prove '..Said' where nothing that the law and all that it calls make is longer than what came in: it says more and counts as full. Else prove '..UptoSaid'. A law counts once. -/
mutual
def uptoBulk {H : Type} : DataW H → Nat
  | .lit (.string bytes) => bytes.length + 1
  | .lit _ => 1
  | .nil => 1
  | .ptr d => uptoBulk d + 1
  | .slice elems spare => uptoBulkAll elems + uptoBulkAll spare + 1
  | .agg parts => uptoBulkAll parts + 1
  | .iface _ d => uptoBulk d + 1
  | .map entries => uptoBulkEntries entries + 1
  | .held _ => 1
def uptoBulkAll {H : Type} : List (DataW H) → Nat
  | [] => 0
  | d :: r => uptoBulk d + uptoBulkAll r
def uptoBulkEntries {H : Type} : List (Lit × DataW H) → Nat
  | [] => 0
  | x :: r => uptoBulkEntry x + uptoBulkEntries r
def uptoBulkEntry {H : Type} : Lit × DataW H → Nat
  | (.string bytes, d) => bytes.length + uptoBulk d + 1
  | (_, d) => uptoBulk d + 1
 end
def uptoSmall : (H : Type) → List (DataW H) → Bool := fun _ ds => decide (uptoBulkAll ds ≤ 1048576)
def OpenSpec.upto (s : _root_.Go.ChangeSpec) : _root_.Go.OpenSpec := { _root_.Go.OpenSpec.ofChange s with cond := some uptoSmall }

/-- 'matryoshkalaw23.HvApart', WHERE WHAT IT READS IS OF BULK AT MOST 1048576: true; the input reads as it did. -/
def hvApartUptoRow : OpenClaim := { program := "ytdnoecpjcoibmaagreat", sum := "b1ed738fe4335db92a84281cba7fcee3e2596e0177d19982a5fcceed64f70a8c", func := "matryoshka/matryoshkalaw23.HvApart", spec := "hvApart", unfollowed := true, recurses := true, apart := false, narrowed := true }
def HvApartUptoSaid : Prop := hvApartUptoRow.holds Tryz.pinned (OpenSpec.upto hvApartSpec)

/-- 'matryoshkalaw23.HvWords', WHERE WHAT IT READS IS OF BULK AT MOST 1048576: true; the input reads as it did. -/
def hvWordsUptoRow : OpenClaim := { program := "ytdnoecpjcoibmaagreat", sum := "b1ed738fe4335db92a84281cba7fcee3e2596e0177d19982a5fcceed64f70a8c", func := "matryoshka/matryoshkalaw23.HvWords", spec := "hvWords", unfollowed := true, recurses := true, apart := false, narrowed := true }
def HvWordsUptoSaid : Prop := hvWordsUptoRow.holds Tryz.pinned (OpenSpec.upto hvWordsSpec)

/-- 'matryoshkalaw23.HvShares', WHERE WHAT IT READS IS OF BULK AT MOST 1048576: true; the input reads as it did. -/
def hvSharesUptoRow : OpenClaim := { program := "ytdnoecpjcoibmaagreat", sum := "b1ed738fe4335db92a84281cba7fcee3e2596e0177d19982a5fcceed64f70a8c", func := "matryoshka/matryoshkalaw23.HvShares", spec := "hvShares", unfollowed := true, recurses := true, apart := false, narrowed := true }
def HvSharesUptoSaid : Prop := hvSharesUptoRow.holds Tryz.pinned (OpenSpec.upto hvSharesSpec)

/-- 'matryoshkalaw23.HvParts', WHERE WHAT IT READS IS OF BULK AT MOST 1048576: true; the input reads as it did. -/
def hvPartsUptoRow : OpenClaim := { program := "ytdnoecpjcoibmaagreat", sum := "b1ed738fe4335db92a84281cba7fcee3e2596e0177d19982a5fcceed64f70a8c", func := "matryoshka/matryoshkalaw23.HvParts", spec := "hvParts", unfollowed := true, recurses := true, apart := false, narrowed := true }
def HvPartsUptoSaid : Prop := hvPartsUptoRow.holds Tryz.pinned (OpenSpec.upto hvPartsSpec)

/-- 'matryoshkalaw23.HvLeaves', WHERE WHAT IT READS IS OF BULK AT MOST 1048576: true; the input reads as it did. -/
def hvLeavesUptoRow : OpenClaim := { program := "ytdnoecpjcoibmaagreat", sum := "b1ed738fe4335db92a84281cba7fcee3e2596e0177d19982a5fcceed64f70a8c", func := "matryoshka/matryoshkalaw23.HvLeaves", spec := "hvLeaves", unfollowed := true, recurses := true, apart := false, narrowed := true }
def HvLeavesUptoSaid : Prop := hvLeavesUptoRow.holds Tryz.pinned (OpenSpec.upto hvLeavesSpec)

/-- 'matryoshkalaw23.HvDoes', WHERE WHAT IT READS IS OF BULK AT MOST 1048576: true; the input reads as it did. -/
def hvDoesUptoRow : OpenClaim := { program := "ytdnoecpjcoibmaagreat", sum := "b1ed738fe4335db92a84281cba7fcee3e2596e0177d19982a5fcceed64f70a8c", func := "matryoshka/matryoshkalaw23.HvDoes", spec := "hvDoes", unfollowed := true, recurses := true, apart := false, narrowed := true }
def HvDoesUptoSaid : Prop := hvDoesUptoRow.holds Tryz.pinned (OpenSpec.upto hvDoesSpec)

/-- 'matryoshkalaw23.HvNil', WHERE WHAT IT READS IS OF BULK AT MOST 1048576: true; the input reads as it did. -/
def hvNilUptoRow : OpenClaim := { program := "ytdnoecpjcoibmaagreat", sum := "b1ed738fe4335db92a84281cba7fcee3e2596e0177d19982a5fcceed64f70a8c", func := "matryoshka/matryoshkalaw23.HvNil", spec := "hvNil", unfollowed := true, recurses := true, apart := false, narrowed := true }
def HvNilUptoSaid : Prop := hvNilUptoRow.holds Tryz.pinned (OpenSpec.upto hvNilSpec)

/-- 'matryoshkalaw23.HvFails', WHERE WHAT IT READS IS OF BULK AT MOST 1048576: true; the input reads as it did. -/
def hvFailsUptoRow : OpenClaim := { program := "ytdnoecpjcoibmaagreat", sum := "b1ed738fe4335db92a84281cba7fcee3e2596e0177d19982a5fcceed64f70a8c", func := "matryoshka/matryoshkalaw23.HvFails", spec := "hvFails", unfollowed := true, recurses := true, apart := false, narrowed := true }
def HvFailsUptoSaid : Prop := hvFailsUptoRow.holds Tryz.pinned (OpenSpec.upto hvFailsSpec)

/-- 'matryoshkalaw23.HvTexts', WHERE WHAT IT READS IS OF BULK AT MOST 1048576: true; the input reads as it did. -/
def hvTextsUptoRow : OpenClaim := { program := "ytdnoecpjcoibmaagreat", sum := "b1ed738fe4335db92a84281cba7fcee3e2596e0177d19982a5fcceed64f70a8c", func := "matryoshka/matryoshkalaw23.HvTexts", spec := "hvTexts", unfollowed := true, recurses := true, apart := false, narrowed := true }
def HvTextsUptoSaid : Prop := hvTextsUptoRow.holds Tryz.pinned (OpenSpec.upto hvTextsSpec)

end Rows
end Go.Proofs.YtdnoecpjcoibmaaGreat
