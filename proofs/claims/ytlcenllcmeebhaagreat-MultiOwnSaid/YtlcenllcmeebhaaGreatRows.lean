/-
  No cell of these rows narrows 'for every input' (looked for: loops, veiled, ifaces, maps, wideKeys, modest, calm, conditions, laid).
  DERIVED. THE GIVEN ROWS OF THIS SEAT. 12 by the template 'for every input the law returns true; each argument reads behind the call as it read before'; 0 by the template 'total and deterministic' (their statements: YtlcenllcmeebhaaGreatTotals.lean).
  GIVEN WITH THE SEED: the statements are not yours to turn. If you find one false, say at which input.
  Laid BY PROGRAM, IN A SANDBOX (cutbox-rows.mjs): the forced cells as the released guide's own fill.sh prints them over the translation f954e740046c67fb… (all of the seat's roots in one cut). By AI agents, Wed Nov 11 2026. No macro, syntax, notation, axiom, sorry.
-/
import Derived.Test.YtlcenllcmeebhaaGreatChecked
import GoSem.Claim
import GoSem.ClaimJoined
import GoSem.ClaimMapViews
import Derived.JoinedTies
import Derived.KernelRfl
namespace Go.Proofs.YtlcenllcmeebhaaGreat
/- THE CELL 'sum', in the pinned program and in every row, IS THE sha256 OF THE DUMP (.gsa) THAT YtlcenllcmeebhaaGreatProg.lean LOADS. Nothing in Lean hashes anything: it is a label: what it is worth is what the hold of that sum in a sandbox is worth. -/
noncomputable def Tryz.pinned : Pinned := { name := "ytlcenllcmeebhaagreat", sum := "f954e740046c67fbc2a38b9188f9f99ce4cc4b3ee42e48b4f2acdb3a7fbd496e", checked := Tryz.checked }
namespace Rows
def none {H : Type} : Left H := { results := [], args := [] }

/-- 'matryoshkatop.TopReach': WHATEVER THE INPUT: true; the input reads as it did. -/
def topReachSpec : ChangeSpec := { name := "topReach", fn := fun _ => fun
  | [d1, d2, d3] => { results := [.lit (.bool true)], args := [d1, d2, d3] }
  | _ => none }
def topReachRow : OpenClaim := { program := "ytlcenllcmeebhaagreat", sum := "f954e740046c67fbc2a38b9188f9f99ce4cc4b3ee42e48b4f2acdb3a7fbd496e", func := "matryoshka/matryoshkatop.TopReach", spec := "topReach", unfollowed := true, recurses := true, apart := false }
def TopReachSaid : Prop := topReachRow.holds Tryz.pinned (OpenSpec.ofChange topReachSpec)

/-- ITS FALSE NEIGHBOUR: 'it returns false'. Refute it at one input. -/
def topReachWrong : ChangeSpec := { name := "topReach", fn := fun _ => fun
  | [d1, d2, d3] => { results := [.lit (.bool false)], args := [d1, d2, d3] }
  | _ => none }
def TopReachWrongFalsely : Prop := topReachRow.holds Tryz.pinned (OpenSpec.ofChange topReachWrong)

/-- 'matryoshkatop.TopFrames': WHATEVER THE INPUT: true; the input reads as it did. -/
def topFramesSpec : ChangeSpec := { name := "topFrames", fn := fun _ => fun
  | [d1, d2] => { results := [.lit (.bool true)], args := [d1, d2] }
  | _ => none }
def topFramesRow : OpenClaim := { program := "ytlcenllcmeebhaagreat", sum := "f954e740046c67fbc2a38b9188f9f99ce4cc4b3ee42e48b4f2acdb3a7fbd496e", func := "matryoshka/matryoshkatop.TopFrames", spec := "topFrames", unfollowed := true, recurses := true, apart := false }
def TopFramesSaid : Prop := topFramesRow.holds Tryz.pinned (OpenSpec.ofChange topFramesSpec)

/-- ITS FALSE NEIGHBOUR: 'it returns false'. Refute it at one input. -/
def topFramesWrong : ChangeSpec := { name := "topFrames", fn := fun _ => fun
  | [d1, d2] => { results := [.lit (.bool false)], args := [d1, d2] }
  | _ => none }
def TopFramesWrongFalsely : Prop := topFramesRow.holds Tryz.pinned (OpenSpec.ofChange topFramesWrong)

/-- 'matryoshkatop.TopGuard': WHATEVER THE INPUT: true; the input reads as it did. -/
def topGuardSpec : ChangeSpec := { name := "topGuard", fn := fun _ => fun
  | [d1, d2] => { results := [.lit (.bool true)], args := [d1, d2] }
  | _ => none }
def topGuardRow : OpenClaim := { program := "ytlcenllcmeebhaagreat", sum := "f954e740046c67fbc2a38b9188f9f99ce4cc4b3ee42e48b4f2acdb3a7fbd496e", func := "matryoshka/matryoshkatop.TopGuard", spec := "topGuard", unfollowed := true, recurses := true, apart := false }
def TopGuardSaid : Prop := topGuardRow.holds Tryz.pinned (OpenSpec.ofChange topGuardSpec)

/-- ITS FALSE NEIGHBOUR: 'it returns false'. Refute it at one input. -/
def topGuardWrong : ChangeSpec := { name := "topGuard", fn := fun _ => fun
  | [d1, d2] => { results := [.lit (.bool false)], args := [d1, d2] }
  | _ => none }
def TopGuardWrongFalsely : Prop := topGuardRow.holds Tryz.pinned (OpenSpec.ofChange topGuardWrong)

/-- 'matryoshkalaw24.MultiMarks': WHATEVER THE INPUT: true; the input reads as it did. -/
def multiMarksSpec : ChangeSpec := { name := "multiMarks", fn := fun _ => fun
  | [d1, d2] => { results := [.lit (.bool true)], args := [d1, d2] }
  | _ => none }
def multiMarksRow : OpenClaim := { program := "ytlcenllcmeebhaagreat", sum := "f954e740046c67fbc2a38b9188f9f99ce4cc4b3ee42e48b4f2acdb3a7fbd496e", func := "matryoshka/matryoshkalaw24.MultiMarks", spec := "multiMarks", unfollowed := true, recurses := true, apart := false }
def MultiMarksSaid : Prop := multiMarksRow.holds Tryz.pinned (OpenSpec.ofChange multiMarksSpec)

/-- ITS FALSE NEIGHBOUR: 'it returns false'. Refute it at one input. -/
def multiMarksWrong : ChangeSpec := { name := "multiMarks", fn := fun _ => fun
  | [d1, d2] => { results := [.lit (.bool false)], args := [d1, d2] }
  | _ => none }
def MultiMarksWrongFalsely : Prop := multiMarksRow.holds Tryz.pinned (OpenSpec.ofChange multiMarksWrong)

/-- 'matryoshkalaw24.MultiClean': WHATEVER THE INPUT: true; the input reads as it did. -/
def multiCleanSpec : ChangeSpec := { name := "multiClean", fn := fun _ => fun
  | [d1, d2] => { results := [.lit (.bool true)], args := [d1, d2] }
  | _ => none }
def multiCleanRow : OpenClaim := { program := "ytlcenllcmeebhaagreat", sum := "f954e740046c67fbc2a38b9188f9f99ce4cc4b3ee42e48b4f2acdb3a7fbd496e", func := "matryoshka/matryoshkalaw24.MultiClean", spec := "multiClean", unfollowed := true, recurses := true, apart := false }
def MultiCleanSaid : Prop := multiCleanRow.holds Tryz.pinned (OpenSpec.ofChange multiCleanSpec)

/-- ITS FALSE NEIGHBOUR: 'it returns false'. Refute it at one input. -/
def multiCleanWrong : ChangeSpec := { name := "multiClean", fn := fun _ => fun
  | [d1, d2] => { results := [.lit (.bool false)], args := [d1, d2] }
  | _ => none }
def MultiCleanWrongFalsely : Prop := multiCleanRow.holds Tryz.pinned (OpenSpec.ofChange multiCleanWrong)

/-- 'matryoshkalaw24.MultiEnds': WHATEVER THE INPUT: true; the input reads as it did. -/
def multiEndsSpec : ChangeSpec := { name := "multiEnds", fn := fun _ => fun
  | [d1, d2] => { results := [.lit (.bool true)], args := [d1, d2] }
  | _ => none }
def multiEndsRow : OpenClaim := { program := "ytlcenllcmeebhaagreat", sum := "f954e740046c67fbc2a38b9188f9f99ce4cc4b3ee42e48b4f2acdb3a7fbd496e", func := "matryoshka/matryoshkalaw24.MultiEnds", spec := "multiEnds", unfollowed := true, recurses := true, apart := false }
def MultiEndsSaid : Prop := multiEndsRow.holds Tryz.pinned (OpenSpec.ofChange multiEndsSpec)

/-- ITS FALSE NEIGHBOUR: 'it returns false'. Refute it at one input. -/
def multiEndsWrong : ChangeSpec := { name := "multiEnds", fn := fun _ => fun
  | [d1, d2] => { results := [.lit (.bool false)], args := [d1, d2] }
  | _ => none }
def MultiEndsWrongFalsely : Prop := multiEndsRow.holds Tryz.pinned (OpenSpec.ofChange multiEndsWrong)

/-- 'matryoshkalaw24.MultiReturns': WHATEVER THE INPUT: true; the input reads as it did. -/
def multiReturnsSpec : ChangeSpec := { name := "multiReturns", fn := fun _ => fun
  | [d1, d2, d3] => { results := [.lit (.bool true)], args := [d1, d2, d3] }
  | _ => none }
def multiReturnsRow : OpenClaim := { program := "ytlcenllcmeebhaagreat", sum := "f954e740046c67fbc2a38b9188f9f99ce4cc4b3ee42e48b4f2acdb3a7fbd496e", func := "matryoshka/matryoshkalaw24.MultiReturns", spec := "multiReturns", unfollowed := true, recurses := true, apart := false }
def MultiReturnsSaid : Prop := multiReturnsRow.holds Tryz.pinned (OpenSpec.ofChange multiReturnsSpec)

/-- ITS FALSE NEIGHBOUR: 'it returns false'. Refute it at one input. -/
def multiReturnsWrong : ChangeSpec := { name := "multiReturns", fn := fun _ => fun
  | [d1, d2, d3] => { results := [.lit (.bool false)], args := [d1, d2, d3] }
  | _ => none }
def MultiReturnsWrongFalsely : Prop := multiReturnsRow.holds Tryz.pinned (OpenSpec.ofChange multiReturnsWrong)

/-- 'matryoshkalaw24.MultiNil': WHATEVER THE INPUT: true; the input reads as it did. -/
def multiNilSpec : ChangeSpec := { name := "multiNil", fn := fun _ => fun
  | [d1, d2] => { results := [.lit (.bool true)], args := [d1, d2] }
  | _ => none }
def multiNilRow : OpenClaim := { program := "ytlcenllcmeebhaagreat", sum := "f954e740046c67fbc2a38b9188f9f99ce4cc4b3ee42e48b4f2acdb3a7fbd496e", func := "matryoshka/matryoshkalaw24.MultiNil", spec := "multiNil", unfollowed := true, recurses := true, apart := false }
def MultiNilSaid : Prop := multiNilRow.holds Tryz.pinned (OpenSpec.ofChange multiNilSpec)

/-- ITS FALSE NEIGHBOUR: 'it returns false'. Refute it at one input. -/
def multiNilWrong : ChangeSpec := { name := "multiNil", fn := fun _ => fun
  | [d1, d2] => { results := [.lit (.bool false)], args := [d1, d2] }
  | _ => none }
def MultiNilWrongFalsely : Prop := multiNilRow.holds Tryz.pinned (OpenSpec.ofChange multiNilWrong)

/-- 'matryoshkalaw24.MultiHits': WHATEVER THE INPUT: true; the input reads as it did. -/
def multiHitsSpec : ChangeSpec := { name := "multiHits", fn := fun _ => fun
  | [d1, d2, d3] => { results := [.lit (.bool true)], args := [d1, d2, d3] }
  | _ => none }
def multiHitsRow : OpenClaim := { program := "ytlcenllcmeebhaagreat", sum := "f954e740046c67fbc2a38b9188f9f99ce4cc4b3ee42e48b4f2acdb3a7fbd496e", func := "matryoshka/matryoshkalaw24.MultiHits", spec := "multiHits", unfollowed := true, recurses := true, apart := false }
def MultiHitsSaid : Prop := multiHitsRow.holds Tryz.pinned (OpenSpec.ofChange multiHitsSpec)

/-- ITS FALSE NEIGHBOUR: 'it returns false'. Refute it at one input. -/
def multiHitsWrong : ChangeSpec := { name := "multiHits", fn := fun _ => fun
  | [d1, d2, d3] => { results := [.lit (.bool false)], args := [d1, d2, d3] }
  | _ => none }
def MultiHitsWrongFalsely : Prop := multiHitsRow.holds Tryz.pinned (OpenSpec.ofChange multiHitsWrong)

/-- 'matryoshkalaw24.MultiBusy': WHATEVER THE INPUT: true; the input reads as it did. -/
def multiBusySpec : ChangeSpec := { name := "multiBusy", fn := fun _ => fun
  | [d1, d2, d3] => { results := [.lit (.bool true)], args := [d1, d2, d3] }
  | _ => none }
def multiBusyRow : OpenClaim := { program := "ytlcenllcmeebhaagreat", sum := "f954e740046c67fbc2a38b9188f9f99ce4cc4b3ee42e48b4f2acdb3a7fbd496e", func := "matryoshka/matryoshkalaw24.MultiBusy", spec := "multiBusy", unfollowed := true, recurses := true, apart := false }
def MultiBusySaid : Prop := multiBusyRow.holds Tryz.pinned (OpenSpec.ofChange multiBusySpec)

/-- ITS FALSE NEIGHBOUR: 'it returns false'. Refute it at one input. -/
def multiBusyWrong : ChangeSpec := { name := "multiBusy", fn := fun _ => fun
  | [d1, d2, d3] => { results := [.lit (.bool false)], args := [d1, d2, d3] }
  | _ => none }
def MultiBusyWrongFalsely : Prop := multiBusyRow.holds Tryz.pinned (OpenSpec.ofChange multiBusyWrong)

/-- 'matryoshkalaw24.MultiOwn': WHATEVER THE INPUT: true; the input reads as it did. -/
def multiOwnSpec : ChangeSpec := { name := "multiOwn", fn := fun _ => fun
  | [d1, d2, d3] => { results := [.lit (.bool true)], args := [d1, d2, d3] }
  | _ => none }
def multiOwnRow : OpenClaim := { program := "ytlcenllcmeebhaagreat", sum := "f954e740046c67fbc2a38b9188f9f99ce4cc4b3ee42e48b4f2acdb3a7fbd496e", func := "matryoshka/matryoshkalaw24.MultiOwn", spec := "multiOwn", unfollowed := true, recurses := true, apart := false }
def MultiOwnSaid : Prop := multiOwnRow.holds Tryz.pinned (OpenSpec.ofChange multiOwnSpec)

/-- ITS FALSE NEIGHBOUR: 'it returns false'. Refute it at one input. -/
def multiOwnWrong : ChangeSpec := { name := "multiOwn", fn := fun _ => fun
  | [d1, d2, d3] => { results := [.lit (.bool false)], args := [d1, d2, d3] }
  | _ => none }
def MultiOwnWrongFalsely : Prop := multiOwnRow.holds Tryz.pinned (OpenSpec.ofChange multiOwnWrong)

/-- 'matryoshkalaw24.MultiMix': WHATEVER THE INPUT: true; the input reads as it did. -/
def multiMixSpec : ChangeSpec := { name := "multiMix", fn := fun _ => fun
  | [d1, d2] => { results := [.lit (.bool true)], args := [d1, d2] }
  | _ => none }
def multiMixRow : OpenClaim := { program := "ytlcenllcmeebhaagreat", sum := "f954e740046c67fbc2a38b9188f9f99ce4cc4b3ee42e48b4f2acdb3a7fbd496e", func := "matryoshka/matryoshkalaw24.MultiMix", spec := "multiMix", unfollowed := true, recurses := true, apart := false }
def MultiMixSaid : Prop := multiMixRow.holds Tryz.pinned (OpenSpec.ofChange multiMixSpec)

/-- ITS FALSE NEIGHBOUR: 'it returns false'. Refute it at one input. -/
def multiMixWrong : ChangeSpec := { name := "multiMix", fn := fun _ => fun
  | [d1, d2] => { results := [.lit (.bool false)], args := [d1, d2] }
  | _ => none }
def MultiMixWrongFalsely : Prop := multiMixRow.holds Tryz.pinned (OpenSpec.ofChange multiMixWrong)

/- THE SECOND FORM. 'bulk': how many values and letters a reading holds, each counted each time it is reached (what is shared counts as often as it is met; a slice's spare places count too). A statement '..UptoSaid' is the law's where the arguments, and the package variables that the reading takes, are together of bulk at most 1048576: NARROWER than '..Said'. Prove '..Said' where nothing that the law and all that it calls make is longer than what came in: it says more and counts as full. Else prove '..UptoSaid'. A law counts once. -/
mutual
def uptoBulk {H : Type} : DataW H → Nat
  | .lit (.string bytes) => bytes.length + 1
  | .lit _ => 1
  | .nil => 1
  | .ptr d => uptoBulk d + 1
  | .slice elems spare => uptoBulkAll elems + uptoBulkAll spare + 1
  | .agg parts => uptoBulkAll parts + 1
  | .iface _ d => uptoBulk d + 1
  | .map entries => uptoBulkEntries entries + 1
  | .held _ => 1
def uptoBulkAll {H : Type} : List (DataW H) → Nat
  | [] => 0
  | d :: r => uptoBulk d + uptoBulkAll r
def uptoBulkEntries {H : Type} : List (Lit × DataW H) → Nat
  | [] => 0
  | x :: r => uptoBulkEntry x + uptoBulkEntries r
def uptoBulkEntry {H : Type} : Lit × DataW H → Nat
  | (.string bytes, d) => bytes.length + uptoBulk d + 1
  | (_, d) => uptoBulk d + 1
 end
def uptoSmall : (H : Type) → List (DataW H) → Bool := fun _ ds => decide (uptoBulkAll ds ≤ 1048576)
def OpenSpec.upto (s : _root_.Go.ChangeSpec) : _root_.Go.OpenSpec := { _root_.Go.OpenSpec.ofChange s with cond := some uptoSmall }

/-- 'matryoshkatop.TopReach', WHERE WHAT IT READS IS OF BULK AT MOST 1048576: true; the input reads as it did. -/
def topReachUptoRow : OpenClaim := { program := "ytlcenllcmeebhaagreat", sum := "f954e740046c67fbc2a38b9188f9f99ce4cc4b3ee42e48b4f2acdb3a7fbd496e", func := "matryoshka/matryoshkatop.TopReach", spec := "topReach", unfollowed := true, recurses := true, apart := false, narrowed := true }
def TopReachUptoSaid : Prop := topReachUptoRow.holds Tryz.pinned (OpenSpec.upto topReachSpec)

/-- 'matryoshkatop.TopFrames', WHERE WHAT IT READS IS OF BULK AT MOST 1048576: true; the input reads as it did. -/
def topFramesUptoRow : OpenClaim := { program := "ytlcenllcmeebhaagreat", sum := "f954e740046c67fbc2a38b9188f9f99ce4cc4b3ee42e48b4f2acdb3a7fbd496e", func := "matryoshka/matryoshkatop.TopFrames", spec := "topFrames", unfollowed := true, recurses := true, apart := false, narrowed := true }
def TopFramesUptoSaid : Prop := topFramesUptoRow.holds Tryz.pinned (OpenSpec.upto topFramesSpec)

/-- 'matryoshkatop.TopGuard', WHERE WHAT IT READS IS OF BULK AT MOST 1048576: true; the input reads as it did. -/
def topGuardUptoRow : OpenClaim := { program := "ytlcenllcmeebhaagreat", sum := "f954e740046c67fbc2a38b9188f9f99ce4cc4b3ee42e48b4f2acdb3a7fbd496e", func := "matryoshka/matryoshkatop.TopGuard", spec := "topGuard", unfollowed := true, recurses := true, apart := false, narrowed := true }
def TopGuardUptoSaid : Prop := topGuardUptoRow.holds Tryz.pinned (OpenSpec.upto topGuardSpec)

/-- 'matryoshkalaw24.MultiMarks', WHERE WHAT IT READS IS OF BULK AT MOST 1048576: true; the input reads as it did. -/
def multiMarksUptoRow : OpenClaim := { program := "ytlcenllcmeebhaagreat", sum := "f954e740046c67fbc2a38b9188f9f99ce4cc4b3ee42e48b4f2acdb3a7fbd496e", func := "matryoshka/matryoshkalaw24.MultiMarks", spec := "multiMarks", unfollowed := true, recurses := true, apart := false, narrowed := true }
def MultiMarksUptoSaid : Prop := multiMarksUptoRow.holds Tryz.pinned (OpenSpec.upto multiMarksSpec)

/-- 'matryoshkalaw24.MultiClean', WHERE WHAT IT READS IS OF BULK AT MOST 1048576: true; the input reads as it did. -/
def multiCleanUptoRow : OpenClaim := { program := "ytlcenllcmeebhaagreat", sum := "f954e740046c67fbc2a38b9188f9f99ce4cc4b3ee42e48b4f2acdb3a7fbd496e", func := "matryoshka/matryoshkalaw24.MultiClean", spec := "multiClean", unfollowed := true, recurses := true, apart := false, narrowed := true }
def MultiCleanUptoSaid : Prop := multiCleanUptoRow.holds Tryz.pinned (OpenSpec.upto multiCleanSpec)

/-- 'matryoshkalaw24.MultiEnds', WHERE WHAT IT READS IS OF BULK AT MOST 1048576: true; the input reads as it did. -/
def multiEndsUptoRow : OpenClaim := { program := "ytlcenllcmeebhaagreat", sum := "f954e740046c67fbc2a38b9188f9f99ce4cc4b3ee42e48b4f2acdb3a7fbd496e", func := "matryoshka/matryoshkalaw24.MultiEnds", spec := "multiEnds", unfollowed := true, recurses := true, apart := false, narrowed := true }
def MultiEndsUptoSaid : Prop := multiEndsUptoRow.holds Tryz.pinned (OpenSpec.upto multiEndsSpec)

/-- 'matryoshkalaw24.MultiReturns', WHERE WHAT IT READS IS OF BULK AT MOST 1048576: true; the input reads as it did. -/
def multiReturnsUptoRow : OpenClaim := { program := "ytlcenllcmeebhaagreat", sum := "f954e740046c67fbc2a38b9188f9f99ce4cc4b3ee42e48b4f2acdb3a7fbd496e", func := "matryoshka/matryoshkalaw24.MultiReturns", spec := "multiReturns", unfollowed := true, recurses := true, apart := false, narrowed := true }
def MultiReturnsUptoSaid : Prop := multiReturnsUptoRow.holds Tryz.pinned (OpenSpec.upto multiReturnsSpec)

/-- 'matryoshkalaw24.MultiNil', WHERE WHAT IT READS IS OF BULK AT MOST 1048576: true; the input reads as it did. -/
def multiNilUptoRow : OpenClaim := { program := "ytlcenllcmeebhaagreat", sum := "f954e740046c67fbc2a38b9188f9f99ce4cc4b3ee42e48b4f2acdb3a7fbd496e", func := "matryoshka/matryoshkalaw24.MultiNil", spec := "multiNil", unfollowed := true, recurses := true, apart := false, narrowed := true }
def MultiNilUptoSaid : Prop := multiNilUptoRow.holds Tryz.pinned (OpenSpec.upto multiNilSpec)

/-- 'matryoshkalaw24.MultiHits', WHERE WHAT IT READS IS OF BULK AT MOST 1048576: true; the input reads as it did. -/
def multiHitsUptoRow : OpenClaim := { program := "ytlcenllcmeebhaagreat", sum := "f954e740046c67fbc2a38b9188f9f99ce4cc4b3ee42e48b4f2acdb3a7fbd496e", func := "matryoshka/matryoshkalaw24.MultiHits", spec := "multiHits", unfollowed := true, recurses := true, apart := false, narrowed := true }
def MultiHitsUptoSaid : Prop := multiHitsUptoRow.holds Tryz.pinned (OpenSpec.upto multiHitsSpec)

/-- 'matryoshkalaw24.MultiBusy', WHERE WHAT IT READS IS OF BULK AT MOST 1048576: true; the input reads as it did. -/
def multiBusyUptoRow : OpenClaim := { program := "ytlcenllcmeebhaagreat", sum := "f954e740046c67fbc2a38b9188f9f99ce4cc4b3ee42e48b4f2acdb3a7fbd496e", func := "matryoshka/matryoshkalaw24.MultiBusy", spec := "multiBusy", unfollowed := true, recurses := true, apart := false, narrowed := true }
def MultiBusyUptoSaid : Prop := multiBusyUptoRow.holds Tryz.pinned (OpenSpec.upto multiBusySpec)

/-- 'matryoshkalaw24.MultiOwn', WHERE WHAT IT READS IS OF BULK AT MOST 1048576: true; the input reads as it did. -/
def multiOwnUptoRow : OpenClaim := { program := "ytlcenllcmeebhaagreat", sum := "f954e740046c67fbc2a38b9188f9f99ce4cc4b3ee42e48b4f2acdb3a7fbd496e", func := "matryoshka/matryoshkalaw24.MultiOwn", spec := "multiOwn", unfollowed := true, recurses := true, apart := false, narrowed := true }
def MultiOwnUptoSaid : Prop := multiOwnUptoRow.holds Tryz.pinned (OpenSpec.upto multiOwnSpec)

/-- 'matryoshkalaw24.MultiMix', WHERE WHAT IT READS IS OF BULK AT MOST 1048576: true; the input reads as it did. -/
def multiMixUptoRow : OpenClaim := { program := "ytlcenllcmeebhaagreat", sum := "f954e740046c67fbc2a38b9188f9f99ce4cc4b3ee42e48b4f2acdb3a7fbd496e", func := "matryoshka/matryoshkalaw24.MultiMix", spec := "multiMix", unfollowed := true, recurses := true, apart := false, narrowed := true }
def MultiMixUptoSaid : Prop := multiMixUptoRow.holds Tryz.pinned (OpenSpec.upto multiMixSpec)

end Rows
end Go.Proofs.YtlcenllcmeebhaaGreat
